/- The statement MirrorJoinSpecSaid: for every public key and number, Join matches the specification; no condition beside the row's own. -/
import Derived.ChangeMaps5
import Derived.Test.YtkflpoiobpblhaaP14
import Derived.Test.YtkflpoiobpblhaaP46
import Derived.Test.YtkflpoiobpblhaaP47
import Derived.Test.YtkflpoiobpblhaaP49
namespace Go.Proofs.Ytkflpoiobpblhaa
open Go.RowKit Go.WideShapes Go.ChangeShapes Go.ChangeAt
set_option linter.unusedVariables false
set_option linter.unusedSimpArgs false
theorem rjoin_fol (d : List Nat) (m : Int) (w : World) (hd : IsD d) :
    Calls Try.prog 19 #[.agg (arrK .u8 d), .int .i64 m] w fun e w' => ∃ F, e = .returned (.tuple #[.agg F, .int .i64 (if Mir.manyB m then 0 else 40)]) ∧ FolC w' (if Mir.manyB m then ⟨d, m, 0, [], []⟩ else Mir.fo0) F ∧ Below w.heap.size w w' := by
  refine (rjoin_any d m w hd).mono ?_
  rintro e w' ⟨rfl, hb⟩
  refine ⟨_, rfl, ?_, hb⟩
  by_cases h : Mir.manyB m = true
  · rw [if_pos h, if_pos h]
    exact ⟨none, 0, none, 0, rfl, hd, ItemsC.nil_ _ _, VersC.nil_ _ _, Nat.le_refl _, by unfold maxLen; omega, Nat.le_refl _, by unfold maxLen; omega⟩
  · rw [if_neg h, if_neg h]
    exact FolC.zero _
namespace Mir
theorem foE_join (d : List Nat) (m : Int) (h : manyB m = true) : foE ⟨d, m, 0, [], []⟩ = 0 := by
  unfold foE
  simp only [h, itE_nil]
  simp [earlyOk, verAll]
end Mir
set_option maxRecDepth 100000 in
set_option maxHeartbeats 8000000 in
theorem MirrorJoinSpec_walk (w : World) (d : List Nat) (hd : IsD d) (m : Int) (hwf : Lit.wf (.int .i64 m) = true) : Calls Try.prog 5 #[.agg (arrK .u8 d), .int .i64 m] w (Fine w) := by
  have HJ := Lib.hid (fun W => join_fol d m W hd)
  have HR := Lib.hid (fun W => rjoin_fol d m W hd)
  have HC := Lib.hid (fun (h : Mir.manyB m = true) => Mir.foE_join d m h)
  obtain ⟨f, hf⟩ : ∃ f, (if Mir.manyB m = true then (⟨d, m, 0, [], []⟩ : Mir.Fo) else Mir.fo0) = f := ⟨_, rfl⟩
  rw [hf] at HJ HR
  have hfi : f.it = [] := by subst hf; split <;> rfl
  have hfe : f.ea = [] := by subst hf; split <;> rfl
  have HS := Lib.hid (fun F G W h1 h2 => rsameF_empty f F G W h1 h2 hfi hfe)
  have HCk := Lib.hid (fun (h : Mir.manyB m = true) F W h1 => check_any f F W h1 (show Mir.SmF f by unfold Mir.SmF; rw [hfi, hfe]; simp))
  have HE := Lib.hid (fun (h : Mir.manyB m = true) => show Mir.foE f = 0 by rw [← hf, if_pos h]; exact Mir.foE_join d m h)
  have Hd := Lib.hid hd
  clear hf hfi hfe HC hd
  cases hm : Mir.manyB m
  all_goals
    rw [hm] at HJ HR
    simp only [if_true, if_false, Bool.false_eq_true, ↓reduceIte] at HJ HR
    have Hm := Lib.hid hm
    clear hm
    go_enter Try.func5, Try.ntmps5
    go_wp2_with (fail)
    generalize hge : World.alloc _ _ = w1
    have HB1 := Lib.hid (show Below w.heap.size w w1 by subst hge; exact (Below.refl _ _).alloc (Nat.le_refl _) _)
    have HD1 := Lib.hid (show Blk w1 w.heap.size 28 (arrK .u8 d) by subst hge; exact Blk.new _ _ _)
    clear hge
    refine (sane_any w1).mono ?_
    rintro e w2 ⟨rfl, hb⟩
    have HB2 := Lib.hid (below_of HB1.out hb HB1.out.size)
    have HD2 := Lib.hid (HD1.out.below hb)
    clear hb HB1 HD1
    go_wp2_with (refine wpList_load_blk rfl 28 (.tmp 2) rfl w.heap.size rfl 28 (arrK .u8 d) (.array 32 5) HD2.out (by kernel_rfl) rfl (info32 Hd.out.1) ?_)
    refine (HJ.out w2).mono ?_
    rintro e w3 ⟨F, rfl, hF, hb⟩
    have HB3 := Lib.hid (below_of HB2.out hb HB2.out.size)
    have HD3 := Lib.hid (HD2.out.below hb)
    have HF3 := Lib.hid hF
    clear hb HB2 HD2 hF
    go_wp2_with (first
      | (refine wpList_put_blk rfl 50 (.tmp 5) (.tmp 15) rfl w3.heap.size F rfl rfl 50 (Mir.folA z32 0 0 (.slice none 0 0) (.slice none 0 0)) (Blk.new w3 50 (Mir.folA z32 0 0 (.slice none 0 0) (.slice none 0 0))) HF3.out.info (by rw [Mir.folA_size z32_length, HF3.out.size]) HF3.out.all ?_
         intro w4 HZ hg hz
         have HX4 := Lib.hid HZ
         have hb4 := Lib.hid (below_put hg)
         clear hg hz HZ)
      | (refine wpList_load_blk rfl 28 (.tmp 2) rfl w.heap.size rfl 28 (arrK .u8 d) (.array 32 5) (HD3.out.below hb4.out) (by kernel_rfl) rfl (info32 Hd.out.1) ?_))
    have HF4 := Lib.hid (HF3.out.below hb4.out)
    have HB4 := Lib.hid (below_of HB3.out hb4.out HB3.out.size)
    clear HF3 HD3 HB3 hb4
    obtain ⟨x, hx⟩ : ∃ x, w3.heap.size = x := ⟨_, rfl⟩
    rw [hx] at HX4 ⊢
    clear hx
    refine (HR.out w4).mono ?_
    rintro e w5 ⟨G, rfl, hG, hb⟩
    have HB5 := Lib.hid (below_of HB4.out hb HB4.out.size)
    have HX5 := Lib.hid (HX4.out.below hb)
    have HF5 := Lib.hid (HF4.out.below hb)
    have HG5 := Lib.hid hG
    clear hb HB4 HX4 HF4 hG
    go_wp2_with (first
      | (refine wpList_put_blk rfl 50 (.tmp 7) (.tmp 21) rfl w5.heap.size G rfl rfl 50 (Mir.folA z32 0 0 (.slice none 0 0) (.slice none 0 0)) (Blk.new w5 50 (Mir.folA z32 0 0 (.slice none 0 0) (.slice none 0 0))) HG5.out.info (by rw [Mir.folA_size z32_length, HG5.out.size]) HG5.out.all ?_
         intro w6 HZ hg hz
         have HY6 := Lib.hid HZ
         have hb6 := Lib.hid (below_put hg)
         clear hg hz HZ)
      | (refine wpList_load_blk rfl 50 (.tmp 5) rfl x rfl 50 F _ (HX5.out.below hb6.out) Try.underlying50 rfl HF5.out.info ?_)
      | (refine wpList_load_blk rfl 50 (.tmp 7) rfl w5.heap.size rfl 50 G _ HY6.out Try.underlying50 rfl HG5.out.info ?_))
    have HF6 := Lib.hid (HF5.out.below hb6.out)
    have HG6 := Lib.hid (HG5.out.below hb6.out)
    have HB6 := Lib.hid (below_of HB5.out hb6.out HB5.out.size)
    have HX6 := Lib.hid (HX5.out.below hb6.out)
    clear HF5 HG5 HB5 HX5 HY6 hb6
    refine (HS.out F G w6 HF6.out HG6.out).mono ?_
    rintro e w7 ⟨rfl, hb⟩
    have HB7 := Lib.hid (below_of HB6.out hb HB6.out.size)
    have HF7 := Lib.hid (HF6.out.below hb)
    have HX7 := Lib.hid (HX6.out.below hb)
    clear hb HB6 HF6 HX6 HG6
  · go_wp2_with (fail)
    go_ret
    exact ⟨rfl, HB7.out⟩
  · go_wp2_with (refine wpList_load_blk_g 50 (.tmp 5) (by rfl) (by kernel_rfl) x rfl 50 F _ HX7.out Try.underlying50 rfl HF7.out.info ?_)
    refine (HCk.out Hm.out F w7 HF7.out).mono ?_
    rintro e w8 ⟨rfl, hb⟩
    rw [HE.out Hm.out]
    have HB8 := Lib.hid (below_of HB7.out hb HB7.out.size)
    clear hb
    go_wp2_with (fail)
    go_ret
    exact ⟨rfl, HB8.out⟩
-- the row
theorem mirrorJoinSpec_own : ownKnob Try.prog.godebug = none := by kernel_rfl
theorem mirrorJoinSpec_laidOut : laidOutB Try.prog = true := by kernel_rfl
theorem mirrorJoinSpec_readable : (Try.f5.params.toList.all fun t => Try.prog.readableRec t && decide (t < Try.prog.types.size)) = true := by kernel_rfl
set_option maxRecDepth 100000 in
theorem mirrorJoinSpec_lifted (os : Os) (started : os.Started) (H : Type) (enc : TypeId × Value → H) :
    ReturnsInHanded {} Try.checked os 5 .any (Rows.mirrorJoinSpecSpec.pre6 enc Try.prog Try.f5 Rows.mirrorJoinSpecRow.domain false) (Rows.mirrorJoinSpecSpec.post enc Try.prog Try.f5 false true false false) := by
  refine returnsInHanded_of_change (C := Try.checked) mirrorJoinSpec_own started (by kernel_rfl) Try.func5
    (ChangeSpec.witness6 (enc := enc) (C := Try.checked) false ⟨#[], #[.agg (List.replicate 32 (Value.int .u8 0)).toArray, .int .i64 0], []⟩ 8 (by kernel_rfl) (by kernel_rfl) (by kernel_rfl) (by kernel_rfl)) ?_
  intro W base args ds gs before hval0 hW hcnd _
  have hval : ∀ (j : Nat) t v, Try.f5.params[j]? = some t → args[j]? = some v → Value.okWide Try.prog W .any base t v := hval0
  have hW' := hW
  obtain ⟨p, q, hA0, hV, rfl, hfz, hnd⟩ := hW
  have hA : DataW.TrodAll enc Try.prog W 0 (fun _ => true) true Try.f5.params.toList args.toList ds p := hA0
  rw [Try.params5] at hA hval
  obtain ⟨v0, vs0, d0, ds0, p0, q0, hargs, rfl, rfl, h0, r0⟩ := trodAll_cons hA
  obtain ⟨v1, vs1, d1, ds1, p1, q1, rfl, rfl, rfl, h1, r1⟩ := trodAll_cons r0
  obtain ⟨rfl, rfl, rfl⟩ := trodAll_nil r1
  obtain rfl : args = #[v0, v1] := by cases args; simp_all
  obtain ⟨rfl, rfl⟩ := trodVars_none hV
  obtain ⟨D0, rfl, k0⟩ := open_digest (hval 0 28 v0 rfl rfl)
  obtain ⟨a1, rfl, rfl, rfl, w1⟩ := open_int Try.underlying3 (hval 1 3 v1 rfl rfl) h1
  refine (MirrorJoinSpec_walk W D0 k0 a1 w1).mono fun e W' ⟨he, hb⟩ => ?_
  subst he
  simp only [List.append_nil] at hW'
  refine ⟨_, rfl, law_post mirrorJoinSpec_laidOut ?_ (by kernel_rfl) Try.underlying4 rfl hW' rfl rfl rfl hb⟩
  intro t ht
  have hr := List.all_eq_true.1 mirrorJoinSpec_readable t ht
  rw [Bool.and_eq_true] at hr
  exact ⟨hr.1, of_decide_eq_true hr.2⟩
theorem mirrorJoinSpec_over : Rows.mirrorJoinSpecRow.holds Try.pinned (OpenSpec.ofChange Rows.mirrorJoinSpecSpec) :=
  OpenClaim.holds_of_wide 5 Try.f5 rfl rfl rfl rfl rfl rfl rfl ⟨rfl, rfl, rfl, rfl, rfl⟩ rfl rfl rfl rfl rfl (by kernel_rfl) Try.func5 (by kernel_rfl)
    (of_decide_eq_true (by kernel_rfl)) (by unfold Func.isWrapper; rw [if_neg (of_decide_eq_false (by kernel_rfl))]; exact ⟨rfl, rfl⟩)
    (fun os started H enc _ => mirrorJoinSpec_lifted os started H enc)
theorem mirrorJoinSpec_proved : Rows.MirrorJoinSpecSaid := mirrorJoinSpec_over
#print axioms mirrorJoinSpec_proved
end Go.Proofs.Ytkflpoiobpblhaa
