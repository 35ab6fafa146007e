/- The statement MirrorNumbersSaid: for every state that is published, its version verifies under the key, and no other number does for the same signature; no condition beside the row's own. -/
import Derived.ChangeMaps5
import Derived.Test.YtkflpoiobpblhaaMOpC
import Derived.Test.YtkflpoiobpblhaaMLwC
namespace Go.Proofs.Ytkflpoiobpblhaa
open Go.RowKit Go.WideShapes Go.ChangeShapes Go.ChangeAt
set_option linter.unusedVariables false
set_option linter.unusedSimpArgs false
set_option maxRecDepth 100000 in
set_option maxHeartbeats 8000000 in
theorem MirrorNumbers_walk (w : World) (a0 : Int) (w0 : Lit.wf (.int .u8 a0) = true) (A : Option Addr) (n c : Nat) (l : List Mir.It) (e1 : l.length = n) (nc : n ≤ c) (cm : c ≤ maxLen) (I : ItemsC w A l) (no : Int) (w2 : Lit.wf (.int .i64 no) = true) :
    Calls Try.prog 3 #[.int .u8 a0, .slice A n c, .int .i64 no] w (Fine w) := by
  obtain ⟨b, hb8, rfl⟩ := byte_of w0
  have HI := Lib.hid I
  have HF := Lib.hid (fun W h => rfew_any A n c l W e1 (by unfold maxLen at cm; omega) h)
  clear w0 w2 I
  cases hf : Mir.fewI l
  · rw [hf] at HF
    clear hf
    go_enter Try.func3, Try.ntmps3
    go_wp2_with (fail)
    refine (sane_any w).mono ?_
    rintro e w1 ⟨rfl, hb1⟩
    have HB1 := Lib.hid hb1
    clear hb1
    go_wp2_with (fail)
    refine (HF.out w1 (HI.out.below HB1.out)).mono ?_
    rintro e w2 ⟨rfl, rfl⟩
    go_wp2_with (fail)
    go_ret
    exact ⟨rfl, HB1.out⟩
  · obtain ⟨h12, h300⟩ := Mir.fewI_ok hf
    rw [e1] at h12
    have HC := Lib.hid (fun W h => pcheck_any A n c l W e1 (by omega) h)
    obtain ⟨E, hE⟩ : ∃ E, Mir.itE l = E := ⟨_, rfl⟩
    rw [hE] at HC
    rw [hf] at HF
    clear hf
    by_cases h0 : E = 0
    · subst h0
      have ok : Mir.okS l := ⟨hE, by omega, h300⟩
      obtain ⟨P, hP⟩ : ∃ P, Mir.rootK [b] = P := ⟨_, rfl⟩
      have HPd := Lib.hid (show IsD P by rw [← hP]; exact treeS_isD _)
      have H8 := Lib.hid (show ByteL [b] from byteL_of (by simpa using hb8))
      have HCh := Lib.hid (fun S W h => chain_any b hb8 S 1 1 [l] W h rfl (by omega) (fun x hx => by rw [List.mem_singleton] at hx; rw [hx]; exact ok))
      rw [hP, Mir.vsK_one] at HCh
      have HN := Lib.hid (Mir.num_ver [b] l hE (by omega) no)
      rw [hP] at HN
      have sm := Mir.v1_small (s := [b]) ok
      have HM := Lib.hid (fun V W h => mverify_any P 2 { Mir.v1K [b] l with no := no } V W HPd.out h sm.1 sm.2)
      have HW := Lib.hid (fun A2 c2 Av cv W h1 h2 => mversion_any A2 Av A none 1 c2 1 cv n c 0 0 2 0 [b] l [] W h1 rfl H8.out h2 e1 (ChangesC.nil_ _ _) rfl (by omega) (by omega) (fun y hy => by have := h300 y hy; omega) (by omega) (by simp) (by omega) (by unfold maxLen; omega))
      rw [show Mir.vsnE 1 2 0 1 l [] = 450 by unfold Mir.vsnE; rw [show okKey 1 2 0 = true by decide]; simp] at HW
      have He1 := Lib.hid (And.intro e1 (And.intro nc cm))
      have HX0 := Lib.hid (show (Mir.v1K [b] l).no = 1 from rfl)
      obtain ⟨v1, hv1⟩ : ∃ v, Mir.v1K [b] l = v := ⟨_, rfl⟩
      rw [hv1] at HCh HN HM HX0
      clear hE e1 nc cm h300 ok hP sm hv1 hb8
      go_enter Try.func3, Try.ntmps3
      go_wp2_with (fail)
      refine (sane_any w).mono ?_
      rintro e w1 ⟨rfl, hb1⟩
      have HB1 := Lib.hid hb1
      clear hb1
      go_wp2_with (fail)
      refine (HF.out w1 (HI.out.below HB1.out)).mono ?_
      rintro e w2 ⟨rfl, rfl⟩
      go_wp2_with (fail)
      refine (HC.out _ (HI.out.below HB1.out)).mono ?_
      rintro e w3 ⟨rfl, hb3⟩
      have HB3 := Lib.hid (below_of HB1.out hb3 HB1.out.size)
      clear hb3 HB1 HF HC
      go_wp2_with (fail)
      generalize hge : World.alloc _ _ = w4
      have HT4 := Lib.hid (show Blk w4 w3.heap.size 22 #[.slice A n c] by subst hge; exact Blk.new _ _ _)
      have HB4 := Lib.hid (show Below w.heap.size w w4 by subst hge; exact below_of HB3.out ((Below.refl _ _).alloc (Nat.le_refl _) _) HB3.out.size)
      clear hge HB3
      refine (HCh.out _ w4 (states_one HT4.out He1.out.1 He1.out.2.1 He1.out.2.2 (HI.out.below HB4.out))).mono ?_
      rintro e w5 ⟨Av, cv, rfl, hVs, hcv1, hcv2, hb5⟩
      have HB5 := Lib.hid (below_of HB4.out hb5 HB4.out.size)
      have HV5 := Lib.hid hVs
      clear hb5 hVs HB4 HT4 HCh
      go_upto_region 6 with (
        (refine wpList_put_blk rfl 28 (.tmp 7) (.tmp 32) rfl w5.heap.size (arrK .u8 P) rfl rfl 28 (arrK .u8 z32) (Blk.new w5 28 (arrK .u8 z32)) (info32 HPd.out.1) (by rw [len32 HPd.out.1, len32 z32_length]) (arrK_all _ _) ?_
         intro w6 HZ hg hz
         have HP6 := Lib.hid HZ
         have hb6 := Lib.hid (below_put hg)
         clear hg hz HZ))
      have HB6 := Lib.hid (below_of HB5.out hb6.out HB5.out.size)
      have hV6 := HV5.out.below hb6.out
      obtain ⟨p, hp⟩ : ∃ p, w5.heap.size = p := ⟨_, rfl⟩
      rw [hp] at HP6 ⊢
      clear hp hb6 HB5 HV5
      obtain ⟨bV, oV, rfl, hbV, hat⟩ := hV6.at_ (by simp)
      obtain ⟨V, hV, hR⟩ := hat 0 v1 rfl
      obtain ⟨VL, rfl⟩ : ∃ VL : List Value, V = VL.toArray := ⟨V.toList, by simp⟩
      have HR := Lib.hid (show w6.rangeAt bV oV VL by simpa using hR)
      have HV := Lib.hid hV
      have aV := Lib.hid HV.out.all
      have iV := Lib.hid HV.out.info
      have zV := Lib.hid HV.out.size
      clear hat hV hR hV6 hbV
      go_upto_region 9 with (first
        | (refine wpList_load_mid rfl 38 (.tmp 43) rfl bV oV rfl VL _ HR.out Try.underlying38 rfl iV.out ?_)
        | (refine wpList_put_blk rfl 38 (.tmp 10) (.tmp 44) rfl w6.heap.size VL.toArray rfl rfl 38 Mir.ver0 (Blk.new w6 38 Mir.ver0) iV.out (by rw [Mir.ver0_size, zV.out]) aV.out ?_
           intro w7 HZ hg hz
           have HX7 := Lib.hid HZ
           have hb7 := Lib.hid (below_put hg)
           clear hg hz HZ))
      have HB7 := Lib.hid (below_of HB6.out hb7.out HB6.out.size)
      have HP7 := Lib.hid (HP6.out.below hb7.out)
      have hpX : p < w6.heap.size := HP6.out.lt
      have hwX := HB6.out.size
      have HVx := Lib.hid (fun (W : World) (h : w7.grownBy W (some w6.heap.size)) => HV.out.below (below_grown hb7.out h hb7.out.size (fun k hk => by injection hk with hk; omega)))
      obtain ⟨X, hX⟩ : ∃ x, w6.heap.size = x := ⟨_, rfl⟩
      rw [hX] at HX7 hpX hwX HVx ⊢
      have x0 : w7.cell? ⟨X, 0, none⟩ = some (.int .i64 1) := by rw [HX7.out.cell 0, HV.out.c0, HX0.out]
      have g0 := HX7.out.frozen 0
      clear hX hb7 HR HV HB6 HP6
      go_upto_region 10 with (fail)
      generalize hge : World.setCell _ _ _ = w8
      have hX8 : Blk w8 X 38 (VL.toArray.setIfInBounds 0 (.int .i64 no)) := by subst hge; exact HX7.out.set_ 0 _
      have hg8 : w7.grownBy w8 (some X) := by subst hge; exact grown_setOne _
      obtain ⟨V', hV'⟩ : ∃ V', VL.toArray.setIfInBounds 0 (.int .i64 no) = V' := ⟨_, rfl⟩
      rw [hV'] at hX8
      have HX8 := Lib.hid hX8
      have HV8 := Lib.hid (show VerC w8 { v1 with no := no } V' by rw [← hV']; exact (HVx.out w8 hg8).setNo no)
      have iX := Lib.hid HV8.out.info
      have HP8 := Lib.hid (HP7.out.grown hg8 (by intro e; injection e with e; omega))
      have HB8 := Lib.hid (below_grown HB7.out hg8 HB7.out.size (fun k hk => by injection hk with hk; omega))
      clear hge hg8 HX7 HP7 HB7 x0 g0 hX8 hV' HVx iV aV zV
      rcases (show (no = 1) ∨ (no ≠ 1 ∧ no < 1) ∨ (no ≠ 1 ∧ ¬ no < 1 ∧ 4096 < no) ∨ (no ≠ 1 ∧ ¬ no < 1 ∧ ¬ 4096 < no) by omega) with q | q | q | q
      case' inl =>
        have d1 : decide (no = 1) = true := by simpa using q
        have b1 : (no == 1) = true := by simpa using q
        have hn := HN.out
        rw [if_pos q] at hn
        rw [hn] at HM
        clear hn HN q
      case' inr.inl =>
        have d1 : decide (no = 1) = false := by simpa using q.1
        have b1 : (no == 1) = false := by simpa using q.1
        have d2 : decide (no < 1) = true := by simpa using q.2
        have hn := HN.out
        rw [if_neg q.1, if_pos (.inl q.2)] at hn
        rw [hn] at HM
        clear hn HN q
      case' inr.inr.inl =>
        have d1 : decide (no = 1) = false := by simpa using q.1
        have b1 : (no == 1) = false := by simpa using q.1
        have d2 : decide (no < 1) = false := by simpa using q.2.1
        have d3 : decide (4096 < no) = true := by simpa using q.2.2
        have hn := HN.out
        rw [if_neg q.1, if_pos (.inr q.2.2)] at hn
        rw [hn] at HM
        clear hn HN q
      case' inr.inr.inr =>
        have d1 : decide (no = 1) = false := by simpa using q.1
        have b1 : (no == 1) = false := by simpa using q.1
        have d2 : decide (no < 1) = false := by simpa using q.2.1
        have d3 : decide (4096 < no) = false := by simpa using q.2.2
        have hn := HN.out
        rw [if_neg q.1, if_neg (by omega)] at hn
        rw [hn] at HM
        clear hn HN q
      all_goals
        go_wp2_with (fail)
        generalize hge : World.alloc _ _ = w9
        have hS9 : Cells w9 (some ⟨w8.heap.size, 0, none⟩) (bytesV [b]) := by subst hge; exact bytes_row' [b] (heap_alloc_new w8 _)
        have hb9 : Below w8.heap.size w8 w9 := by subst hge; exact (Below.refl _ _).alloc (Nat.le_refl _) _
        have HB9 := Lib.hid (below_of HB8.out hb9 HB8.out.size)
        have HX9 := Lib.hid (HX8.out.below hb9)
        have HP9 := Lib.hid (HP8.out.below hb9)
        have HV9 := Lib.hid (HV8.out.below hb9)
        clear hge hb9 HB8 HX8 HP8 HV8
        refine (New_good (some ⟨w8.heap.size, 0, none⟩) 1 1 2 [b] w9 hS9 rfl (by omega) (by omega) (by unfold maxLen; omega) (by decide)).mono ?_
        rintro e w10 ⟨A2, c2, rfl, hk1, hk2, hS10, hb10⟩
        have HS10 := Lib.hid hS10
        have HB10 := Lib.hid (below_of HB9.out hb10 HB9.out.size)
        have HX10 := Lib.hid (HX9.out.below hb10)
        have HP10 := Lib.hid (HP9.out.below hb10)
        have HV10 := Lib.hid (HV9.out.below hb10)
        clear hS9 hk1 hk2 hS10 hb10 HB9 HX9 HP9 HV9
        go_wp2_with (fail)
        generalize hge : World.alloc _ _ = w11
        have hb11 : Below w10.heap.size w10 w11 := by subst hge; exact (Below.refl _ _).alloc (Nat.le_refl _) _
        have HB11 := Lib.hid (below_of HB10.out hb11 HB10.out.size)
        have HX11 := Lib.hid (HX10.out.below hb11)
        have HP11 := Lib.hid (HP10.out.below hb11)
        have HV11 := Lib.hid (HV10.out.below hb11)
        have hS11 := HS10.out.below hb11
        clear hge hb11 HB10 HX10 HP10 HV10 HS10
        refine (HW.out A2 c2 (some ⟨bV, oV, none⟩) cv w11 hS11 (HI.out.below HB11.out)).mono ?_
        rintro e w12 ⟨V2, K2, rfl, ⟨h, -⟩ | ⟨-, hK2, hV2⟩, hb12⟩
        · exact absurd h (by decide)
        have iV2 := Lib.hid (show (Try.prog.info? 38).map (·.size) = some V2.size by rw [hV2]; kernel_rfl)
        have zV2 := Lib.hid (show V2.size = 38 by rw [hV2]; exact Mir.ver0_size)
        have aV2 := Lib.hid (show V2.all (·.oneCell') = true by rw [hV2]; kernel_rfl)
        have iK2 := Lib.hid (show (Try.prog.info? 41).map (·.size) = some K2.size by rw [hK2]; kernel_rfl)
        have zK2 := Lib.hid (show ZK.size = K2.size by rw [hK2])
        have aK2 := Lib.hid (show K2.all (·.oneCell') = true by rw [hK2]; kernel_rfl)
        have HB12 := Lib.hid (below_of HB11.out hb12 HB11.out.size)
        have HX12 := Lib.hid (HX11.out.below hb12)
        have HP12 := Lib.hid (HP11.out.below hb12)
        have HV12 := Lib.hid (HV11.out.below hb12)
        clear hK2 hV2 hb12 hS11 HB11 HX11 HP11 HV11
        go_wp2_with (first
          | (refine wpList_put_blk rfl 38 (.tmp 14) (.tmp 68) rfl w12.heap.size V2 rfl rfl 38 Mir.ver0 (blk_two w12 Mir.ver0 ZK 38 41).1 iV2.out (by rw [Mir.ver0_size, zV2.out]) aV2.out ?_
             intro w13 HZ hg hz
             have HZK := Lib.hid ((blk_two w12 Mir.ver0 ZK 38 41).2.grown hg (by simp))
             have hb := Lib.hid (show Below w12.heap.size w12 w13 from below_grown (below_two' (Below.refl _ _) (Nat.le_refl _) _ _) hg (by simp; omega) (fun k hk => by cases hk; exact Nat.le_refl _))
             clear hg hz HZ)
          | (refine wpList_put_blk rfl 41 (.tmp 15) (.tmp 69) rfl (w12.heap.size + 1) K2 rfl rfl 41 ZK HZK.out iK2.out zK2.out aK2.out ?_
             intro w14 HZ hg hz
             have hb' := Lib.hid (show Below w12.heap.size w12 w14 from below_grown hb.out hg hb.out.size (fun k hk => by cases hk; omega))
             clear hg hz HZ)
          | (refine wpList_load_blk_g 28 (.tmp 7) (by rfl) (by kernel_rfl) p rfl 28 (arrK .u8 P) (.array 32 5) (HP12.out.below hb'.out) (by kernel_rfl) rfl (info32 HPd.out.1) ?_)
          | (refine wpList_load_blk_g 38 (.tmp 10) (by rfl) (by kernel_rfl) X rfl 38 V' _ (HX12.out.below hb'.out) Try.underlying38 rfl iX.out ?_))
        have HB14 := Lib.hid (below_of HB12.out hb'.out HB12.out.size)
        refine (HM.out V' w14 (HV12.out.below hb'.out)).mono ?_
        rintro e w15 ⟨rfl, hb15⟩
        have HB15 := Lib.hid (below_of HB14.out hb15 HB14.out.size)
        clear hb15 hb hb' HZK
        go_wp2_with (fail)
        go_ret
        exact ⟨rfl, HB15.out⟩
    · have d0 : decide (E = 0) = false := by simpa using h0
      have b0 : (E != 0) = true := by simpa using h0
      clear hE h0
      go_enter Try.func3, Try.ntmps3
      go_wp2_with (fail)
      refine (sane_any w).mono ?_
      rintro e w1 ⟨rfl, hb1⟩
      have HB1 := Lib.hid hb1
      clear hb1
      go_wp2_with (fail)
      refine (HF.out w1 (HI.out.below HB1.out)).mono ?_
      rintro e w2 ⟨rfl, rfl⟩
      go_wp2_with (fail)
      refine (HC.out _ (HI.out.below HB1.out)).mono ?_
      rintro e w3 ⟨rfl, hb3⟩
      go_wp2_with (fail)
      go_ret
      exact ⟨rfl, below_of HB1.out hb3 HB1.out.size⟩
theorem mirrorNumbers_own : ownKnob Try.prog.godebug = none := by kernel_rfl
theorem mirrorNumbers_laidOut : laidOutB Try.prog = true := by kernel_rfl
theorem mirrorNumbers_readable : (Try.f3.params.toList.all fun t => Try.prog.readableRec t && decide (t < Try.prog.types.size)) = true := by kernel_rfl
set_option maxRecDepth 100000 in
theorem mirrorNumbers_lifted (os : Os) (started : os.Started) (H : Type) (enc : TypeId × Value → H) :
    ReturnsInHanded {} Try.checked os 3 .any (Rows.mirrorNumbersSpec.pre6 enc Try.prog Try.f3 Rows.mirrorNumbersRow.domain false) (Rows.mirrorNumbersSpec.post enc Try.prog Try.f3 false true false false) := by
  refine returnsInHanded_of_change (C := Try.checked) mirrorNumbers_own started (by kernel_rfl) Try.func3
    (ChangeSpec.witness6 (enc := enc) (C := Try.checked) false ⟨#[], #[.int .u8 0, .slice none 0 0, .int .i64 0], []⟩ 8 (by kernel_rfl) (by kernel_rfl) (by kernel_rfl) (by kernel_rfl)) ?_
  intro W base args ds gs before hval0 hW hcnd _
  have hval : ∀ (j : Nat) t v, Try.f3.params[j]? = some t → args[j]? = some v → Value.okWide Try.prog W .any base t v := hval0
  have hW' := hW
  obtain ⟨p, q, hA0, hV, rfl, hfz, hnd⟩ := hW
  have hA : DataW.TrodAll enc Try.prog W 0 (fun _ => true) true Try.f3.params.toList args.toList ds p := hA0
  rw [Try.params3] at hA hval
  obtain ⟨v0, vs0, d0, ds0, p0, q0, hargs, rfl, rfl, h0, r0⟩ := trodAll_cons hA
  obtain ⟨v1, vs1, d1, ds1, p1, q1, rfl, rfl, rfl, h1, r1⟩ := trodAll_cons r0
  obtain ⟨v2, vs2, d2, ds2, p2, q2, rfl, rfl, rfl, h2, r2⟩ := trodAll_cons r1
  obtain ⟨rfl, rfl, rfl⟩ := trodAll_nil r2
  obtain rfl : args = #[v0, v1, v2] := by cases args; simp_all
  obtain ⟨rfl, rfl⟩ := trodVars_none hV
  obtain ⟨a0, rfl, rfl, rfl, w0⟩ := open_int Try.underlying5 (hval 0 5 v0 rfl rfl) h0
  obtain ⟨A1, n1, c1, l1, rfl, e1, nc1, cm1, g1⟩ := open_items (hval 1 22 v1 rfl rfl) h1
  obtain ⟨a2, rfl, rfl, rfl, w2⟩ := open_int Try.underlying3 (hval 2 3 v2 rfl rfl) h2
  refine (MirrorNumbers_walk W a0 w0 A1 n1 c1 l1 e1 nc1 cm1 g1 a2 w2).mono fun e W' ⟨he, hb⟩ => ?_
  subst he
  simp only [List.append_nil] at hW'
  refine ⟨_, rfl, law_post mirrorNumbers_laidOut ?_ (by kernel_rfl) Try.underlying4 rfl hW' rfl rfl rfl hb⟩
  intro t ht
  have hr := List.all_eq_true.1 mirrorNumbers_readable t ht
  rw [Bool.and_eq_true] at hr
  exact ⟨hr.1, of_decide_eq_true hr.2⟩
theorem mirrorNumbers_over : Rows.mirrorNumbersRow.holds Try.pinned (OpenSpec.ofChange Rows.mirrorNumbersSpec) :=
  OpenClaim.holds_of_wide 3 Try.f3 rfl rfl rfl rfl rfl rfl rfl ⟨rfl, rfl, rfl, rfl, rfl⟩ rfl rfl rfl rfl rfl (by kernel_rfl) Try.func3 (by kernel_rfl)
    (of_decide_eq_true (by kernel_rfl)) (by unfold Func.isWrapper; rw [if_neg (of_decide_eq_false (by kernel_rfl))]; exact ⟨rfl, rfl⟩)
    (fun os started H enc _ => mirrorNumbers_lifted os started H enc)
theorem mirrorNumbers_proved : Rows.MirrorNumbersSaid := mirrorNumbers_over
#print axioms mirrorNumbers_proved
end Go.Proofs.Ytkflpoiobpblhaa
