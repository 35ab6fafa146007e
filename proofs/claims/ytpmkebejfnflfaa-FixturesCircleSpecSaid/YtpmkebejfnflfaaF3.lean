/- The statement FixturesCircleSpecSaid: for every list of clubs, Circle matches the specification; no condition beside the row's own. -/
import Derived.Test.YtpmkebejfnflfaaFOp
import Derived.Test.YtpmkebejfnflfaaFRf7
namespace Go.Proofs.Ytpmkebejfnflfaa
open Go.RowKit Go.WideShapes Go.ChangeShapes Go.ChangeAt
set_option linter.unusedVariables false
set_option linter.unusedSimpArgs false
theorem circM_lens (cl : List Int) (double : Bool) : (∀ l ∈ Fix.circM cl double, l.length ≤ 1000000) ∧ (Fix.circM cl double).length ≤ 1000000 := by
  unfold Fix.circM
  cases hv : Fix.validC cl with
  | false => exact ⟨by simp, by simp⟩
  | true =>
    obtain ⟨h1, -, h3⟩ := circle_lens hv double
    simp only [if_true]
    exact ⟨fun l hl => by have := h1 l hl; omega, by omega⟩
theorem circE_cases (cl : List Int) : Fix.circE cl = 0 ∨ Fix.circE cl = 1 := by
  unfold Fix.circE
  split
  · exact .inl rfl
  · exact .inr rfl
set_option maxRecDepth 100000 in
set_option maxHeartbeats 16000000 in
theorem FixturesCircleSpec_walk (w : World) (A : Option Addr) (n c : Nat) (cl : List Int) (hl : cl.length = n) (hnc : n ≤ c) (hcm : c ≤ maxLen) (hA : Cells w A (cl.map (Value.int .i64))) (_hw : ∀ x ∈ cl, (Lit.int .i64 x).wf = true) (dbl : Bool) :
    Calls Try.prog 3 #[.slice A n c, .bool dbl] w (Fine w) := by
  have HC := Lib.hid (fun W (h : Ints W A cl) => circle_any A n c cl dbl W hl h)
  have HR := Lib.hid (fun W (h : Ints W A cl) => rcircle_any A n c cl dbl W hl hnc hcm h)
  have HA := Lib.hid (show Ints w A cl from hA)
  obtain ⟨k1, k2⟩ := circM_lens cl dbl
  have he := circE_cases cl
  unfold CircPost at HC HR
  generalize Fix.circM cl dbl = ls at *
  generalize Fix.circE cl = er at *
  unfold maxLen at hcm
  clear hA hl _hw
  by_cases hbig : 60 < n
  · have q1 : decide ((60 : Int) < (n : Int)) = true := by simp; omega
    go_enter Try.func3, Try.ntmps3
    go_wp2_with (fail)
    refine (fsane_any w).mono ?_
    rintro e w1 ⟨rfl, hb1⟩
    have HB1 := Lib.hid hb1
    clear hb1
    go_wp2_with (fail)
    go_ret
    exact ⟨rfl, HB1.out⟩
  · have q1 : decide ((60 : Int) < (n : Int)) = false := by simp; omega
    rcases he with rfl | rfl
    all_goals
      go_enter Try.func3, Try.ntmps3
      go_wp2_with (fail)
      refine (fsane_any w).mono ?_
      rintro e w1 ⟨rfl, hb1⟩
      have HB1 := Lib.hid hb1
      clear hb1
      go_wp2_with (fail)
      refine (HC.out w1 (HA.out.below HB1.out)).mono ?_
      rintro e w2 ⟨A2, q2, c2, rfl, hq2, hqc2, hqm2, hR2, hb2⟩
      have HB2 := Lib.hid (below_of HB1.out hb2 HB1.out.size)
      have HR2 := Lib.hid hR2
      have Hq2 := Lib.hid hq2
      clear hb2 hR2 hq2
      go_upto_region 6 with (fail)
      generalize hge : World.alloc _ _ = w3
      have H3 := Lib.hid (show Blk w3 w2.heap.size 26 #[.slice A2 q2 c2] by subst hge; exact Blk.new w2 _ _)
      have hb3 : Below w2.heap.size w2 w3 := by subst hge; exact (Below.refl _ _).alloc (Nat.le_refl _) _
      have HB3 := Lib.hid (below_of HB2.out hb3 HB2.out.size)
      have HR3 := Lib.hid (HR2.out.below hb3)
      clear hge hb3 HR2
      obtain ⟨X2, hX2⟩ : ∃ X, w2.heap.size = X := ⟨_, rfl⟩
      rw [hX2] at H3 ⊢
      clear hX2
      go_wp2_with (fail)
      refine (HR.out w3 (HA.out.below HB3.out)).mono ?_
      rintro e w4 ⟨A4, q4, c4, rfl, hq4, hqc4, hqm4, hR4, hb4⟩
      have HB4 := Lib.hid (below_of HB3.out hb4 HB3.out.size)
      have HR34 := Lib.hid (HR3.out.below hb4)
      have H34 := Lib.hid (H3.out.below hb4)
      have HR4 := Lib.hid hR4
      have Hq4 := Lib.hid hq4
      clear hb4 hR4 hq4 HR3 H3
      go_upto_region 7 with (fail)
      generalize hge : World.alloc _ _ = w5
      have H5b := Lib.hid (show Blk w5 w4.heap.size 26 #[.slice A4 q4 c4] by subst hge; exact Blk.new w4 _ _)
      have hb5 : Below w4.heap.size w4 w5 := by subst hge; exact (Below.refl _ _).alloc (Nat.le_refl _) _
      have HB5 := Lib.hid (below_of HB4.out hb5 HB4.out.size)
      have HR5 := Lib.hid (HR34.out.below hb5)
      have HR5b := Lib.hid (HR4.out.below hb5)
      have H5 := Lib.hid (H34.out.below hb5)
      clear hge hb5 HR34 HR4 H34
      obtain ⟨X4, hX4⟩ : ∃ X, w4.heap.size = X := ⟨_, rfl⟩
      rw [hX4] at H5b ⊢
      clear hX4
      have q0 := H5.out.cellv' (i := 0) rfl
      have q0b := H5b.out.cellv' (i := 0) rfl
      go_wp2_with (fail)
      refine (same30_any A2 q2 c2 ls A4 q4 c4 ls w5 Hq2.out.symm Hq4.out.symm (by have := Hq2.out; omega) (by have := Hq4.out; omega) HR5.out HR5b.out k1 k1).mono ?_
      rintro e w6 ⟨rfl, hb6⟩
      rw [show decide (ls = ls) = true by simp]
      have HB6 := Lib.hid (below_of HB5.out hb6 HB5.out.size)
      clear hb6 q0 q0b
      go_wp2_with (fail)
      go_ret
      exact ⟨rfl, HB6.out⟩
-- the row
theorem fixturesCircleSpec_own : ownKnob Try.prog.godebug = none := by kernel_rfl
theorem fixturesCircleSpec_laidOut : laidOutB Try.prog = true := by kernel_rfl
theorem fixturesCircleSpec_readable : (Try.f3.params.toList.all fun t => Try.prog.readableRec t && decide (t < Try.prog.types.size)) = true := by kernel_rfl
set_option maxRecDepth 100000 in
theorem fixturesCircleSpec_lifted (os : Os) (started : os.Started) (H : Type) (enc : TypeId × Value → H) :
    ReturnsInHanded {} Try.checked os 3 .any (Rows.fixturesCircleSpecSpec.pre6 enc Try.prog Try.f3 Rows.fixturesCircleSpecRow.domain false) (Rows.fixturesCircleSpecSpec.post enc Try.prog Try.f3 false true false false) := by
  refine returnsInHanded_of_change (C := Try.checked) fixturesCircleSpec_own started (by kernel_rfl) Try.func3
    (ChangeSpec.witness6 (enc := enc) (C := Try.checked) false ⟨#[], #[.slice none 0 0, .bool false], []⟩ 8 (by kernel_rfl) (by kernel_rfl) (by kernel_rfl) (by kernel_rfl)) ?_
  intro W base args ds gs before hval0 hW hcnd _
  have hval : ∀ (j : Nat) t v, Try.f3.params[j]? = some t → args[j]? = some v → Value.okWide Try.prog W .any base t v := hval0
  have hW' := hW
  obtain ⟨p, q, hA0, hV, rfl, hfz, hnd⟩ := hW
  have hA : DataW.TrodAll enc Try.prog W 0 (fun _ => true) true Try.f3.params.toList args.toList ds p := hA0
  rw [Try.params3] at hA hval
  obtain ⟨v0, vs0, d0, ds0, p0, q0, hargs, rfl, rfl, h0, r0⟩ := trodAll_cons hA
  obtain ⟨v1, vs1, d1, ds1, p1, q1, rfl, rfl, rfl, h1, r1⟩ := trodAll_cons r0
  obtain ⟨rfl, rfl, rfl⟩ := trodAll_nil r1
  obtain rfl : args = #[v0, v1] := by cases args; simp_all
  obtain ⟨rfl, rfl⟩ := trodVars_none hV
  obtain ⟨A0, n0, c0, xs0, rfl, l0, nc0, cm0, g0, w0⟩ := open_intslice Try.underlying22 Try.underlying3 (by kernel_rfl) (hval 0 22 v0 rfl rfl) h0
  obtain ⟨a1, rfl, rfl, rfl⟩ := open_bool Try.underlying4 (hval 1 4 v1 rfl rfl) h1
  refine (FixturesCircleSpec_walk W A0 n0 c0 xs0 l0 nc0 cm0 g0 w0 a1).mono fun e W' ⟨he, hb⟩ => ?_
  subst he
  simp only [List.append_nil] at hW'
  refine ⟨_, rfl, law_post fixturesCircleSpec_laidOut ?_ (by kernel_rfl) Try.underlying4 rfl hW' rfl rfl rfl hb⟩
  intro t ht
  have hr := List.all_eq_true.1 fixturesCircleSpec_readable t ht
  rw [Bool.and_eq_true] at hr
  exact ⟨hr.1, of_decide_eq_true hr.2⟩
theorem fixturesCircleSpec_over : Rows.fixturesCircleSpecRow.holds Try.pinned (OpenSpec.ofChange Rows.fixturesCircleSpecSpec) :=
  OpenClaim.holds_of_wide 3 Try.f3 rfl rfl rfl rfl rfl rfl rfl ⟨rfl, rfl, rfl, rfl, rfl⟩ rfl rfl rfl rfl rfl (by kernel_rfl) Try.func3 (by kernel_rfl)
    (of_decide_eq_true (by kernel_rfl)) (by unfold Func.isWrapper; rw [if_neg (of_decide_eq_false (by kernel_rfl))]; exact ⟨rfl, rfl⟩)
    (fun os started H enc _ => fixturesCircleSpec_lifted os started H enc)
theorem fixturesCircleSpec_proved : Rows.FixturesCircleSpecSaid := fixturesCircleSpec_over
#print axioms fixturesCircleSpec_proved
end Go.Proofs.Ytpmkebejfnflfaa
