/- The statement FixturesDatesSpecSaid: Dates matches the specification; no condition beside the row's own. -/
import Derived.Test.YtpmkebejfnflfaaFOp
namespace Go.Proofs.Ytpmkebejfnflfaa
open Go.RowKit Go.WideShapes Go.ChangeShapes Go.ChangeAt
set_option linter.unusedVariables false
set_option maxRecDepth 100000 in
set_option maxHeartbeats 8000000 in
theorem FixturesDatesSpec_walk (w : World) (rounds : Int) (wr : (Lit.int .i64 rounds).wf = true) (a b : Int) (wa : (Lit.int .i64 a).wf = true) (wb : (Lit.int .i64 b).wf = true) (rest : Int) (wre : (Lit.int .i64 rest).wf = true) (wd : Int) (wwd : (Lit.int .i64 wd).wf = true) :
    Calls Try.prog 5 #[.int .i64 rounds, .agg #[.int .i64 a, .int .i64 b], .int .i64 rest, .int .i64 wd] w (Fine w) := by
  have HD := Lib.hid (fun W => dates_any rounds a b rest wd W)
  have HR := Lib.hid (fun W => rdates_any rounds a b rest wd W)
  generalize Fix.datesL rounds a b rest wd = dl at HD HR
  generalize Fix.datesE rounds a b rest wd = er at HD HR
  clear wr wa wb wre wwd
  go_enter Try.func5, Try.ntmps5
  go_wp2_with (fail)
  generalize hge : World.alloc _ _ = w0
  have HA0 := Lib.hid (show Blk w0 w.heap.size 41 #[.int .i64 a, .int .i64 b] by subst hge; exact Blk.new w _ _)
  have HB0 := Lib.hid (show Below w.heap.size w w0 by subst hge; exact (Below.refl _ _).alloc (Nat.le_refl _) _)
  clear hge
  refine (fsane_any w0).mono ?_
  rintro e w1 ⟨rfl, hb1⟩
  have HA1 := Lib.hid (HA0.out.below hb1)
  have HB1 := Lib.hid (below_of HB0.out hb1 HB0.out.size)
  clear hb1 HA0
  have q0 := HA1.out.cellv' (i := 0) rfl
  have q1 := HA1.out.cellv' (i := 1) rfl
  go_wp2_with (fail)
  refine (HD.out w1).mono ?_
  rintro e w2 ⟨A2, n2, c2, rfl, hn2, hc2, hm2, h46, hC2, hb2⟩
  have HA2 := Lib.hid (HA1.out.below hb2)
  have HB2 := Lib.hid (below_of HB1.out hb2 HB1.out.size)
  have HC2 := Lib.hid hC2
  have Hn2 := Lib.hid hn2
  clear hb2 HA1 q0 q1 hC2 hn2
  have q0 := HA2.out.cellv' (i := 0) rfl
  have q1 := HA2.out.cellv' (i := 1) rfl
  go_wp2_with (fail)
  refine (HR.out w2).mono ?_
  rintro e w3 ⟨A3, n3, c3, rfl, hn3, hc3, hm3, h463, hC3, hb3⟩
  have HC3 := Lib.hid hC3
  have HC23 := Lib.hid (HC2.out.below hb3)
  have HB3 := Lib.hid (below_of HB2.out hb3 HB2.out.size)
  obtain rfl : n3 = n2 := by rw [← hn3, Hn2.out]
  clear hb3 HA2 q0 q1 hC3 hn3
  go_wp2_with (fail)
  refine (sameInts_any A2 n3 c2 dl A3 n3 c3 dl w3 Hn2.out Hn2.out (by omega) (by omega) HC23.out HC3.out).mono ?_
  rintro e w4 ⟨rfl, hb4⟩
  rw [show decide (dl = dl) = true by simp]
  have HB4 := Lib.hid (below_of HB3.out hb4 HB3.out.size)
  clear hb4
  go_wp2_with (fail)
  go_ret
  exact ⟨rfl, HB4.out⟩
-- the row
theorem fixturesDatesSpec_own : ownKnob Try.prog.godebug = none := by kernel_rfl
theorem fixturesDatesSpec_laidOut : laidOutB Try.prog = true := by kernel_rfl
theorem fixturesDatesSpec_readable : (Try.f5.params.toList.all fun t => Try.prog.readableRec t && decide (t < Try.prog.types.size)) = true := by kernel_rfl
set_option maxRecDepth 100000 in
theorem fixturesDatesSpec_lifted (os : Os) (started : os.Started) (H : Type) (enc : TypeId × Value → H) :
    ReturnsInHanded {} Try.checked os 5 .any (Rows.fixturesDatesSpecSpec.pre6 enc Try.prog Try.f5 Rows.fixturesDatesSpecRow.domain false) (Rows.fixturesDatesSpecSpec.post enc Try.prog Try.f5 false true false false) := by
  refine returnsInHanded_of_change (C := Try.checked) fixturesDatesSpec_own started (by kernel_rfl) Try.func5
    (ChangeSpec.witness6 (enc := enc) (C := Try.checked) false ⟨#[], #[.int .i64 0, .agg #[.int .i64 0, .int .i64 0], .int .i64 0, .int .i64 0], []⟩ 8 (by kernel_rfl) (by kernel_rfl) (by kernel_rfl) (by kernel_rfl)) ?_
  intro W base args ds gs before hval0 hW hcnd _
  have hval : ∀ (j : Nat) t v, Try.f5.params[j]? = some t → args[j]? = some v → Value.okWide Try.prog W .any base t v := hval0
  have hW' := hW
  obtain ⟨p, q, hA0, hV, rfl, hfz, hnd⟩ := hW
  have hA : DataW.TrodAll enc Try.prog W 0 (fun _ => true) true Try.f5.params.toList args.toList ds p := hA0
  rw [Try.params5] at hA hval
  obtain ⟨v0, vs0, d0, ds0, p0, q0, hargs, rfl, rfl, h0, r0⟩ := trodAll_cons hA
  obtain ⟨v1, vs1, d1, ds1, p1, q1, rfl, rfl, rfl, h1, r1⟩ := trodAll_cons r0
  obtain ⟨v2, vs2, d2, ds2, p2, q2, rfl, rfl, rfl, h2, r2⟩ := trodAll_cons r1
  obtain ⟨v3, vs3, d3, ds3, p3, q3, rfl, rfl, rfl, h3, r3⟩ := trodAll_cons r2
  obtain ⟨rfl, rfl, rfl⟩ := trodAll_nil r3
  obtain rfl : args = #[v0, v1, v2, v3] := by cases args; simp_all
  obtain ⟨rfl, rfl⟩ := trodVars_none hV
  obtain ⟨a0, rfl, rfl, rfl, w0⟩ := open_int Try.underlying3 (hval 0 3 v0 rfl rfl) h0
  obtain ⟨x1, y1, rfl, wx1, wy1⟩ := open_iv (hval 1 41 v1 rfl rfl) h1
  obtain ⟨a2, rfl, rfl, rfl, w2⟩ := open_int Try.underlying3 (hval 2 3 v2 rfl rfl) h2
  obtain ⟨a3, rfl, rfl, rfl, w3⟩ := open_int Try.underlying3 (hval 3 3 v3 rfl rfl) h3
  refine (FixturesDatesSpec_walk W a0 w0 x1 y1 wx1 wy1 a2 w2 a3 w3).mono fun e W' ⟨he, hb⟩ => ?_
  subst he
  simp only [List.append_nil] at hW'
  refine ⟨_, rfl, law_post fixturesDatesSpec_laidOut ?_ (by kernel_rfl) Try.underlying4 rfl hW' rfl rfl rfl hb⟩
  intro t ht
  have hr := List.all_eq_true.1 fixturesDatesSpec_readable t ht
  rw [Bool.and_eq_true] at hr
  exact ⟨hr.1, of_decide_eq_true hr.2⟩
theorem fixturesDatesSpec_over : Rows.fixturesDatesSpecRow.holds Try.pinned (OpenSpec.ofChange Rows.fixturesDatesSpecSpec) :=
  OpenClaim.holds_of_wide 5 Try.f5 rfl rfl rfl rfl rfl rfl rfl ⟨rfl, rfl, rfl, rfl, rfl⟩ rfl rfl rfl rfl rfl (by kernel_rfl) Try.func5 (by kernel_rfl)
    (of_decide_eq_true (by kernel_rfl)) (by unfold Func.isWrapper; rw [if_neg (of_decide_eq_false (by kernel_rfl))]; exact ⟨rfl, rfl⟩)
    (fun os started H enc _ => fixturesDatesSpec_lifted os started H enc)
theorem fixturesDatesSpec_proved : Rows.FixturesDatesSpecSaid := fixturesDatesSpec_over
#print axioms fixturesDatesSpec_proved
end Go.Proofs.Ytpmkebejfnflfaa
