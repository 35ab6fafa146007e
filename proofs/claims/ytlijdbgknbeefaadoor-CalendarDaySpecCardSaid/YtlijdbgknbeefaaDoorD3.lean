/- The statement CalendarDaySpecCardSaid: Day, Date, Weekday and Next agree with the reference; no condition beside the row's own (the table of the months' lengths, tied by the given card). -/
import Derived.Test.YtlijdbgknbeefaaDoorCalW
namespace Go.Proofs.YtlijdbgknbeefaaDoor
open Go.RowKit Go.WideShapes Go.ChangeShapes Go.ChangeAt
set_option linter.unusedVariables false
set_option maxRecDepth 100000 in
set_option maxHeartbeats 8000000 in
theorem CalendarDaySpec_walk (w : World) (hL : Lens w) (y m d : Int) (wy : (Lit.int .i64 y).wf = true) (wm : (Lit.int .i64 m).wf = true) (wd : (Lit.int .i64 d).wf = true) (n : Int) (wn : (Lit.int .i64 n).wf = true) (k : Int) (wk : (Lit.int .i64 k).wf = true) :
    Calls Tryd.prog 3 #[.agg #[.int .i64 y, .int .i64 m, .int .i64 d], .int .i64 n, .int .i64 k] w (Fine w) := by
  have HL := Lib.hid hL
  clear hL wy wm wd wn wk
  go_enter Tryd.func3, Tryd.ntmps3
  go_wp2_with (fail)
  generalize hge : World.alloc _ _ = w0
  have HK0 := Lib.hid (show Blk w0 w.heap.size 23 #[.int .i64 y, .int .i64 m, .int .i64 d] by subst hge; exact Blk.new w _ _)
  have HB0 := Lib.hid (show Below w.heap.size w w0 by subst hge; exact (Below.refl _ _).alloc (Nat.le_refl _) _)
  clear hge
  refine (csane_any w0 (HL.out.below HB0.out)).mono ?_
  rintro e w1 ⟨rfl, hb1⟩
  have HK1 := Lib.hid (HK0.out.below hb1)
  have HB1 := Lib.hid (below_of HB0.out hb1 HB0.out.size)
  clear hb1
  have q0 := HK1.out.cellv (i := 0) rfl
  have q1 := HK1.out.cellv (i := 1) rfl
  have q2 := HK1.out.cellv (i := 2) rfl
  go_wp2_with (fail)
  refine (Day_any y m d w1 (HL.out.below HB1.out)).mono ?_
  rintro e w2 ⟨rfl, hb2⟩
  have HK2 := Lib.hid (HK1.out.below hb2)
  have HB2 := Lib.hid (below_of HB1.out hb2 HB1.out.size)
  have HR := Lib.hid (fun W => rDay_any y m d W)
  unfold DayPost at HR
  obtain ⟨dn, hdn⟩ : ∃ x, Cal.dayN y m d = x := ⟨_, rfl⟩
  obtain ⟨de, hde⟩ : ∃ x, Cal.dayE y m d = x := ⟨_, rfl⟩
  rw [hdn, hde] at HR ⊢
  clear hb2 q0 q1 q2 hdn hde
  have q0 := HK2.out.cellv (i := 0) rfl
  have q1 := HK2.out.cellv (i := 1) rfl
  have q2 := HK2.out.cellv (i := 2) rfl
  go_wp2_with (fail)
  refine (HR.out w2).mono ?_
  rintro e w3 ⟨rfl, hb3⟩
  have HB3 := Lib.hid (below_of HB2.out hb3 HB2.out.size)
  clear hb3 q0 q1 q2
  go_wp2_with (fail)
  refine (Date_any n w3 (HL.out.below HB3.out)).mono ?_
  rintro e w4 ⟨a, b, c, hd1, rfl, hb4⟩
  have HD1 := Lib.hid hd1
  have HB4 := Lib.hid (below_of HB3.out hb4 HB3.out.size)
  have HRd := Lib.hid (fun W => rDate_any n W)
  unfold DatePost at HRd
  have HW1 := Lib.hid (fun W => Weekday_any n W)
  have HW2 := Lib.hid (fun W => rWeekday_any n W)
  have HN1 := Lib.hid (fun W => Next_any n k W)
  have HN2 := Lib.hid (fun W => rNext_any n k W)
  obtain ⟨te, hte⟩ : ∃ x, dateE n = x := ⟨_, rfl⟩
  obtain ⟨x1, hx1⟩ : ∃ x, wdN n = x := ⟨_, rfl⟩
  obtain ⟨x2, hx2⟩ : ∃ x, wdE n = x := ⟨_, rfl⟩
  obtain ⟨x3, hx3⟩ : ∃ x, nextN n k = x := ⟨_, rfl⟩
  obtain ⟨x4, hx4⟩ : ∃ x, nextE n k = x := ⟨_, rfl⟩
  rw [hte] at HRd ⊢
  rw [hx1, hx2] at HW1 HW2
  rw [hx3, hx4] at HN1 HN2
  clear hb4 hd1 hte hx1 hx2 hx3 hx4
  go_upto_region 6 with (fail)
  generalize hge : World.alloc _ _ = w5
  have HC5 := Lib.hid (show Blk w5 w4.heap.size 23 #[.int .i64 a, .int .i64 b, .int .i64 c] by subst hge; exact Blk.new w4 _ _)
  have HB5 := Lib.hid (show Below w.heap.size w w5 by subst hge; exact HB4.out.alloc HB4.out.size _)
  clear hge
  obtain ⟨X4, hX4⟩ : ∃ X, w4.heap.size = X := ⟨_, rfl⟩
  rw [hX4] at HC5 ⊢
  clear hX4
  go_wp2_with (fail)
  refine (HRd.out w5).mono ?_
  rintro e w6 ⟨a', b', c', hd2, rfl, hb6⟩
  obtain ⟨rfl, rfl, rfl⟩ := isDate_one HD1.out hd2
  have HC6 := Lib.hid (HC5.out.below hb6)
  have HB6 := Lib.hid (below_of HB5.out hb6 HB5.out.size)
  clear hb6 hd2
  go_upto_region 7 with (fail)
  generalize hge : World.alloc _ _ = w7
  have HX7 := Lib.hid (show Blk w7 w6.heap.size 23 #[.int .i64 a, .int .i64 b, .int .i64 c] by subst hge; exact Blk.new w6 _ _)
  have HC7 := Lib.hid (show Blk w7 X4 23 #[.int .i64 a, .int .i64 b, .int .i64 c] by subst hge; exact HC6.out.alloc _)
  have HB7 := Lib.hid (show Below w.heap.size w w7 by subst hge; exact HB6.out.alloc HB6.out.size _)
  clear hge
  obtain ⟨X6, hX6⟩ : ∃ X, w6.heap.size = X := ⟨_, rfl⟩
  rw [hX6] at HX7 ⊢
  clear hX6
  go_wp2_with (fail)
  refine (HW1.out w7).mono ?_
  rintro e w' ⟨rfl, rfl⟩
  go_wp2_with (fail)
  refine (HW2.out w7).mono ?_
  rintro e w' ⟨rfl, rfl⟩
  go_wp2_with (fail)
  refine (HN1.out w7).mono ?_
  rintro e w' ⟨rfl, rfl⟩
  go_wp2_with (fail)
  refine (HN2.out w7).mono ?_
  rintro e w' ⟨rfl, rfl⟩
  have q0 := HC7.out.cellv (i := 0) rfl
  have q1 := HC7.out.cellv (i := 1) rfl
  have q2 := HC7.out.cellv (i := 2) rfl
  have p0 := HX7.out.cellv (i := 0) rfl
  have p1 := HX7.out.cellv (i := 1) rfl
  have p2 := HX7.out.cellv (i := 2) rfl
  have hE := fun W => run_eqDt a b c a b c W
  rw [show decide ((a, b, c) = (a, b, c)) = true by simp] at hE
  go_wp2_with (fail)
  go_ret
  exact ⟨rfl, HB7.out⟩
-- the row
theorem calendarDaySpec_own : ownKnob Tryd.prog.godebug = none := by kernel_rfl
theorem calendarDaySpec_laidOut : laidOutB Tryd.prog = true := by kernel_rfl
theorem calendarDaySpec_readable : (Tryd.f3.params.toList.all fun t => Tryd.prog.readableRec t && decide (t < Tryd.prog.types.size)) = true := by kernel_rfl
set_option maxRecDepth 100000 in
theorem calendarDaySpec_lifted (os : Os) (started : os.Started) (H : Type) (enc : TypeId × Value → H) :
    ReturnsInHanded {} Tryd.checked os 3 .any (fun w args => (Rows.calendarDaySpecSpec.pre enc Tryd.prog Tryd.f3 [] false w args ∧ laidMetH Tryd.prog laidL w) ∧ sizedMet enc Tryd.prog Tryd.f3 (OpenSpec.ofChange Rows.calendarDaySpecSpec) false w args) (Rows.calendarDaySpecSpec.post enc Tryd.prog Tryd.f3 false true false false) := by
  refine returnsInHanded_of_change_and (C := Tryd.checked) (X := fun w _ => laidMetH Tryd.prog laidL w) (fun _ _ _ hh h => h.of_heap hh) calendarDaySpec_own started (by kernel_rfl) Tryd.func3
    (ChangeSpec.witness_shaped (enc := enc) (C := Tryd.checked) (os := os) (X := fun w _ => laidMetH Tryd.prog laidL w) false (World.doorLaid Tryd.prog 400 os) #[.agg #[.int .i64 0, .int .i64 0, .int .i64 0], .int .i64 0, .int .i64 0] 8 rfl (World.shaped_of_RefB (by kernel_rfl) (by kernel_rfl)) (by kernel_rfl) (by kernel_rfl) (by kernel_rfl) (door_met os _)) ?_
  intro W base args ds gs before hval0 hW _ _ hL _
  have hval : ∀ (j : Nat) t v, Tryd.f3.params[j]? = some t → args[j]? = some v → Value.okWide Tryd.prog W .any base t v := hval0
  have hW' := hW
  obtain ⟨p, q, hA0, hV, rfl, hfz, hnd⟩ := hW
  have hA : DataW.TrodAll enc Tryd.prog W 0 (fun _ => true) true Tryd.f3.params.toList args.toList ds p := hA0
  rw [Tryd.params3] at hA hval
  obtain ⟨v0, vs0, d0, ds0, p0, q0, hargs, rfl, rfl, h0, r0⟩ := trodAll_cons hA
  obtain ⟨v1, vs1, d1, ds1, p1, q1, rfl, rfl, rfl, h1, r1⟩ := trodAll_cons r0
  obtain ⟨v2, vs2, d2, ds2, p2, q2, rfl, rfl, rfl, h2, r2⟩ := trodAll_cons r1
  obtain ⟨rfl, rfl, rfl⟩ := trodAll_nil r2
  obtain rfl : args = #[v0, v1, v2] := by cases args; simp_all
  obtain ⟨rfl, rfl⟩ := trodVars_none hV
  obtain ⟨y0, m0, e0, rfl, wy0, wm0, we0⟩ := open_date (hval 0 23 v0 rfl rfl) h0
  obtain ⟨a1, rfl, rfl, rfl, w1⟩ := open_int Tryd.underlying3 (hval 1 3 v1 rfl rfl) h1
  obtain ⟨a2, rfl, rfl, rfl, w2⟩ := open_int Tryd.underlying3 (hval 2 3 v2 rfl rfl) h2
  refine (CalendarDaySpec_walk W (lens_of_laid hL) y0 m0 e0 wy0 wm0 we0 a1 w1 a2 w2).mono fun e W' ⟨he, hb⟩ => ?_
  subst he
  simp only [List.append_nil] at hW'
  refine ⟨_, rfl, law_post calendarDaySpec_laidOut ?_ (by kernel_rfl) Tryd.underlying4 rfl hW' rfl rfl rfl hb⟩
  intro t ht
  have hr := List.all_eq_true.1 calendarDaySpec_readable t ht
  rw [Bool.and_eq_true] at hr
  exact ⟨hr.1, of_decide_eq_true hr.2⟩
theorem calendarDaySpec_over : Rows.calendarDaySpecRow.holds Tryd.pinned (OpenSpec.ofChange Rows.calendarDaySpecSpec) :=
  OpenClaim.holds_of_wide 3 Tryd.f3 rfl rfl rfl rfl rfl rfl rfl ⟨rfl, rfl, rfl, rfl, rfl⟩ rfl rfl rfl rfl rfl (by kernel_rfl) Tryd.func3 (by kernel_rfl)
    (of_decide_eq_true (by kernel_rfl)) (by unfold Func.isWrapper; rw [if_neg (of_decide_eq_false (by kernel_rfl))]; exact ⟨rfl, rfl⟩)
    (fun os started H enc _ => calendarDaySpec_lifted os started H enc)
theorem calendarDaySpec_proved : Rows.CalendarDaySpecCardSaid :=
  Claim7.holds_tied_plain_at .later [] [.data] true (true, "ecf52cd2f0e00eeb5a9e4ad7f568b0262762c417b538ca74502acb76cf8551ff") false
    calendarDaySpec_over (fun _ h => by cases h) (by kernel_rfl) (fun _ h => by cases h) calendarDaySpec_row_tie rfl ⟨rfl, rfl⟩ (by kernel_rfl) rfl
    (fun f fn hf hfn => by
      obtain rfl : f = 3 := Option.some.inj ((show Tryd.prog.funcNamed Rows.calendarDaySpecRow.func = some 3 by kernel_rfl).symm.trans hf) |>.symm
      obtain rfl : fn = Tryd.f3 := (Option.some.inj (Tryd.func3.symm.trans hfn)).symm
      exact ⟨by kernel_rfl, fun j t ht => by
        rw [Tryd.params3] at ht
        have hm : t ∈ [23, 3, 3] := by simpa using Array.mem_of_getElem? ht
        have hall : ([23, 3, 3].all fun u => !Tryd.prog.wantsStandIn u) = true := by kernel_rfl
        exact (show Tryd.prog.wantsStandIn t = false by simpa using List.all_eq_true.1 hall t hm)⟩)
    (by kernel_rfl)
#print axioms calendarDaySpec_proved
end Go.Proofs.YtlijdbgknbeefaaDoor
