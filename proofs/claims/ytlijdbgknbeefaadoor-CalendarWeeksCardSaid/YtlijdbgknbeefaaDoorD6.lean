/- The statement CalendarWeeksCardSaid: weeks have seven days, the next day of a week is reached within six days, the calendar repeats after 400 years; no condition beside the row's own (the table of the months' lengths, tied by the given card). -/
import Derived.Test.YtlijdbgknbeefaaDoorCalW
namespace Go.Proofs.YtlijdbgknbeefaaDoor
open Go.RowKit Go.WideShapes Go.ChangeShapes Go.ChangeAt
theorem wd_yes {n : Int} (h : 0 ≤ n ∧ n ≤ 1048576) : wdN n = (n + 5) % 7 ∧ wdE n = 0 := by
  unfold wdN wdE; rw [if_pos ((validB_iff n).2 h), if_pos ((validB_iff n).2 h)]; exact ⟨rfl, rfl⟩
theorem wd_no {n : Int} (h : ¬ (0 ≤ n ∧ n ≤ 1048576)) : wdN n = 0 ∧ wdE n = 10 := by
  unfold wdN wdE; rw [(validB_false n).2 h]; exact ⟨rfl, rfl⟩
theorem nx_no {n k : Int} (h : ¬ (0 ≤ n ∧ n ≤ 1048576)) : nextN n k = 0 ∧ nextE n k = 10 := by
  unfold nextN nextE; rw [(validB_false n).2 h]; exact ⟨rfl, rfl⟩
theorem nx_yes {n k : Int} (h : 0 ≤ n ∧ n + 6 ≤ 1048576) (h0 : 0 ≤ k) (h6 : k ≤ 6) : nextN n k = nxt n k ∧ nextE n k = 0 := by
  have hs := nxt_spec n k h0 h6
  have v1 : validB n = true := (validB_iff n).2 ⟨h.1, by omega⟩
  have v2 : validB (nxt n k) = true := (validB_iff _).2 ⟨by omega, by omega⟩
  unfold nextN nextE
  rw [v1, v2]
  simp [h0, h6]
theorem isDate_yes {n y m d : Int} (hn : 0 ≤ n ∧ n ≤ 1048576) (h : IsDate n y m d) : Cal.ok y m d ∧ Cal.num y m d = n := by
  unfold IsDate at h; rwa [if_pos ((validB_iff n).2 hn)] at h
def RetW (x v e : Int) : Prop := ∀ W, Calls Tryd.prog 15 #[.int .i64 x] W fun e' w' => e' = .returned (.tuple #[.int .i64 v, .int .i64 e]) ∧ W = w'
def RetN (n k v e : Int) : Prop := ∀ W, Calls Tryd.prog 17 #[.int .i64 n, .int .i64 k] W fun e' w' => e' = .returned (.tuple #[.int .i64 v, .int .i64 e]) ∧ W = w'
theorem retW_yes {n : Int} (h : 0 ≤ n ∧ n ≤ 1048576) : RetW n ((n + 5) % 7) 0 := fun W => by have := Weekday_any n W; rwa [(wd_yes h).1, (wd_yes h).2] at this
theorem retW_no {n : Int} (h : ¬ (0 ≤ n ∧ n ≤ 1048576)) : RetW n 0 10 := fun W => by have := Weekday_any n W; rwa [(wd_no h).1, (wd_no h).2] at this
set_option linter.unusedVariables false
set_option linter.unusedSimpArgs false

set_option maxRecDepth 100000 in
set_option maxHeartbeats 4000000 in
theorem weeks_a_yes (w : World) (hL : Lens w) (n k c x3 x4 : Int) (hn0 : 0 ≤ n) (hn1 : n ≤ 1048576) (hc0 : 0 ≤ c) (hc7 : c < 7) (HW00 : RetW n c 0) (HN0 : RetN n k x3 0) (HW70 : RetW (n + 7) c 0) (HW10 : RetW (n + 1) ((c + 1) % 7) 0) (HWx0 : RetW x3 k 0) (s1 : n ≤ x3) (s2 : x3 ≤ n + 6) (g0 : decide (0 ≤ k) = true) (g1 : decide (k ≤ 6) = true) (g2 : decide (n + 6 ≤ 1048576) = true) :
    Calls Tryd.prog 6 #[.int .i64 n, .int .i64 k] w (Fine w) := by
  have HL := Lib.hid hL
  have HW0 := Lib.hid (show ∀ W, _ from HW00)
  have HN := Lib.hid (show ∀ W, _ from HN0)
  have HW7 := Lib.hid (show ∀ W, _ from HW70)
  have HW1 := Lib.hid (show ∀ W, _ from HW10)
  have HWx := Lib.hid (show ∀ W, _ from HWx0)
  clear HWx0
  clear hL HW00 HN0 HW70 HW10
  have b1 : decide (n < 0) = false := by simp; omega
  have b2 : decide (1048576 < n) = false := by simp; omega
  have b3 : decide (c < 0) = false := by simp; omega
  have b4 : decide (6 < c) = false := by simp; omega
  have b5 : decide (x3 < n) = false := by simp; omega
  have b6 : decide (n + 6 < x3) = false := by simp; omega
  go_enter Tryd.func6, Tryd.ntmps6
  go_wp2_with (fail)
  refine (csane_any w HL.out).mono ?_
  rintro e w1 ⟨rfl, hb1⟩
  have HB1 := Lib.hid hb1
  clear hb1
  go_wp2_with (fail)
  refine (HW0.out w1).mono ?_
  rintro e w' ⟨rfl, rfl⟩
  go_wp2_with (fail)
  refine (HN.out w1).mono ?_
  rintro e w' ⟨rfl, rfl⟩
  go_wp2_with (fail)
  refine (HW7.out w1).mono ?_
  rintro e w' ⟨rfl, rfl⟩
  go_wp2_with (fail)
  refine (HW1.out w1).mono ?_
  rintro e w' ⟨rfl, rfl⟩
  go_upto_region 15 with (fail)
  go_wp2_with (fail)
  refine (HWx.out w1).mono ?_
  rintro e w' ⟨rfl, rfl⟩
  go_upto_region 19 with (fail)
  by_cases hf : 1048576 < n + 146097
  · have hfb : decide (1048576 < n + 146097) = true := by simpa using hf
    go_wp2_with (fail)
    go_ret
    exact ⟨rfl, HB1.out⟩
  · have hfb : decide (1048576 < n + 146097) = false := by simpa using hf
    go_wp2_with (fail)
    refine (Date_any n w1 (HL.out.below HB1.out)).mono ?_
    rintro e w2 ⟨a, b, d, hd1, rfl, hb2⟩
    obtain ⟨hok1, hnum1⟩ := isDate_yes ⟨hn0, hn1⟩ hd1
    obtain ⟨hok2, hnum2⟩ := Cal.cycle_ok hok1 (by rw [hnum1]; omega)
    have HD := Lib.hid (fun u1 u2 u3 (h : IsDate (n + 146097) u1 u2 u3) => isDate_one h (show IsDate (n + 146097) (a + 400) b d by unfold IsDate; rw [if_pos ((validB_iff _).2 ⟨by omega, by omega⟩)]; exact ⟨hok2, by rw [hnum2, hnum1]⟩))
    have ha := Cal.ok_year hok1
    have ha2 := hok1.1
    rw [show dateE n = 0 by unfold dateE; rw [if_pos ((validB_iff n).2 ⟨hn0, hn1⟩)]]
    have HB2 := Lib.hid (below_of HB1.out hb2 HB1.out.size)
    clear hb2 hd1 hok1 hnum1 hok2 hnum2
    go_upto_region 22 with (fail)
    generalize hge : World.alloc _ _ = w3
    have HX3 := Lib.hid (show Blk w3 w2.heap.size 23 #[.int .i64 a, .int .i64 b, .int .i64 d] by subst hge; exact Blk.new w2 _ _)
    have HB3 := Lib.hid (show Below w.heap.size w w3 by subst hge; exact HB2.out.alloc HB2.out.size _)
    clear hge
    have HX3l0 := HB2.out.size
    obtain ⟨X3, hX3⟩ : ∃ X, w2.heap.size = X := ⟨_, rfl⟩
    rw [hX3] at HX3 HX3l0 ⊢
    have HX3l := Lib.hid HX3l0
    clear HX3l0
    clear hX3
    go_wp2_with (fail)
    refine (Date_any (n + 146097) w3 (HL.out.below HB3.out)).mono ?_
    rintro e w4 ⟨a2, b2, d2, hd2, rfl, hb4⟩
    obtain ⟨rfl, rfl, rfl⟩ := HD.out _ _ _ hd2
    rw [show dateE (n + 146097) = 0 by unfold dateE; rw [if_pos ((validB_iff _).2 ⟨by omega, by omega⟩)]]
    have HX4 := Lib.hid (HX3.out.below hb4)
    have HB4 := Lib.hid (below_of HB3.out hb4 HB3.out.size)
    clear hb4 hd2
    have hx := Lib.hid HX4.out.lt
    go_upto_region 23 with (fail)
    generalize hge : World.alloc _ _ = w5
    have HY5 := Lib.hid (show Blk w5 w4.heap.size 23 #[.int .i64 (a + 400), .int .i64 b2, .int .i64 d2] by subst hge; exact Blk.new w4 _ _)
    have HX5 := Lib.hid (show Blk w5 X3 23 #[.int .i64 a, .int .i64 b2, .int .i64 d2] by subst hge; exact HX4.out.alloc _)
    have HB5 := Lib.hid (show Below w.heap.size w w5 by subst hge; exact HB4.out.alloc HB4.out.size _)
    clear hge
    obtain ⟨Y4, hY4⟩ : ∃ X, w4.heap.size = X := ⟨_, rfl⟩
    rw [hY4] at HY5 hx ⊢
    clear hY4
    have q0 := HX5.out.cellv (i := 0) rfl
    have f0 := HX5.out.frozen 0
    go_upto_region 24 with (fail)
    generalize hge : World.setCell _ _ _ = w6
    have HX6 := Lib.hid (show Blk w6 X3 23 #[.int .i64 (a + 400), .int .i64 b2, .int .i64 d2] by subst hge; exact HX5.out.set_ 0 _)
    have HY6 := Lib.hid (show Blk w6 Y4 23 #[.int .i64 (a + 400), .int .i64 b2, .int .i64 d2] by subst hge; exact HY5.out.far (Nat.ne_of_gt hx.out) _)
    have HB6 := Lib.hid (show Below w.heap.size w w6 by subst hge; exact HB5.out.setCell (p := ⟨X3, 0, none⟩) HX3l.out _)
    clear hge q0 f0
    have q0 := HX6.out.cellv (i := 0) rfl
    have q1 := HX6.out.cellv (i := 1) rfl
    have q2 := HX6.out.cellv (i := 2) rfl
    have p0 := HY6.out.cellv (i := 0) rfl
    have p1 := HY6.out.cellv (i := 1) rfl
    have p2 := HY6.out.cellv (i := 2) rfl
    have hE := fun W => run_eqDt (a + 400) b2 d2 (a + 400) b2 d2 W
    rw [show decide ((a + 400, b2, d2) = (a + 400, b2, d2)) = true by simp] at hE
    go_wp2_with (fail)
    go_ret
    exact ⟨rfl, HB6.out⟩
set_option maxRecDepth 100000 in
set_option maxHeartbeats 4000000 in
theorem weeks_a_neg (w : World) (hL : Lens w) (n k c x3 x4 : Int) (hn0 : 0 ≤ n) (hn1 : n ≤ 1048576) (hc0 : 0 ≤ c) (hc7 : c < 7) (HW00 : RetW n c 0) (HN0 : RetN n k x3 x4) (HW70 : RetW (n + 7) c 0) (HW10 : RetW (n + 1) ((c + 1) % 7) 0) (g0 : decide (0 ≤ k) = false) :
    Calls Tryd.prog 6 #[.int .i64 n, .int .i64 k] w (Fine w) := by
  have HL := Lib.hid hL
  have HW0 := Lib.hid (show ∀ W, _ from HW00)
  have HN := Lib.hid (show ∀ W, _ from HN0)
  have HW7 := Lib.hid (show ∀ W, _ from HW70)
  have HW1 := Lib.hid (show ∀ W, _ from HW10)
  clear hL HW00 HN0 HW70 HW10
  have b1 : decide (n < 0) = false := by simp; omega
  have b2 : decide (1048576 < n) = false := by simp; omega
  have b3 : decide (c < 0) = false := by simp; omega
  have b4 : decide (6 < c) = false := by simp; omega
  go_enter Tryd.func6, Tryd.ntmps6
  go_wp2_with (fail)
  refine (csane_any w HL.out).mono ?_
  rintro e w1 ⟨rfl, hb1⟩
  have HB1 := Lib.hid hb1
  clear hb1
  go_wp2_with (fail)
  refine (HW0.out w1).mono ?_
  rintro e w' ⟨rfl, rfl⟩
  go_wp2_with (fail)
  refine (HN.out w1).mono ?_
  rintro e w' ⟨rfl, rfl⟩
  go_wp2_with (fail)
  refine (HW7.out w1).mono ?_
  rintro e w' ⟨rfl, rfl⟩
  go_wp2_with (fail)
  refine (HW1.out w1).mono ?_
  rintro e w' ⟨rfl, rfl⟩
  go_upto_region 15 with (fail)
  go_upto_region 19 with (fail)
  by_cases hf : 1048576 < n + 146097
  · have hfb : decide (1048576 < n + 146097) = true := by simpa using hf
    go_wp2_with (fail)
    go_ret
    exact ⟨rfl, HB1.out⟩
  · have hfb : decide (1048576 < n + 146097) = false := by simpa using hf
    go_wp2_with (fail)
    refine (Date_any n w1 (HL.out.below HB1.out)).mono ?_
    rintro e w2 ⟨a, b, d, hd1, rfl, hb2⟩
    obtain ⟨hok1, hnum1⟩ := isDate_yes ⟨hn0, hn1⟩ hd1
    obtain ⟨hok2, hnum2⟩ := Cal.cycle_ok hok1 (by rw [hnum1]; omega)
    have HD := Lib.hid (fun u1 u2 u3 (h : IsDate (n + 146097) u1 u2 u3) => isDate_one h (show IsDate (n + 146097) (a + 400) b d by unfold IsDate; rw [if_pos ((validB_iff _).2 ⟨by omega, by omega⟩)]; exact ⟨hok2, by rw [hnum2, hnum1]⟩))
    have ha := Cal.ok_year hok1
    have ha2 := hok1.1
    rw [show dateE n = 0 by unfold dateE; rw [if_pos ((validB_iff n).2 ⟨hn0, hn1⟩)]]
    have HB2 := Lib.hid (below_of HB1.out hb2 HB1.out.size)
    clear hb2 hd1 hok1 hnum1 hok2 hnum2
    go_upto_region 22 with (fail)
    generalize hge : World.alloc _ _ = w3
    have HX3 := Lib.hid (show Blk w3 w2.heap.size 23 #[.int .i64 a, .int .i64 b, .int .i64 d] by subst hge; exact Blk.new w2 _ _)
    have HB3 := Lib.hid (show Below w.heap.size w w3 by subst hge; exact HB2.out.alloc HB2.out.size _)
    clear hge
    have HX3l0 := HB2.out.size
    obtain ⟨X3, hX3⟩ : ∃ X, w2.heap.size = X := ⟨_, rfl⟩
    rw [hX3] at HX3 HX3l0 ⊢
    have HX3l := Lib.hid HX3l0
    clear HX3l0
    clear hX3
    go_wp2_with (fail)
    refine (Date_any (n + 146097) w3 (HL.out.below HB3.out)).mono ?_
    rintro e w4 ⟨a2, b2, d2, hd2, rfl, hb4⟩
    obtain ⟨rfl, rfl, rfl⟩ := HD.out _ _ _ hd2
    rw [show dateE (n + 146097) = 0 by unfold dateE; rw [if_pos ((validB_iff _).2 ⟨by omega, by omega⟩)]]
    have HX4 := Lib.hid (HX3.out.below hb4)
    have HB4 := Lib.hid (below_of HB3.out hb4 HB3.out.size)
    clear hb4 hd2
    have hx := Lib.hid HX4.out.lt
    go_upto_region 23 with (fail)
    generalize hge : World.alloc _ _ = w5
    have HY5 := Lib.hid (show Blk w5 w4.heap.size 23 #[.int .i64 (a + 400), .int .i64 b2, .int .i64 d2] by subst hge; exact Blk.new w4 _ _)
    have HX5 := Lib.hid (show Blk w5 X3 23 #[.int .i64 a, .int .i64 b2, .int .i64 d2] by subst hge; exact HX4.out.alloc _)
    have HB5 := Lib.hid (show Below w.heap.size w w5 by subst hge; exact HB4.out.alloc HB4.out.size _)
    clear hge
    obtain ⟨Y4, hY4⟩ : ∃ X, w4.heap.size = X := ⟨_, rfl⟩
    rw [hY4] at HY5 hx ⊢
    clear hY4
    have q0 := HX5.out.cellv (i := 0) rfl
    have f0 := HX5.out.frozen 0
    go_upto_region 24 with (fail)
    generalize hge : World.setCell _ _ _ = w6
    have HX6 := Lib.hid (show Blk w6 X3 23 #[.int .i64 (a + 400), .int .i64 b2, .int .i64 d2] by subst hge; exact HX5.out.set_ 0 _)
    have HY6 := Lib.hid (show Blk w6 Y4 23 #[.int .i64 (a + 400), .int .i64 b2, .int .i64 d2] by subst hge; exact HY5.out.far (Nat.ne_of_gt hx.out) _)
    have HB6 := Lib.hid (show Below w.heap.size w w6 by subst hge; exact HB5.out.setCell (p := ⟨X3, 0, none⟩) HX3l.out _)
    clear hge q0 f0
    have q0 := HX6.out.cellv (i := 0) rfl
    have q1 := HX6.out.cellv (i := 1) rfl
    have q2 := HX6.out.cellv (i := 2) rfl
    have p0 := HY6.out.cellv (i := 0) rfl
    have p1 := HY6.out.cellv (i := 1) rfl
    have p2 := HY6.out.cellv (i := 2) rfl
    have hE := fun W => run_eqDt (a + 400) b2 d2 (a + 400) b2 d2 W
    rw [show decide ((a + 400, b2, d2) = (a + 400, b2, d2)) = true by simp] at hE
    go_wp2_with (fail)
    go_ret
    exact ⟨rfl, HB6.out⟩
set_option maxRecDepth 100000 in
set_option maxHeartbeats 4000000 in
theorem weeks_a_big (w : World) (hL : Lens w) (n k c x3 x4 : Int) (hn0 : 0 ≤ n) (hn1 : n ≤ 1048576) (hc0 : 0 ≤ c) (hc7 : c < 7) (HW00 : RetW n c 0) (HN0 : RetN n k x3 x4) (HW70 : RetW (n + 7) c 0) (HW10 : RetW (n + 1) ((c + 1) % 7) 0) (g0 : decide (0 ≤ k) = true) (g1 : decide (k ≤ 6) = false) :
    Calls Tryd.prog 6 #[.int .i64 n, .int .i64 k] w (Fine w) := by
  have HL := Lib.hid hL
  have HW0 := Lib.hid (show ∀ W, _ from HW00)
  have HN := Lib.hid (show ∀ W, _ from HN0)
  have HW7 := Lib.hid (show ∀ W, _ from HW70)
  have HW1 := Lib.hid (show ∀ W, _ from HW10)
  clear hL HW00 HN0 HW70 HW10
  have b1 : decide (n < 0) = false := by simp; omega
  have b2 : decide (1048576 < n) = false := by simp; omega
  have b3 : decide (c < 0) = false := by simp; omega
  have b4 : decide (6 < c) = false := by simp; omega
  go_enter Tryd.func6, Tryd.ntmps6
  go_wp2_with (fail)
  refine (csane_any w HL.out).mono ?_
  rintro e w1 ⟨rfl, hb1⟩
  have HB1 := Lib.hid hb1
  clear hb1
  go_wp2_with (fail)
  refine (HW0.out w1).mono ?_
  rintro e w' ⟨rfl, rfl⟩
  go_wp2_with (fail)
  refine (HN.out w1).mono ?_
  rintro e w' ⟨rfl, rfl⟩
  go_wp2_with (fail)
  refine (HW7.out w1).mono ?_
  rintro e w' ⟨rfl, rfl⟩
  go_wp2_with (fail)
  refine (HW1.out w1).mono ?_
  rintro e w' ⟨rfl, rfl⟩
  go_upto_region 15 with (fail)
  go_upto_region 19 with (fail)
  by_cases hf : 1048576 < n + 146097
  · have hfb : decide (1048576 < n + 146097) = true := by simpa using hf
    go_wp2_with (fail)
    go_ret
    exact ⟨rfl, HB1.out⟩
  · have hfb : decide (1048576 < n + 146097) = false := by simpa using hf
    go_wp2_with (fail)
    refine (Date_any n w1 (HL.out.below HB1.out)).mono ?_
    rintro e w2 ⟨a, b, d, hd1, rfl, hb2⟩
    obtain ⟨hok1, hnum1⟩ := isDate_yes ⟨hn0, hn1⟩ hd1
    obtain ⟨hok2, hnum2⟩ := Cal.cycle_ok hok1 (by rw [hnum1]; omega)
    have HD := Lib.hid (fun u1 u2 u3 (h : IsDate (n + 146097) u1 u2 u3) => isDate_one h (show IsDate (n + 146097) (a + 400) b d by unfold IsDate; rw [if_pos ((validB_iff _).2 ⟨by omega, by omega⟩)]; exact ⟨hok2, by rw [hnum2, hnum1]⟩))
    have ha := Cal.ok_year hok1
    have ha2 := hok1.1
    rw [show dateE n = 0 by unfold dateE; rw [if_pos ((validB_iff n).2 ⟨hn0, hn1⟩)]]
    have HB2 := Lib.hid (below_of HB1.out hb2 HB1.out.size)
    clear hb2 hd1 hok1 hnum1 hok2 hnum2
    go_upto_region 22 with (fail)
    generalize hge : World.alloc _ _ = w3
    have HX3 := Lib.hid (show Blk w3 w2.heap.size 23 #[.int .i64 a, .int .i64 b, .int .i64 d] by subst hge; exact Blk.new w2 _ _)
    have HB3 := Lib.hid (show Below w.heap.size w w3 by subst hge; exact HB2.out.alloc HB2.out.size _)
    clear hge
    have HX3l0 := HB2.out.size
    obtain ⟨X3, hX3⟩ : ∃ X, w2.heap.size = X := ⟨_, rfl⟩
    rw [hX3] at HX3 HX3l0 ⊢
    have HX3l := Lib.hid HX3l0
    clear HX3l0
    clear hX3
    go_wp2_with (fail)
    refine (Date_any (n + 146097) w3 (HL.out.below HB3.out)).mono ?_
    rintro e w4 ⟨a2, b2, d2, hd2, rfl, hb4⟩
    obtain ⟨rfl, rfl, rfl⟩ := HD.out _ _ _ hd2
    rw [show dateE (n + 146097) = 0 by unfold dateE; rw [if_pos ((validB_iff _).2 ⟨by omega, by omega⟩)]]
    have HX4 := Lib.hid (HX3.out.below hb4)
    have HB4 := Lib.hid (below_of HB3.out hb4 HB3.out.size)
    clear hb4 hd2
    have hx := Lib.hid HX4.out.lt
    go_upto_region 23 with (fail)
    generalize hge : World.alloc _ _ = w5
    have HY5 := Lib.hid (show Blk w5 w4.heap.size 23 #[.int .i64 (a + 400), .int .i64 b2, .int .i64 d2] by subst hge; exact Blk.new w4 _ _)
    have HX5 := Lib.hid (show Blk w5 X3 23 #[.int .i64 a, .int .i64 b2, .int .i64 d2] by subst hge; exact HX4.out.alloc _)
    have HB5 := Lib.hid (show Below w.heap.size w w5 by subst hge; exact HB4.out.alloc HB4.out.size _)
    clear hge
    obtain ⟨Y4, hY4⟩ : ∃ X, w4.heap.size = X := ⟨_, rfl⟩
    rw [hY4] at HY5 hx ⊢
    clear hY4
    have q0 := HX5.out.cellv (i := 0) rfl
    have f0 := HX5.out.frozen 0
    go_upto_region 24 with (fail)
    generalize hge : World.setCell _ _ _ = w6
    have HX6 := Lib.hid (show Blk w6 X3 23 #[.int .i64 (a + 400), .int .i64 b2, .int .i64 d2] by subst hge; exact HX5.out.set_ 0 _)
    have HY6 := Lib.hid (show Blk w6 Y4 23 #[.int .i64 (a + 400), .int .i64 b2, .int .i64 d2] by subst hge; exact HY5.out.far (Nat.ne_of_gt hx.out) _)
    have HB6 := Lib.hid (show Below w.heap.size w w6 by subst hge; exact HB5.out.setCell (p := ⟨X3, 0, none⟩) HX3l.out _)
    clear hge q0 f0
    have q0 := HX6.out.cellv (i := 0) rfl
    have q1 := HX6.out.cellv (i := 1) rfl
    have q2 := HX6.out.cellv (i := 2) rfl
    have p0 := HY6.out.cellv (i := 0) rfl
    have p1 := HY6.out.cellv (i := 1) rfl
    have p2 := HY6.out.cellv (i := 2) rfl
    have hE := fun W => run_eqDt (a + 400) b2 d2 (a + 400) b2 d2 W
    rw [show decide ((a + 400, b2, d2) = (a + 400, b2, d2)) = true by simp] at hE
    go_wp2_with (fail)
    go_ret
    exact ⟨rfl, HB6.out⟩
set_option maxRecDepth 100000 in
set_option maxHeartbeats 4000000 in
theorem weeks_b_yes (w : World) (hL : Lens w) (n k c x3 x4 : Int) (hn0 : 0 ≤ n) (hn1 : n ≤ 1048576) (hc0 : 0 ≤ c) (hc7 : c < 7) (HW00 : RetW n c 0) (HN0 : RetN n k x3 0) (HW70 : RetW (n + 7) 0 10) (HW10 : RetW (n + 1) ((c + 1) % 7) 0) (HWx0 : RetW x3 k 0) (s1 : n ≤ x3) (s2 : x3 ≤ n + 6) (g0 : decide (0 ≤ k) = true) (g1 : decide (k ≤ 6) = true) (g2 : decide (n + 6 ≤ 1048576) = true) :
    Calls Tryd.prog 6 #[.int .i64 n, .int .i64 k] w (Fine w) := by
  have HL := Lib.hid hL
  have HW0 := Lib.hid (show ∀ W, _ from HW00)
  have HN := Lib.hid (show ∀ W, _ from HN0)
  have HW7 := Lib.hid (show ∀ W, _ from HW70)
  have HW1 := Lib.hid (show ∀ W, _ from HW10)
  have HWx := Lib.hid (show ∀ W, _ from HWx0)
  clear HWx0
  clear hL HW00 HN0 HW70 HW10
  have b1 : decide (n < 0) = false := by simp; omega
  have b2 : decide (1048576 < n) = false := by simp; omega
  have b3 : decide (c < 0) = false := by simp; omega
  have b4 : decide (6 < c) = false := by simp; omega
  have b5 : decide (x3 < n) = false := by simp; omega
  have b6 : decide (n + 6 < x3) = false := by simp; omega
  go_enter Tryd.func6, Tryd.ntmps6
  go_wp2_with (fail)
  refine (csane_any w HL.out).mono ?_
  rintro e w1 ⟨rfl, hb1⟩
  have HB1 := Lib.hid hb1
  clear hb1
  go_wp2_with (fail)
  refine (HW0.out w1).mono ?_
  rintro e w' ⟨rfl, rfl⟩
  go_wp2_with (fail)
  refine (HN.out w1).mono ?_
  rintro e w' ⟨rfl, rfl⟩
  go_wp2_with (fail)
  refine (HW7.out w1).mono ?_
  rintro e w' ⟨rfl, rfl⟩
  go_wp2_with (fail)
  refine (HW1.out w1).mono ?_
  rintro e w' ⟨rfl, rfl⟩
  go_upto_region 15 with (fail)
  go_wp2_with (fail)
  refine (HWx.out w1).mono ?_
  rintro e w' ⟨rfl, rfl⟩
  go_upto_region 19 with (fail)
  by_cases hf : 1048576 < n + 146097
  · have hfb : decide (1048576 < n + 146097) = true := by simpa using hf
    go_wp2_with (fail)
    go_ret
    exact ⟨rfl, HB1.out⟩
  · have hfb : decide (1048576 < n + 146097) = false := by simpa using hf
    go_wp2_with (fail)
    refine (Date_any n w1 (HL.out.below HB1.out)).mono ?_
    rintro e w2 ⟨a, b, d, hd1, rfl, hb2⟩
    obtain ⟨hok1, hnum1⟩ := isDate_yes ⟨hn0, hn1⟩ hd1
    obtain ⟨hok2, hnum2⟩ := Cal.cycle_ok hok1 (by rw [hnum1]; omega)
    have HD := Lib.hid (fun u1 u2 u3 (h : IsDate (n + 146097) u1 u2 u3) => isDate_one h (show IsDate (n + 146097) (a + 400) b d by unfold IsDate; rw [if_pos ((validB_iff _).2 ⟨by omega, by omega⟩)]; exact ⟨hok2, by rw [hnum2, hnum1]⟩))
    have ha := Cal.ok_year hok1
    have ha2 := hok1.1
    rw [show dateE n = 0 by unfold dateE; rw [if_pos ((validB_iff n).2 ⟨hn0, hn1⟩)]]
    have HB2 := Lib.hid (below_of HB1.out hb2 HB1.out.size)
    clear hb2 hd1 hok1 hnum1 hok2 hnum2
    go_upto_region 22 with (fail)
    generalize hge : World.alloc _ _ = w3
    have HX3 := Lib.hid (show Blk w3 w2.heap.size 23 #[.int .i64 a, .int .i64 b, .int .i64 d] by subst hge; exact Blk.new w2 _ _)
    have HB3 := Lib.hid (show Below w.heap.size w w3 by subst hge; exact HB2.out.alloc HB2.out.size _)
    clear hge
    have HX3l0 := HB2.out.size
    obtain ⟨X3, hX3⟩ : ∃ X, w2.heap.size = X := ⟨_, rfl⟩
    rw [hX3] at HX3 HX3l0 ⊢
    have HX3l := Lib.hid HX3l0
    clear HX3l0
    clear hX3
    go_wp2_with (fail)
    refine (Date_any (n + 146097) w3 (HL.out.below HB3.out)).mono ?_
    rintro e w4 ⟨a2, b2, d2, hd2, rfl, hb4⟩
    obtain ⟨rfl, rfl, rfl⟩ := HD.out _ _ _ hd2
    rw [show dateE (n + 146097) = 0 by unfold dateE; rw [if_pos ((validB_iff _).2 ⟨by omega, by omega⟩)]]
    have HX4 := Lib.hid (HX3.out.below hb4)
    have HB4 := Lib.hid (below_of HB3.out hb4 HB3.out.size)
    clear hb4 hd2
    have hx := Lib.hid HX4.out.lt
    go_upto_region 23 with (fail)
    generalize hge : World.alloc _ _ = w5
    have HY5 := Lib.hid (show Blk w5 w4.heap.size 23 #[.int .i64 (a + 400), .int .i64 b2, .int .i64 d2] by subst hge; exact Blk.new w4 _ _)
    have HX5 := Lib.hid (show Blk w5 X3 23 #[.int .i64 a, .int .i64 b2, .int .i64 d2] by subst hge; exact HX4.out.alloc _)
    have HB5 := Lib.hid (show Below w.heap.size w w5 by subst hge; exact HB4.out.alloc HB4.out.size _)
    clear hge
    obtain ⟨Y4, hY4⟩ : ∃ X, w4.heap.size = X := ⟨_, rfl⟩
    rw [hY4] at HY5 hx ⊢
    clear hY4
    have q0 := HX5.out.cellv (i := 0) rfl
    have f0 := HX5.out.frozen 0
    go_upto_region 24 with (fail)
    generalize hge : World.setCell _ _ _ = w6
    have HX6 := Lib.hid (show Blk w6 X3 23 #[.int .i64 (a + 400), .int .i64 b2, .int .i64 d2] by subst hge; exact HX5.out.set_ 0 _)
    have HY6 := Lib.hid (show Blk w6 Y4 23 #[.int .i64 (a + 400), .int .i64 b2, .int .i64 d2] by subst hge; exact HY5.out.far (Nat.ne_of_gt hx.out) _)
    have HB6 := Lib.hid (show Below w.heap.size w w6 by subst hge; exact HB5.out.setCell (p := ⟨X3, 0, none⟩) HX3l.out _)
    clear hge q0 f0
    have q0 := HX6.out.cellv (i := 0) rfl
    have q1 := HX6.out.cellv (i := 1) rfl
    have q2 := HX6.out.cellv (i := 2) rfl
    have p0 := HY6.out.cellv (i := 0) rfl
    have p1 := HY6.out.cellv (i := 1) rfl
    have p2 := HY6.out.cellv (i := 2) rfl
    have hE := fun W => run_eqDt (a + 400) b2 d2 (a + 400) b2 d2 W
    rw [show decide ((a + 400, b2, d2) = (a + 400, b2, d2)) = true by simp] at hE
    go_wp2_with (fail)
    go_ret
    exact ⟨rfl, HB6.out⟩
set_option maxRecDepth 100000 in
set_option maxHeartbeats 4000000 in
theorem weeks_b_neg (w : World) (hL : Lens w) (n k c x3 x4 : Int) (hn0 : 0 ≤ n) (hn1 : n ≤ 1048576) (hc0 : 0 ≤ c) (hc7 : c < 7) (HW00 : RetW n c 0) (HN0 : RetN n k x3 x4) (HW70 : RetW (n + 7) 0 10) (HW10 : RetW (n + 1) ((c + 1) % 7) 0) (g0 : decide (0 ≤ k) = false) :
    Calls Tryd.prog 6 #[.int .i64 n, .int .i64 k] w (Fine w) := by
  have HL := Lib.hid hL
  have HW0 := Lib.hid (show ∀ W, _ from HW00)
  have HN := Lib.hid (show ∀ W, _ from HN0)
  have HW7 := Lib.hid (show ∀ W, _ from HW70)
  have HW1 := Lib.hid (show ∀ W, _ from HW10)
  clear hL HW00 HN0 HW70 HW10
  have b1 : decide (n < 0) = false := by simp; omega
  have b2 : decide (1048576 < n) = false := by simp; omega
  have b3 : decide (c < 0) = false := by simp; omega
  have b4 : decide (6 < c) = false := by simp; omega
  go_enter Tryd.func6, Tryd.ntmps6
  go_wp2_with (fail)
  refine (csane_any w HL.out).mono ?_
  rintro e w1 ⟨rfl, hb1⟩
  have HB1 := Lib.hid hb1
  clear hb1
  go_wp2_with (fail)
  refine (HW0.out w1).mono ?_
  rintro e w' ⟨rfl, rfl⟩
  go_wp2_with (fail)
  refine (HN.out w1).mono ?_
  rintro e w' ⟨rfl, rfl⟩
  go_wp2_with (fail)
  refine (HW7.out w1).mono ?_
  rintro e w' ⟨rfl, rfl⟩
  go_wp2_with (fail)
  refine (HW1.out w1).mono ?_
  rintro e w' ⟨rfl, rfl⟩
  go_upto_region 15 with (fail)
  go_upto_region 19 with (fail)
  by_cases hf : 1048576 < n + 146097
  · have hfb : decide (1048576 < n + 146097) = true := by simpa using hf
    go_wp2_with (fail)
    go_ret
    exact ⟨rfl, HB1.out⟩
  · have hfb : decide (1048576 < n + 146097) = false := by simpa using hf
    go_wp2_with (fail)
    refine (Date_any n w1 (HL.out.below HB1.out)).mono ?_
    rintro e w2 ⟨a, b, d, hd1, rfl, hb2⟩
    obtain ⟨hok1, hnum1⟩ := isDate_yes ⟨hn0, hn1⟩ hd1
    obtain ⟨hok2, hnum2⟩ := Cal.cycle_ok hok1 (by rw [hnum1]; omega)
    have HD := Lib.hid (fun u1 u2 u3 (h : IsDate (n + 146097) u1 u2 u3) => isDate_one h (show IsDate (n + 146097) (a + 400) b d by unfold IsDate; rw [if_pos ((validB_iff _).2 ⟨by omega, by omega⟩)]; exact ⟨hok2, by rw [hnum2, hnum1]⟩))
    have ha := Cal.ok_year hok1
    have ha2 := hok1.1
    rw [show dateE n = 0 by unfold dateE; rw [if_pos ((validB_iff n).2 ⟨hn0, hn1⟩)]]
    have HB2 := Lib.hid (below_of HB1.out hb2 HB1.out.size)
    clear hb2 hd1 hok1 hnum1 hok2 hnum2
    go_upto_region 22 with (fail)
    generalize hge : World.alloc _ _ = w3
    have HX3 := Lib.hid (show Blk w3 w2.heap.size 23 #[.int .i64 a, .int .i64 b, .int .i64 d] by subst hge; exact Blk.new w2 _ _)
    have HB3 := Lib.hid (show Below w.heap.size w w3 by subst hge; exact HB2.out.alloc HB2.out.size _)
    clear hge
    have HX3l0 := HB2.out.size
    obtain ⟨X3, hX3⟩ : ∃ X, w2.heap.size = X := ⟨_, rfl⟩
    rw [hX3] at HX3 HX3l0 ⊢
    have HX3l := Lib.hid HX3l0
    clear HX3l0
    clear hX3
    go_wp2_with (fail)
    refine (Date_any (n + 146097) w3 (HL.out.below HB3.out)).mono ?_
    rintro e w4 ⟨a2, b2, d2, hd2, rfl, hb4⟩
    obtain ⟨rfl, rfl, rfl⟩ := HD.out _ _ _ hd2
    rw [show dateE (n + 146097) = 0 by unfold dateE; rw [if_pos ((validB_iff _).2 ⟨by omega, by omega⟩)]]
    have HX4 := Lib.hid (HX3.out.below hb4)
    have HB4 := Lib.hid (below_of HB3.out hb4 HB3.out.size)
    clear hb4 hd2
    have hx := Lib.hid HX4.out.lt
    go_upto_region 23 with (fail)
    generalize hge : World.alloc _ _ = w5
    have HY5 := Lib.hid (show Blk w5 w4.heap.size 23 #[.int .i64 (a + 400), .int .i64 b2, .int .i64 d2] by subst hge; exact Blk.new w4 _ _)
    have HX5 := Lib.hid (show Blk w5 X3 23 #[.int .i64 a, .int .i64 b2, .int .i64 d2] by subst hge; exact HX4.out.alloc _)
    have HB5 := Lib.hid (show Below w.heap.size w w5 by subst hge; exact HB4.out.alloc HB4.out.size _)
    clear hge
    obtain ⟨Y4, hY4⟩ : ∃ X, w4.heap.size = X := ⟨_, rfl⟩
    rw [hY4] at HY5 hx ⊢
    clear hY4
    have q0 := HX5.out.cellv (i := 0) rfl
    have f0 := HX5.out.frozen 0
    go_upto_region 24 with (fail)
    generalize hge : World.setCell _ _ _ = w6
    have HX6 := Lib.hid (show Blk w6 X3 23 #[.int .i64 (a + 400), .int .i64 b2, .int .i64 d2] by subst hge; exact HX5.out.set_ 0 _)
    have HY6 := Lib.hid (show Blk w6 Y4 23 #[.int .i64 (a + 400), .int .i64 b2, .int .i64 d2] by subst hge; exact HY5.out.far (Nat.ne_of_gt hx.out) _)
    have HB6 := Lib.hid (show Below w.heap.size w w6 by subst hge; exact HB5.out.setCell (p := ⟨X3, 0, none⟩) HX3l.out _)
    clear hge q0 f0
    have q0 := HX6.out.cellv (i := 0) rfl
    have q1 := HX6.out.cellv (i := 1) rfl
    have q2 := HX6.out.cellv (i := 2) rfl
    have p0 := HY6.out.cellv (i := 0) rfl
    have p1 := HY6.out.cellv (i := 1) rfl
    have p2 := HY6.out.cellv (i := 2) rfl
    have hE := fun W => run_eqDt (a + 400) b2 d2 (a + 400) b2 d2 W
    rw [show decide ((a + 400, b2, d2) = (a + 400, b2, d2)) = true by simp] at hE
    go_wp2_with (fail)
    go_ret
    exact ⟨rfl, HB6.out⟩
set_option maxRecDepth 100000 in
set_option maxHeartbeats 4000000 in
theorem weeks_b_big (w : World) (hL : Lens w) (n k c x3 x4 : Int) (hn0 : 0 ≤ n) (hn1 : n ≤ 1048576) (hc0 : 0 ≤ c) (hc7 : c < 7) (HW00 : RetW n c 0) (HN0 : RetN n k x3 x4) (HW70 : RetW (n + 7) 0 10) (HW10 : RetW (n + 1) ((c + 1) % 7) 0) (g0 : decide (0 ≤ k) = true) (g1 : decide (k ≤ 6) = false) :
    Calls Tryd.prog 6 #[.int .i64 n, .int .i64 k] w (Fine w) := by
  have HL := Lib.hid hL
  have HW0 := Lib.hid (show ∀ W, _ from HW00)
  have HN := Lib.hid (show ∀ W, _ from HN0)
  have HW7 := Lib.hid (show ∀ W, _ from HW70)
  have HW1 := Lib.hid (show ∀ W, _ from HW10)
  clear hL HW00 HN0 HW70 HW10
  have b1 : decide (n < 0) = false := by simp; omega
  have b2 : decide (1048576 < n) = false := by simp; omega
  have b3 : decide (c < 0) = false := by simp; omega
  have b4 : decide (6 < c) = false := by simp; omega
  go_enter Tryd.func6, Tryd.ntmps6
  go_wp2_with (fail)
  refine (csane_any w HL.out).mono ?_
  rintro e w1 ⟨rfl, hb1⟩
  have HB1 := Lib.hid hb1
  clear hb1
  go_wp2_with (fail)
  refine (HW0.out w1).mono ?_
  rintro e w' ⟨rfl, rfl⟩
  go_wp2_with (fail)
  refine (HN.out w1).mono ?_
  rintro e w' ⟨rfl, rfl⟩
  go_wp2_with (fail)
  refine (HW7.out w1).mono ?_
  rintro e w' ⟨rfl, rfl⟩
  go_wp2_with (fail)
  refine (HW1.out w1).mono ?_
  rintro e w' ⟨rfl, rfl⟩
  go_upto_region 15 with (fail)
  go_upto_region 19 with (fail)
  by_cases hf : 1048576 < n + 146097
  · have hfb : decide (1048576 < n + 146097) = true := by simpa using hf
    go_wp2_with (fail)
    go_ret
    exact ⟨rfl, HB1.out⟩
  · have hfb : decide (1048576 < n + 146097) = false := by simpa using hf
    go_wp2_with (fail)
    refine (Date_any n w1 (HL.out.below HB1.out)).mono ?_
    rintro e w2 ⟨a, b, d, hd1, rfl, hb2⟩
    obtain ⟨hok1, hnum1⟩ := isDate_yes ⟨hn0, hn1⟩ hd1
    obtain ⟨hok2, hnum2⟩ := Cal.cycle_ok hok1 (by rw [hnum1]; omega)
    have HD := Lib.hid (fun u1 u2 u3 (h : IsDate (n + 146097) u1 u2 u3) => isDate_one h (show IsDate (n + 146097) (a + 400) b d by unfold IsDate; rw [if_pos ((validB_iff _).2 ⟨by omega, by omega⟩)]; exact ⟨hok2, by rw [hnum2, hnum1]⟩))
    have ha := Cal.ok_year hok1
    have ha2 := hok1.1
    rw [show dateE n = 0 by unfold dateE; rw [if_pos ((validB_iff n).2 ⟨hn0, hn1⟩)]]
    have HB2 := Lib.hid (below_of HB1.out hb2 HB1.out.size)
    clear hb2 hd1 hok1 hnum1 hok2 hnum2
    go_upto_region 22 with (fail)
    generalize hge : World.alloc _ _ = w3
    have HX3 := Lib.hid (show Blk w3 w2.heap.size 23 #[.int .i64 a, .int .i64 b, .int .i64 d] by subst hge; exact Blk.new w2 _ _)
    have HB3 := Lib.hid (show Below w.heap.size w w3 by subst hge; exact HB2.out.alloc HB2.out.size _)
    clear hge
    have HX3l0 := HB2.out.size
    obtain ⟨X3, hX3⟩ : ∃ X, w2.heap.size = X := ⟨_, rfl⟩
    rw [hX3] at HX3 HX3l0 ⊢
    have HX3l := Lib.hid HX3l0
    clear HX3l0
    clear hX3
    go_wp2_with (fail)
    refine (Date_any (n + 146097) w3 (HL.out.below HB3.out)).mono ?_
    rintro e w4 ⟨a2, b2, d2, hd2, rfl, hb4⟩
    obtain ⟨rfl, rfl, rfl⟩ := HD.out _ _ _ hd2
    rw [show dateE (n + 146097) = 0 by unfold dateE; rw [if_pos ((validB_iff _).2 ⟨by omega, by omega⟩)]]
    have HX4 := Lib.hid (HX3.out.below hb4)
    have HB4 := Lib.hid (below_of HB3.out hb4 HB3.out.size)
    clear hb4 hd2
    have hx := Lib.hid HX4.out.lt
    go_upto_region 23 with (fail)
    generalize hge : World.alloc _ _ = w5
    have HY5 := Lib.hid (show Blk w5 w4.heap.size 23 #[.int .i64 (a + 400), .int .i64 b2, .int .i64 d2] by subst hge; exact Blk.new w4 _ _)
    have HX5 := Lib.hid (show Blk w5 X3 23 #[.int .i64 a, .int .i64 b2, .int .i64 d2] by subst hge; exact HX4.out.alloc _)
    have HB5 := Lib.hid (show Below w.heap.size w w5 by subst hge; exact HB4.out.alloc HB4.out.size _)
    clear hge
    obtain ⟨Y4, hY4⟩ : ∃ X, w4.heap.size = X := ⟨_, rfl⟩
    rw [hY4] at HY5 hx ⊢
    clear hY4
    have q0 := HX5.out.cellv (i := 0) rfl
    have f0 := HX5.out.frozen 0
    go_upto_region 24 with (fail)
    generalize hge : World.setCell _ _ _ = w6
    have HX6 := Lib.hid (show Blk w6 X3 23 #[.int .i64 (a + 400), .int .i64 b2, .int .i64 d2] by subst hge; exact HX5.out.set_ 0 _)
    have HY6 := Lib.hid (show Blk w6 Y4 23 #[.int .i64 (a + 400), .int .i64 b2, .int .i64 d2] by subst hge; exact HY5.out.far (Nat.ne_of_gt hx.out) _)
    have HB6 := Lib.hid (show Below w.heap.size w w6 by subst hge; exact HB5.out.setCell (p := ⟨X3, 0, none⟩) HX3l.out _)
    clear hge q0 f0
    have q0 := HX6.out.cellv (i := 0) rfl
    have q1 := HX6.out.cellv (i := 1) rfl
    have q2 := HX6.out.cellv (i := 2) rfl
    have p0 := HY6.out.cellv (i := 0) rfl
    have p1 := HY6.out.cellv (i := 1) rfl
    have p2 := HY6.out.cellv (i := 2) rfl
    have hE := fun W => run_eqDt (a + 400) b2 d2 (a + 400) b2 d2 W
    rw [show decide ((a + 400, b2, d2) = (a + 400, b2, d2)) = true by simp] at hE
    go_wp2_with (fail)
    go_ret
    exact ⟨rfl, HB6.out⟩
set_option maxRecDepth 100000 in
set_option maxHeartbeats 4000000 in
theorem weeks_b_far (w : World) (hL : Lens w) (n k c x3 x4 : Int) (hn0 : 0 ≤ n) (hn1 : n ≤ 1048576) (hc0 : 0 ≤ c) (hc7 : c < 7) (HW00 : RetW n c 0) (HN0 : RetN n k x3 x4) (HW70 : RetW (n + 7) 0 10) (HW10 : RetW (n + 1) ((c + 1) % 7) 0) (g0 : decide (0 ≤ k) = true) (g1 : decide (k ≤ 6) = true) (g2 : decide (n + 6 ≤ 1048576) = false) :
    Calls Tryd.prog 6 #[.int .i64 n, .int .i64 k] w (Fine w) := by
  have HL := Lib.hid hL
  have HW0 := Lib.hid (show ∀ W, _ from HW00)
  have HN := Lib.hid (show ∀ W, _ from HN0)
  have HW7 := Lib.hid (show ∀ W, _ from HW70)
  have HW1 := Lib.hid (show ∀ W, _ from HW10)
  clear hL HW00 HN0 HW70 HW10
  have b1 : decide (n < 0) = false := by simp; omega
  have b2 : decide (1048576 < n) = false := by simp; omega
  have b3 : decide (c < 0) = false := by simp; omega
  have b4 : decide (6 < c) = false := by simp; omega
  go_enter Tryd.func6, Tryd.ntmps6
  go_wp2_with (fail)
  refine (csane_any w HL.out).mono ?_
  rintro e w1 ⟨rfl, hb1⟩
  have HB1 := Lib.hid hb1
  clear hb1
  go_wp2_with (fail)
  refine (HW0.out w1).mono ?_
  rintro e w' ⟨rfl, rfl⟩
  go_wp2_with (fail)
  refine (HN.out w1).mono ?_
  rintro e w' ⟨rfl, rfl⟩
  go_wp2_with (fail)
  refine (HW7.out w1).mono ?_
  rintro e w' ⟨rfl, rfl⟩
  go_wp2_with (fail)
  refine (HW1.out w1).mono ?_
  rintro e w' ⟨rfl, rfl⟩
  go_upto_region 15 with (fail)
  go_upto_region 19 with (fail)
  by_cases hf : 1048576 < n + 146097
  · have hfb : decide (1048576 < n + 146097) = true := by simpa using hf
    go_wp2_with (fail)
    go_ret
    exact ⟨rfl, HB1.out⟩
  · have hfb : decide (1048576 < n + 146097) = false := by simpa using hf
    go_wp2_with (fail)
    refine (Date_any n w1 (HL.out.below HB1.out)).mono ?_
    rintro e w2 ⟨a, b, d, hd1, rfl, hb2⟩
    obtain ⟨hok1, hnum1⟩ := isDate_yes ⟨hn0, hn1⟩ hd1
    obtain ⟨hok2, hnum2⟩ := Cal.cycle_ok hok1 (by rw [hnum1]; omega)
    have HD := Lib.hid (fun u1 u2 u3 (h : IsDate (n + 146097) u1 u2 u3) => isDate_one h (show IsDate (n + 146097) (a + 400) b d by unfold IsDate; rw [if_pos ((validB_iff _).2 ⟨by omega, by omega⟩)]; exact ⟨hok2, by rw [hnum2, hnum1]⟩))
    have ha := Cal.ok_year hok1
    have ha2 := hok1.1
    rw [show dateE n = 0 by unfold dateE; rw [if_pos ((validB_iff n).2 ⟨hn0, hn1⟩)]]
    have HB2 := Lib.hid (below_of HB1.out hb2 HB1.out.size)
    clear hb2 hd1 hok1 hnum1 hok2 hnum2
    go_upto_region 22 with (fail)
    generalize hge : World.alloc _ _ = w3
    have HX3 := Lib.hid (show Blk w3 w2.heap.size 23 #[.int .i64 a, .int .i64 b, .int .i64 d] by subst hge; exact Blk.new w2 _ _)
    have HB3 := Lib.hid (show Below w.heap.size w w3 by subst hge; exact HB2.out.alloc HB2.out.size _)
    clear hge
    have HX3l0 := HB2.out.size
    obtain ⟨X3, hX3⟩ : ∃ X, w2.heap.size = X := ⟨_, rfl⟩
    rw [hX3] at HX3 HX3l0 ⊢
    have HX3l := Lib.hid HX3l0
    clear HX3l0
    clear hX3
    go_wp2_with (fail)
    refine (Date_any (n + 146097) w3 (HL.out.below HB3.out)).mono ?_
    rintro e w4 ⟨a2, b2, d2, hd2, rfl, hb4⟩
    obtain ⟨rfl, rfl, rfl⟩ := HD.out _ _ _ hd2
    rw [show dateE (n + 146097) = 0 by unfold dateE; rw [if_pos ((validB_iff _).2 ⟨by omega, by omega⟩)]]
    have HX4 := Lib.hid (HX3.out.below hb4)
    have HB4 := Lib.hid (below_of HB3.out hb4 HB3.out.size)
    clear hb4 hd2
    have hx := Lib.hid HX4.out.lt
    go_upto_region 23 with (fail)
    generalize hge : World.alloc _ _ = w5
    have HY5 := Lib.hid (show Blk w5 w4.heap.size 23 #[.int .i64 (a + 400), .int .i64 b2, .int .i64 d2] by subst hge; exact Blk.new w4 _ _)
    have HX5 := Lib.hid (show Blk w5 X3 23 #[.int .i64 a, .int .i64 b2, .int .i64 d2] by subst hge; exact HX4.out.alloc _)
    have HB5 := Lib.hid (show Below w.heap.size w w5 by subst hge; exact HB4.out.alloc HB4.out.size _)
    clear hge
    obtain ⟨Y4, hY4⟩ : ∃ X, w4.heap.size = X := ⟨_, rfl⟩
    rw [hY4] at HY5 hx ⊢
    clear hY4
    have q0 := HX5.out.cellv (i := 0) rfl
    have f0 := HX5.out.frozen 0
    go_upto_region 24 with (fail)
    generalize hge : World.setCell _ _ _ = w6
    have HX6 := Lib.hid (show Blk w6 X3 23 #[.int .i64 (a + 400), .int .i64 b2, .int .i64 d2] by subst hge; exact HX5.out.set_ 0 _)
    have HY6 := Lib.hid (show Blk w6 Y4 23 #[.int .i64 (a + 400), .int .i64 b2, .int .i64 d2] by subst hge; exact HY5.out.far (Nat.ne_of_gt hx.out) _)
    have HB6 := Lib.hid (show Below w.heap.size w w6 by subst hge; exact HB5.out.setCell (p := ⟨X3, 0, none⟩) HX3l.out _)
    clear hge q0 f0
    have q0 := HX6.out.cellv (i := 0) rfl
    have q1 := HX6.out.cellv (i := 1) rfl
    have q2 := HX6.out.cellv (i := 2) rfl
    have p0 := HY6.out.cellv (i := 0) rfl
    have p1 := HY6.out.cellv (i := 1) rfl
    have p2 := HY6.out.cellv (i := 2) rfl
    have hE := fun W => run_eqDt (a + 400) b2 d2 (a + 400) b2 d2 W
    rw [show decide ((a + 400, b2, d2) = (a + 400, b2, d2)) = true by simp] at hE
    go_wp2_with (fail)
    go_ret
    exact ⟨rfl, HB6.out⟩
set_option maxRecDepth 100000 in
set_option maxHeartbeats 4000000 in
theorem weeks_d_neg (w : World) (hL : Lens w) (n k c x3 x4 : Int) (hn0 : 0 ≤ n) (hn1 : n ≤ 1048576) (hc0 : 0 ≤ c) (hc7 : c < 7) (HW00 : RetW n c 0) (HN0 : RetN n k x3 x4) (HW70 : RetW (n + 7) 0 10) (HW10 : RetW (n + 1) (0) 10) (g0 : decide (0 ≤ k) = false) :
    Calls Tryd.prog 6 #[.int .i64 n, .int .i64 k] w (Fine w) := by
  have HL := Lib.hid hL
  have HW0 := Lib.hid (show ∀ W, _ from HW00)
  have HN := Lib.hid (show ∀ W, _ from HN0)
  have HW7 := Lib.hid (show ∀ W, _ from HW70)
  have HW1 := Lib.hid (show ∀ W, _ from HW10)
  clear hL HW00 HN0 HW70 HW10
  have b1 : decide (n < 0) = false := by simp; omega
  have b2 : decide (1048576 < n) = false := by simp; omega
  have b3 : decide (c < 0) = false := by simp; omega
  have b4 : decide (6 < c) = false := by simp; omega
  go_enter Tryd.func6, Tryd.ntmps6
  go_wp2_with (fail)
  refine (csane_any w HL.out).mono ?_
  rintro e w1 ⟨rfl, hb1⟩
  have HB1 := Lib.hid hb1
  clear hb1
  go_wp2_with (fail)
  refine (HW0.out w1).mono ?_
  rintro e w' ⟨rfl, rfl⟩
  go_wp2_with (fail)
  refine (HN.out w1).mono ?_
  rintro e w' ⟨rfl, rfl⟩
  go_wp2_with (fail)
  refine (HW7.out w1).mono ?_
  rintro e w' ⟨rfl, rfl⟩
  go_wp2_with (fail)
  refine (HW1.out w1).mono ?_
  rintro e w' ⟨rfl, rfl⟩
  go_upto_region 15 with (fail)
  go_upto_region 19 with (fail)
  by_cases hf : 1048576 < n + 146097
  · have hfb : decide (1048576 < n + 146097) = true := by simpa using hf
    go_wp2_with (fail)
    go_ret
    exact ⟨rfl, HB1.out⟩
  · have hfb : decide (1048576 < n + 146097) = false := by simpa using hf
    go_wp2_with (fail)
    refine (Date_any n w1 (HL.out.below HB1.out)).mono ?_
    rintro e w2 ⟨a, b, d, hd1, rfl, hb2⟩
    obtain ⟨hok1, hnum1⟩ := isDate_yes ⟨hn0, hn1⟩ hd1
    obtain ⟨hok2, hnum2⟩ := Cal.cycle_ok hok1 (by rw [hnum1]; omega)
    have HD := Lib.hid (fun u1 u2 u3 (h : IsDate (n + 146097) u1 u2 u3) => isDate_one h (show IsDate (n + 146097) (a + 400) b d by unfold IsDate; rw [if_pos ((validB_iff _).2 ⟨by omega, by omega⟩)]; exact ⟨hok2, by rw [hnum2, hnum1]⟩))
    have ha := Cal.ok_year hok1
    have ha2 := hok1.1
    rw [show dateE n = 0 by unfold dateE; rw [if_pos ((validB_iff n).2 ⟨hn0, hn1⟩)]]
    have HB2 := Lib.hid (below_of HB1.out hb2 HB1.out.size)
    clear hb2 hd1 hok1 hnum1 hok2 hnum2
    go_upto_region 22 with (fail)
    generalize hge : World.alloc _ _ = w3
    have HX3 := Lib.hid (show Blk w3 w2.heap.size 23 #[.int .i64 a, .int .i64 b, .int .i64 d] by subst hge; exact Blk.new w2 _ _)
    have HB3 := Lib.hid (show Below w.heap.size w w3 by subst hge; exact HB2.out.alloc HB2.out.size _)
    clear hge
    have HX3l0 := HB2.out.size
    obtain ⟨X3, hX3⟩ : ∃ X, w2.heap.size = X := ⟨_, rfl⟩
    rw [hX3] at HX3 HX3l0 ⊢
    have HX3l := Lib.hid HX3l0
    clear HX3l0
    clear hX3
    go_wp2_with (fail)
    refine (Date_any (n + 146097) w3 (HL.out.below HB3.out)).mono ?_
    rintro e w4 ⟨a2, b2, d2, hd2, rfl, hb4⟩
    obtain ⟨rfl, rfl, rfl⟩ := HD.out _ _ _ hd2
    rw [show dateE (n + 146097) = 0 by unfold dateE; rw [if_pos ((validB_iff _).2 ⟨by omega, by omega⟩)]]
    have HX4 := Lib.hid (HX3.out.below hb4)
    have HB4 := Lib.hid (below_of HB3.out hb4 HB3.out.size)
    clear hb4 hd2
    have hx := Lib.hid HX4.out.lt
    go_upto_region 23 with (fail)
    generalize hge : World.alloc _ _ = w5
    have HY5 := Lib.hid (show Blk w5 w4.heap.size 23 #[.int .i64 (a + 400), .int .i64 b2, .int .i64 d2] by subst hge; exact Blk.new w4 _ _)
    have HX5 := Lib.hid (show Blk w5 X3 23 #[.int .i64 a, .int .i64 b2, .int .i64 d2] by subst hge; exact HX4.out.alloc _)
    have HB5 := Lib.hid (show Below w.heap.size w w5 by subst hge; exact HB4.out.alloc HB4.out.size _)
    clear hge
    obtain ⟨Y4, hY4⟩ : ∃ X, w4.heap.size = X := ⟨_, rfl⟩
    rw [hY4] at HY5 hx ⊢
    clear hY4
    have q0 := HX5.out.cellv (i := 0) rfl
    have f0 := HX5.out.frozen 0
    go_upto_region 24 with (fail)
    generalize hge : World.setCell _ _ _ = w6
    have HX6 := Lib.hid (show Blk w6 X3 23 #[.int .i64 (a + 400), .int .i64 b2, .int .i64 d2] by subst hge; exact HX5.out.set_ 0 _)
    have HY6 := Lib.hid (show Blk w6 Y4 23 #[.int .i64 (a + 400), .int .i64 b2, .int .i64 d2] by subst hge; exact HY5.out.far (Nat.ne_of_gt hx.out) _)
    have HB6 := Lib.hid (show Below w.heap.size w w6 by subst hge; exact HB5.out.setCell (p := ⟨X3, 0, none⟩) HX3l.out _)
    clear hge q0 f0
    have q0 := HX6.out.cellv (i := 0) rfl
    have q1 := HX6.out.cellv (i := 1) rfl
    have q2 := HX6.out.cellv (i := 2) rfl
    have p0 := HY6.out.cellv (i := 0) rfl
    have p1 := HY6.out.cellv (i := 1) rfl
    have p2 := HY6.out.cellv (i := 2) rfl
    have hE := fun W => run_eqDt (a + 400) b2 d2 (a + 400) b2 d2 W
    rw [show decide ((a + 400, b2, d2) = (a + 400, b2, d2)) = true by simp] at hE
    go_wp2_with (fail)
    go_ret
    exact ⟨rfl, HB6.out⟩
set_option maxRecDepth 100000 in
set_option maxHeartbeats 4000000 in
theorem weeks_d_big (w : World) (hL : Lens w) (n k c x3 x4 : Int) (hn0 : 0 ≤ n) (hn1 : n ≤ 1048576) (hc0 : 0 ≤ c) (hc7 : c < 7) (HW00 : RetW n c 0) (HN0 : RetN n k x3 x4) (HW70 : RetW (n + 7) 0 10) (HW10 : RetW (n + 1) (0) 10) (g0 : decide (0 ≤ k) = true) (g1 : decide (k ≤ 6) = false) :
    Calls Tryd.prog 6 #[.int .i64 n, .int .i64 k] w (Fine w) := by
  have HL := Lib.hid hL
  have HW0 := Lib.hid (show ∀ W, _ from HW00)
  have HN := Lib.hid (show ∀ W, _ from HN0)
  have HW7 := Lib.hid (show ∀ W, _ from HW70)
  have HW1 := Lib.hid (show ∀ W, _ from HW10)
  clear hL HW00 HN0 HW70 HW10
  have b1 : decide (n < 0) = false := by simp; omega
  have b2 : decide (1048576 < n) = false := by simp; omega
  have b3 : decide (c < 0) = false := by simp; omega
  have b4 : decide (6 < c) = false := by simp; omega
  go_enter Tryd.func6, Tryd.ntmps6
  go_wp2_with (fail)
  refine (csane_any w HL.out).mono ?_
  rintro e w1 ⟨rfl, hb1⟩
  have HB1 := Lib.hid hb1
  clear hb1
  go_wp2_with (fail)
  refine (HW0.out w1).mono ?_
  rintro e w' ⟨rfl, rfl⟩
  go_wp2_with (fail)
  refine (HN.out w1).mono ?_
  rintro e w' ⟨rfl, rfl⟩
  go_wp2_with (fail)
  refine (HW7.out w1).mono ?_
  rintro e w' ⟨rfl, rfl⟩
  go_wp2_with (fail)
  refine (HW1.out w1).mono ?_
  rintro e w' ⟨rfl, rfl⟩
  go_upto_region 15 with (fail)
  go_upto_region 19 with (fail)
  by_cases hf : 1048576 < n + 146097
  · have hfb : decide (1048576 < n + 146097) = true := by simpa using hf
    go_wp2_with (fail)
    go_ret
    exact ⟨rfl, HB1.out⟩
  · have hfb : decide (1048576 < n + 146097) = false := by simpa using hf
    go_wp2_with (fail)
    refine (Date_any n w1 (HL.out.below HB1.out)).mono ?_
    rintro e w2 ⟨a, b, d, hd1, rfl, hb2⟩
    obtain ⟨hok1, hnum1⟩ := isDate_yes ⟨hn0, hn1⟩ hd1
    obtain ⟨hok2, hnum2⟩ := Cal.cycle_ok hok1 (by rw [hnum1]; omega)
    have HD := Lib.hid (fun u1 u2 u3 (h : IsDate (n + 146097) u1 u2 u3) => isDate_one h (show IsDate (n + 146097) (a + 400) b d by unfold IsDate; rw [if_pos ((validB_iff _).2 ⟨by omega, by omega⟩)]; exact ⟨hok2, by rw [hnum2, hnum1]⟩))
    have ha := Cal.ok_year hok1
    have ha2 := hok1.1
    rw [show dateE n = 0 by unfold dateE; rw [if_pos ((validB_iff n).2 ⟨hn0, hn1⟩)]]
    have HB2 := Lib.hid (below_of HB1.out hb2 HB1.out.size)
    clear hb2 hd1 hok1 hnum1 hok2 hnum2
    go_upto_region 22 with (fail)
    generalize hge : World.alloc _ _ = w3
    have HX3 := Lib.hid (show Blk w3 w2.heap.size 23 #[.int .i64 a, .int .i64 b, .int .i64 d] by subst hge; exact Blk.new w2 _ _)
    have HB3 := Lib.hid (show Below w.heap.size w w3 by subst hge; exact HB2.out.alloc HB2.out.size _)
    clear hge
    have HX3l0 := HB2.out.size
    obtain ⟨X3, hX3⟩ : ∃ X, w2.heap.size = X := ⟨_, rfl⟩
    rw [hX3] at HX3 HX3l0 ⊢
    have HX3l := Lib.hid HX3l0
    clear HX3l0
    clear hX3
    go_wp2_with (fail)
    refine (Date_any (n + 146097) w3 (HL.out.below HB3.out)).mono ?_
    rintro e w4 ⟨a2, b2, d2, hd2, rfl, hb4⟩
    obtain ⟨rfl, rfl, rfl⟩ := HD.out _ _ _ hd2
    rw [show dateE (n + 146097) = 0 by unfold dateE; rw [if_pos ((validB_iff _).2 ⟨by omega, by omega⟩)]]
    have HX4 := Lib.hid (HX3.out.below hb4)
    have HB4 := Lib.hid (below_of HB3.out hb4 HB3.out.size)
    clear hb4 hd2
    have hx := Lib.hid HX4.out.lt
    go_upto_region 23 with (fail)
    generalize hge : World.alloc _ _ = w5
    have HY5 := Lib.hid (show Blk w5 w4.heap.size 23 #[.int .i64 (a + 400), .int .i64 b2, .int .i64 d2] by subst hge; exact Blk.new w4 _ _)
    have HX5 := Lib.hid (show Blk w5 X3 23 #[.int .i64 a, .int .i64 b2, .int .i64 d2] by subst hge; exact HX4.out.alloc _)
    have HB5 := Lib.hid (show Below w.heap.size w w5 by subst hge; exact HB4.out.alloc HB4.out.size _)
    clear hge
    obtain ⟨Y4, hY4⟩ : ∃ X, w4.heap.size = X := ⟨_, rfl⟩
    rw [hY4] at HY5 hx ⊢
    clear hY4
    have q0 := HX5.out.cellv (i := 0) rfl
    have f0 := HX5.out.frozen 0
    go_upto_region 24 with (fail)
    generalize hge : World.setCell _ _ _ = w6
    have HX6 := Lib.hid (show Blk w6 X3 23 #[.int .i64 (a + 400), .int .i64 b2, .int .i64 d2] by subst hge; exact HX5.out.set_ 0 _)
    have HY6 := Lib.hid (show Blk w6 Y4 23 #[.int .i64 (a + 400), .int .i64 b2, .int .i64 d2] by subst hge; exact HY5.out.far (Nat.ne_of_gt hx.out) _)
    have HB6 := Lib.hid (show Below w.heap.size w w6 by subst hge; exact HB5.out.setCell (p := ⟨X3, 0, none⟩) HX3l.out _)
    clear hge q0 f0
    have q0 := HX6.out.cellv (i := 0) rfl
    have q1 := HX6.out.cellv (i := 1) rfl
    have q2 := HX6.out.cellv (i := 2) rfl
    have p0 := HY6.out.cellv (i := 0) rfl
    have p1 := HY6.out.cellv (i := 1) rfl
    have p2 := HY6.out.cellv (i := 2) rfl
    have hE := fun W => run_eqDt (a + 400) b2 d2 (a + 400) b2 d2 W
    rw [show decide ((a + 400, b2, d2) = (a + 400, b2, d2)) = true by simp] at hE
    go_wp2_with (fail)
    go_ret
    exact ⟨rfl, HB6.out⟩
set_option maxRecDepth 100000 in
set_option maxHeartbeats 4000000 in
theorem weeks_d_far (w : World) (hL : Lens w) (n k c x3 x4 : Int) (hn0 : 0 ≤ n) (hn1 : n ≤ 1048576) (hc0 : 0 ≤ c) (hc7 : c < 7) (HW00 : RetW n c 0) (HN0 : RetN n k x3 x4) (HW70 : RetW (n + 7) 0 10) (HW10 : RetW (n + 1) (0) 10) (g0 : decide (0 ≤ k) = true) (g1 : decide (k ≤ 6) = true) (g2 : decide (n + 6 ≤ 1048576) = false) :
    Calls Tryd.prog 6 #[.int .i64 n, .int .i64 k] w (Fine w) := by
  have HL := Lib.hid hL
  have HW0 := Lib.hid (show ∀ W, _ from HW00)
  have HN := Lib.hid (show ∀ W, _ from HN0)
  have HW7 := Lib.hid (show ∀ W, _ from HW70)
  have HW1 := Lib.hid (show ∀ W, _ from HW10)
  clear hL HW00 HN0 HW70 HW10
  have b1 : decide (n < 0) = false := by simp; omega
  have b2 : decide (1048576 < n) = false := by simp; omega
  have b3 : decide (c < 0) = false := by simp; omega
  have b4 : decide (6 < c) = false := by simp; omega
  go_enter Tryd.func6, Tryd.ntmps6
  go_wp2_with (fail)
  refine (csane_any w HL.out).mono ?_
  rintro e w1 ⟨rfl, hb1⟩
  have HB1 := Lib.hid hb1
  clear hb1
  go_wp2_with (fail)
  refine (HW0.out w1).mono ?_
  rintro e w' ⟨rfl, rfl⟩
  go_wp2_with (fail)
  refine (HN.out w1).mono ?_
  rintro e w' ⟨rfl, rfl⟩
  go_wp2_with (fail)
  refine (HW7.out w1).mono ?_
  rintro e w' ⟨rfl, rfl⟩
  go_wp2_with (fail)
  refine (HW1.out w1).mono ?_
  rintro e w' ⟨rfl, rfl⟩
  go_upto_region 15 with (fail)
  go_upto_region 19 with (fail)
  by_cases hf : 1048576 < n + 146097
  · have hfb : decide (1048576 < n + 146097) = true := by simpa using hf
    go_wp2_with (fail)
    go_ret
    exact ⟨rfl, HB1.out⟩
  · have hfb : decide (1048576 < n + 146097) = false := by simpa using hf
    go_wp2_with (fail)
    refine (Date_any n w1 (HL.out.below HB1.out)).mono ?_
    rintro e w2 ⟨a, b, d, hd1, rfl, hb2⟩
    obtain ⟨hok1, hnum1⟩ := isDate_yes ⟨hn0, hn1⟩ hd1
    obtain ⟨hok2, hnum2⟩ := Cal.cycle_ok hok1 (by rw [hnum1]; omega)
    have HD := Lib.hid (fun u1 u2 u3 (h : IsDate (n + 146097) u1 u2 u3) => isDate_one h (show IsDate (n + 146097) (a + 400) b d by unfold IsDate; rw [if_pos ((validB_iff _).2 ⟨by omega, by omega⟩)]; exact ⟨hok2, by rw [hnum2, hnum1]⟩))
    have ha := Cal.ok_year hok1
    have ha2 := hok1.1
    rw [show dateE n = 0 by unfold dateE; rw [if_pos ((validB_iff n).2 ⟨hn0, hn1⟩)]]
    have HB2 := Lib.hid (below_of HB1.out hb2 HB1.out.size)
    clear hb2 hd1 hok1 hnum1 hok2 hnum2
    go_upto_region 22 with (fail)
    generalize hge : World.alloc _ _ = w3
    have HX3 := Lib.hid (show Blk w3 w2.heap.size 23 #[.int .i64 a, .int .i64 b, .int .i64 d] by subst hge; exact Blk.new w2 _ _)
    have HB3 := Lib.hid (show Below w.heap.size w w3 by subst hge; exact HB2.out.alloc HB2.out.size _)
    clear hge
    have HX3l0 := HB2.out.size
    obtain ⟨X3, hX3⟩ : ∃ X, w2.heap.size = X := ⟨_, rfl⟩
    rw [hX3] at HX3 HX3l0 ⊢
    have HX3l := Lib.hid HX3l0
    clear HX3l0
    clear hX3
    go_wp2_with (fail)
    refine (Date_any (n + 146097) w3 (HL.out.below HB3.out)).mono ?_
    rintro e w4 ⟨a2, b2, d2, hd2, rfl, hb4⟩
    obtain ⟨rfl, rfl, rfl⟩ := HD.out _ _ _ hd2
    rw [show dateE (n + 146097) = 0 by unfold dateE; rw [if_pos ((validB_iff _).2 ⟨by omega, by omega⟩)]]
    have HX4 := Lib.hid (HX3.out.below hb4)
    have HB4 := Lib.hid (below_of HB3.out hb4 HB3.out.size)
    clear hb4 hd2
    have hx := Lib.hid HX4.out.lt
    go_upto_region 23 with (fail)
    generalize hge : World.alloc _ _ = w5
    have HY5 := Lib.hid (show Blk w5 w4.heap.size 23 #[.int .i64 (a + 400), .int .i64 b2, .int .i64 d2] by subst hge; exact Blk.new w4 _ _)
    have HX5 := Lib.hid (show Blk w5 X3 23 #[.int .i64 a, .int .i64 b2, .int .i64 d2] by subst hge; exact HX4.out.alloc _)
    have HB5 := Lib.hid (show Below w.heap.size w w5 by subst hge; exact HB4.out.alloc HB4.out.size _)
    clear hge
    obtain ⟨Y4, hY4⟩ : ∃ X, w4.heap.size = X := ⟨_, rfl⟩
    rw [hY4] at HY5 hx ⊢
    clear hY4
    have q0 := HX5.out.cellv (i := 0) rfl
    have f0 := HX5.out.frozen 0
    go_upto_region 24 with (fail)
    generalize hge : World.setCell _ _ _ = w6
    have HX6 := Lib.hid (show Blk w6 X3 23 #[.int .i64 (a + 400), .int .i64 b2, .int .i64 d2] by subst hge; exact HX5.out.set_ 0 _)
    have HY6 := Lib.hid (show Blk w6 Y4 23 #[.int .i64 (a + 400), .int .i64 b2, .int .i64 d2] by subst hge; exact HY5.out.far (Nat.ne_of_gt hx.out) _)
    have HB6 := Lib.hid (show Below w.heap.size w w6 by subst hge; exact HB5.out.setCell (p := ⟨X3, 0, none⟩) HX3l.out _)
    clear hge q0 f0
    have q0 := HX6.out.cellv (i := 0) rfl
    have q1 := HX6.out.cellv (i := 1) rfl
    have q2 := HX6.out.cellv (i := 2) rfl
    have p0 := HY6.out.cellv (i := 0) rfl
    have p1 := HY6.out.cellv (i := 1) rfl
    have p2 := HY6.out.cellv (i := 2) rfl
    have hE := fun W => run_eqDt (a + 400) b2 d2 (a + 400) b2 d2 W
    rw [show decide ((a + 400, b2, d2) = (a + 400, b2, d2)) = true by simp] at hE
    go_wp2_with (fail)
    go_ret
    exact ⟨rfl, HB6.out⟩
set_option maxRecDepth 100000 in
set_option maxHeartbeats 4000000 in
theorem CalendarWeeks_walk (w : World) (hL : Lens w) (n : Int) (wn : (Lit.int .i64 n).wf = true) (k : Int) (wk : (Lit.int .i64 k).wf = true) :
    Calls Tryd.prog 6 #[.int .i64 n, .int .i64 k] w (Fine w) := by
  by_cases hv : 0 ≤ n ∧ n ≤ 1048576
  · obtain ⟨hn0, hn1⟩ := id hv
    have c0 : 0 ≤ (n + 5) % 7 := by omega
    have c7 : (n + 5) % 7 < 7 := by omega
    have r0 := retW_yes hv
    have rn : RetN n k (nextN n k) (nextE n k) := fun W => Next_any n k W
    have g0 : ∀ b, (0 ≤ k ↔ b = true) → decide (0 ≤ k) = b := fun b h => by rw [Bool.eq_iff_iff]; simpa using h
    have t7 : n + 7 ≤ 1048576 → RetW (n + 7) ((n + 5) % 7) 0 := fun h => by have := retW_yes (n := n + 7) ⟨by omega, h⟩; rwa [show (n + 7 + 5) % 7 = (n + 5) % 7 by omega] at this
    have f7 : ¬ n + 7 ≤ 1048576 → RetW (n + 7) 0 10 := fun h => retW_no (by omega)
    have t1 : n + 1 ≤ 1048576 → RetW (n + 1) (((n + 5) % 7 + 1) % 7) 0 := fun h => by have := retW_yes (n := n + 1) ⟨by omega, h⟩; rwa [show (n + 1 + 5) % 7 = ((n + 5) % 7 + 1) % 7 by omega] at this
    have f1 : ¬ n + 1 ≤ 1048576 → RetW (n + 1) 0 10 := fun h => retW_no (by omega)
    have yes : n + 6 ≤ 1048576 → 0 ≤ k → k ≤ 6 → RetN n k (nxt n k) 0 ∧ RetW (nxt n k) k 0 ∧ n ≤ nxt n k ∧ nxt n k ≤ n + 6 := fun h6 h0 hk => by
      obtain ⟨s1, s2, s3⟩ := nxt_spec n k h0 hk
      refine ⟨by have := rn; rwa [(nx_yes ⟨hn0, h6⟩ h0 hk).1, (nx_yes ⟨hn0, h6⟩ h0 hk).2] at this, ?_, s1, s2⟩
      have := retW_yes (n := nxt n k) ⟨by omega, by omega⟩
      rwa [s3] at this
    by_cases k0 : 0 ≤ k
    · by_cases k6 : k ≤ 6
      · by_cases n7 : n + 7 ≤ 1048576
        · obtain ⟨y1, y2, y3, y4⟩ := yes (by omega) k0 k6
          exact weeks_a_yes w hL n k _ _ 0 hn0 hn1 c0 c7 r0 y1 (t7 n7) (t1 (by omega)) y2 y3 y4 (by simpa using k0) (by simpa using k6) (by simp; omega)
        · by_cases n1 : n + 1 ≤ 1048576
          · by_cases n6 : n + 6 ≤ 1048576
            · obtain ⟨y1, y2, y3, y4⟩ := yes n6 k0 k6
              exact weeks_b_yes w hL n k _ _ 0 hn0 hn1 c0 c7 r0 y1 (f7 n7) (t1 n1) y2 y3 y4 (by simpa using k0) (by simpa using k6) (by simpa using n6)
            · exact weeks_b_far w hL n k _ _ _ hn0 hn1 c0 c7 r0 rn (f7 n7) (t1 n1) (by simpa using k0) (by simpa using k6) (by simpa using n6)
          · exact weeks_d_far w hL n k _ _ _ hn0 hn1 c0 c7 r0 rn (f7 n7) (f1 n1) (by simpa using k0) (by simpa using k6) (by simp; omega)
      · by_cases n7 : n + 7 ≤ 1048576
        · exact weeks_a_big w hL n k _ _ _ hn0 hn1 c0 c7 r0 rn (t7 n7) (t1 (by omega)) (by simpa using k0) (by simpa using k6)
        · by_cases n1 : n + 1 ≤ 1048576
          · exact weeks_b_big w hL n k _ _ _ hn0 hn1 c0 c7 r0 rn (f7 n7) (t1 n1) (by simpa using k0) (by simpa using k6)
          · exact weeks_d_big w hL n k _ _ _ hn0 hn1 c0 c7 r0 rn (f7 n7) (f1 n1) (by simpa using k0) (by simpa using k6)
    · by_cases n7 : n + 7 ≤ 1048576
      · exact weeks_a_neg w hL n k _ _ _ hn0 hn1 c0 c7 r0 rn (t7 n7) (t1 (by omega)) (by simpa using k0)
      · by_cases n1 : n + 1 ≤ 1048576
        · exact weeks_b_neg w hL n k _ _ _ hn0 hn1 c0 c7 r0 rn (f7 n7) (t1 n1) (by simpa using k0)
        · exact weeks_d_neg w hL n k _ _ _ hn0 hn1 c0 c7 r0 rn (f7 n7) (f1 n1) (by simpa using k0)
  · have HL := Lib.hid hL
    have HW0 := Lib.hid (fun W => retW_no hv W)
    have HN := Lib.hid (fun W => Next_any n k W)
    rw [(nx_no hv).1, (nx_no hv).2] at HN
    clear hv hL wn wk
    go_enter Tryd.func6, Tryd.ntmps6
    go_wp2_with (fail)
    refine (csane_any w HL.out).mono ?_
    rintro e w1 ⟨rfl, hb1⟩
    have HB1 := Lib.hid hb1
    clear hb1
    go_wp2_with (fail)
    refine (HW0.out w1).mono ?_
    rintro e w' ⟨rfl, rfl⟩
    go_wp2_with (fail)
    refine (HN.out w1).mono ?_
    rintro e w' ⟨rfl, rfl⟩
    go_wp2_with (fail)
    go_ret
    exact ⟨rfl, HB1.out⟩
-- the row
theorem calendarWeeks_own : ownKnob Tryd.prog.godebug = none := by kernel_rfl
theorem calendarWeeks_laidOut : laidOutB Tryd.prog = true := by kernel_rfl
theorem calendarWeeks_readable : (Tryd.f6.params.toList.all fun t => Tryd.prog.readableRec t && decide (t < Tryd.prog.types.size)) = true := by kernel_rfl
set_option maxRecDepth 100000 in
theorem calendarWeeks_lifted (os : Os) (started : os.Started) (H : Type) (enc : TypeId × Value → H) :
    ReturnsInHanded {} Tryd.checked os 6 .any (fun w args => (Rows.calendarWeeksSpec.pre enc Tryd.prog Tryd.f6 [] false w args ∧ laidMetH Tryd.prog laidL w) ∧ sizedMet enc Tryd.prog Tryd.f6 (OpenSpec.ofChange Rows.calendarWeeksSpec) false w args) (Rows.calendarWeeksSpec.post enc Tryd.prog Tryd.f6 false true false false) := by
  refine returnsInHanded_of_change_and (C := Tryd.checked) (X := fun w _ => laidMetH Tryd.prog laidL w) (fun _ _ _ hh h => h.of_heap hh) calendarWeeks_own started (by kernel_rfl) Tryd.func6
    (ChangeSpec.witness_shaped (enc := enc) (C := Tryd.checked) (os := os) (X := fun w _ => laidMetH Tryd.prog laidL w) false (World.doorLaid Tryd.prog 400 os) #[.int .i64 0, .int .i64 0] 8 rfl (World.shaped_of_RefB (by kernel_rfl) (by kernel_rfl)) (by kernel_rfl) (by kernel_rfl) (by kernel_rfl) (door_met os _)) ?_
  intro W base args ds gs before hval0 hW _ _ hL _
  have hval : ∀ (j : Nat) t v, Tryd.f6.params[j]? = some t → args[j]? = some v → Value.okWide Tryd.prog W .any base t v := hval0
  have hW' := hW
  obtain ⟨p, q, hA0, hV, rfl, hfz, hnd⟩ := hW
  have hA : DataW.TrodAll enc Tryd.prog W 0 (fun _ => true) true Tryd.f6.params.toList args.toList ds p := hA0
  rw [Tryd.params6] at hA hval
  obtain ⟨v0, vs0, d0, ds0, p0, q0, hargs, rfl, rfl, h0, r0⟩ := trodAll_cons hA
  obtain ⟨v1, vs1, d1, ds1, p1, q1, rfl, rfl, rfl, h1, r1⟩ := trodAll_cons r0
  obtain ⟨rfl, rfl, rfl⟩ := trodAll_nil r1
  obtain rfl : args = #[v0, v1] := by cases args; simp_all
  obtain ⟨rfl, rfl⟩ := trodVars_none hV
  obtain ⟨a0, rfl, rfl, rfl, w0⟩ := open_int Tryd.underlying3 (hval 0 3 v0 rfl rfl) h0
  obtain ⟨a1, rfl, rfl, rfl, w1⟩ := open_int Tryd.underlying3 (hval 1 3 v1 rfl rfl) h1
  refine (CalendarWeeks_walk W (lens_of_laid hL) a0 w0 a1 w1).mono fun e W' ⟨he, hb⟩ => ?_
  subst he
  simp only [List.append_nil] at hW'
  refine ⟨_, rfl, law_post calendarWeeks_laidOut ?_ (by kernel_rfl) Tryd.underlying4 rfl hW' rfl rfl rfl hb⟩
  intro t ht
  have hr := List.all_eq_true.1 calendarWeeks_readable t ht
  rw [Bool.and_eq_true] at hr
  exact ⟨hr.1, of_decide_eq_true hr.2⟩
theorem calendarWeeks_over : Rows.calendarWeeksRow.holds Tryd.pinned (OpenSpec.ofChange Rows.calendarWeeksSpec) :=
  OpenClaim.holds_of_wide 6 Tryd.f6 rfl rfl rfl rfl rfl rfl rfl ⟨rfl, rfl, rfl, rfl, rfl⟩ rfl rfl rfl rfl rfl (by kernel_rfl) Tryd.func6 (by kernel_rfl)
    (of_decide_eq_true (by kernel_rfl)) (by unfold Func.isWrapper; rw [if_neg (of_decide_eq_false (by kernel_rfl))]; exact ⟨rfl, rfl⟩)
    (fun os started H enc _ => calendarWeeks_lifted os started H enc)
theorem calendarWeeks_proved : Rows.CalendarWeeksCardSaid :=
  Claim7.holds_tied_plain_at .later [] [.data] true (true, "ecf52cd2f0e00eeb5a9e4ad7f568b0262762c417b538ca74502acb76cf8551ff") false
    calendarWeeks_over (fun _ h => by cases h) (by kernel_rfl) (fun _ h => by cases h) calendarWeeks_row_tie rfl ⟨rfl, rfl⟩ (by kernel_rfl) rfl
    (fun f fn hf hfn => by
      obtain rfl : f = 6 := Option.some.inj ((show Tryd.prog.funcNamed Rows.calendarWeeksRow.func = some 6 by kernel_rfl).symm.trans hf) |>.symm
      obtain rfl : fn = Tryd.f6 := (Option.some.inj (Tryd.func6.symm.trans hfn)).symm
      exact ⟨by kernel_rfl, fun j t ht => by
        rw [Tryd.params6] at ht
        have hm : t ∈ [3, 3] := by simpa using Array.mem_of_getElem? ht
        have hall : ([3, 3].all fun u => !Tryd.prog.wantsStandIn u) = true := by kernel_rfl
        exact (show Tryd.prog.wantsStandIn t = false by simpa using List.all_eq_true.1 hall t hm)⟩)
    (by kernel_rfl)
#print axioms calendarWeeks_proved
end Go.Proofs.YtlijdbgknbeefaaDoor
