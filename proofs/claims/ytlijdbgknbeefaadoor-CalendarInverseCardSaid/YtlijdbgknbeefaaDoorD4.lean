/- The statement CalendarInverseCardSaid: Day and Date are inverse, and days follow dates; no condition beside the row's own (the table of the months' lengths, tied by the given card). -/
import Derived.Test.YtlijdbgknbeefaaDoorCalW
namespace Go.Proofs.YtlijdbgknbeefaaDoor
open Go.RowKit Go.WideShapes Go.ChangeShapes Go.ChangeAt
theorem isDate_of {n y m d y' m' d' : Int} (h : IsDate n y m d) (hok : Cal.ok y' m' d') (hn : Cal.num y' m' d' = n) : y = y' ∧ m = m' ∧ d = d' := by
  have hv : validB n = true := (validB_iff n).2 ⟨by rw [← hn]; exact Cal.num_nn hok, by rw [← hn]; exact hok.2.2.2.2.2⟩
  exact isDate_one h (by unfold IsDate; rw [if_pos hv]; exact ⟨hok, hn⟩)
set_option linter.unusedVariables false
set_option linter.unusedSimpArgs false
set_option maxRecDepth 100000 in
set_option maxHeartbeats 16000000 in
theorem CalendarInverse_walk (w : World) (hL : Lens w) (n : Int) (wn : (Lit.int .i64 n).wf = true) (y m d : Int) (wy : (Lit.int .i64 y).wf = true) (wm : (Lit.int .i64 m).wf = true) (wd : (Lit.int .i64 d).wf = true) :
    Calls Tryd.prog 4 #[.int .i64 n, .agg #[.int .i64 y, .int .i64 m, .int .i64 d]] w (Fine w) := by
  have HL := Lib.hid hL
  clear hL wy wm wd wn
  cases hv : validB n with
  | false =>
    have HTE := Lib.hid (show dateE n = 10 by unfold dateE; rw [hv]; rfl)
    have hv0 := (validB_false n).1 hv
    clear hv
    by_cases hn0 : 0 ≤ n
    · have hn1 : ¬ n ≤ 1048576 := fun h => hv0 ⟨hn0, h⟩
      clear hv0
      go_enter Tryd.func4, Tryd.ntmps4
      go_wp2_with (fail)
      generalize hge : World.alloc _ _ = w0
      have HK0 := Lib.hid (show Blk w0 w.heap.size 23 #[.int .i64 y, .int .i64 m, .int .i64 d] by subst hge; exact Blk.new w _ _)
      have HB0 := Lib.hid (show Below w.heap.size w w0 by subst hge; exact (Below.refl _ _).alloc (Nat.le_refl _) _)
      clear hge
      refine (csane_any w0 (HL.out.below HB0.out)).mono ?_
      rintro e w1 ⟨rfl, hb1⟩
      have HK1 := Lib.hid (HK0.out.below hb1)
      have HB1 := Lib.hid (below_of HB0.out hb1 HB0.out.size)
      clear hb1
      go_wp2_with (fail)
      refine (Date_any n w1 (HL.out.below HB1.out)).mono ?_
      rintro e w2 ⟨a, b, c, hd1, rfl, hb2⟩
      have HD1 := Lib.hid hd1
      have HK2 := Lib.hid (HK1.out.below hb2)
      have HB2 := Lib.hid (below_of HB1.out hb2 HB1.out.size)
      clear hb2 hd1
      rw [HTE.out]
      go_upto_region 4 with (fail)
      generalize hge : World.alloc _ _ = w3
      have HX3 := Lib.hid (show Blk w3 w2.heap.size 23 #[.int .i64 a, .int .i64 b, .int .i64 c] by subst hge; exact Blk.new w2 _ _)
      have HK3 := Lib.hid (show Blk w3 w.heap.size 23 #[.int .i64 y, .int .i64 m, .int .i64 d] by subst hge; exact HK2.out.alloc _)
      have HB3 := Lib.hid (show Below w.heap.size w w3 by subst hge; exact HB2.out.alloc HB2.out.size _)
      clear hge
      obtain ⟨X3, hX3⟩ : ∃ X, w2.heap.size = X := ⟨_, rfl⟩
      have HX3l := Lib.hid (show w.heap.size < X3 by rw [← hX3]; exact Nat.lt_of_lt_of_le HK2.out.lt (Nat.le_refl _))
      rw [hX3] at HX3 ⊢
      clear hX3
      have q0 := HK3.out.cellv (i := 0) rfl
      have q1 := HK3.out.cellv (i := 1) rfl
      have q2 := HK3.out.cellv (i := 2) rfl
      go_wp2_with (fail)
      refine (Day_any y m d w3 (HL.out.below HB3.out)).mono ?_
      rintro e wy1 ⟨rfl, hby⟩
      have HKy := Lib.hid (HK3.out.below hby)
      have HBy := Lib.hid (below_of HB3.out hby HB3.out.size)
      clear hby q0 q1 q2
      by_cases hok : Cal.ok y m d
      · rw [(dayN_yes hok).1, (dayN_yes hok).2]
        have Hok := Lib.hid hok
        have b1 := Cal.num_nn hok
        have b2 := hok.2.2.2.2.2
        obtain ⟨N, hN⟩ : ∃ x, Cal.num y m d = x := ⟨_, rfl⟩
        have HN := Lib.hid hN
        rw [hN] at b1 b2 ⊢
        clear hok hN
        go_wp2_with (fail)
        refine (Date_any N wy1 (HL.out.below HBy.out)).mono ?_
        rintro e wy2 ⟨a', b', c', hd2, rfl, hb2⟩
        obtain ⟨rfl, rfl, rfl⟩ := isDate_of hd2 Hok.out HN.out
        rw [show dateE N = 0 by unfold dateE; rw [if_pos ((validB_iff N).2 ⟨b1, b2⟩)]]
        have HKz := Lib.hid (HKy.out.below hb2)
        have HBz := Lib.hid (below_of HBy.out hb2 HBy.out.size)
        clear hb2 hd2
        go_upto_region 23 with (fail)
        generalize hge : World.alloc _ _ = wz
        have HYz := Lib.hid (show Blk wz wy2.heap.size 23 #[.int .i64 a', .int .i64 b', .int .i64 c'] by subst hge; exact Blk.new wy2 _ _)
        have HKz2 := Lib.hid (show Blk wz w.heap.size 23 #[.int .i64 a', .int .i64 b', .int .i64 c'] by subst hge; exact HKz.out.alloc _)
        have HBz2 := Lib.hid (show Below w.heap.size w wz by subst hge; exact HBz.out.alloc HBz.out.size _)
        clear hge
        obtain ⟨Xz, hXz⟩ : ∃ X, wy2.heap.size = X := ⟨_, rfl⟩
        rw [hXz] at HYz ⊢
        clear hXz
        have q0 := HKz2.out.cellv (i := 0) rfl
        have q1 := HKz2.out.cellv (i := 1) rfl
        have q2 := HKz2.out.cellv (i := 2) rfl
        have p0 := HYz.out.cellv (i := 0) rfl
        have p1 := HYz.out.cellv (i := 1) rfl
        have p2 := HYz.out.cellv (i := 2) rfl
        have hE := fun W => run_eqDt a' b' c' a' b' c' W
        rw [show decide ((a', b', c') = (a', b', c')) = true by simp] at hE
        go_wp2_with (fail)
        go_ret
        exact ⟨rfl, HBz2.out⟩
      · rw [(dayN_no hok).1, (dayN_no hok).2]
        clear hok
        go_wp2_with (fail)
        go_ret
        exact ⟨rfl, HBy.out⟩
    · have hn1 : True := trivial
      clear hv0
      go_enter Tryd.func4, Tryd.ntmps4
      go_wp2_with (fail)
      generalize hge : World.alloc _ _ = w0
      have HK0 := Lib.hid (show Blk w0 w.heap.size 23 #[.int .i64 y, .int .i64 m, .int .i64 d] by subst hge; exact Blk.new w _ _)
      have HB0 := Lib.hid (show Below w.heap.size w w0 by subst hge; exact (Below.refl _ _).alloc (Nat.le_refl _) _)
      clear hge
      refine (csane_any w0 (HL.out.below HB0.out)).mono ?_
      rintro e w1 ⟨rfl, hb1⟩
      have HK1 := Lib.hid (HK0.out.below hb1)
      have HB1 := Lib.hid (below_of HB0.out hb1 HB0.out.size)
      clear hb1
      go_wp2_with (fail)
      refine (Date_any n w1 (HL.out.below HB1.out)).mono ?_
      rintro e w2 ⟨a, b, c, hd1, rfl, hb2⟩
      have HD1 := Lib.hid hd1
      have HK2 := Lib.hid (HK1.out.below hb2)
      have HB2 := Lib.hid (below_of HB1.out hb2 HB1.out.size)
      clear hb2 hd1
      rw [HTE.out]
      go_upto_region 4 with (fail)
      generalize hge : World.alloc _ _ = w3
      have HX3 := Lib.hid (show Blk w3 w2.heap.size 23 #[.int .i64 a, .int .i64 b, .int .i64 c] by subst hge; exact Blk.new w2 _ _)
      have HK3 := Lib.hid (show Blk w3 w.heap.size 23 #[.int .i64 y, .int .i64 m, .int .i64 d] by subst hge; exact HK2.out.alloc _)
      have HB3 := Lib.hid (show Below w.heap.size w w3 by subst hge; exact HB2.out.alloc HB2.out.size _)
      clear hge
      obtain ⟨X3, hX3⟩ : ∃ X, w2.heap.size = X := ⟨_, rfl⟩
      have HX3l := Lib.hid (show w.heap.size < X3 by rw [← hX3]; exact Nat.lt_of_lt_of_le HK2.out.lt (Nat.le_refl _))
      rw [hX3] at HX3 ⊢
      clear hX3
      have q0 := HK3.out.cellv (i := 0) rfl
      have q1 := HK3.out.cellv (i := 1) rfl
      have q2 := HK3.out.cellv (i := 2) rfl
      go_wp2_with (fail)
      refine (Day_any y m d w3 (HL.out.below HB3.out)).mono ?_
      rintro e wy1 ⟨rfl, hby⟩
      have HKy := Lib.hid (HK3.out.below hby)
      have HBy := Lib.hid (below_of HB3.out hby HB3.out.size)
      clear hby q0 q1 q2
      by_cases hok : Cal.ok y m d
      · rw [(dayN_yes hok).1, (dayN_yes hok).2]
        have Hok := Lib.hid hok
        have b1 := Cal.num_nn hok
        have b2 := hok.2.2.2.2.2
        obtain ⟨N, hN⟩ : ∃ x, Cal.num y m d = x := ⟨_, rfl⟩
        have HN := Lib.hid hN
        rw [hN] at b1 b2 ⊢
        clear hok hN
        go_wp2_with (fail)
        refine (Date_any N wy1 (HL.out.below HBy.out)).mono ?_
        rintro e wy2 ⟨a', b', c', hd2, rfl, hb2⟩
        obtain ⟨rfl, rfl, rfl⟩ := isDate_of hd2 Hok.out HN.out
        rw [show dateE N = 0 by unfold dateE; rw [if_pos ((validB_iff N).2 ⟨b1, b2⟩)]]
        have HKz := Lib.hid (HKy.out.below hb2)
        have HBz := Lib.hid (below_of HBy.out hb2 HBy.out.size)
        clear hb2 hd2
        go_upto_region 23 with (fail)
        generalize hge : World.alloc _ _ = wz
        have HYz := Lib.hid (show Blk wz wy2.heap.size 23 #[.int .i64 a', .int .i64 b', .int .i64 c'] by subst hge; exact Blk.new wy2 _ _)
        have HKz2 := Lib.hid (show Blk wz w.heap.size 23 #[.int .i64 a', .int .i64 b', .int .i64 c'] by subst hge; exact HKz.out.alloc _)
        have HBz2 := Lib.hid (show Below w.heap.size w wz by subst hge; exact HBz.out.alloc HBz.out.size _)
        clear hge
        obtain ⟨Xz, hXz⟩ : ∃ X, wy2.heap.size = X := ⟨_, rfl⟩
        rw [hXz] at HYz ⊢
        clear hXz
        have q0 := HKz2.out.cellv (i := 0) rfl
        have q1 := HKz2.out.cellv (i := 1) rfl
        have q2 := HKz2.out.cellv (i := 2) rfl
        have p0 := HYz.out.cellv (i := 0) rfl
        have p1 := HYz.out.cellv (i := 1) rfl
        have p2 := HYz.out.cellv (i := 2) rfl
        have hE := fun W => run_eqDt a' b' c' a' b' c' W
        rw [show decide ((a', b', c') = (a', b', c')) = true by simp] at hE
        go_wp2_with (fail)
        go_ret
        exact ⟨rfl, HBz2.out⟩
      · rw [(dayN_no hok).1, (dayN_no hok).2]
        clear hok
        go_wp2_with (fail)
        go_ret
        exact ⟨rfl, HBy.out⟩
  | true =>
    obtain ⟨hn0, hn1⟩ := (validB_iff n).1 hv
    have HTE := Lib.hid (show dateE n = 0 by unfold dateE; rw [hv]; rfl)
    have HV := Lib.hid hv
    clear hv
    go_enter Tryd.func4, Tryd.ntmps4
    go_wp2_with (fail)
    generalize hge : World.alloc _ _ = w0
    have HK0 := Lib.hid (show Blk w0 w.heap.size 23 #[.int .i64 y, .int .i64 m, .int .i64 d] by subst hge; exact Blk.new w _ _)
    have HB0 := Lib.hid (show Below w.heap.size w w0 by subst hge; exact (Below.refl _ _).alloc (Nat.le_refl _) _)
    clear hge
    refine (csane_any w0 (HL.out.below HB0.out)).mono ?_
    rintro e w1 ⟨rfl, hb1⟩
    have HK1 := Lib.hid (HK0.out.below hb1)
    have HB1 := Lib.hid (below_of HB0.out hb1 HB0.out.size)
    clear hb1
    go_wp2_with (fail)
    refine (Date_any n w1 (HL.out.below HB1.out)).mono ?_
    rintro e w2 ⟨a, b, c, hd1, rfl, hb2⟩
    have HD1 := Lib.hid hd1
    have HK2 := Lib.hid (HK1.out.below hb2)
    have HB2 := Lib.hid (below_of HB1.out hb2 HB1.out.size)
    clear hb2 hd1
    rw [HTE.out]
    go_upto_region 4 with (fail)
    generalize hge : World.alloc _ _ = w3
    have HX3 := Lib.hid (show Blk w3 w2.heap.size 23 #[.int .i64 a, .int .i64 b, .int .i64 c] by subst hge; exact Blk.new w2 _ _)
    have HK3 := Lib.hid (show Blk w3 w.heap.size 23 #[.int .i64 y, .int .i64 m, .int .i64 d] by subst hge; exact HK2.out.alloc _)
    have HB3 := Lib.hid (show Below w.heap.size w w3 by subst hge; exact HB2.out.alloc HB2.out.size _)
    clear hge
    obtain ⟨X3, hX3⟩ : ∃ X, w2.heap.size = X := ⟨_, rfl⟩
    have HX3l := Lib.hid (show w.heap.size < X3 by rw [← hX3]; exact Nat.lt_of_lt_of_le HK2.out.lt (Nat.le_refl _))
    rw [hX3] at HX3 ⊢
    clear hX3
    have hd1 := HD1.out
    unfold IsDate at hd1
    rw [if_pos HV.out] at hd1
    obtain ⟨hok1, hnum1⟩ := hd1
    obtain ⟨o1, o2, o3, o4, o5, o6⟩ := id hok1
    have oy := Cal.ok_year hok1
    have dd := Cal.dim_bd a b
    have Hok1 := Lib.hid hok1
    have Hnum1 := Lib.hid hnum1
    clear hok1 hnum1 o6
    have q0 := HX3.out.cellv (i := 0) rfl
    have q1 := HX3.out.cellv (i := 1) rfl
    have q2 := HX3.out.cellv (i := 2) rfl
    go_wp2_with (fail)
    refine (Day_any a b c w3 (HL.out.below HB3.out)).mono ?_
    rintro e w4 ⟨rfl, hb4⟩
    rw [(dayN_yes Hok1.out).1, (dayN_yes Hok1.out).2, Hnum1.out]
    have HX4 := Lib.hid (HX3.out.below hb4)
    have HK4 := Lib.hid (HK3.out.below hb4)
    have HB4 := Lib.hid (below_of HB3.out hb4 HB3.out.size)
    clear hb4 q0 q1 q2
    have q0 := HX4.out.cellv (i := 0) rfl
    have q1 := HX4.out.cellv (i := 1) rfl
    have q2 := HX4.out.cellv (i := 2) rfl
    go_upto_region 12 with (fail)
    generalize hge : World.alloc _ _ = w5
    have HN5 := Lib.hid (show Blk w5 w4.heap.size 23 #[.int .i64 a, .int .i64 b, .int .i64 (c + 1)] by subst hge; exact Blk.new w4 _ _)
    have hb5 : Below w4.heap.size w4 w5 := by subst hge; exact (Below.refl _ _).alloc (Nat.le_refl _) _
    have HX5 := Lib.hid (HX4.out.below hb5)
    have HK5 := Lib.hid (HK4.out.below hb5)
    have HB5 := Lib.hid (below_of HB4.out hb5 HB4.out.size)
    clear hge hb5 q0 q1 q2
    obtain ⟨X5, hX5⟩ : ∃ X, w4.heap.size = X := ⟨_, rfl⟩
    have HX5l := Lib.hid (show w.heap.size < X5 ∧ X3 < X5 by rw [← hX5]; exact ⟨HK4.out.lt, HX4.out.lt⟩)
    rw [hX5] at HN5 ⊢
    clear hX5
    have q0 := HX5.out.cellv (i := 0) rfl
    have q1 := HX5.out.cellv (i := 1) rfl
    have q2 := HX5.out.cellv (i := 2) rfl
    have n2 := HN5.out.cellv (i := 2) rfl
    have HMo := Lib.hid (fun W => rMonth_any a b W (by omega) (by omega))
    obtain ⟨dm, hdm⟩ : ∃ x, Cal.dim a b = x := ⟨_, rfl⟩
    rw [hdm] at HMo dd o5
    have HDm := Lib.hid hdm
    clear hdm
    go_quiet ((go_at_call 19; exact Calls.quiet_of_same (turned (HMo.out _))))
    generalize hge : World.drewN _ _ = w6
    have HN6 := Lib.hid (show Blk w6 X5 23 #[.int .i64 a, .int .i64 b, .int .i64 (c + 1)] by subst hge; exact HN5.out)
    have HX6 := Lib.hid (show Blk w6 X3 23 #[.int .i64 a, .int .i64 b, .int .i64 c] by subst hge; exact HX5.out)
    have HK6 := Lib.hid (show Blk w6 w.heap.size 23 #[.int .i64 y, .int .i64 m, .int .i64 d] by subst hge; exact HK5.out)
    have HB6 := Lib.hid (show Below w.heap.size w w6 by subst hge; exact below_drewN HB5.out _)
    clear hge q0 q1 q2 n2
    have q0 := HX6.out.cellv (i := 0) rfl
    have q1 := HX6.out.cellv (i := 1) rfl
    have q2 := HX6.out.cellv (i := 2) rfl
    have n0 := HN6.out.cellv (i := 0) rfl
    have n1 := HN6.out.cellv (i := 1) rfl
    have n2 := HN6.out.cellv (i := 2) rfl
    have f0 := HN6.out.frozen 0
    have f1 := HN6.out.frozen 1
    have f2 := HN6.out.frozen 2
    have x35 : X3 ≠ X5 := Nat.ne_of_lt HX5l.out.2
    have x53 : X5 ≠ X3 := Nat.ne_of_gt HX5l.out.2
    by_cases hc1 : dm < c + 1
    · go_upto_region 14 with (fail)
      generalize hge : World.setCell _ _ _ = w6b
      have HN6b := Lib.hid (show Blk w6b X5 23 #[.int .i64 a, .int .i64 (b + 1), .int .i64 1] by subst hge; exact ((HN6.out.set_ 0 _).set_ 1 _).set_ 2 _)
      have HX6b := Lib.hid (show Blk w6b X3 23 #[.int .i64 a, .int .i64 b, .int .i64 c] by subst hge; exact ((HX6.out.far (by have := HX5l.out.2; simp; omega) _).far (by have := HX5l.out.2; simp; omega) _).far (by have := HX5l.out.2; simp; omega) _)
      have HK6b := Lib.hid (show Blk w6b w.heap.size 23 #[.int .i64 y, .int .i64 m, .int .i64 d] by subst hge; exact ((HK6.out.far (by have := HX5l.out.1; simp; omega) _).far (by have := HX5l.out.1; simp; omega) _).far (by have := HX5l.out.1; simp; omega) _)
      have HB6b := Lib.hid (show Below w.heap.size w w6b by subst hge; exact ((HB6.out.setCell (p := ⟨X5, 0, none⟩) (Nat.le_of_lt HX5l.out.1) _).setCell (p := ⟨X5, 1, none⟩) (Nat.le_of_lt HX5l.out.1) _).setCell (p := ⟨X5, 2, none⟩) (Nat.le_of_lt HX5l.out.1) _)
      clear hge q0 q1 q2 n0 n1 n2 f0 f1 f2
      have q0 := HX6b.out.cellv (i := 0) rfl
      have n0 := HN6b.out.cellv (i := 0) rfl
      have n1 := HN6b.out.cellv (i := 1) rfl
      have n2 := HN6b.out.cellv (i := 2) rfl
      have f0 := HN6b.out.frozen 0
      have f1 := HN6b.out.frozen 1
      have f2 := HN6b.out.frozen 2
      by_cases hc2 : 12 < b + 1
      · skip
        go_upto_region 16 with (fail)
        generalize hge : World.setCell _ _ _ = w7
        have HN7 := Lib.hid (show Blk w7 X5 23 #[.int .i64 (a + 1), .int .i64 1, .int .i64 1] by subst hge; exact ((HN6b.out.set_ 0 _).set_ 1 _).set_ 2 _)
        have HK7 := Lib.hid (show Blk w7 w.heap.size 23 #[.int .i64 y, .int .i64 m, .int .i64 d] by subst hge; exact ((HK6b.out.far (by have := HX5l.out.1; simp; omega) _).far (by have := HX5l.out.1; simp; omega) _).far (by have := HX5l.out.1; simp; omega) _)
        have HB7 := Lib.hid (show Below w.heap.size w w7 by subst hge; exact ((HB6b.out.setCell (p := ⟨X5, 0, none⟩) (Nat.le_of_lt HX5l.out.1) _).setCell (p := ⟨X5, 1, none⟩) (Nat.le_of_lt HX5l.out.1) _).setCell (p := ⟨X5, 2, none⟩) (Nat.le_of_lt HX5l.out.1) _)
        clear hge q0 n0 n1 n2 f0 f1 f2
        have Hnx := Lib.hid (show Cal.nextD a b c = ((a + 1), 1, 1) by unfold Cal.nextD; rw [HDm.out]; rw [if_pos hc1, if_pos (by omega)])
        go_wp2_with (fail)
        refine (Date_any (n + 1) w7 (HL.out.below HB7.out)).mono ?_
        rintro e w8 ⟨a2, b2, c2, hd3, rfl, hb8⟩
        have HD3 := Lib.hid hd3
        have HN8 := Lib.hid (HN7.out.below hb8)
        have HK8 := Lib.hid (HK7.out.below hb8)
        have HB8 := Lib.hid (below_of HB7.out hb8 HB7.out.size)
        clear hb8 hd3
        have HNl := Lib.hid (show X5 < w8.heap.size from HN8.out.lt)
        go_upto_region 17 with (fail)
        generalize hge : World.alloc _ _ = w9
        have HY9 := Lib.hid (show Blk w9 w8.heap.size 23 #[.int .i64 a2, .int .i64 b2, .int .i64 c2] by subst hge; exact Blk.new w8 _ _)
        have HN9 := Lib.hid (show Blk w9 X5 23 #[.int .i64 (a + 1), .int .i64 1, .int .i64 1] by subst hge; exact HN8.out.alloc _)
        have HK9 := Lib.hid (show Blk w9 w.heap.size 23 #[.int .i64 y, .int .i64 m, .int .i64 d] by subst hge; exact HK8.out.alloc _)
        have HB9 := Lib.hid (show Below w.heap.size w w9 by subst hge; exact HB8.out.alloc HB8.out.size _)
        clear hge
        obtain ⟨X8, hX8⟩ : ∃ X, w8.heap.size = X := ⟨_, rfl⟩
        rw [hX8] at HY9 ⊢
        clear hX8
        have e0 := HY9.out.cellv (i := 0) rfl
        have e1 := HY9.out.cellv (i := 1) rfl
        have e2 := HY9.out.cellv (i := 2) rfl
        have n0 := HN9.out.cellv (i := 0) rfl
        have n1 := HN9.out.cellv (i := 1) rfl
        have n2 := HN9.out.cellv (i := 2) rfl
        by_cases hlast : n + 1 ≤ 1048576
        · have ⟨hk1, hk2⟩ := Cal.next_ok Hok1.out (by rw [Hnum1.out]; exact hlast)
          rw [Hnx.out, Hnum1.out] at hk2
          rw [Hnx.out] at hk1
          obtain ⟨r1, r2, r3⟩ := isDate_of HD3.out hk1 hk2
          have hE := fun W => run_eqDt a2 b2 c2 ((a + 1)) (1) (1) W
          rw [show decide ((a2, b2, c2) = ((a + 1), 1, 1)) = true by rw [r1, r2, r3]; simp] at hE
          rw [show dateE (n + 1) = 0 by unfold dateE; rw [if_pos ((validB_iff _).2 ⟨by omega, hlast⟩)]]
          clear hk1 hk2 r1 r2 r3
          go_upto_region 19 with (fail)
          clear e0 e1 e2 n0 n1 n2 hE
          have q0 := HK9.out.cellv (i := 0) rfl
          have q1 := HK9.out.cellv (i := 1) rfl
          have q2 := HK9.out.cellv (i := 2) rfl
          go_wp2_with (fail)
          refine (Day_any y m d w9 (HL.out.below HB9.out)).mono ?_
          rintro e wy1 ⟨rfl, hby⟩
          have HKy := Lib.hid (HK9.out.below hby)
          have HBy := Lib.hid (below_of HB9.out hby HB9.out.size)
          clear hby q0 q1 q2
          by_cases hok : Cal.ok y m d
          · rw [(dayN_yes hok).1, (dayN_yes hok).2]
            have Hok := Lib.hid hok
            have b1 := Cal.num_nn hok
            have b2 := hok.2.2.2.2.2
            obtain ⟨N, hN⟩ : ∃ x, Cal.num y m d = x := ⟨_, rfl⟩
            have HN := Lib.hid hN
            rw [hN] at b1 b2 ⊢
            clear hok hN
            go_wp2_with (fail)
            refine (Date_any N wy1 (HL.out.below HBy.out)).mono ?_
            rintro e wy2 ⟨a', b', c', hd2, rfl, hb2⟩
            obtain ⟨rfl, rfl, rfl⟩ := isDate_of hd2 Hok.out HN.out
            rw [show dateE N = 0 by unfold dateE; rw [if_pos ((validB_iff N).2 ⟨b1, b2⟩)]]
            have HKz := Lib.hid (HKy.out.below hb2)
            have HBz := Lib.hid (below_of HBy.out hb2 HBy.out.size)
            clear hb2 hd2
            go_upto_region 23 with (fail)
            generalize hge : World.alloc _ _ = wz
            have HYz := Lib.hid (show Blk wz wy2.heap.size 23 #[.int .i64 a', .int .i64 b', .int .i64 c'] by subst hge; exact Blk.new wy2 _ _)
            have HKz2 := Lib.hid (show Blk wz w.heap.size 23 #[.int .i64 a', .int .i64 b', .int .i64 c'] by subst hge; exact HKz.out.alloc _)
            have HBz2 := Lib.hid (show Below w.heap.size w wz by subst hge; exact HBz.out.alloc HBz.out.size _)
            clear hge
            obtain ⟨Xz, hXz⟩ : ∃ X, wy2.heap.size = X := ⟨_, rfl⟩
            rw [hXz] at HYz ⊢
            clear hXz
            have q0 := HKz2.out.cellv (i := 0) rfl
            have q1 := HKz2.out.cellv (i := 1) rfl
            have q2 := HKz2.out.cellv (i := 2) rfl
            have p0 := HYz.out.cellv (i := 0) rfl
            have p1 := HYz.out.cellv (i := 1) rfl
            have p2 := HYz.out.cellv (i := 2) rfl
            have hE := fun W => run_eqDt a' b' c' a' b' c' W
            rw [show decide ((a', b', c') = (a', b', c')) = true by simp] at hE
            go_wp2_with (fail)
            go_ret
            exact ⟨rfl, HBz2.out⟩
          · rw [(dayN_no hok).1, (dayN_no hok).2]
            clear hok
            go_wp2_with (fail)
            go_ret
            exact ⟨rfl, HBy.out⟩
        · rw [show dateE (n + 1) = 10 by unfold dateE; rw [if_neg (fun h => hlast ((validB_iff _).1 h).2)]]
          go_upto_region 19 with (fail)
          clear e0 e1 e2 n0 n1 n2
          have q0 := HK9.out.cellv (i := 0) rfl
          have q1 := HK9.out.cellv (i := 1) rfl
          have q2 := HK9.out.cellv (i := 2) rfl
          go_wp2_with (fail)
          refine (Day_any y m d w9 (HL.out.below HB9.out)).mono ?_
          rintro e wy1 ⟨rfl, hby⟩
          have HKy := Lib.hid (HK9.out.below hby)
          have HBy := Lib.hid (below_of HB9.out hby HB9.out.size)
          clear hby q0 q1 q2
          by_cases hok : Cal.ok y m d
          · rw [(dayN_yes hok).1, (dayN_yes hok).2]
            have Hok := Lib.hid hok
            have b1 := Cal.num_nn hok
            have b2 := hok.2.2.2.2.2
            obtain ⟨N, hN⟩ : ∃ x, Cal.num y m d = x := ⟨_, rfl⟩
            have HN := Lib.hid hN
            rw [hN] at b1 b2 ⊢
            clear hok hN
            go_wp2_with (fail)
            refine (Date_any N wy1 (HL.out.below HBy.out)).mono ?_
            rintro e wy2 ⟨a', b', c', hd2, rfl, hb2⟩
            obtain ⟨rfl, rfl, rfl⟩ := isDate_of hd2 Hok.out HN.out
            rw [show dateE N = 0 by unfold dateE; rw [if_pos ((validB_iff N).2 ⟨b1, b2⟩)]]
            have HKz := Lib.hid (HKy.out.below hb2)
            have HBz := Lib.hid (below_of HBy.out hb2 HBy.out.size)
            clear hb2 hd2
            go_upto_region 23 with (fail)
            generalize hge : World.alloc _ _ = wz
            have HYz := Lib.hid (show Blk wz wy2.heap.size 23 #[.int .i64 a', .int .i64 b', .int .i64 c'] by subst hge; exact Blk.new wy2 _ _)
            have HKz2 := Lib.hid (show Blk wz w.heap.size 23 #[.int .i64 a', .int .i64 b', .int .i64 c'] by subst hge; exact HKz.out.alloc _)
            have HBz2 := Lib.hid (show Below w.heap.size w wz by subst hge; exact HBz.out.alloc HBz.out.size _)
            clear hge
            obtain ⟨Xz, hXz⟩ : ∃ X, wy2.heap.size = X := ⟨_, rfl⟩
            rw [hXz] at HYz ⊢
            clear hXz
            have q0 := HKz2.out.cellv (i := 0) rfl
            have q1 := HKz2.out.cellv (i := 1) rfl
            have q2 := HKz2.out.cellv (i := 2) rfl
            have p0 := HYz.out.cellv (i := 0) rfl
            have p1 := HYz.out.cellv (i := 1) rfl
            have p2 := HYz.out.cellv (i := 2) rfl
            have hE := fun W => run_eqDt a' b' c' a' b' c' W
            rw [show decide ((a', b', c') = (a', b', c')) = true by simp] at hE
            go_wp2_with (fail)
            go_ret
            exact ⟨rfl, HBz2.out⟩
          · rw [(dayN_no hok).1, (dayN_no hok).2]
            clear hok
            go_wp2_with (fail)
            go_ret
            exact ⟨rfl, HBy.out⟩
      · obtain ⟨w7, hw7⟩ : ∃ x, x = w6b := ⟨_, rfl⟩
        go_upto_region 16 with (fail)
        have hge : w6b = w7 := hw7.symm
        rw [hge]
        clear hw7
        have HN7 := Lib.hid (show Blk w7 X5 23 #[.int .i64 a, .int .i64 (b + 1), .int .i64 1] by subst hge; exact HN6b.out)
        have HK7 := Lib.hid (show Blk w7 w.heap.size 23 #[.int .i64 y, .int .i64 m, .int .i64 d] by subst hge; exact HK6b.out)
        have HB7 := Lib.hid (show Below w.heap.size w w7 by subst hge; exact HB6b.out)
        clear hge q0 n0 n1 n2 f0 f1 f2
        have Hnx := Lib.hid (show Cal.nextD a b c = (a, (b + 1), 1) by unfold Cal.nextD; rw [HDm.out]; rw [if_pos hc1, if_neg (by omega)])
        go_wp2_with (fail)
        refine (Date_any (n + 1) w7 (HL.out.below HB7.out)).mono ?_
        rintro e w8 ⟨a2, b2, c2, hd3, rfl, hb8⟩
        have HD3 := Lib.hid hd3
        have HN8 := Lib.hid (HN7.out.below hb8)
        have HK8 := Lib.hid (HK7.out.below hb8)
        have HB8 := Lib.hid (below_of HB7.out hb8 HB7.out.size)
        clear hb8 hd3
        have HNl := Lib.hid (show X5 < w8.heap.size from HN8.out.lt)
        go_upto_region 17 with (fail)
        generalize hge : World.alloc _ _ = w9
        have HY9 := Lib.hid (show Blk w9 w8.heap.size 23 #[.int .i64 a2, .int .i64 b2, .int .i64 c2] by subst hge; exact Blk.new w8 _ _)
        have HN9 := Lib.hid (show Blk w9 X5 23 #[.int .i64 a, .int .i64 (b + 1), .int .i64 1] by subst hge; exact HN8.out.alloc _)
        have HK9 := Lib.hid (show Blk w9 w.heap.size 23 #[.int .i64 y, .int .i64 m, .int .i64 d] by subst hge; exact HK8.out.alloc _)
        have HB9 := Lib.hid (show Below w.heap.size w w9 by subst hge; exact HB8.out.alloc HB8.out.size _)
        clear hge
        obtain ⟨X8, hX8⟩ : ∃ X, w8.heap.size = X := ⟨_, rfl⟩
        rw [hX8] at HY9 ⊢
        clear hX8
        have e0 := HY9.out.cellv (i := 0) rfl
        have e1 := HY9.out.cellv (i := 1) rfl
        have e2 := HY9.out.cellv (i := 2) rfl
        have n0 := HN9.out.cellv (i := 0) rfl
        have n1 := HN9.out.cellv (i := 1) rfl
        have n2 := HN9.out.cellv (i := 2) rfl
        by_cases hlast : n + 1 ≤ 1048576
        · have ⟨hk1, hk2⟩ := Cal.next_ok Hok1.out (by rw [Hnum1.out]; exact hlast)
          rw [Hnx.out, Hnum1.out] at hk2
          rw [Hnx.out] at hk1
          obtain ⟨r1, r2, r3⟩ := isDate_of HD3.out hk1 hk2
          have hE := fun W => run_eqDt a2 b2 c2 (a) ((b + 1)) (1) W
          rw [show decide ((a2, b2, c2) = (a, (b + 1), 1)) = true by rw [r1, r2, r3]; simp] at hE
          rw [show dateE (n + 1) = 0 by unfold dateE; rw [if_pos ((validB_iff _).2 ⟨by omega, hlast⟩)]]
          clear hk1 hk2 r1 r2 r3
          go_upto_region 19 with (fail)
          clear e0 e1 e2 n0 n1 n2 hE
          have q0 := HK9.out.cellv (i := 0) rfl
          have q1 := HK9.out.cellv (i := 1) rfl
          have q2 := HK9.out.cellv (i := 2) rfl
          go_wp2_with (fail)
          refine (Day_any y m d w9 (HL.out.below HB9.out)).mono ?_
          rintro e wy1 ⟨rfl, hby⟩
          have HKy := Lib.hid (HK9.out.below hby)
          have HBy := Lib.hid (below_of HB9.out hby HB9.out.size)
          clear hby q0 q1 q2
          by_cases hok : Cal.ok y m d
          · rw [(dayN_yes hok).1, (dayN_yes hok).2]
            have Hok := Lib.hid hok
            have b1 := Cal.num_nn hok
            have b2 := hok.2.2.2.2.2
            obtain ⟨N, hN⟩ : ∃ x, Cal.num y m d = x := ⟨_, rfl⟩
            have HN := Lib.hid hN
            rw [hN] at b1 b2 ⊢
            clear hok hN
            go_wp2_with (fail)
            refine (Date_any N wy1 (HL.out.below HBy.out)).mono ?_
            rintro e wy2 ⟨a', b', c', hd2, rfl, hb2⟩
            obtain ⟨rfl, rfl, rfl⟩ := isDate_of hd2 Hok.out HN.out
            rw [show dateE N = 0 by unfold dateE; rw [if_pos ((validB_iff N).2 ⟨b1, b2⟩)]]
            have HKz := Lib.hid (HKy.out.below hb2)
            have HBz := Lib.hid (below_of HBy.out hb2 HBy.out.size)
            clear hb2 hd2
            go_upto_region 23 with (fail)
            generalize hge : World.alloc _ _ = wz
            have HYz := Lib.hid (show Blk wz wy2.heap.size 23 #[.int .i64 a', .int .i64 b', .int .i64 c'] by subst hge; exact Blk.new wy2 _ _)
            have HKz2 := Lib.hid (show Blk wz w.heap.size 23 #[.int .i64 a', .int .i64 b', .int .i64 c'] by subst hge; exact HKz.out.alloc _)
            have HBz2 := Lib.hid (show Below w.heap.size w wz by subst hge; exact HBz.out.alloc HBz.out.size _)
            clear hge
            obtain ⟨Xz, hXz⟩ : ∃ X, wy2.heap.size = X := ⟨_, rfl⟩
            rw [hXz] at HYz ⊢
            clear hXz
            have q0 := HKz2.out.cellv (i := 0) rfl
            have q1 := HKz2.out.cellv (i := 1) rfl
            have q2 := HKz2.out.cellv (i := 2) rfl
            have p0 := HYz.out.cellv (i := 0) rfl
            have p1 := HYz.out.cellv (i := 1) rfl
            have p2 := HYz.out.cellv (i := 2) rfl
            have hE := fun W => run_eqDt a' b' c' a' b' c' W
            rw [show decide ((a', b', c') = (a', b', c')) = true by simp] at hE
            go_wp2_with (fail)
            go_ret
            exact ⟨rfl, HBz2.out⟩
          · rw [(dayN_no hok).1, (dayN_no hok).2]
            clear hok
            go_wp2_with (fail)
            go_ret
            exact ⟨rfl, HBy.out⟩
        · rw [show dateE (n + 1) = 10 by unfold dateE; rw [if_neg (fun h => hlast ((validB_iff _).1 h).2)]]
          go_upto_region 19 with (fail)
          clear e0 e1 e2 n0 n1 n2
          have q0 := HK9.out.cellv (i := 0) rfl
          have q1 := HK9.out.cellv (i := 1) rfl
          have q2 := HK9.out.cellv (i := 2) rfl
          go_wp2_with (fail)
          refine (Day_any y m d w9 (HL.out.below HB9.out)).mono ?_
          rintro e wy1 ⟨rfl, hby⟩
          have HKy := Lib.hid (HK9.out.below hby)
          have HBy := Lib.hid (below_of HB9.out hby HB9.out.size)
          clear hby q0 q1 q2
          by_cases hok : Cal.ok y m d
          · rw [(dayN_yes hok).1, (dayN_yes hok).2]
            have Hok := Lib.hid hok
            have b1 := Cal.num_nn hok
            have b2 := hok.2.2.2.2.2
            obtain ⟨N, hN⟩ : ∃ x, Cal.num y m d = x := ⟨_, rfl⟩
            have HN := Lib.hid hN
            rw [hN] at b1 b2 ⊢
            clear hok hN
            go_wp2_with (fail)
            refine (Date_any N wy1 (HL.out.below HBy.out)).mono ?_
            rintro e wy2 ⟨a', b', c', hd2, rfl, hb2⟩
            obtain ⟨rfl, rfl, rfl⟩ := isDate_of hd2 Hok.out HN.out
            rw [show dateE N = 0 by unfold dateE; rw [if_pos ((validB_iff N).2 ⟨b1, b2⟩)]]
            have HKz := Lib.hid (HKy.out.below hb2)
            have HBz := Lib.hid (below_of HBy.out hb2 HBy.out.size)
            clear hb2 hd2
            go_upto_region 23 with (fail)
            generalize hge : World.alloc _ _ = wz
            have HYz := Lib.hid (show Blk wz wy2.heap.size 23 #[.int .i64 a', .int .i64 b', .int .i64 c'] by subst hge; exact Blk.new wy2 _ _)
            have HKz2 := Lib.hid (show Blk wz w.heap.size 23 #[.int .i64 a', .int .i64 b', .int .i64 c'] by subst hge; exact HKz.out.alloc _)
            have HBz2 := Lib.hid (show Below w.heap.size w wz by subst hge; exact HBz.out.alloc HBz.out.size _)
            clear hge
            obtain ⟨Xz, hXz⟩ : ∃ X, wy2.heap.size = X := ⟨_, rfl⟩
            rw [hXz] at HYz ⊢
            clear hXz
            have q0 := HKz2.out.cellv (i := 0) rfl
            have q1 := HKz2.out.cellv (i := 1) rfl
            have q2 := HKz2.out.cellv (i := 2) rfl
            have p0 := HYz.out.cellv (i := 0) rfl
            have p1 := HYz.out.cellv (i := 1) rfl
            have p2 := HYz.out.cellv (i := 2) rfl
            have hE := fun W => run_eqDt a' b' c' a' b' c' W
            rw [show decide ((a', b', c') = (a', b', c')) = true by simp] at hE
            go_wp2_with (fail)
            go_ret
            exact ⟨rfl, HBz2.out⟩
          · rw [(dayN_no hok).1, (dayN_no hok).2]
            clear hok
            go_wp2_with (fail)
            go_ret
            exact ⟨rfl, HBy.out⟩
    · obtain ⟨w7, hw7⟩ : ∃ x, x = w6 := ⟨_, rfl⟩
      go_upto_region 16 with (fail)
      have hge : w6 = w7 := hw7.symm
      rw [hge]
      clear hw7
      have HN7 := Lib.hid (show Blk w7 X5 23 #[.int .i64 a, .int .i64 b, .int .i64 (c + 1)] by subst hge; exact HN6.out)
      have HK7 := Lib.hid (show Blk w7 w.heap.size 23 #[.int .i64 y, .int .i64 m, .int .i64 d] by subst hge; exact HK6.out)
      have HB7 := Lib.hid (show Below w.heap.size w w7 by subst hge; exact HB6.out)
      clear hge q0 n0 n1 n2 f0 f1 f2
      have Hnx := Lib.hid (show Cal.nextD a b c = (a, b, (c + 1)) by unfold Cal.nextD; rw [HDm.out]; rw [if_neg (by omega)])
      go_wp2_with (fail)
      refine (Date_any (n + 1) w7 (HL.out.below HB7.out)).mono ?_
      rintro e w8 ⟨a2, b2, c2, hd3, rfl, hb8⟩
      have HD3 := Lib.hid hd3
      have HN8 := Lib.hid (HN7.out.below hb8)
      have HK8 := Lib.hid (HK7.out.below hb8)
      have HB8 := Lib.hid (below_of HB7.out hb8 HB7.out.size)
      clear hb8 hd3
      have HNl := Lib.hid (show X5 < w8.heap.size from HN8.out.lt)
      go_upto_region 17 with (fail)
      generalize hge : World.alloc _ _ = w9
      have HY9 := Lib.hid (show Blk w9 w8.heap.size 23 #[.int .i64 a2, .int .i64 b2, .int .i64 c2] by subst hge; exact Blk.new w8 _ _)
      have HN9 := Lib.hid (show Blk w9 X5 23 #[.int .i64 a, .int .i64 b, .int .i64 (c + 1)] by subst hge; exact HN8.out.alloc _)
      have HK9 := Lib.hid (show Blk w9 w.heap.size 23 #[.int .i64 y, .int .i64 m, .int .i64 d] by subst hge; exact HK8.out.alloc _)
      have HB9 := Lib.hid (show Below w.heap.size w w9 by subst hge; exact HB8.out.alloc HB8.out.size _)
      clear hge
      obtain ⟨X8, hX8⟩ : ∃ X, w8.heap.size = X := ⟨_, rfl⟩
      rw [hX8] at HY9 ⊢
      clear hX8
      have e0 := HY9.out.cellv (i := 0) rfl
      have e1 := HY9.out.cellv (i := 1) rfl
      have e2 := HY9.out.cellv (i := 2) rfl
      have n0 := HN9.out.cellv (i := 0) rfl
      have n1 := HN9.out.cellv (i := 1) rfl
      have n2 := HN9.out.cellv (i := 2) rfl
      by_cases hlast : n + 1 ≤ 1048576
      · have ⟨hk1, hk2⟩ := Cal.next_ok Hok1.out (by rw [Hnum1.out]; exact hlast)
        rw [Hnx.out, Hnum1.out] at hk2
        rw [Hnx.out] at hk1
        obtain ⟨r1, r2, r3⟩ := isDate_of HD3.out hk1 hk2
        have hE := fun W => run_eqDt a2 b2 c2 (a) (b) ((c + 1)) W
        rw [show decide ((a2, b2, c2) = (a, b, (c + 1))) = true by rw [r1, r2, r3]; simp] at hE
        rw [show dateE (n + 1) = 0 by unfold dateE; rw [if_pos ((validB_iff _).2 ⟨by omega, hlast⟩)]]
        clear hk1 hk2 r1 r2 r3
        go_upto_region 19 with (fail)
        clear e0 e1 e2 n0 n1 n2 hE
        have q0 := HK9.out.cellv (i := 0) rfl
        have q1 := HK9.out.cellv (i := 1) rfl
        have q2 := HK9.out.cellv (i := 2) rfl
        go_wp2_with (fail)
        refine (Day_any y m d w9 (HL.out.below HB9.out)).mono ?_
        rintro e wy1 ⟨rfl, hby⟩
        have HKy := Lib.hid (HK9.out.below hby)
        have HBy := Lib.hid (below_of HB9.out hby HB9.out.size)
        clear hby q0 q1 q2
        by_cases hok : Cal.ok y m d
        · rw [(dayN_yes hok).1, (dayN_yes hok).2]
          have Hok := Lib.hid hok
          have b1 := Cal.num_nn hok
          have b2 := hok.2.2.2.2.2
          obtain ⟨N, hN⟩ : ∃ x, Cal.num y m d = x := ⟨_, rfl⟩
          have HN := Lib.hid hN
          rw [hN] at b1 b2 ⊢
          clear hok hN
          go_wp2_with (fail)
          refine (Date_any N wy1 (HL.out.below HBy.out)).mono ?_
          rintro e wy2 ⟨a', b', c', hd2, rfl, hb2⟩
          obtain ⟨rfl, rfl, rfl⟩ := isDate_of hd2 Hok.out HN.out
          rw [show dateE N = 0 by unfold dateE; rw [if_pos ((validB_iff N).2 ⟨b1, b2⟩)]]
          have HKz := Lib.hid (HKy.out.below hb2)
          have HBz := Lib.hid (below_of HBy.out hb2 HBy.out.size)
          clear hb2 hd2
          go_upto_region 23 with (fail)
          generalize hge : World.alloc _ _ = wz
          have HYz := Lib.hid (show Blk wz wy2.heap.size 23 #[.int .i64 a', .int .i64 b', .int .i64 c'] by subst hge; exact Blk.new wy2 _ _)
          have HKz2 := Lib.hid (show Blk wz w.heap.size 23 #[.int .i64 a', .int .i64 b', .int .i64 c'] by subst hge; exact HKz.out.alloc _)
          have HBz2 := Lib.hid (show Below w.heap.size w wz by subst hge; exact HBz.out.alloc HBz.out.size _)
          clear hge
          obtain ⟨Xz, hXz⟩ : ∃ X, wy2.heap.size = X := ⟨_, rfl⟩
          rw [hXz] at HYz ⊢
          clear hXz
          have q0 := HKz2.out.cellv (i := 0) rfl
          have q1 := HKz2.out.cellv (i := 1) rfl
          have q2 := HKz2.out.cellv (i := 2) rfl
          have p0 := HYz.out.cellv (i := 0) rfl
          have p1 := HYz.out.cellv (i := 1) rfl
          have p2 := HYz.out.cellv (i := 2) rfl
          have hE := fun W => run_eqDt a' b' c' a' b' c' W
          rw [show decide ((a', b', c') = (a', b', c')) = true by simp] at hE
          go_wp2_with (fail)
          go_ret
          exact ⟨rfl, HBz2.out⟩
        · rw [(dayN_no hok).1, (dayN_no hok).2]
          clear hok
          go_wp2_with (fail)
          go_ret
          exact ⟨rfl, HBy.out⟩
      · rw [show dateE (n + 1) = 10 by unfold dateE; rw [if_neg (fun h => hlast ((validB_iff _).1 h).2)]]
        go_upto_region 19 with (fail)
        clear e0 e1 e2 n0 n1 n2
        have q0 := HK9.out.cellv (i := 0) rfl
        have q1 := HK9.out.cellv (i := 1) rfl
        have q2 := HK9.out.cellv (i := 2) rfl
        go_wp2_with (fail)
        refine (Day_any y m d w9 (HL.out.below HB9.out)).mono ?_
        rintro e wy1 ⟨rfl, hby⟩
        have HKy := Lib.hid (HK9.out.below hby)
        have HBy := Lib.hid (below_of HB9.out hby HB9.out.size)
        clear hby q0 q1 q2
        by_cases hok : Cal.ok y m d
        · rw [(dayN_yes hok).1, (dayN_yes hok).2]
          have Hok := Lib.hid hok
          have b1 := Cal.num_nn hok
          have b2 := hok.2.2.2.2.2
          obtain ⟨N, hN⟩ : ∃ x, Cal.num y m d = x := ⟨_, rfl⟩
          have HN := Lib.hid hN
          rw [hN] at b1 b2 ⊢
          clear hok hN
          go_wp2_with (fail)
          refine (Date_any N wy1 (HL.out.below HBy.out)).mono ?_
          rintro e wy2 ⟨a', b', c', hd2, rfl, hb2⟩
          obtain ⟨rfl, rfl, rfl⟩ := isDate_of hd2 Hok.out HN.out
          rw [show dateE N = 0 by unfold dateE; rw [if_pos ((validB_iff N).2 ⟨b1, b2⟩)]]
          have HKz := Lib.hid (HKy.out.below hb2)
          have HBz := Lib.hid (below_of HBy.out hb2 HBy.out.size)
          clear hb2 hd2
          go_upto_region 23 with (fail)
          generalize hge : World.alloc _ _ = wz
          have HYz := Lib.hid (show Blk wz wy2.heap.size 23 #[.int .i64 a', .int .i64 b', .int .i64 c'] by subst hge; exact Blk.new wy2 _ _)
          have HKz2 := Lib.hid (show Blk wz w.heap.size 23 #[.int .i64 a', .int .i64 b', .int .i64 c'] by subst hge; exact HKz.out.alloc _)
          have HBz2 := Lib.hid (show Below w.heap.size w wz by subst hge; exact HBz.out.alloc HBz.out.size _)
          clear hge
          obtain ⟨Xz, hXz⟩ : ∃ X, wy2.heap.size = X := ⟨_, rfl⟩
          rw [hXz] at HYz ⊢
          clear hXz
          have q0 := HKz2.out.cellv (i := 0) rfl
          have q1 := HKz2.out.cellv (i := 1) rfl
          have q2 := HKz2.out.cellv (i := 2) rfl
          have p0 := HYz.out.cellv (i := 0) rfl
          have p1 := HYz.out.cellv (i := 1) rfl
          have p2 := HYz.out.cellv (i := 2) rfl
          have hE := fun W => run_eqDt a' b' c' a' b' c' W
          rw [show decide ((a', b', c') = (a', b', c')) = true by simp] at hE
          go_wp2_with (fail)
          go_ret
          exact ⟨rfl, HBz2.out⟩
        · rw [(dayN_no hok).1, (dayN_no hok).2]
          clear hok
          go_wp2_with (fail)
          go_ret
          exact ⟨rfl, HBy.out⟩
-- the row
theorem calendarInverse_own : ownKnob Tryd.prog.godebug = none := by kernel_rfl
theorem calendarInverse_laidOut : laidOutB Tryd.prog = true := by kernel_rfl
theorem calendarInverse_readable : (Tryd.f4.params.toList.all fun t => Tryd.prog.readableRec t && decide (t < Tryd.prog.types.size)) = true := by kernel_rfl
set_option maxRecDepth 100000 in
theorem calendarInverse_lifted (os : Os) (started : os.Started) (H : Type) (enc : TypeId × Value → H) :
    ReturnsInHanded {} Tryd.checked os 4 .any (fun w args => (Rows.calendarInverseSpec.pre enc Tryd.prog Tryd.f4 [] false w args ∧ laidMetH Tryd.prog laidL w) ∧ sizedMet enc Tryd.prog Tryd.f4 (OpenSpec.ofChange Rows.calendarInverseSpec) false w args) (Rows.calendarInverseSpec.post enc Tryd.prog Tryd.f4 false true false false) := by
  refine returnsInHanded_of_change_and (C := Tryd.checked) (X := fun w _ => laidMetH Tryd.prog laidL w) (fun _ _ _ hh h => h.of_heap hh) calendarInverse_own started (by kernel_rfl) Tryd.func4
    (ChangeSpec.witness_shaped (enc := enc) (C := Tryd.checked) (os := os) (X := fun w _ => laidMetH Tryd.prog laidL w) false (World.doorLaid Tryd.prog 400 os) #[.int .i64 0, .agg #[.int .i64 0, .int .i64 0, .int .i64 0]] 8 rfl (World.shaped_of_RefB (by kernel_rfl) (by kernel_rfl)) (by kernel_rfl) (by kernel_rfl) (by kernel_rfl) (door_met os _)) ?_
  intro W base args ds gs before hval0 hW _ _ hL _
  have hval : ∀ (j : Nat) t v, Tryd.f4.params[j]? = some t → args[j]? = some v → Value.okWide Tryd.prog W .any base t v := hval0
  have hW' := hW
  obtain ⟨p, q, hA0, hV, rfl, hfz, hnd⟩ := hW
  have hA : DataW.TrodAll enc Tryd.prog W 0 (fun _ => true) true Tryd.f4.params.toList args.toList ds p := hA0
  rw [Tryd.params4] at hA hval
  obtain ⟨v0, vs0, d0, ds0, p0, q0, hargs, rfl, rfl, h0, r0⟩ := trodAll_cons hA
  obtain ⟨v1, vs1, d1, ds1, p1, q1, rfl, rfl, rfl, h1, r1⟩ := trodAll_cons r0
  obtain ⟨rfl, rfl, rfl⟩ := trodAll_nil r1
  obtain rfl : args = #[v0, v1] := by cases args; simp_all
  obtain ⟨rfl, rfl⟩ := trodVars_none hV
  obtain ⟨a0, rfl, rfl, rfl, w0⟩ := open_int Tryd.underlying3 (hval 0 3 v0 rfl rfl) h0
  obtain ⟨y1, m1, e1, rfl, wy1, wm1, we1⟩ := open_date (hval 1 23 v1 rfl rfl) h1
  refine (CalendarInverse_walk W (lens_of_laid hL) a0 w0 y1 m1 e1 wy1 wm1 we1).mono fun e W' ⟨he, hb⟩ => ?_
  subst he
  simp only [List.append_nil] at hW'
  refine ⟨_, rfl, law_post calendarInverse_laidOut ?_ (by kernel_rfl) Tryd.underlying4 rfl hW' rfl rfl rfl hb⟩
  intro t ht
  have hr := List.all_eq_true.1 calendarInverse_readable t ht
  rw [Bool.and_eq_true] at hr
  exact ⟨hr.1, of_decide_eq_true hr.2⟩
theorem calendarInverse_over : Rows.calendarInverseRow.holds Tryd.pinned (OpenSpec.ofChange Rows.calendarInverseSpec) :=
  OpenClaim.holds_of_wide 4 Tryd.f4 rfl rfl rfl rfl rfl rfl rfl ⟨rfl, rfl, rfl, rfl, rfl⟩ rfl rfl rfl rfl rfl (by kernel_rfl) Tryd.func4 (by kernel_rfl)
    (of_decide_eq_true (by kernel_rfl)) (by unfold Func.isWrapper; rw [if_neg (of_decide_eq_false (by kernel_rfl))]; exact ⟨rfl, rfl⟩)
    (fun os started H enc _ => calendarInverse_lifted os started H enc)
theorem calendarInverse_proved : Rows.CalendarInverseCardSaid :=
  Claim7.holds_tied_plain_at .later [] [.data] true (true, "ecf52cd2f0e00eeb5a9e4ad7f568b0262762c417b538ca74502acb76cf8551ff") false
    calendarInverse_over (fun _ h => by cases h) (by kernel_rfl) (fun _ h => by cases h) calendarInverse_row_tie rfl ⟨rfl, rfl⟩ (by kernel_rfl) rfl
    (fun f fn hf hfn => by
      obtain rfl : f = 4 := Option.some.inj ((show Tryd.prog.funcNamed Rows.calendarInverseRow.func = some 4 by kernel_rfl).symm.trans hf) |>.symm
      obtain rfl : fn = Tryd.f4 := (Option.some.inj (Tryd.func4.symm.trans hfn)).symm
      exact ⟨by kernel_rfl, fun j t ht => by
        rw [Tryd.params4] at ht
        have hm : t ∈ [3, 23] := by simpa using Array.mem_of_getElem? ht
        have hall : ([3, 23].all fun u => !Tryd.prog.wantsStandIn u) = true := by kernel_rfl
        exact (show Tryd.prog.wantsStandIn t = false by simpa using List.all_eq_true.1 hall t hm)⟩)
    (by kernel_rfl)
#print axioms calendarInverse_proved
end Go.Proofs.YtlijdbgknbeefaaDoor
