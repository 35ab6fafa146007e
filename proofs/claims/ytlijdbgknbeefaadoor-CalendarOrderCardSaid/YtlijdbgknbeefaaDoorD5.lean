/- The statement CalendarOrderCardSaid: of two dates that Day accepts the later one has the greater number; no condition beside the row's own (the table of the months' lengths, tied by the given card). -/
import Derived.Test.YtlijdbgknbeefaaDoorCalW
namespace Go.Proofs.YtlijdbgknbeefaaDoor
open Go.RowKit Go.WideShapes Go.ChangeShapes Go.ChangeAt
set_option linter.unusedVariables false
set_option maxRecDepth 100000 in
set_option maxHeartbeats 16000000 in
theorem CalendarOrder_walk (w : World) (hL : Lens w) (y m d : Int) (wy : (Lit.int .i64 y).wf = true) (wm : (Lit.int .i64 m).wf = true) (wd : (Lit.int .i64 d).wf = true) (y' m' d' : Int) (wy' : (Lit.int .i64 y').wf = true) (wm' : (Lit.int .i64 m').wf = true) (wd' : (Lit.int .i64 d').wf = true) :
    Calls Tryd.prog 5 #[.agg #[.int .i64 y, .int .i64 m, .int .i64 d], .agg #[.int .i64 y', .int .i64 m', .int .i64 d']] w (Fine w) := by
  have HL := Lib.hid hL
  clear hL wy wm wd wy' wm' wd'
  by_cases hok1 : Cal.ok y m d
  · by_cases hok2 : Cal.ok y' m' d'
    · have h1n := dayN_yes hok1
      have h2n := dayN_yes hok2
      have hlt := Cal.num_lt hok1 hok2
      have hgt := Cal.num_lt hok2 hok1
      clear hok1 hok2
      obtain ⟨N, hN⟩ : ∃ x, Cal.num y m d = x := ⟨_, rfl⟩
      obtain ⟨M, hM⟩ : ∃ x, Cal.num y' m' d' = x := ⟨_, rfl⟩
      rw [hN] at h1n
      rw [hM] at h2n
      rw [hN, hM] at hlt hgt
      unfold Cal.later at hlt hgt
      have H1 := Lib.hid h1n
      have H2 := Lib.hid h2n
      clear h1n h2n
      rcases Int.lt_trichotomy y y' with hy | hy | hy
      · skip
        have hNM : N < M := hlt.2 (by omega)
        have hNe : (N == M) = false := by simp; omega
        clear hN hM hlt hgt
        go_enter Tryd.func5, Tryd.ntmps5
        go_wp2_with (fail)
        generalize hge : World.alloc _ _ = w0
        have HK0 := Lib.hid (show Blk w0 w.heap.size 23 #[.int .i64 y, .int .i64 m, .int .i64 d] by subst hge; exact (Blk.new w _ _).alloc _)
        have HM0 := Lib.hid (show Blk w0 (w.heap.size + 1) 23 #[.int .i64 y', .int .i64 m', .int .i64 d'] by subst hge; have := Blk.new (w.alloc (.cells #[.int .i64 y, .int .i64 m, .int .i64 d] 23)) 23 #[.int .i64 y', .int .i64 m', .int .i64 d']; simpa using this)
        have HB0 := Lib.hid (show Below w.heap.size w w0 by subst hge; exact ((Below.refl _ _).alloc (Nat.le_refl _) _).alloc (by simp) _)
        clear hge
        refine (csane_any w0 (HL.out.below HB0.out)).mono ?_
        rintro e w1 ⟨rfl, hb1⟩
        have HK1 := Lib.hid (HK0.out.below hb1)
        have HM1 := Lib.hid (HM0.out.below hb1)
        have HB1 := Lib.hid (below_of HB0.out hb1 HB0.out.size)
        clear hb1
        have q0 := HK1.out.cellv (i := 0) rfl
        have q1 := HK1.out.cellv (i := 1) rfl
        have q2 := HK1.out.cellv (i := 2) rfl
        go_wp2_with (fail)
        refine (Day_any y m d w1 (HL.out.below HB1.out)).mono ?_
        rintro e w2 ⟨rfl, hb2⟩
        rw [H1.out.1, H1.out.2]
        have HK2 := Lib.hid (HK1.out.below hb2)
        have HM2 := Lib.hid (HM1.out.below hb2)
        have HB2 := Lib.hid (below_of HB1.out hb2 HB1.out.size)
        clear hb2 q0 q1 q2
        have q0 := HM2.out.cellv (i := 0) rfl
        have q1 := HM2.out.cellv (i := 1) rfl
        have q2 := HM2.out.cellv (i := 2) rfl
        go_wp2_with (fail)
        refine (Day_any y' m' d' w2 (HL.out.below HB2.out)).mono ?_
        rintro e w3 ⟨rfl, hb3⟩
        rw [H2.out.1, H2.out.2]
        have HK3 := Lib.hid (HK2.out.below hb3)
        have HM3 := Lib.hid (HM2.out.below hb3)
        have HB3 := Lib.hid (below_of HB2.out hb3 HB2.out.size)
        clear hb3 q0 q1 q2
        have q0 := HK3.out.cellv (i := 0) rfl
        have q1 := HK3.out.cellv (i := 1) rfl
        have q2 := HK3.out.cellv (i := 2) rfl
        have p0 := HM3.out.cellv (i := 0) rfl
        have p1 := HM3.out.cellv (i := 1) rfl
        have p2 := HM3.out.cellv (i := 2) rfl
        have hE := fun W => run_eqDt y m d y' m' d' W
        rw [show decide ((y, m, d) = (y', m', d')) = false by simp; omega] at hE
        go_wp2_with (fail)
        all_goals
          go_ret
          exact ⟨rfl, HB3.out⟩
      · subst hy
        rcases Int.lt_trichotomy m m' with hm | hm | hm
        · skip
          have hNM : N < M := hlt.2 (by omega)
          have hNe : (N == M) = false := by simp; omega
          clear hN hM hlt hgt
          go_enter Tryd.func5, Tryd.ntmps5
          go_wp2_with (fail)
          generalize hge : World.alloc _ _ = w0
          have HK0 := Lib.hid (show Blk w0 w.heap.size 23 #[.int .i64 y, .int .i64 m, .int .i64 d] by subst hge; exact (Blk.new w _ _).alloc _)
          have HM0 := Lib.hid (show Blk w0 (w.heap.size + 1) 23 #[.int .i64 y, .int .i64 m', .int .i64 d'] by subst hge; have := Blk.new (w.alloc (.cells #[.int .i64 y, .int .i64 m, .int .i64 d] 23)) 23 #[.int .i64 y, .int .i64 m', .int .i64 d']; simpa using this)
          have HB0 := Lib.hid (show Below w.heap.size w w0 by subst hge; exact ((Below.refl _ _).alloc (Nat.le_refl _) _).alloc (by simp) _)
          clear hge
          refine (csane_any w0 (HL.out.below HB0.out)).mono ?_
          rintro e w1 ⟨rfl, hb1⟩
          have HK1 := Lib.hid (HK0.out.below hb1)
          have HM1 := Lib.hid (HM0.out.below hb1)
          have HB1 := Lib.hid (below_of HB0.out hb1 HB0.out.size)
          clear hb1
          have q0 := HK1.out.cellv (i := 0) rfl
          have q1 := HK1.out.cellv (i := 1) rfl
          have q2 := HK1.out.cellv (i := 2) rfl
          go_wp2_with (fail)
          refine (Day_any y m d w1 (HL.out.below HB1.out)).mono ?_
          rintro e w2 ⟨rfl, hb2⟩
          rw [H1.out.1, H1.out.2]
          have HK2 := Lib.hid (HK1.out.below hb2)
          have HM2 := Lib.hid (HM1.out.below hb2)
          have HB2 := Lib.hid (below_of HB1.out hb2 HB1.out.size)
          clear hb2 q0 q1 q2
          have q0 := HM2.out.cellv (i := 0) rfl
          have q1 := HM2.out.cellv (i := 1) rfl
          have q2 := HM2.out.cellv (i := 2) rfl
          go_wp2_with (fail)
          refine (Day_any y m' d' w2 (HL.out.below HB2.out)).mono ?_
          rintro e w3 ⟨rfl, hb3⟩
          rw [H2.out.1, H2.out.2]
          have HK3 := Lib.hid (HK2.out.below hb3)
          have HM3 := Lib.hid (HM2.out.below hb3)
          have HB3 := Lib.hid (below_of HB2.out hb3 HB2.out.size)
          clear hb3 q0 q1 q2
          have q0 := HK3.out.cellv (i := 0) rfl
          have q1 := HK3.out.cellv (i := 1) rfl
          have q2 := HK3.out.cellv (i := 2) rfl
          have p0 := HM3.out.cellv (i := 0) rfl
          have p1 := HM3.out.cellv (i := 1) rfl
          have p2 := HM3.out.cellv (i := 2) rfl
          have hE := fun W => run_eqDt y m d y m' d' W
          rw [show decide ((y, m, d) = (y, m', d')) = false by simp; omega] at hE
          go_wp2_with (fail)
          all_goals
            go_ret
            exact ⟨rfl, HB3.out⟩
        · subst hm
          rcases Int.lt_trichotomy d d' with hd | hd | hd
          · skip
            have hNM : N < M := hlt.2 (by omega)
            have hNe : (N == M) = false := by simp; omega
            clear hN hM hlt hgt
            go_enter Tryd.func5, Tryd.ntmps5
            go_wp2_with (fail)
            generalize hge : World.alloc _ _ = w0
            have HK0 := Lib.hid (show Blk w0 w.heap.size 23 #[.int .i64 y, .int .i64 m, .int .i64 d] by subst hge; exact (Blk.new w _ _).alloc _)
            have HM0 := Lib.hid (show Blk w0 (w.heap.size + 1) 23 #[.int .i64 y, .int .i64 m, .int .i64 d'] by subst hge; have := Blk.new (w.alloc (.cells #[.int .i64 y, .int .i64 m, .int .i64 d] 23)) 23 #[.int .i64 y, .int .i64 m, .int .i64 d']; simpa using this)
            have HB0 := Lib.hid (show Below w.heap.size w w0 by subst hge; exact ((Below.refl _ _).alloc (Nat.le_refl _) _).alloc (by simp) _)
            clear hge
            refine (csane_any w0 (HL.out.below HB0.out)).mono ?_
            rintro e w1 ⟨rfl, hb1⟩
            have HK1 := Lib.hid (HK0.out.below hb1)
            have HM1 := Lib.hid (HM0.out.below hb1)
            have HB1 := Lib.hid (below_of HB0.out hb1 HB0.out.size)
            clear hb1
            have q0 := HK1.out.cellv (i := 0) rfl
            have q1 := HK1.out.cellv (i := 1) rfl
            have q2 := HK1.out.cellv (i := 2) rfl
            go_wp2_with (fail)
            refine (Day_any y m d w1 (HL.out.below HB1.out)).mono ?_
            rintro e w2 ⟨rfl, hb2⟩
            rw [H1.out.1, H1.out.2]
            have HK2 := Lib.hid (HK1.out.below hb2)
            have HM2 := Lib.hid (HM1.out.below hb2)
            have HB2 := Lib.hid (below_of HB1.out hb2 HB1.out.size)
            clear hb2 q0 q1 q2
            have q0 := HM2.out.cellv (i := 0) rfl
            have q1 := HM2.out.cellv (i := 1) rfl
            have q2 := HM2.out.cellv (i := 2) rfl
            go_wp2_with (fail)
            refine (Day_any y m d' w2 (HL.out.below HB2.out)).mono ?_
            rintro e w3 ⟨rfl, hb3⟩
            rw [H2.out.1, H2.out.2]
            have HK3 := Lib.hid (HK2.out.below hb3)
            have HM3 := Lib.hid (HM2.out.below hb3)
            have HB3 := Lib.hid (below_of HB2.out hb3 HB2.out.size)
            clear hb3 q0 q1 q2
            have q0 := HK3.out.cellv (i := 0) rfl
            have q1 := HK3.out.cellv (i := 1) rfl
            have q2 := HK3.out.cellv (i := 2) rfl
            have p0 := HM3.out.cellv (i := 0) rfl
            have p1 := HM3.out.cellv (i := 1) rfl
            have p2 := HM3.out.cellv (i := 2) rfl
            have hE := fun W => run_eqDt y m d y m d' W
            rw [show decide ((y, m, d) = (y, m, d')) = false by simp; omega] at hE
            go_wp2_with (fail)
            all_goals
              go_ret
              exact ⟨rfl, HB3.out⟩
          · subst hd
            obtain rfl : N = M := hN.symm.trans hM
            clear hN hM hlt hgt
            go_enter Tryd.func5, Tryd.ntmps5
            go_wp2_with (fail)
            generalize hge : World.alloc _ _ = w0
            have HK0 := Lib.hid (show Blk w0 w.heap.size 23 #[.int .i64 y, .int .i64 m, .int .i64 d] by subst hge; exact (Blk.new w _ _).alloc _)
            have HM0 := Lib.hid (show Blk w0 (w.heap.size + 1) 23 #[.int .i64 y, .int .i64 m, .int .i64 d] by subst hge; have := Blk.new (w.alloc (.cells #[.int .i64 y, .int .i64 m, .int .i64 d] 23)) 23 #[.int .i64 y, .int .i64 m, .int .i64 d]; simpa using this)
            have HB0 := Lib.hid (show Below w.heap.size w w0 by subst hge; exact ((Below.refl _ _).alloc (Nat.le_refl _) _).alloc (by simp) _)
            clear hge
            refine (csane_any w0 (HL.out.below HB0.out)).mono ?_
            rintro e w1 ⟨rfl, hb1⟩
            have HK1 := Lib.hid (HK0.out.below hb1)
            have HM1 := Lib.hid (HM0.out.below hb1)
            have HB1 := Lib.hid (below_of HB0.out hb1 HB0.out.size)
            clear hb1
            have q0 := HK1.out.cellv (i := 0) rfl
            have q1 := HK1.out.cellv (i := 1) rfl
            have q2 := HK1.out.cellv (i := 2) rfl
            go_wp2_with (fail)
            refine (Day_any y m d w1 (HL.out.below HB1.out)).mono ?_
            rintro e w2 ⟨rfl, hb2⟩
            rw [H1.out.1, H1.out.2]
            have HK2 := Lib.hid (HK1.out.below hb2)
            have HM2 := Lib.hid (HM1.out.below hb2)
            have HB2 := Lib.hid (below_of HB1.out hb2 HB1.out.size)
            clear hb2 q0 q1 q2
            have q0 := HM2.out.cellv (i := 0) rfl
            have q1 := HM2.out.cellv (i := 1) rfl
            have q2 := HM2.out.cellv (i := 2) rfl
            go_wp2_with (fail)
            refine (Day_any y m d w2 (HL.out.below HB2.out)).mono ?_
            rintro e w3 ⟨rfl, hb3⟩
            rw [H2.out.1, H2.out.2]
            have HK3 := Lib.hid (HK2.out.below hb3)
            have HM3 := Lib.hid (HM2.out.below hb3)
            have HB3 := Lib.hid (below_of HB2.out hb3 HB2.out.size)
            clear hb3 q0 q1 q2
            have q0 := HK3.out.cellv (i := 0) rfl
            have q1 := HK3.out.cellv (i := 1) rfl
            have q2 := HK3.out.cellv (i := 2) rfl
            have p0 := HM3.out.cellv (i := 0) rfl
            have p1 := HM3.out.cellv (i := 1) rfl
            have p2 := HM3.out.cellv (i := 2) rfl
            have hE := fun W => run_eqDt y m d y m d W
            rw [show decide ((y, m, d) = (y, m, d)) = true by simp] at hE
            go_wp2_with (fail)
            all_goals
              go_ret
              exact ⟨rfl, HB3.out⟩
          · have e1 : ¬ d < d' := by omega
            have e3 : decide (d < d') = false := by simpa using e1
            have hNM : ¬ N < M := by have := hgt.2 (by omega); omega
            have hNMb : decide (N < M) = false := by simpa using hNM
            have hNe : (N == M) = false := by have := hgt.2 (by omega); simp; omega
            clear hN hM hlt hgt
            go_enter Tryd.func5, Tryd.ntmps5
            go_wp2_with (fail)
            generalize hge : World.alloc _ _ = w0
            have HK0 := Lib.hid (show Blk w0 w.heap.size 23 #[.int .i64 y, .int .i64 m, .int .i64 d] by subst hge; exact (Blk.new w _ _).alloc _)
            have HM0 := Lib.hid (show Blk w0 (w.heap.size + 1) 23 #[.int .i64 y, .int .i64 m, .int .i64 d'] by subst hge; have := Blk.new (w.alloc (.cells #[.int .i64 y, .int .i64 m, .int .i64 d] 23)) 23 #[.int .i64 y, .int .i64 m, .int .i64 d']; simpa using this)
            have HB0 := Lib.hid (show Below w.heap.size w w0 by subst hge; exact ((Below.refl _ _).alloc (Nat.le_refl _) _).alloc (by simp) _)
            clear hge
            refine (csane_any w0 (HL.out.below HB0.out)).mono ?_
            rintro e w1 ⟨rfl, hb1⟩
            have HK1 := Lib.hid (HK0.out.below hb1)
            have HM1 := Lib.hid (HM0.out.below hb1)
            have HB1 := Lib.hid (below_of HB0.out hb1 HB0.out.size)
            clear hb1
            have q0 := HK1.out.cellv (i := 0) rfl
            have q1 := HK1.out.cellv (i := 1) rfl
            have q2 := HK1.out.cellv (i := 2) rfl
            go_wp2_with (fail)
            refine (Day_any y m d w1 (HL.out.below HB1.out)).mono ?_
            rintro e w2 ⟨rfl, hb2⟩
            rw [H1.out.1, H1.out.2]
            have HK2 := Lib.hid (HK1.out.below hb2)
            have HM2 := Lib.hid (HM1.out.below hb2)
            have HB2 := Lib.hid (below_of HB1.out hb2 HB1.out.size)
            clear hb2 q0 q1 q2
            have q0 := HM2.out.cellv (i := 0) rfl
            have q1 := HM2.out.cellv (i := 1) rfl
            have q2 := HM2.out.cellv (i := 2) rfl
            go_wp2_with (fail)
            refine (Day_any y m d' w2 (HL.out.below HB2.out)).mono ?_
            rintro e w3 ⟨rfl, hb3⟩
            rw [H2.out.1, H2.out.2]
            have HK3 := Lib.hid (HK2.out.below hb3)
            have HM3 := Lib.hid (HM2.out.below hb3)
            have HB3 := Lib.hid (below_of HB2.out hb3 HB2.out.size)
            clear hb3 q0 q1 q2
            have q0 := HK3.out.cellv (i := 0) rfl
            have q1 := HK3.out.cellv (i := 1) rfl
            have q2 := HK3.out.cellv (i := 2) rfl
            have p0 := HM3.out.cellv (i := 0) rfl
            have p1 := HM3.out.cellv (i := 1) rfl
            have p2 := HM3.out.cellv (i := 2) rfl
            have hE := fun W => run_eqDt y m d y m d' W
            rw [show decide ((y, m, d) = (y, m, d')) = false by simp; omega] at hE
            go_wp2_with (fail)
            all_goals
              go_ret
              exact ⟨rfl, HB3.out⟩
        · have e1 : ¬ m < m' := by omega
          have e3 : decide (m < m') = false := by simpa using e1
          have e2 : (m == m') = false := by simp; omega
          have hNM : ¬ N < M := by have := hgt.2 (by omega); omega
          have hNMb : decide (N < M) = false := by simpa using hNM
          have hNe : (N == M) = false := by have := hgt.2 (by omega); simp; omega
          clear hN hM hlt hgt
          go_enter Tryd.func5, Tryd.ntmps5
          go_wp2_with (fail)
          generalize hge : World.alloc _ _ = w0
          have HK0 := Lib.hid (show Blk w0 w.heap.size 23 #[.int .i64 y, .int .i64 m, .int .i64 d] by subst hge; exact (Blk.new w _ _).alloc _)
          have HM0 := Lib.hid (show Blk w0 (w.heap.size + 1) 23 #[.int .i64 y, .int .i64 m', .int .i64 d'] by subst hge; have := Blk.new (w.alloc (.cells #[.int .i64 y, .int .i64 m, .int .i64 d] 23)) 23 #[.int .i64 y, .int .i64 m', .int .i64 d']; simpa using this)
          have HB0 := Lib.hid (show Below w.heap.size w w0 by subst hge; exact ((Below.refl _ _).alloc (Nat.le_refl _) _).alloc (by simp) _)
          clear hge
          refine (csane_any w0 (HL.out.below HB0.out)).mono ?_
          rintro e w1 ⟨rfl, hb1⟩
          have HK1 := Lib.hid (HK0.out.below hb1)
          have HM1 := Lib.hid (HM0.out.below hb1)
          have HB1 := Lib.hid (below_of HB0.out hb1 HB0.out.size)
          clear hb1
          have q0 := HK1.out.cellv (i := 0) rfl
          have q1 := HK1.out.cellv (i := 1) rfl
          have q2 := HK1.out.cellv (i := 2) rfl
          go_wp2_with (fail)
          refine (Day_any y m d w1 (HL.out.below HB1.out)).mono ?_
          rintro e w2 ⟨rfl, hb2⟩
          rw [H1.out.1, H1.out.2]
          have HK2 := Lib.hid (HK1.out.below hb2)
          have HM2 := Lib.hid (HM1.out.below hb2)
          have HB2 := Lib.hid (below_of HB1.out hb2 HB1.out.size)
          clear hb2 q0 q1 q2
          have q0 := HM2.out.cellv (i := 0) rfl
          have q1 := HM2.out.cellv (i := 1) rfl
          have q2 := HM2.out.cellv (i := 2) rfl
          go_wp2_with (fail)
          refine (Day_any y m' d' w2 (HL.out.below HB2.out)).mono ?_
          rintro e w3 ⟨rfl, hb3⟩
          rw [H2.out.1, H2.out.2]
          have HK3 := Lib.hid (HK2.out.below hb3)
          have HM3 := Lib.hid (HM2.out.below hb3)
          have HB3 := Lib.hid (below_of HB2.out hb3 HB2.out.size)
          clear hb3 q0 q1 q2
          have q0 := HK3.out.cellv (i := 0) rfl
          have q1 := HK3.out.cellv (i := 1) rfl
          have q2 := HK3.out.cellv (i := 2) rfl
          have p0 := HM3.out.cellv (i := 0) rfl
          have p1 := HM3.out.cellv (i := 1) rfl
          have p2 := HM3.out.cellv (i := 2) rfl
          have hE := fun W => run_eqDt y m d y m' d' W
          rw [show decide ((y, m, d) = (y, m', d')) = false by simp; omega] at hE
          go_wp2_with (fail)
          all_goals
            go_ret
            exact ⟨rfl, HB3.out⟩
      · have e1 : ¬ y < y' := by omega
        have e3 : decide (y < y') = false := by simpa using e1
        have e2 : (y == y') = false := by simp; omega
        have hNM : ¬ N < M := by have := hgt.2 (by omega); omega
        have hNMb : decide (N < M) = false := by simpa using hNM
        have hNe : (N == M) = false := by have := hgt.2 (by omega); simp; omega
        clear hN hM hlt hgt
        go_enter Tryd.func5, Tryd.ntmps5
        go_wp2_with (fail)
        generalize hge : World.alloc _ _ = w0
        have HK0 := Lib.hid (show Blk w0 w.heap.size 23 #[.int .i64 y, .int .i64 m, .int .i64 d] by subst hge; exact (Blk.new w _ _).alloc _)
        have HM0 := Lib.hid (show Blk w0 (w.heap.size + 1) 23 #[.int .i64 y', .int .i64 m', .int .i64 d'] by subst hge; have := Blk.new (w.alloc (.cells #[.int .i64 y, .int .i64 m, .int .i64 d] 23)) 23 #[.int .i64 y', .int .i64 m', .int .i64 d']; simpa using this)
        have HB0 := Lib.hid (show Below w.heap.size w w0 by subst hge; exact ((Below.refl _ _).alloc (Nat.le_refl _) _).alloc (by simp) _)
        clear hge
        refine (csane_any w0 (HL.out.below HB0.out)).mono ?_
        rintro e w1 ⟨rfl, hb1⟩
        have HK1 := Lib.hid (HK0.out.below hb1)
        have HM1 := Lib.hid (HM0.out.below hb1)
        have HB1 := Lib.hid (below_of HB0.out hb1 HB0.out.size)
        clear hb1
        have q0 := HK1.out.cellv (i := 0) rfl
        have q1 := HK1.out.cellv (i := 1) rfl
        have q2 := HK1.out.cellv (i := 2) rfl
        go_wp2_with (fail)
        refine (Day_any y m d w1 (HL.out.below HB1.out)).mono ?_
        rintro e w2 ⟨rfl, hb2⟩
        rw [H1.out.1, H1.out.2]
        have HK2 := Lib.hid (HK1.out.below hb2)
        have HM2 := Lib.hid (HM1.out.below hb2)
        have HB2 := Lib.hid (below_of HB1.out hb2 HB1.out.size)
        clear hb2 q0 q1 q2
        have q0 := HM2.out.cellv (i := 0) rfl
        have q1 := HM2.out.cellv (i := 1) rfl
        have q2 := HM2.out.cellv (i := 2) rfl
        go_wp2_with (fail)
        refine (Day_any y' m' d' w2 (HL.out.below HB2.out)).mono ?_
        rintro e w3 ⟨rfl, hb3⟩
        rw [H2.out.1, H2.out.2]
        have HK3 := Lib.hid (HK2.out.below hb3)
        have HM3 := Lib.hid (HM2.out.below hb3)
        have HB3 := Lib.hid (below_of HB2.out hb3 HB2.out.size)
        clear hb3 q0 q1 q2
        have q0 := HK3.out.cellv (i := 0) rfl
        have q1 := HK3.out.cellv (i := 1) rfl
        have q2 := HK3.out.cellv (i := 2) rfl
        have p0 := HM3.out.cellv (i := 0) rfl
        have p1 := HM3.out.cellv (i := 1) rfl
        have p2 := HM3.out.cellv (i := 2) rfl
        have hE := fun W => run_eqDt y m d y' m' d' W
        rw [show decide ((y, m, d) = (y', m', d')) = false by simp; omega] at hE
        go_wp2_with (fail)
        all_goals
          go_ret
          exact ⟨rfl, HB3.out⟩
    · have H2 := Lib.hid (dayN_no hok2)
      have H1 := Lib.hid (dayN_yes hok1)
      clear hok1 hok2
      go_enter Tryd.func5, Tryd.ntmps5
      go_wp2_with (fail)
      generalize hge : World.alloc _ _ = w0
      have HK0 := Lib.hid (show Blk w0 w.heap.size 23 #[.int .i64 y, .int .i64 m, .int .i64 d] by subst hge; exact (Blk.new w _ _).alloc _)
      have HM0 := Lib.hid (show Blk w0 (w.heap.size + 1) 23 #[.int .i64 y', .int .i64 m', .int .i64 d'] by subst hge; have := Blk.new (w.alloc (.cells #[.int .i64 y, .int .i64 m, .int .i64 d] 23)) 23 #[.int .i64 y', .int .i64 m', .int .i64 d']; simpa using this)
      have HB0 := Lib.hid (show Below w.heap.size w w0 by subst hge; exact ((Below.refl _ _).alloc (Nat.le_refl _) _).alloc (by simp) _)
      clear hge
      refine (csane_any w0 (HL.out.below HB0.out)).mono ?_
      rintro e w1 ⟨rfl, hb1⟩
      have HK1 := Lib.hid (HK0.out.below hb1)
      have HM1 := Lib.hid (HM0.out.below hb1)
      have HB1 := Lib.hid (below_of HB0.out hb1 HB0.out.size)
      clear hb1
      have q0 := HK1.out.cellv (i := 0) rfl
      have q1 := HK1.out.cellv (i := 1) rfl
      have q2 := HK1.out.cellv (i := 2) rfl
      go_wp2_with (fail)
      refine (Day_any y m d w1 (HL.out.below HB1.out)).mono ?_
      rintro e w2 ⟨rfl, hb2⟩
      rw [H1.out.1, H1.out.2]
      have HK2 := Lib.hid (HK1.out.below hb2)
      have HM2 := Lib.hid (HM1.out.below hb2)
      have HB2 := Lib.hid (below_of HB1.out hb2 HB1.out.size)
      clear hb2 q0 q1 q2
      have q0 := HM2.out.cellv (i := 0) rfl
      have q1 := HM2.out.cellv (i := 1) rfl
      have q2 := HM2.out.cellv (i := 2) rfl
      go_wp2_with (fail)
      refine (Day_any y' m' d' w2 (HL.out.below HB2.out)).mono ?_
      rintro e w3 ⟨rfl, hb3⟩
      rw [H2.out.1, H2.out.2]
      have HK3 := Lib.hid (HK2.out.below hb3)
      have HM3 := Lib.hid (HM2.out.below hb3)
      have HB3 := Lib.hid (below_of HB2.out hb3 HB2.out.size)
      clear hb3 q0 q1 q2
      have q0 := HK3.out.cellv (i := 0) rfl
      have q1 := HK3.out.cellv (i := 1) rfl
      have q2 := HK3.out.cellv (i := 2) rfl
      have p0 := HM3.out.cellv (i := 0) rfl
      have p1 := HM3.out.cellv (i := 1) rfl
      have p2 := HM3.out.cellv (i := 2) rfl
      skip
      go_wp2_with (fail)
      all_goals
        go_ret
        exact ⟨rfl, HB3.out⟩
  · have H1 := Lib.hid (dayN_no hok1)
    clear hok1
    obtain ⟨M, hM⟩ : ∃ x, Cal.dayN y' m' d' = x := ⟨_, rfl⟩
    obtain ⟨E, hE⟩ : ∃ x, Cal.dayE y' m' d' = x := ⟨_, rfl⟩
    have H2 := Lib.hid (And.intro hM hE)
    clear hM hE
    go_enter Tryd.func5, Tryd.ntmps5
    go_wp2_with (fail)
    generalize hge : World.alloc _ _ = w0
    have HK0 := Lib.hid (show Blk w0 w.heap.size 23 #[.int .i64 y, .int .i64 m, .int .i64 d] by subst hge; exact (Blk.new w _ _).alloc _)
    have HM0 := Lib.hid (show Blk w0 (w.heap.size + 1) 23 #[.int .i64 y', .int .i64 m', .int .i64 d'] by subst hge; have := Blk.new (w.alloc (.cells #[.int .i64 y, .int .i64 m, .int .i64 d] 23)) 23 #[.int .i64 y', .int .i64 m', .int .i64 d']; simpa using this)
    have HB0 := Lib.hid (show Below w.heap.size w w0 by subst hge; exact ((Below.refl _ _).alloc (Nat.le_refl _) _).alloc (by simp) _)
    clear hge
    refine (csane_any w0 (HL.out.below HB0.out)).mono ?_
    rintro e w1 ⟨rfl, hb1⟩
    have HK1 := Lib.hid (HK0.out.below hb1)
    have HM1 := Lib.hid (HM0.out.below hb1)
    have HB1 := Lib.hid (below_of HB0.out hb1 HB0.out.size)
    clear hb1
    have q0 := HK1.out.cellv (i := 0) rfl
    have q1 := HK1.out.cellv (i := 1) rfl
    have q2 := HK1.out.cellv (i := 2) rfl
    go_wp2_with (fail)
    refine (Day_any y m d w1 (HL.out.below HB1.out)).mono ?_
    rintro e w2 ⟨rfl, hb2⟩
    rw [H1.out.1, H1.out.2]
    have HK2 := Lib.hid (HK1.out.below hb2)
    have HM2 := Lib.hid (HM1.out.below hb2)
    have HB2 := Lib.hid (below_of HB1.out hb2 HB1.out.size)
    clear hb2 q0 q1 q2
    have q0 := HM2.out.cellv (i := 0) rfl
    have q1 := HM2.out.cellv (i := 1) rfl
    have q2 := HM2.out.cellv (i := 2) rfl
    go_wp2_with (fail)
    refine (Day_any y' m' d' w2 (HL.out.below HB2.out)).mono ?_
    rintro e w3 ⟨rfl, hb3⟩
    rw [H2.out.1, H2.out.2]
    have HK3 := Lib.hid (HK2.out.below hb3)
    have HM3 := Lib.hid (HM2.out.below hb3)
    have HB3 := Lib.hid (below_of HB2.out hb3 HB2.out.size)
    clear hb3 q0 q1 q2
    have q0 := HK3.out.cellv (i := 0) rfl
    have q1 := HK3.out.cellv (i := 1) rfl
    have q2 := HK3.out.cellv (i := 2) rfl
    have p0 := HM3.out.cellv (i := 0) rfl
    have p1 := HM3.out.cellv (i := 1) rfl
    have p2 := HM3.out.cellv (i := 2) rfl
    skip
    go_wp2_with (fail)
    all_goals
      go_ret
      exact ⟨rfl, HB3.out⟩
-- the row
theorem calendarOrder_own : ownKnob Tryd.prog.godebug = none := by kernel_rfl
theorem calendarOrder_laidOut : laidOutB Tryd.prog = true := by kernel_rfl
theorem calendarOrder_readable : (Tryd.f5.params.toList.all fun t => Tryd.prog.readableRec t && decide (t < Tryd.prog.types.size)) = true := by kernel_rfl
set_option maxRecDepth 100000 in
theorem calendarOrder_lifted (os : Os) (started : os.Started) (H : Type) (enc : TypeId × Value → H) :
    ReturnsInHanded {} Tryd.checked os 5 .any (fun w args => (Rows.calendarOrderSpec.pre enc Tryd.prog Tryd.f5 [] false w args ∧ laidMetH Tryd.prog laidL w) ∧ sizedMet enc Tryd.prog Tryd.f5 (OpenSpec.ofChange Rows.calendarOrderSpec) false w args) (Rows.calendarOrderSpec.post enc Tryd.prog Tryd.f5 false true false false) := by
  refine returnsInHanded_of_change_and (C := Tryd.checked) (X := fun w _ => laidMetH Tryd.prog laidL w) (fun _ _ _ hh h => h.of_heap hh) calendarOrder_own started (by kernel_rfl) Tryd.func5
    (ChangeSpec.witness_shaped (enc := enc) (C := Tryd.checked) (os := os) (X := fun w _ => laidMetH Tryd.prog laidL w) false (World.doorLaid Tryd.prog 400 os) #[.agg #[.int .i64 0, .int .i64 0, .int .i64 0], .agg #[.int .i64 0, .int .i64 0, .int .i64 0]] 8 rfl (World.shaped_of_RefB (by kernel_rfl) (by kernel_rfl)) (by kernel_rfl) (by kernel_rfl) (by kernel_rfl) (door_met os _)) ?_
  intro W base args ds gs before hval0 hW _ _ hL _
  have hval : ∀ (j : Nat) t v, Tryd.f5.params[j]? = some t → args[j]? = some v → Value.okWide Tryd.prog W .any base t v := hval0
  have hW' := hW
  obtain ⟨p, q, hA0, hV, rfl, hfz, hnd⟩ := hW
  have hA : DataW.TrodAll enc Tryd.prog W 0 (fun _ => true) true Tryd.f5.params.toList args.toList ds p := hA0
  rw [Tryd.params5] at hA hval
  obtain ⟨v0, vs0, d0, ds0, p0, q0, hargs, rfl, rfl, h0, r0⟩ := trodAll_cons hA
  obtain ⟨v1, vs1, d1, ds1, p1, q1, rfl, rfl, rfl, h1, r1⟩ := trodAll_cons r0
  obtain ⟨rfl, rfl, rfl⟩ := trodAll_nil r1
  obtain rfl : args = #[v0, v1] := by cases args; simp_all
  obtain ⟨rfl, rfl⟩ := trodVars_none hV
  obtain ⟨y0, m0, e0, rfl, wy0, wm0, we0⟩ := open_date (hval 0 23 v0 rfl rfl) h0
  obtain ⟨y1, m1, e1, rfl, wy1, wm1, we1⟩ := open_date (hval 1 23 v1 rfl rfl) h1
  refine (CalendarOrder_walk W (lens_of_laid hL) y0 m0 e0 wy0 wm0 we0 y1 m1 e1 wy1 wm1 we1).mono fun e W' ⟨he, hb⟩ => ?_
  subst he
  simp only [List.append_nil] at hW'
  refine ⟨_, rfl, law_post calendarOrder_laidOut ?_ (by kernel_rfl) Tryd.underlying4 rfl hW' rfl rfl rfl hb⟩
  intro t ht
  have hr := List.all_eq_true.1 calendarOrder_readable t ht
  rw [Bool.and_eq_true] at hr
  exact ⟨hr.1, of_decide_eq_true hr.2⟩
theorem calendarOrder_over : Rows.calendarOrderRow.holds Tryd.pinned (OpenSpec.ofChange Rows.calendarOrderSpec) :=
  OpenClaim.holds_of_wide 5 Tryd.f5 rfl rfl rfl rfl rfl rfl rfl ⟨rfl, rfl, rfl, rfl, rfl⟩ rfl rfl rfl rfl rfl (by kernel_rfl) Tryd.func5 (by kernel_rfl)
    (of_decide_eq_true (by kernel_rfl)) (by unfold Func.isWrapper; rw [if_neg (of_decide_eq_false (by kernel_rfl))]; exact ⟨rfl, rfl⟩)
    (fun os started H enc _ => calendarOrder_lifted os started H enc)
theorem calendarOrder_proved : Rows.CalendarOrderCardSaid :=
  Claim7.holds_tied_plain_at .later [] [.data] true (true, "ecf52cd2f0e00eeb5a9e4ad7f568b0262762c417b538ca74502acb76cf8551ff") false
    calendarOrder_over (fun _ h => by cases h) (by kernel_rfl) (fun _ h => by cases h) calendarOrder_row_tie rfl ⟨rfl, rfl⟩ (by kernel_rfl) rfl
    (fun f fn hf hfn => by
      obtain rfl : f = 5 := Option.some.inj ((show Tryd.prog.funcNamed Rows.calendarOrderRow.func = some 5 by kernel_rfl).symm.trans hf) |>.symm
      obtain rfl : fn = Tryd.f5 := (Option.some.inj (Tryd.func5.symm.trans hfn)).symm
      exact ⟨by kernel_rfl, fun j t ht => by
        rw [Tryd.params5] at ht
        have hm : t ∈ [23, 23] := by simpa using Array.mem_of_getElem? ht
        have hall : ([23, 23].all fun u => !Tryd.prog.wantsStandIn u) = true := by kernel_rfl
        exact (show Tryd.prog.wantsStandIn t = false by simpa using List.all_eq_true.1 hall t hm)⟩)
    (by kernel_rfl)
#print axioms calendarOrder_proved
end Go.Proofs.YtlijdbgknbeefaaDoor
