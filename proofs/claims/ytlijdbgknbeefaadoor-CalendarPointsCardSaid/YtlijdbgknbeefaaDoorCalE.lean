/- The walks of the reference's Leap, Month, Year, Day, Date (calendar). -/
import Derived.Test.YtlijdbgknbeefaaDoorCalD
namespace Go.Proofs.YtlijdbgknbeefaaDoor
open Go.RowKit
set_option maxHeartbeats 1000000 in
theorem rLeap_any (y : Int) (w : World) (h0 : 0 ≤ y) (h1 : y ≤ 100000) :
    Calls Tryd.prog 34 #[.int .i64 y] w fun e w' => e = .returned (.bool (lpB y)) ∧ w = w' := by
  go_enter Tryd.func34, Tryd.ntmps34
  go_wp2_with (fail)
  all_goals
    go_ret
    exact ⟨ret_bool (by unfold lpB; rw [Bool.eq_iff_iff]; simp [*]), rfl⟩
set_option maxHeartbeats 1000000 in
theorem rYear_any (y : Int) (w : World) (h0 : 0 ≤ y) (h1 : y ≤ 100000) :
    Calls Tryd.prog 32 #[.int .i64 y] w fun e w' => e = .returned (.int .i64 (365 + Cal.lp y)) ∧ w = w' := by
  have Hl := Lib.hid (lpB_lp y)
  have HR := Lib.hid (fun W => rLeap_any y W h0 h1)
  cases hb : lpB y
  all_goals
    rw [hb] at HR Hl
    clear hb
    go_enter Tryd.func32, Tryd.ntmps32
    go_wp2_with ((go_at_call 34; refine (HR.out _).mono ?_; rintro e w' ⟨rfl, rfl⟩))
    go_ret
    exact ⟨ret_int (by rw [Hl.out]; rfl), rfl⟩
set_option maxHeartbeats 4000000 in
theorem rMonth_any (y m : Int) (w : World) (h0 : 0 ≤ y) (h1 : y ≤ 100000) :
    Calls Tryd.prog 19 #[.int .i64 y, .int .i64 m] w fun e w' => e = .returned (.int .i64 (Cal.dim y m)) ∧ w = w' := by
  have Hl := Lib.hid (lpB_lp y)
  have HR := Lib.hid (fun W => rLeap_any y W h0 h1)
  by_cases h2 : m = 2
  · subst h2
    have Hd := Lib.hid (show Cal.dim y 2 = 28 + Cal.lp y by simp [Cal.dim])
    cases hb : lpB y
    all_goals
      rw [hb] at HR Hl
      clear hb
      go_enter Tryd.func19, Tryd.ntmps19
      go_wp2_with ((go_at_call 34; refine (HR.out _).mono ?_; rintro e w' ⟨rfl, rfl⟩))
      go_ret
      exact ⟨ret_int (by rw [Hd.out, Hl.out]; rfl), rfl⟩
  · have Hd := Lib.hid (show Cal.dim y m = if m = 4 ∨ m = 6 ∨ m = 9 ∨ m = 11 then 30 else 31 by simp [Cal.dim, h2])
    have hne : (m == 2) = false := by simpa using h2
    clear h2
    go_enter Tryd.func19, Tryd.ntmps19
    go_wp2_with (fail)
    all_goals
      go_ret
      exact ⟨ret_int (by rw [Hd.out]; first | (rw [if_pos]; simp_all; done) | (rw [if_neg]; simp_all; done)), rfl⟩
set_option maxRecDepth 100000 in
set_option maxHeartbeats 4000000 in
theorem rday_bad (y m d : Int) (w : World) (h : y < 2000 ∨ (¬ y < 2000 ∧ 5000 < y) ∨ (¬ y < 2000 ∧ ¬ 5000 < y ∧ m < 1) ∨ (¬ y < 2000 ∧ ¬ 5000 < y ∧ ¬ m < 1 ∧ 12 < m) ∨ (¬ y < 2000 ∧ ¬ 5000 < y ∧ ¬ m < 1 ∧ ¬ 12 < m ∧ d < 1)) :
    Calls Tryd.prog 12 #[.agg #[.int .i64 y, .int .i64 m, .int .i64 d]] w (DayPost y m d w) := by
  have hno : ¬ Cal.ok y m d := fun ⟨h1, h2, h3, h4, h5, h6⟩ => by
    have := Cal.ok_year ⟨h1, h2, h3, h4, h5, h6⟩
    omega
  have HN := Lib.hid hno
  clear hno
  rcases h with h1 | ⟨h1, h2⟩ | ⟨h1, h2, h3⟩ | ⟨h1, h2, h3, h4⟩ | ⟨h1, h2, h3, h4, h5⟩
  all_goals
    try have g1 : decide (y < 2000) = false := by simpa using h1
    try have g2 : decide (5000 < y) = false := by simpa using h2
    try have g3 : decide (m < 1) = false := by simpa using h3
    try have g4 : decide (12 < m) = false := by simpa using h4
    go_enter Tryd.func12, Tryd.ntmps12
    go_wp2_with (fail)
    generalize hge : World.alloc _ _ = w1
    have H1 := Lib.hid (show Blk w1 w.heap.size 23 #[.int .i64 y, .int .i64 m, .int .i64 d] by subst hge; exact Blk.new w _ _)
    have HB := Lib.hid (show Below w.heap.size w w1 by subst hge; exact (Below.refl _ _).alloc (Nat.le_refl _) _)
    clear hge
    have q0 := Blk.cellv H1.out (i := 0) rfl
    have q1 := Blk.cellv H1.out (i := 1) rfl
    have q2 := Blk.cellv H1.out (i := 2) rfl
    go_quiet (fail)
    go_wp2_with (fail)
    go_ret2
    exact dayPost_no HN.out (below_drewN HB.out _)
set_option maxRecDepth 100000 in
set_option maxHeartbeats 4000000 in
theorem rday_rest (y m d : Int) (w : World) (h1 : ¬ y < 2000) (h2 : ¬ 5000 < y) (h3 : ¬ m < 1) (h4 : ¬ 12 < m) (h5 : ¬ d < 1) :
    Calls Tryd.prog 12 #[.agg #[.int .i64 y, .int .i64 m, .int .i64 d]] w (DayPost y m d w) := by
  have g1 : decide (y < 2000) = false := by simpa using h1
  have g2 : decide (5000 < y) = false := by simpa using h2
  have g3 : decide (m < 1) = false := by simpa using h3
  have g4 : decide (12 < m) = false := by simpa using h4
  have g5 : decide (d < 1) = false := by simpa using h5
  have HD := Lib.hid (fun W => rMonth_any y m W (by omega) (by omega))
  have bd := Cal.dim_bd y m
  obtain ⟨dm, hdm⟩ : ∃ x, Cal.dim y m = x := ⟨_, rfl⟩
  have HM := Lib.hid hdm
  rw [hdm] at HD bd
  clear hdm
  by_cases h6 : dm < d
  · have hno : ¬ Cal.ok y m d := fun ⟨_, _, _, _, h, _⟩ => by have := HM.out; omega
    have HN := Lib.hid hno
    clear hno
    go_enter Tryd.func12, Tryd.ntmps12
    go_wp2_with (fail)
    generalize hge : World.alloc _ _ = w1
    have H1 := Lib.hid (show Blk w1 w.heap.size 23 #[.int .i64 y, .int .i64 m, .int .i64 d] by subst hge; exact Blk.new w _ _)
    have HB := Lib.hid (show Below w.heap.size w w1 by subst hge; exact (Below.refl _ _).alloc (Nat.le_refl _) _)
    clear hge
    have q0 := Blk.cellv H1.out (i := 0) rfl
    have q1 := Blk.cellv H1.out (i := 1) rfl
    have q2 := Blk.cellv H1.out (i := 2) rfl
    go_quiet ((go_at_call 19; exact Calls.quiet_of_same (turned (HD.out _))))
    go_wp2_with (fail)
    go_ret2
    exact dayPost_no HN.out (below_drewN HB.out _)
  · have HY := Lib.hid (fun z W h g => rYear_any z W h g)
    have Hc := Lib.hid (fun k W => rMonth_any y k W (by omega) (by omega))
    go_enter Tryd.func12, Tryd.ntmps12
    go_wp2_with (fail)
    generalize hge : World.alloc _ _ = w1
    have H1 := Lib.hid (show Blk w1 w.heap.size 23 #[.int .i64 y, .int .i64 m, .int .i64 d] by subst hge; exact Blk.new w _ _)
    have HB := Lib.hid (show Below w.heap.size w w1 by subst hge; exact (Below.refl _ _).alloc (Nat.le_refl _) _)
    clear hge
    have q0 := Blk.cellv H1.out (i := 0) rfl
    have q1 := Blk.cellv H1.out (i := 1) rfl
    have q2 := Blk.cellv H1.out (i := 2) rfl
    go_quiet ((go_at_call 19; exact Calls.quiet_of_same (turned (HD.out _))))
    generalize hge : World.drewN _ _ = w2
    have H2 := Lib.hid (show Blk w2 w.heap.size 23 #[.int .i64 y, .int .i64 m, .int .i64 d] by subst hge; exact H1.out)
    have HB2 := Lib.hid (show Below w.heap.size w w2 by subst hge; exact below_drewN HB.out _)
    clear hge q0 q1 q2
    have q0 := Blk.cellv H2.out (i := 0) rfl
    have q1 := Blk.cellv H2.out (i := 1) rfl
    have q2 := Blk.cellv H2.out (i := 2) rfl
    go_wp2_with (fail)
    go_loop [4, 5] (fun n i => ∃ (z b : Int), 2000 ≤ z ∧ z ≤ y ∧ 0 ≤ b ∧ b ≤ 1100000 ∧ Hid (b = Cal.bef z) ∧ i = .int .i64 z ∧ n = .int .i64 (d - 1 + b)) (fun _ i => (y - intOf i).toNat)
    case atStart => exact ⟨2000, 0, by omega, by omega, by omega, by omega, (show (0 : Int) = _ from Cal.bef_2000.symm), rfl, by go_num⟩
    case round =>
      obtain ⟨z, b, hz0, hz1, hb0, hb1, hbz, rfl, rfl⟩ := hrel
      by_cases hlt : z < y
      · have HYz := Lib.hid (fun W => HY.out z W (by omega) (by omega))
        have hlp := Cal.lp_01 z
        have Hs := Lib.hid (Cal.bef_succ z)
        have Ht := Lib.hid (Cal.bef_top (z + 1) (by omega))
        obtain ⟨lp, hl⟩ : ∃ x, Cal.lp z = x := ⟨_, rfl⟩
        rw [hl] at HYz hlp Hs
        clear hl
        go_wp2_with ((go_at_call 32; refine (HYz.out _).mono ?_; rintro e w' ⟨rfl, rfl⟩))
        go_round
        case rel => exact ⟨z + 1, b + 365 + lp, by omega, by omega, by omega, by have := Ht.out; rw [Hs.out, ← hbz.out] at this; exact this, (show _ = _ by rw [Hs.out, ← hbz.out]), by go_num, by go_num⟩
        case measure => simp [intOf]; omega
      · have hzy : z = y := by omega
        subst hzy
        go_wp2_with (fail)
        go_loop [4, 6] (fun n i => ∃ (k c : Int), 1 ≤ k ∧ k ≤ m ∧ 0 ≤ c ∧ c ≤ 400 ∧ Hid (c = Cal.cum z k) ∧ i = .int .i64 k ∧ n = .int .i64 (d - 1 + b + c)) (fun _ i => (m - intOf i).toNat)
        case atStart => exact ⟨1, 0, by omega, by omega, by omega, by omega, (show (0 : Int) = _ from (Cal.cum_one z).symm), rfl, by go_num⟩
        case round =>
          obtain ⟨k, c, hk0, hk1, hc0, hc1, hck, rfl, rfl⟩ := hrel
          by_cases hkm : k < m
          · have HCk := Lib.hid (fun W => Hc.out k W)
            have hdb := Cal.dim_bd z k
            have Hs := Lib.hid (Cal.cum_succ z k (by omega) (by omega))
            have Hb := Lib.hid (Cal.cum_bd z (k + 1) (by omega) (by omega))
            have Hlp := Lib.hid (Cal.lp_01 z)
            obtain ⟨dk, hdk⟩ : ∃ x, Cal.dim z k = x := ⟨_, rfl⟩
            rw [hdk] at HCk hdb Hs
            clear hdk
            go_wp2_with ((go_at_call 19; refine (HCk.out _).mono ?_; rintro e w' ⟨rfl, rfl⟩))
            go_round
            case rel => exact ⟨k + 1, c + dk, by omega, by omega, by omega, by have hb := Hb.out; have hl := Hlp.out; rw [Hs.out, ← hck.out] at hb; omega, (show _ = _ by rw [Hs.out, ← hck.out]), by go_num, by go_num⟩
            case measure => simp [intOf]; omega
          · have hkm : k = m := by omega
            subst hkm
            have HV := Lib.hid (fun W => rValid_any (d - 1 + b + c) W)
            have hnum : d - 1 + b + c = Cal.num z k d := by
              have a := hbz.out; have b := hck.out
              unfold Cal.num; omega
            have hok : Hid (Cal.ok z k d ↔ validB (d - 1 + b + c) = true) := by
              have e := HM.out
              show Cal.ok z k d ↔ validB (d - 1 + b + c) = true
              unfold validB Cal.ok
              rw [decide_eq_true_iff, ← hnum, e]
              omega
            have HN := Lib.hid hnum
            clear hnum
            cases hv : validB (d - 1 + b + c) with
            | true =>
              rw [hv] at HV hok
              have HO := Lib.hid (hok.out.2 rfl)
              clear hv hok
              go_wp2_with (fail)
              refine (HV.out _).mono ?_
              rintro e w' ⟨rfl, rfl⟩
              go_wp2_with (fail)
              go_ret2
              exact dayPost_yes HO.out HN.out HB2.out
            | false =>
              rw [hv] at HV hok
              have HO := Lib.hid (show ¬ Cal.ok z k d from fun h => absurd (hok.out.1 h) (by decide))
              clear hv hok
              go_wp2_with (fail)
              refine (HV.out _).mono ?_
              rintro e w' ⟨rfl, rfl⟩
              go_wp2_with (fail)
              go_ret2
              exact dayPost_no HO.out HB2.out
theorem rDay_any (y m d : Int) (w : World) :
    Calls Tryd.prog 12 #[.agg #[.int .i64 y, .int .i64 m, .int .i64 d]] w (DayPost y m d w) := by
  by_cases h : y < 2000 ∨ (¬ y < 2000 ∧ 5000 < y) ∨ (¬ y < 2000 ∧ ¬ 5000 < y ∧ m < 1) ∨ (¬ y < 2000 ∧ ¬ 5000 < y ∧ ¬ m < 1 ∧ 12 < m) ∨ (¬ y < 2000 ∧ ¬ 5000 < y ∧ ¬ m < 1 ∧ ¬ 12 < m ∧ d < 1)
  · exact rday_bad y m d w h
  · exact rday_rest y m d w (by omega) (by omega) (by omega) (by omega) (by omega)
set_option maxRecDepth 100000 in
set_option maxHeartbeats 4000000 in
theorem rDate_any (n : Int) (w : World) :
    Calls Tryd.prog 14 #[.int .i64 n] w (DatePost n w) := by
  have HV := Lib.hid (fun W => rValid_any n W)
  cases hv : validB n with
  | false =>
    have HN := Lib.hid (show IsDate n 0 0 0 ∧ dateE n = 10 by unfold IsDate dateE; rw [hv]; simp)
    rw [hv] at HV
    clear hv
    go_enter Tryd.func14, Tryd.ntmps14
    go_wp2_with ((go_at_call 33; refine (HV.out _).mono ?_; rintro e w' ⟨rfl, rfl⟩))
    exact bodyPost_ret (v := .tuple #[.agg #[.int .i64 0, .int .i64 0, .int .i64 0], .int .i64 10]) (by simp [results, Tryd.results14, go_sem]) rfl ⟨0, 0, 0, HN.out.1, by rw [HN.out.2], (Below.refl _ _).alloc (Nat.le_refl _) _⟩
  | true =>
    have hv' : 0 ≤ n ∧ n ≤ 1048576 := by simpa [validB] using hv
    obtain ⟨hn0, hn1⟩ := hv'
    have HD := Lib.hid (show ∀ y m d, Cal.ok y m d → Cal.num y m d = n → IsDate n y m d ∧ dateE n = 0 by intro y m d h1 h2; unfold IsDate dateE; rw [hv]; exact ⟨⟨h1, h2⟩, rfl⟩)
    rw [hv] at HV
    clear hv
    have HY := Lib.hid (fun z W h g => rYear_any z W h g)
    go_enter Tryd.func14, Tryd.ntmps14
    go_wp2_with ((go_at_call 33; refine (HV.out _).mono ?_; rintro e w' ⟨rfl, rfl⟩))
    generalize hge : World.alloc _ _ = w1
    have HR := Lib.hid (show Blk w1 w.heap.size 23 #[.int .i64 0, .int .i64 0, .int .i64 0] by subst hge; exact (Blk.new w _ _).alloc _)
    have H1 := Lib.hid (show Blk w1 (w.heap.size + 1) 23 #[.int .i64 2000, .int .i64 1, .int .i64 0] by subst hge; have := Blk.new (w.alloc (.cells #[.int .i64 0, .int .i64 0, .int .i64 0] 23)) 23 #[.int .i64 2000, .int .i64 1, .int .i64 0]; simpa using this)
    have HB := Lib.hid (show Below w.heap.size w w1 by subst hge; exact ((Below.refl _ _).alloc (Nat.le_refl _) _).alloc (by simp) _)
    clear hge
    go_loopw [0] (fun r wr => ∃ y b : Int, 2000 ≤ y ∧ y ≤ 5600 ∧ 0 ≤ b ∧ b ≤ n ∧ Hid (b = Cal.bef y) ∧ r = .int .i64 (n - b) ∧ Hid (Blk wr w.heap.size 23 #[.int .i64 0, .int .i64 0, .int .i64 0]) ∧ Hid (Blk wr (w.heap.size + 1) 23 #[.int .i64 y, .int .i64 1, .int .i64 0]) ∧ Hid (Below w.heap.size w wr)) (fun _ wr => (6000 - cellInt wr (w.heap.size + 1) 0).toNat)
    case atStart => exact ⟨2000, 0, by omega, by omega, by omega, by omega, (show (0 : Int) = _ from Cal.bef_2000.symm), by go_num, HR.out, H1.out, HB.out⟩
    case round =>
      obtain ⟨y, b, hy0, hy1, hb0, hb1, hbf, rfl, hR, hK, hB⟩ := hrel
      have hy2 := year_of (by rw [← hbf.out]; exact hb1) hn1
      have q0 := Blk.cellv hK.out (i := 0) rfl
      have f0 := hK.out.frozen 0
      have HYy := Lib.hid (fun W => HY.out y W (by omega) (by omega))
      have hlp := Cal.lp_01 y
      have Hs := Lib.hid (Cal.bef_succ y)
      obtain ⟨lp, hl⟩ : ∃ x, Cal.lp y = x := ⟨_, rfl⟩
      rw [hl] at HYy hlp Hs
      have Hlp := Lib.hid hl
      clear hl
      by_cases hc : 365 + lp ≤ n - b
      · go_wp2_with ((go_at_call 32; refine (HYy.out _).mono ?_; rintro e w' ⟨rfl, rfl⟩))
        go_roundw
        case rel => exact ⟨y + 1, b + 365 + lp, by omega, by omega, by omega, by omega, (show _ = _ by rw [Hs.out, ← hbf.out]), by go_num, hR.out.far (by simp) _, hK.out.set_ 0 _, hB.out.setCell (p := ⟨w.heap.size + 1, 0, none⟩) (by simp) _⟩
        case measure =>
          rw [cellInt_of q0, cellInt_of (Blk.cellv (hK.out.set_ 0 (.int .i64 (y + 1))) (i := 0) rfl)]; omega
      · go_wp2_with ((go_at_call 32; refine (HYy.out _).mono ?_; rintro e w' ⟨rfl, rfl⟩))
        clear q0 f0
        go_loopw [0] (fun r wr => ∃ m c : Int, 1 ≤ m ∧ m ≤ 12 ∧ 0 ≤ c ∧ c ≤ 400 ∧ Hid (c = Cal.cum y m) ∧ 0 ≤ n - b - c ∧ r = .int .i64 (n - b - c) ∧ Hid (Blk wr w.heap.size 23 #[.int .i64 0, .int .i64 0, .int .i64 0]) ∧ Hid (Blk wr (w.heap.size + 1) 23 #[.int .i64 y, .int .i64 m, .int .i64 0]) ∧ Hid (Below w.heap.size w wr)) (fun _ wr => (13 - cellInt wr (w.heap.size + 1) 1).toNat)
        case atStart => exact ⟨1, 0, by omega, by omega, by omega, by omega, (show (0 : Int) = _ from (Cal.cum_one y).symm), by omega, by go_num, hR.out, hK.out, hB.out⟩
        case round =>
          obtain ⟨m, c, hm1, hm2, hc0, hc1, hcu, hr0, rfl, hR2, hK2, hB2⟩ := hrel
          have q0 := Blk.cellv hK2.out (i := 0) rfl
          have q1 := Blk.cellv hK2.out (i := 1) rfl
          have q2 := Blk.cellv hK2.out (i := 2) rfl
          have f1 := hK2.out.frozen 1
          have f2 := hK2.out.frozen 2
          have p0 := Blk.cellv hR2.out (i := 0) rfl
          have p1 := Blk.cellv hR2.out (i := 1) rfl
          have p2 := Blk.cellv hR2.out (i := 2) rfl
          have e0 := hR2.out.frozen 0
          have e1 := hR2.out.frozen 1
          have e2 := hR2.out.frozen 2
          have hdb := Cal.dim_bd y m
          have Hcs := Lib.hid (Cal.cum_succ y m hm1 hm2)
          have HD2 := Lib.hid (fun W => rMonth_any y m W (by omega) (by omega))
          obtain ⟨dm, hdm⟩ : ∃ x, Cal.dim y m = x := ⟨_, rfl⟩
          rw [hdm] at HD2 hdb
          have Hdm := Lib.hid hdm
          clear hdm
          by_cases hd : dm ≤ n - b - c
          · have hm3 : m ≤ 11 := by
              by_cases e : m = 12
              · exfalso
                have a := Hcs.out
                have b := Cal.cum_13 y
                rw [e, show (12 : Int) + 1 = 13 by rfl, b, ← e, Hdm.out, ← hcu.out, Hlp.out] at a
                omega
              · omega
            have Hc2 := Lib.hid (show c + dm = Cal.cum y (m + 1) by rw [Hcs.out, ← hcu.out, Hdm.out])
            have hcb : 0 ≤ c + dm ∧ c + dm ≤ 400 := by
              have a := Cal.cum_bd y (m + 1) (by omega) (by omega)
              have b := Hc2.out
              have c := Hlp.out
              omega
            go_wp2_with ((go_at_call 19; refine (HD2.out _).mono ?_; rintro e w' ⟨rfl, rfl⟩))
            go_roundw
            case rel => exact ⟨m + 1, c + dm, by omega, by omega, by omega, by omega, Hc2.out, by omega, by go_num, hR2.out.far (by simp) _, hK2.out.set_ 1 _, hB2.out.setCell (p := ⟨w.heap.size + 1, 1, none⟩) (by simp) _⟩
            case measure =>
              rw [cellInt_of q1, cellInt_of (Blk.cellv (hK2.out.set_ 1 (.int .i64 (m + 1))) (i := 1) rfl)]; omega
          · go_wp2_with ((go_at_call 19; refine (HD2.out _).mono ?_; rintro e w' ⟨rfl, rfl⟩))
            clear q0 q1 q2 f1 f2 e0 e1 e2 p0 p1 p2
            have HN := Lib.hid (HD.out y m (n - b - c + 1) ⟨by omega, hm1, hm2, by omega, by rw [Hdm.out]; omega, by unfold Cal.num; rw [← hbf.out, ← hcu.out]; omega⟩ (by unfold Cal.num; rw [← hbf.out, ← hcu.out]; omega))
            generalize hge : World.setCell _ _ _ = wz
            have HZ := Lib.hid (show Blk wz w.heap.size 23 #[.int .i64 y, .int .i64 m, .int .i64 (n - b - c + 1)] by subst hge; exact (((hR2.out.far (by simp) _).set_ 0 _).set_ 1 _).set_ 2 _)
            have HBz := Lib.hid (show Below w.heap.size w wz by subst hge; exact (((hB2.out.setCell (p := ⟨w.heap.size + 1, 2, none⟩) (by simp) _).setCell (p := ⟨w.heap.size, 0, none⟩) (Nat.le_refl _) _).setCell (p := ⟨w.heap.size, 1, none⟩) (Nat.le_refl _) _).setCell (p := ⟨w.heap.size, 2, none⟩) (Nat.le_refl _) _)
            clear hge
            have q0 := Blk.cellv HZ.out (i := 0) rfl
            have q1 := Blk.cellv HZ.out (i := 1) rfl
            have q2 := Blk.cellv HZ.out (i := 2) rfl
            exact bodyPost_ret (v := .tuple #[.agg #[.int .i64 y, .int .i64 m, .int .i64 (n - b - c + 1)], .int .i64 0]) (by simp [results, Tryd.results14, go_sem, q0, q1, q2]) rfl ⟨y, m, _, HN.out.1, by rw [HN.out.2], HBz.out⟩
end Go.Proofs.YtlijdbgknbeefaaDoor
