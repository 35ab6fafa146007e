/- The walk of Day (calendar). -/
import Derived.Test.YtlijdbgknbeefaaDoorCalA
namespace Go.Proofs.YtlijdbgknbeefaaDoor
open Go.RowKit
theorem turned {P : Program} {f : FuncId} {args : Array Value} {w : World} {v : Value} (h : Calls P f args w fun e w' => e = .returned v ∧ w = w') : Calls P f args w fun e w' => e = .returned v ∧ w' = w :=
  h.mono fun _ _ ⟨he, hw⟩ => ⟨he, hw.symm⟩
theorem Lens.drewN {w : World} (h : Lens w) (n : Nat) : Lens (w.drewN n) := h
theorem Blk.cellv {w : World} {g : Nat} {t : TypeId} {cs : Array Value} (h : Blk w g t cs) {i : Nat} {v : Value} (hi : cs[i]? = some v) : w.cell? ⟨g, i, none⟩ = some v := (h.cell i).trans hi
theorem dayN_no {y m d : Int} (h : ¬ Cal.ok y m d) : Cal.dayN y m d = 0 ∧ Cal.dayE y m d = 10 := by
  rw [← Cal.okB_false] at h
  simp [Cal.dayN, Cal.dayE, h]
theorem dayN_yes {y m d : Int} (h : Cal.ok y m d) : Cal.dayN y m d = Cal.num y m d ∧ Cal.dayE y m d = 0 := by
  rw [← Cal.okB_iff] at h
  simp [Cal.dayN, Cal.dayE, h]
def DayPost (y m d : Int) (w : World) (e : Ending) (w' : World) : Prop := e = .returned (.tuple #[.int .i64 (Cal.dayN y m d), .int .i64 (Cal.dayE y m d)]) ∧ Below w.heap.size w w'
theorem dayPost_no {y m d : Int} {w w' : World} (h : ¬ Cal.ok y m d) (hb : Below w.heap.size w w') : DayPost y m d w (.returned (.tuple #[.int .i64 0, .int .i64 10])) w' := by
  obtain ⟨h1, h2⟩ := dayN_no h
  exact ⟨by rw [h1, h2], hb⟩
theorem dayPost_yes {y m d n : Int} {w w' : World} (h : Cal.ok y m d) (hn : n = Cal.num y m d) (hb : Below w.heap.size w w') : DayPost y m d w (.returned (.tuple #[.int .i64 n, .int .i64 0])) w' := by
  obtain ⟨h1, h2⟩ := dayN_yes h
  exact ⟨by rw [h1, h2, hn], hb⟩
set_option maxRecDepth 100000 in
set_option maxHeartbeats 4000000 in
theorem day_bad (y m d : Int) (w : World) (h : y < 2000 ∨ (¬ y < 2000 ∧ 4872 < y) ∨ (¬ y < 2000 ∧ ¬ 4872 < y ∧ m < 1) ∨ (¬ y < 2000 ∧ ¬ 4872 < y ∧ ¬ m < 1 ∧ 12 < m) ∨ (¬ y < 2000 ∧ ¬ 4872 < y ∧ ¬ m < 1 ∧ ¬ 12 < m ∧ d < 1)) :
    Calls Tryd.prog 11 #[.agg #[.int .i64 y, .int .i64 m, .int .i64 d]] w (DayPost y m d w) := by
  have hno : ¬ Cal.ok y m d := fun ⟨h1, h2, h3, h4, h5, h6⟩ => by
    have := Cal.ok_year ⟨h1, h2, h3, h4, h5, h6⟩
    omega
  have HN := Lib.hid hno
  clear hno
  rcases h with h1 | ⟨h1, h2⟩ | ⟨h1, h2, h3⟩ | ⟨h1, h2, h3, h4⟩ | ⟨h1, h2, h3, h4, h5⟩
  all_goals
    try have g1 : decide (y < 2000) = false := by simpa using h1
    try have g2 : decide (4872 < y) = false := by simpa using h2
    try have g3 : decide (m < 1) = false := by simpa using h3
    try have g4 : decide (12 < m) = false := by simpa using h4
    go_enter Tryd.func11, Tryd.ntmps11
    go_wp2_with (fail)
    generalize hge : World.alloc _ _ = w1
    have H1 := Lib.hid (show Blk w1 w.heap.size 23 #[.int .i64 y, .int .i64 m, .int .i64 d] by subst hge; exact Blk.new w _ _)
    have HB := Lib.hid (show Below w.heap.size w w1 by subst hge; exact (Below.refl _ _).alloc (Nat.le_refl _) _)
    clear hge
    have q0 := Blk.cellv H1.out (i := 0) rfl
    have q1 := Blk.cellv H1.out (i := 1) rfl
    have q2 := Blk.cellv H1.out (i := 2) rfl
    go_quiet (fail)
    go_wp2_with (fail)
    go_ret2
    exact dayPost_no HN.out (below_drewN HB.out _)
set_option maxRecDepth 100000 in
set_option maxHeartbeats 4000000 in
theorem day_rest (y m d : Int) (w : World) (hL : Lens w) (h1 : ¬ y < 2000) (h2 : ¬ 4872 < y) (h3 : ¬ m < 1) (h4 : ¬ 12 < m) (h5 : ¬ d < 1) :
    Calls Tryd.prog 11 #[.agg #[.int .i64 y, .int .i64 m, .int .i64 d]] w (DayPost y m d w) := by
  have HL := Lib.hid hL
  have g1 : decide (y < 2000) = false := by simpa using h1
  have g2 : decide (4872 < y) = false := by simpa using h2
  have g3 : decide (m < 1) = false := by simpa using h3
  have g4 : decide (12 < m) = false := by simpa using h4
  have g5 : decide (d < 1) = false := by simpa using h5
  have HD := Lib.hid (fun W (h : Lens W) => length_any y m W (by omega) (by omega) (by omega) (by omega) h)
  have bd := Cal.dim_bd y m
  obtain ⟨dm, hdm⟩ : ∃ x, Cal.dim y m = x := ⟨_, rfl⟩
  have HM := Lib.hid hdm
  rw [hdm] at HD bd
  clear hdm hL
  by_cases h6 : dm < d
  · have hno : ¬ Cal.ok y m d := fun ⟨_, _, _, _, h, _⟩ => by have := HM.out; omega
    have HN := Lib.hid hno
    clear hno
    go_enter Tryd.func11, Tryd.ntmps11
    go_wp2_with (fail)
    generalize hge : World.alloc _ _ = w1
    have H1 := Lib.hid (show Blk w1 w.heap.size 23 #[.int .i64 y, .int .i64 m, .int .i64 d] by subst hge; exact Blk.new w _ _)
    have HB := Lib.hid (show Below w.heap.size w w1 by subst hge; exact (Below.refl _ _).alloc (Nat.le_refl _) _)
    clear hge
    have q0 := Blk.cellv H1.out (i := 0) rfl
    have q1 := Blk.cellv H1.out (i := 1) rfl
    have q2 := Blk.cellv H1.out (i := 2) rfl
    have HL1 := Lib.hid (HL.out.below HB.out)
    go_quiet ((go_at_call 29; exact Calls.quiet_of_same (turned (HD.out _ (HL1.out.drewN _)))))
    go_wp2_with (fail)
    go_ret2
    exact dayPost_no HN.out (below_drewN HB.out _)
  · have HB' := Lib.hid (fun W => before_any y W (by omega) (by omega))
    have Hc := Lib.hid (fun k W (h : Lens W) (hk : (k : Int) < m - 1) (h0 : 0 ≤ k) => length_any y (k + 1) W (by omega) (by omega) (by omega) (by omega) h)
    have hb0 := Cal.bef_nn y (by omega)
    have hb1 := Cal.bef_top y (by omega)
    obtain ⟨bf, hbf⟩ : ∃ x, Cal.bef y = x := ⟨_, rfl⟩
    have HF := Lib.hid hbf
    rw [hbf] at HB' hb0 hb1
    clear hbf
    go_enter Tryd.func11, Tryd.ntmps11
    go_wp2_with (fail)
    generalize hge : World.alloc _ _ = w1
    have H1 := Lib.hid (show Blk w1 w.heap.size 23 #[.int .i64 y, .int .i64 m, .int .i64 d] by subst hge; exact Blk.new w _ _)
    have HB := Lib.hid (show Below w.heap.size w w1 by subst hge; exact (Below.refl _ _).alloc (Nat.le_refl _) _)
    clear hge
    have q0 := Blk.cellv H1.out (i := 0) rfl
    have q1 := Blk.cellv H1.out (i := 1) rfl
    have q2 := Blk.cellv H1.out (i := 2) rfl
    have HL1 := Lib.hid (HL.out.below HB.out)
    go_quiet ((go_at_call 29; exact Calls.quiet_of_same (turned (HD.out _ (HL1.out.drewN _)))))
    generalize hge : World.drewN _ _ = w2
    have H2 := Lib.hid (show Blk w2 w.heap.size 23 #[.int .i64 y, .int .i64 m, .int .i64 d] by subst hge; exact H1.out)
    have HB2 := Lib.hid (show Below w.heap.size w w2 by subst hge; exact below_drewN HB.out _)
    have HL2 := Lib.hid (show Lens w2 by subst hge; exact HL1.out)
    clear hge q0 q1 q2
    have q0 := Blk.cellv H2.out (i := 0) rfl
    have q1 := Blk.cellv H2.out (i := 1) rfl
    have q2 := Blk.cellv H2.out (i := 2) rfl
    go_wp2_with (fail)
    go_quiet ((go_at_call 30; exact Calls.quiet_of_same (turned (HB'.out _))))
    generalize hge : World.drewN _ _ = w3
    have H3 := Lib.hid (show Blk w3 w.heap.size 23 #[.int .i64 y, .int .i64 m, .int .i64 d] by subst hge; exact H2.out)
    have HB3 := Lib.hid (show Below w.heap.size w w3 by subst hge; exact below_drewN HB2.out _)
    have HL3 := Lib.hid (show Lens w3 by subst hge; exact HL2.out)
    clear hge q0 q1 q2
    have q0 := Blk.cellv H3.out (i := 0) rfl
    have q1 := Blk.cellv H3.out (i := 1) rfl
    have q2 := Blk.cellv H3.out (i := 2) rfl
    go_wp2_with (fail)
    go_loop [2, 48] (fun n i => ∃ (k : Nat) (c : Int), (k : Int) ≤ m - 1 ∧ 0 ≤ c ∧ c ≤ 400 ∧ Hid (c = Cal.cum y (k + 1)) ∧ i = .int .i64 k ∧ n = .int .i64 (bf + d - 1 + c)) (fun _ i => (m - 1).toNat - (intOf i).toNat)
    case atStart => exact ⟨0, 0, by omega, by omega, by omega, (show (0 : Int) = _ from (Cal.cum_one y).symm), rfl, by go_num⟩
    case round =>
      obtain ⟨k, c, hk, hc0, hc1, hc, rfl, rfl⟩ := hrel
      by_cases hlt : (k : Int) < m - 1
      · have hs := Lib.hid (Cal.cum_succ y (k + 1) (by omega) (by omega))
        have cb := Cal.cum_bd y (k + 1 + 1) (by omega) (by omega)
        have lb := Cal.lp_01 y
        have db := Cal.dim_bd y (k + 1)
        have HCk := Lib.hid (Hc.out k w3 HL3.out hlt (by omega))
        have Hcb := Lib.hid cb
        clear cb
        obtain ⟨dk, hdk⟩ : ∃ x, Cal.dim y (k + 1) = x := ⟨_, rfl⟩
        have Hdk := Lib.hid hdk
        rw [hdk] at HCk db
        clear hdk
        go_wp2_with ((go_at_call 29; refine HCk.out.mono ?_; rintro e w' ⟨rfl, rfl⟩))
        go_round
        case rel => exact ⟨k + 1, c + dk, by omega, by omega, by have := Hcb.out; have := hs.out; have := Hdk.out; have := hc.out; omega, (show _ = _ by rw [← Hdk.out, hc.out, show ((k + 1 : Nat) : Int) = (k : Int) + 1 by omega]; exact hs.out.symm), by go_num, by go_num⟩
        case measure => simp [intOf]; omega
      · have hkm : (k : Int) + 1 = m := by omega
        have HK := Lib.hid hkm
        clear hkm
        have hcd : decide ((k : Int) < m - 1) = false := by simpa using hlt
        have hnum : bf + d - 1 + c = Cal.num y m d := by
          have a := HF.out; have b := hc.out; have e := HK.out
          rw [e] at b
          unfold Cal.num; omega
        have hn0 : 0 ≤ bf + d - 1 + c := by omega
        have hok : Hid (Cal.ok y m d ↔ validB (bf + d - 1 + c) = true) := by
          have e := HM.out
          show Cal.ok y m d ↔ validB (bf + d - 1 + c) = true
          unfold validB Cal.ok
          rw [decide_eq_true_iff, ← hnum, e]
          omega
        have HN := Lib.hid hnum
        clear hnum
        have HV := Lib.hid (fun W => valid_any (bf + d - 1 + c) W)
        cases hv : validB (bf + d - 1 + c) with
        | true =>
          rw [hv] at HV hok
          have HO := Lib.hid (hok.out.2 rfl)
          clear hv hok
          go_wp2_with ((go_at_call 31; refine (HV.out _).mono ?_; rintro e w' ⟨rfl, rfl⟩))
          go_ret2
          exact dayPost_yes HO.out HN.out HB3.out
        | false =>
          rw [hv] at HV hok
          have HO := Lib.hid (show ¬ Cal.ok y m d from fun h => absurd (hok.out.1 h) (by decide))
          clear hv hok
          go_wp2_with ((go_at_call 31; refine (HV.out _).mono ?_; rintro e w' ⟨rfl, rfl⟩))
          go_ret2
          exact dayPost_no HO.out HB3.out
theorem Day_any (y m d : Int) (w : World) (hL : Lens w) :
    Calls Tryd.prog 11 #[.agg #[.int .i64 y, .int .i64 m, .int .i64 d]] w (DayPost y m d w) := by
  by_cases h : y < 2000 ∨ (¬ y < 2000 ∧ 4872 < y) ∨ (¬ y < 2000 ∧ ¬ 4872 < y ∧ m < 1) ∨ (¬ y < 2000 ∧ ¬ 4872 < y ∧ ¬ m < 1 ∧ 12 < m) ∨ (¬ y < 2000 ∧ ¬ 4872 < y ∧ ¬ m < 1 ∧ ¬ 12 < m ∧ d < 1)
  · exact day_bad y m d w h
  · exact day_rest y m d w hL (by omega) (by omega) (by omega) (by omega) (by omega)
end Go.Proofs.YtlijdbgknbeefaaDoor
