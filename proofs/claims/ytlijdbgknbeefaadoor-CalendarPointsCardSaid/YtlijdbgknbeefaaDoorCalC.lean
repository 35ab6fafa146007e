/- The walk of Date (calendar). -/
import Derived.Test.YtlijdbgknbeefaaDoorCalB
namespace Go.Proofs.YtlijdbgknbeefaaDoor
open Go.RowKit
def IsDate (n y m d : Int) : Prop := if validB n then Cal.ok y m d ∧ Cal.num y m d = n else y = 0 ∧ m = 0 ∧ d = 0
def dateE (n : Int) : Int := if validB n then 0 else 10
theorem year_of {y n : Int} (h : Cal.bef y ≤ n) (hn : n ≤ 1048576) : y ≤ 4872 := by
  by_cases g : 4872 < y
  · have a := Cal.bef_le 4873 y (by omega)
    rw [Cal.bef_4873] at a; omega
  · omega
theorem isDate_one {n y m d y' m' d' : Int} (h : IsDate n y m d) (h' : IsDate n y' m' d') : y = y' ∧ m = m' ∧ d = d' := by
  unfold IsDate at h h'
  split at h
  · rename_i hv
    rw [if_pos hv] at h'
    exact Cal.num_inj h.1 h'.1 (by rw [h.2, h'.2])
  · rename_i hv
    rw [if_neg hv] at h'
    omega
def DatePost (n : Int) (w : World) (e : Ending) (w' : World) : Prop := ∃ y m d : Int, IsDate n y m d ∧ e = .returned (.tuple #[.agg #[.int .i64 y, .int .i64 m, .int .i64 d], .int .i64 (dateE n)]) ∧ Below w.heap.size w w'
def cellInt (w : World) (g i : Nat) : Int := intOf ((w.cell? ⟨g, i, none⟩).getD (.int .i64 0))
theorem cellInt_of {w : World} {g i : Nat} {x : Int} (h : w.cell? ⟨g, i, none⟩ = some (.int .i64 x)) : cellInt w g i = x := by unfold cellInt; rw [h]; rfl
set_option maxRecDepth 100000 in
set_option maxHeartbeats 4000000 in
theorem Date_any (n : Int) (w : World) (hL : Lens w) :
    Calls Tryd.prog 13 #[.int .i64 n] w (DatePost n w) := by
  have HL := Lib.hid hL
  clear hL
  have HV := Lib.hid (fun W => valid_any n W)
  cases hv : validB n with
  | false =>
    have HN := Lib.hid (show IsDate n 0 0 0 ∧ dateE n = 10 by unfold IsDate dateE; rw [hv]; simp)
    rw [hv] at HV
    clear hv
    go_enter Tryd.func13, Tryd.ntmps13
    go_wp2_with ((go_at_call 31; refine (HV.out _).mono ?_; rintro e w' ⟨rfl, rfl⟩))
    exact bodyPost_ret (v := .tuple #[.agg #[.int .i64 0, .int .i64 0, .int .i64 0], .int .i64 10]) (by simp [results, Tryd.results13, go_sem]) rfl ⟨0, 0, 0, HN.out.1, by rw [HN.out.2], (Below.refl _ _).alloc (Nat.le_refl _) _⟩
  | true =>
    have hv' : 0 ≤ n ∧ n ≤ 1048576 := by simpa [validB] using hv
    obtain ⟨hn0, hn1⟩ := hv'
    have HD := Lib.hid (show ∀ y m d, Cal.ok y m d → Cal.num y m d = n → IsDate n y m d ∧ dateE n = 0 by intro y m d h1 h2; unfold IsDate dateE; rw [hv]; exact ⟨⟨h1, h2⟩, rfl⟩)
    rw [hv] at HV
    clear hv
    have HG := Lib.hid (Cal.bef_guess n)
    have b0 : 2000 ≤ 2000 + n / 146097 * 400 + n % 146097 / 366 := by omega
    have b1 : 2000 + n / 146097 * 400 + n % 146097 / 366 ≤ 5600 := by omega
    have b2 : n / 146097 ≤ 7 := by omega
    have b3 : 0 ≤ n / 146097 := by omega
    have b4 : n % 146097 / 366 ≤ 399 := by omega
    have b5 : 0 ≤ n % 146097 / 366 := by omega
    have b6 : 0 ≤ n % 146097 := by omega
    have b7 : n % 146097 < 146097 := by omega
    have HBF := Lib.hid (fun y W h g => before_any y W h g)
    go_enter Tryd.func13, Tryd.ntmps13
    go_wp2_with ((go_at_call 31; refine (HV.out _).mono ?_; rintro e w' ⟨rfl, rfl⟩))
    obtain ⟨y0, hy0⟩ : ∃ x, 2000 + n / 146097 * 400 + n % 146097 / 366 = x := ⟨_, rfl⟩
    rw [hy0] at HG b0 b1 ⊢
    clear hy0 b2 b3 b4 b5 b6 b7
    generalize hge : World.alloc _ _ = w1
    have H1 := Lib.hid (show Blk w1 w.heap.size 23 #[.int .i64 y0, .int .i64 1, .int .i64 1] by subst hge; exact Blk.new w _ _)
    have HB := Lib.hid (show Below w.heap.size w w1 by subst hge; exact (Below.refl _ _).alloc (Nat.le_refl _) _)
    have HL1 := Lib.hid (HL.out.below HB.out)
    clear hge
    go_loopw [] (fun wr => ∃ y : Int, 2000 ≤ y ∧ y ≤ 5600 ∧ Hid (Cal.bef y ≤ n) ∧ Hid (Blk wr w.heap.size 23 #[.int .i64 y, .int .i64 1, .int .i64 1]) ∧ Hid (Below w.heap.size w wr)) (fun wr => (6000 - cellInt wr w.heap.size 0).toNat)
    case atStart => exact ⟨y0, b0, b1, HG.out, H1.out, HB.out⟩
    case round =>
      obtain ⟨y, hy0, hy1, hbf, hK, hB⟩ := hrel
      have hy2 := year_of hbf.out hn1
      have q0 := Blk.cellv hK.out (i := 0) rfl
      have f0 := hK.out.frozen 0
      obtain ⟨bf, hbf1⟩ : ∃ x, Cal.bef (y + 1) = x := ⟨_, rfl⟩
      have HBy := Lib.hid (fun W => HBF.out (y + 1) W (by omega) (by omega))
      rw [hbf1] at HBy
      have Hb1 := Lib.hid hbf1
      clear hbf1
      by_cases hc : bf ≤ n
      · go_wp2_with ((go_at_call 30; refine (HBy.out _).mono ?_; rintro e w' ⟨rfl, rfl⟩))
        go_roundw
        case rel => exact ⟨y + 1, by omega, by omega, (show _ ≤ _ by rw [Hb1.out]; exact hc), hK.out.set_ 0 _, hB.out.setCell (p := ⟨w.heap.size, 0, none⟩) (Nat.le_refl _) _⟩
        case measure =>
          rw [cellInt_of q0, cellInt_of (Blk.cellv (hK.out.set_ 0 (.int .i64 (y + 1))) (i := 0) rfl)]; omega
      · have HT := Lib.hid (show n < Cal.bef y + 365 + Cal.lp y by have a := Cal.bef_succ y; have b := Hb1.out; omega)
        have Hbf := Lib.hid hbf.out
        have hbn := Cal.bef_nn y hy0
        have hbt := Cal.bef_top y (by omega)
        have hlp := Cal.lp_01 y
        have HT' := HT.out
        have Hbf' := Hbf.out
        obtain ⟨b0, hb0⟩ : ∃ x, Cal.bef y = x := ⟨_, rfl⟩
        obtain ⟨lp, hl0⟩ : ∃ x, Cal.lp y = x := ⟨_, rfl⟩
        have HBz := Lib.hid (fun W => HBF.out y W (by omega) (by omega))
        rw [hb0] at HBz HT HT' Hbf Hbf' hbn hbt
        rw [hl0] at HT HT' hlp
        have Hb0 := Lib.hid hb0
        have Hl0 := Lib.hid hl0
        have HLr := Lib.hid (HL.out.below hB.out)
        clear hb0 hl0
        go_wp2_with (first | (with_reducible refine (HBy.out _).mono ?_; rintro e w' ⟨rfl, rfl⟩) | (with_reducible refine (HBz.out _).mono ?_; rintro e w' ⟨rfl, rfl⟩))
        clear q0 f0
        go_loopw [0] (fun r wr => ∃ m c : Int, 1 ≤ m ∧ m ≤ 12 ∧ 0 ≤ c ∧ c ≤ 400 ∧ Hid (c = Cal.cum y m) ∧ 0 ≤ n - b0 - c ∧ r = .int .i64 (n - b0 - c) ∧ Hid (Blk wr w.heap.size 23 #[.int .i64 y, .int .i64 m, .int .i64 1]) ∧ Hid (Below w.heap.size w wr)) (fun _ wr => (13 - cellInt wr w.heap.size 1).toNat)
        case atStart => exact ⟨1, 0, by omega, by omega, by omega, by omega, (show (0 : Int) = _ from (Cal.cum_one y).symm), by omega, by go_num, hK.out, hB.out⟩
        case round =>
          obtain ⟨m, c, hm1, hm2, hc0, hc1, hcu, hr0, rfl, hK2, hB2⟩ := hrel
          have HL2 := Lib.hid (HL.out.below hB2.out)
          have q0 := Blk.cellv hK2.out (i := 0) rfl
          have q1 := Blk.cellv hK2.out (i := 1) rfl
          have q2 := Blk.cellv hK2.out (i := 2) rfl
          have f0 := hK2.out.frozen 0
          have f1 := hK2.out.frozen 1
          have f2 := hK2.out.frozen 2
          have hdb := Cal.dim_bd y m
          have Hcs := Lib.hid (Cal.cum_succ y m hm1 hm2)
          have HD2 := Lib.hid (fun W (h : Lens W) => length_any y m W (by omega) (by omega) hm1 hm2 h)
          obtain ⟨dm, hdm⟩ : ∃ x, Cal.dim y m = x := ⟨_, rfl⟩
          rw [hdm] at HD2 hdb
          have Hdm := Lib.hid hdm
          clear hdm
          by_cases hd : dm ≤ n - b0 - c
          · have hm3 : m ≤ 11 := by
              by_cases e : m = 12
              · exfalso
                have a := Hcs.out
                have b := Cal.cum_13 y
                rw [e, show (12 : Int) + 1 = 13 by rfl, b, ← e, Hdm.out, ← hcu.out, Hl0.out] at a
                omega
              · omega
            have Hc2 := Lib.hid (show c + dm = Cal.cum y (m + 1) by rw [Hcs.out, ← hcu.out, Hdm.out])
            have hcb : 0 ≤ c + dm ∧ c + dm ≤ 400 := by
              have a := Cal.cum_bd y (m + 1) (by omega) (by omega)
              have b := Hc2.out
              have c := Hl0.out
              omega
            go_wp2_with ((go_at_call 29; refine (HD2.out _ (by first | exact HL2.out | exact HLr.out)).mono ?_; rintro e w' ⟨rfl, rfl⟩))
            go_roundw
            case rel => exact ⟨m + 1, c + dm, by omega, by omega, by omega, by omega, Hc2.out, by omega, by go_num, hK2.out.set_ 1 _, hB2.out.setCell (p := ⟨w.heap.size, 1, none⟩) (Nat.le_refl _) _⟩
            case measure =>
              rw [cellInt_of q1, cellInt_of (Blk.cellv (hK2.out.set_ 1 (.int .i64 (m + 1))) (i := 1) rfl)]; omega
          · go_wp2_with ((go_at_call 29; refine (HD2.out _ (by first | exact HL2.out | exact HLr.out)).mono ?_; rintro e w' ⟨rfl, rfl⟩))
            clear q0 q1 q2 f0 f1 f2
            have HN := Lib.hid (HD.out y m (1 + (n - b0 - c)) ⟨by omega, hm1, hm2, by omega, by rw [Hdm.out]; omega, by unfold Cal.num; rw [Hb0.out, ← hcu.out]; omega⟩ (by unfold Cal.num; rw [Hb0.out, ← hcu.out]; omega))
            generalize hge : World.setCell _ _ _ = wz
            have HZ := Lib.hid (show Blk wz w.heap.size 23 #[.int .i64 y, .int .i64 m, .int .i64 (1 + (n - b0 - c))] by subst hge; exact (((hK2.out.set_ 2 _).set_ 0 _).set_ 1 _).set_ 2 _)
            have HBz := Lib.hid (show Below w.heap.size w wz by subst hge; exact (((hB2.out.setCell (p := ⟨w.heap.size, 2, none⟩) (Nat.le_refl _) _).setCell (p := ⟨w.heap.size, 0, none⟩) (Nat.le_refl _) _).setCell (p := ⟨w.heap.size, 1, none⟩) (Nat.le_refl _) _).setCell (p := ⟨w.heap.size, 2, none⟩) (Nat.le_refl _) _)
            clear hge
            have q0 := Blk.cellv HZ.out (i := 0) rfl
            have q1 := Blk.cellv HZ.out (i := 1) rfl
            have q2 := Blk.cellv HZ.out (i := 2) rfl
            exact bodyPost_ret (v := .tuple #[.agg #[.int .i64 y, .int .i64 m, .int .i64 (1 + (n - b0 - c))], .int .i64 0]) (by simp [results, Tryd.results13, go_sem, q0, q1, q2]) rfl ⟨y, m, _, HN.out.1, by rw [HN.out.2], HBz.out⟩
end Go.Proofs.YtlijdbgknbeefaaDoor
