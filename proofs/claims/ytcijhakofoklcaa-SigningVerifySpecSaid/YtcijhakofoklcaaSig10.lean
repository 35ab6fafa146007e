/- The walk of the laws' same (lists of bits). -/
import Derived.Test.YtcijhakofoklcaaSig9
namespace Go.Proofs.Ytcijhakofoklcaa
open Go.RowKit
theorem getD_some {l : List Bool} {k : Nat} (h : k < l.length) : l[k]? = some (l.getD k false) := by simp [h]
set_option maxRecDepth 100000 in
set_option maxHeartbeats 4000000 in
theorem bsame_any (X Y : Nat) (x y : List Bool) (w : World) (hX : Blk w X 66 (arrB x)) (hY : Blk w Y 66 (arrB y)) (hx : x.length = 64) (hy : y.length = 64) :
    Calls Try.prog 25 #[.slice (some ⟨X, 0, none⟩) 64 64, .slice (some ⟨Y, 0, none⟩) 64 64] w fun e w' => e = .returned (.bool (decide (x = y))) ∧ Below w.heap.size w w' := by
  have HX := Lib.hid hX; have HY := Lib.hid hY; have Hx := Lib.hid hx; have Hy := Lib.hid hy
  clear hX hY hx hy
  go_enter Try.func25, Try.ntmps25
  go_wp2
  go_loopw [5] (fun i wr => ∃ k : Nat, k ≤ 64 ∧ i = .int .i64 k ∧ Hid (x.take k = y.take k) ∧ Drawn w wr) (fun i _ => 64 - (intOf i).toNat)
  case atStart => exact ⟨0, by omega, rfl, rfl, Drawn.refl _⟩
  case round =>
    obtain ⟨k, hk, rfl, Htk, hw⟩ := hrel
    by_cases hlt : k < 64
    · have g1 := Lib.hid (getD_some (l := x) (k := k) (by rw [Hx.out]; exact hlt))
      have g2 := Lib.hid (getD_some (l := y) (k := k) (by rw [Hy.out]; exact hlt))
      have e1 := (hw.cell ⟨X, k, none⟩).trans (HX.out.cellv (i := k) (arrB_get (by rw [Hx.out]; exact hlt)))
      have e2 := (hw.cell ⟨Y, k, none⟩).trans (HY.out.cellv (i := k) (arrB_get (by rw [Hy.out]; exact hlt)))
      generalize x.getD k false = a at *
      generalize y.getD k false = b at *
      have hkI : (k : Int) < 64 := by omega
      have hne : ¬ a = b → ¬ x = y := fun hab e => by
        have h1 := g1.out; rw [e, g2.out] at h1
        injection h1 with h
        exact hab h.symm
      have Hne := Lib.hid hne
      have Hst := Lib.hid (fun (hab : a = b) => show x.take (k + 1) = y.take (k + 1) by rw [take_snoc g1.out, take_snoc g2.out, Htk.out, hab])
      clear hne g1 g2
      cases a <;> cases b
      case false.false =>
        go_wp2
        go_quiet (fail)
        go_wp2
        go_roundw
        case rel => exact ⟨k + 1, by omega, by go_num, Hst.out (by first | rfl | trivial), hw.drewN _⟩
        case measure => simp [intOf]; omega
      case true.true =>
        go_wp2
        go_quiet (fail)
        go_wp2
        go_roundw
        case rel => exact ⟨k + 1, by omega, by go_num, Hst.out (by first | rfl | trivial), hw.drewN _⟩
        case measure => simp [intOf]; omega
      all_goals
        go_wp2
        go_quiet (fail)
        go_wp2
        go_ret
        have hxy := Hne.out (by simp)
        exact ⟨ret_bool (by simp [hxy]), below_drewN (hw.below _) _⟩
    · obtain rfl : k = 64 := by omega
      go_wp2
      go_ret
      have e : x = y := by
        have := Htk.out
        rwa [List.take_of_length_le (by rw [Hx.out]; omega), List.take_of_length_le (by rw [Hy.out]; omega)] at this
      exact ⟨ret_bool (by simp [e]), hw.below _⟩
end Go.Proofs.Ytcijhakofoklcaa
