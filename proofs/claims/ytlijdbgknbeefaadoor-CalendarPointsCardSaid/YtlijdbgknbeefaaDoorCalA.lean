/- The walks of leap, length, before, valid (calendar). -/
import Derived.Test.YtlijdbgknbeefaaDoorChecked
import Derived.Test.YtlijdbgknbeefaaDoorMem
import Derived.Test.YtlijdbgknbeefaaDoorCalP
import Derived.BigGuardPart
namespace Go.Proofs.YtlijdbgknbeefaaDoor
open Go.RowKit
def lensL : List Int := [31, 28, 31, 30, 31, 30, 31, 31, 30, 31, 30, 31]
/-- The table of the months' lengths lies as its initialiser laid it. -/
def Lens (w : World) : Prop := 0 < w.heap.size ∧ ∀ i, i < 12 → w.cell? ⟨0, i, none⟩ = some (.int .i64 (lensL.getD i 0))
theorem Lens.below {w w' : World} (h : Lens w) (hb : Below w.heap.size w w') : Lens w' := ⟨Nat.lt_of_lt_of_le h.1 hb.size, fun i hi => (hb.cell (p := ⟨0, i, none⟩) h.1).trans (h.2 i hi)⟩
def lpB (y : Int) : Bool := decide (y % 4 = 0 ∧ (y % 100 ≠ 0 ∨ y % 400 = 0))
theorem lpB_lp (y : Int) : Cal.lp y = if lpB y then 1 else 0 := by unfold Cal.lp lpB; simp
set_option maxHeartbeats 1000000 in
theorem leap_any (y : Int) (w : World) (h0 : 0 ≤ y) (h1 : y ≤ 100000) :
    Calls Tryd.prog 42 #[.int .i64 y] w fun e w' => e = .returned (.bool (lpB y)) ∧ w = w' := by
  go_enter Tryd.func42, Tryd.ntmps42
  go_wp2_with (fail)
  all_goals
    go_ret
    exact ⟨ret_bool (by unfold lpB; rw [Bool.eq_iff_iff]; simp [*]), rfl⟩
def validB (n : Int) : Bool := decide (0 ≤ n ∧ n ≤ 1048576)
set_option maxHeartbeats 1000000 in
theorem valid_any (n : Int) (w : World) :
    Calls Tryd.prog 31 #[.int .i64 n] w fun e w' => e = .returned (.bool (validB n)) ∧ w = w' := by
  go_enter Tryd.func31, Tryd.ntmps31
  go_wp2_with (fail)
  all_goals
    go_ret
    exact ⟨ret_bool (by unfold validB; simp only [decide_eq_decide, false_eq_decide_iff]; omega), rfl⟩
set_option maxHeartbeats 1000000 in
theorem count_any (y : Int) (w : World) (h0 : 0 ≤ y) (h1 : y ≤ 100000) :
    Calls Tryd.prog 43 #[.int .i64 y] w fun e w' => e = .returned (.int .i64 (y / 4 - y / 100 + y / 400)) ∧ w = w' := by
  go_enter Tryd.func43, Tryd.ntmps43
  go_wp2_with (fail)
  go_ret
  exact ⟨rfl, rfl⟩
theorem lens_cell {w : World} (h : Lens w) (i : Nat) (hi : i < 12) : w.cell? ⟨0, i, none⟩ = some (.int .i64 (lensL.getD i 0)) := h.2 i hi
set_option linter.unusedSimpArgs false in
set_option maxHeartbeats 4000000 in
theorem length_any (y m : Int) (w : World) (h0 : 0 ≤ y) (h1 : y ≤ 100000) (hm1 : 1 ≤ m) (hm2 : m ≤ 12) (hL : Lens w) :
    Calls Tryd.prog 29 #[.int .i64 y, .int .i64 m] w fun e w' => e = .returned (.int .i64 (Cal.dim y m)) ∧ w = w' := by
  have Hl := Lib.hid (lpB_lp y)
  obtain ⟨b, hb⟩ : ∃ b, b = lpB y := ⟨_, rfl⟩
  have HB := Lib.hid hb
  have HR := Lib.hid (leap_any y w h0 h1)
  rw [← hb] at HR
  clear hb
  by_cases h2 : m = 2
  · subst h2
    have hc := lens_cell hL 1 (by decide)
    simp only [lensL, List.getD_cons_succ, List.getD_cons_zero] at hc
    cases b
    all_goals
      go_enter Tryd.func29, Tryd.ntmps29
      go_wp2_with ((go_at_call 42; refine HR.out.mono ?_; rintro e w' ⟨rfl, rfl⟩))
      go_ret
      exact ⟨ret_int (by have := Hl.out; rw [← HB.out] at this; simp [Cal.dim, this]), rfl⟩
  · have hv : lensL.getD (m - 1).toNat 0 = Cal.dim y m := by
      rcases Cal.months hm1 hm2 with rfl | rfl | rfl | rfl | rfl | rfl | rfl | rfl | rfl | rfl | rfl | rfl <;> first | exact absurd rfl h2 | rfl
    have hc := lens_cell hL (m - 1).toNat (by omega)
    rw [hv, show (m - 1).toNat = m.toNat - 1 by omega] at hc
    have hne : (m == 2) = false := by simpa using h2
    have b1 : 0 ≤ m - 1 := by omega
    have b2 : m - 1 < 12 := by omega
    clear hL hv h2
    generalize Cal.dim y m = v at hc ⊢
    go_enter Tryd.func29, Tryd.ntmps29
    go_wp2_with (fail)
    go_ret
    exact ⟨rfl, rfl⟩
set_option maxHeartbeats 1000000 in
theorem before_any (y : Int) (w : World) (h0 : 1 ≤ y) (h1 : y ≤ 100000) :
    Calls Tryd.prog 30 #[.int .i64 y] w fun e w' => e = .returned (.int .i64 (Cal.bef y)) ∧ w = w' := by
  have HC := Lib.hid (fun x h g => count_any x w h g)
  have HE := Lib.hid (show (y - 2000) * 365 + ((y - 1) / 4 - (y - 1) / 100 + (y - 1) / 400) - 484 = Cal.bef y from rfl)
  have b1 : 0 ≤ y - 1 := by omega
  obtain ⟨c, hc⟩ : ∃ c, (y - 1) / 4 - (y - 1) / 100 + (y - 1) / 400 = c := ⟨_, rfl⟩
  have b2 : -100000 ≤ c := by omega
  have b3 : c ≤ 100000 := by omega
  have HCy := Lib.hid (HC.out (y - 1) (by omega) (by omega))
  have HCz := Lib.hid (HC.out 1999 (by omega) (by omega))
  rw [hc] at HCy HE
  rw [show (1999 : Int) / 4 - 1999 / 100 + 1999 / 400 = 484 by decide] at HCz
  clear hc HC
  go_enter Tryd.func30, Tryd.ntmps30
  go_wp2_with (first | (with_reducible refine HCy.out.mono ?_; rintro e w' ⟨rfl, rfl⟩) | (with_reducible refine HCz.out.mono ?_; rintro e w' ⟨rfl, rfl⟩))
  go_ret
  exact ⟨ret_int HE.out, rfl⟩
end Go.Proofs.YtlijdbgknbeefaaDoor
