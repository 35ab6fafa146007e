import Derived.Test.YtbccdjaeopfalaaBase
namespace Go.Proofs.Ytbccdjaeopfalaa
open Go.RowKit

def fact : Nat → Nat
  | 0 => 1
  | n + 1 => (n + 1) * fact n

theorem fact_le : ∀ n, n ≤ 18 → fact n ≤ 6402373705728000 := by decide
theorem fact_pos : ∀ n, 0 < fact n
  | 0 => by decide
  | n + 1 => Nat.mul_pos (by omega) (fact_pos n)

theorem ret_ue {a b : Int} {c d : Int} (h : a = b) (h' : c = d) : Ending.returned (.tuple #[.int .u64 a, .int .i64 c]) = .returned (.tuple #[.int .u64 b, .int .i64 d]) := by rw [h, h']
theorem u64_eq {a b : Int} (h : a = b) : Value.int .u64 a = .int .u64 b := by rw [h]
theorem fact_wrap {k : Nat} (h : k + 1 ≤ 18) : IntKind.u64.wrap (fact k * ((k : Int) + 1)) = ((fact (k + 1) : Nat) : Int) := by
  have hb := fact_le (k + 1) h
  have e : (fact k : Int) * ((k : Int) + 1) = ((fact (k + 1) : Nat) : Int) := by
    show _ = (((k + 1) * fact k : Nat) : Int)
    rw [Int.mul_comm]; simp
  rw [e]
  exact IntWalk.u64_in _ (by omega)

set_option maxHeartbeats 400000 in
theorem Factorial_bad (n : Int) (w : World) (h : n < 0 ∨ 18 < n) :
    Calls Try.prog 11 #[.int .i64 n] w fun e w' => e = .returned (.tuple #[.int .u64 0, .int .i64 220]) ∧ w = w' := by
  rcases h with h | h
  · go_enter Try.func11, Try.ntmps11
    go_wp2
    go_ret2
    exact ⟨rfl, rfl⟩
  · go_enter Try.func11, Try.ntmps11
    go_wp2
    all_goals go_ret2
    all_goals exact ⟨rfl, rfl⟩

set_option maxHeartbeats 400000 in
theorem Factorial_good (n : Nat) (w : World) (h : n ≤ 18) :
    Calls Try.prog 11 #[.int .i64 n] w fun e w' => e = .returned (.tuple #[.int .u64 (fact n), .int .i64 0]) ∧ w = w' := by
  go_enter Try.func11, Try.ntmps11
  go_wp2
  go_loop [2, 12] (fun m i => ∃ k : Nat, k ≤ n ∧ i = .int .i64 k ∧ m = .int .u64 (fact k)) (fun _ i => n - (intOf i).toNat)
  case atStart => exact ⟨0, by omega, rfl, rfl⟩
  case round =>
    obtain ⟨k, hk, rfl, rfl⟩ := hrel
    by_cases hlt : k < n
    · have Hw := Lib.hid (fact_wrap (k := k) (by omega))
      go_wp2
      go_round
      case rel => exact ⟨k + 1, by omega, by go_num, u64_eq Hw.out⟩
      case measure => simp [intOf]; omega
    · go_wp2
      go_ret2
      obtain rfl : k = n := by omega
      exact ⟨rfl, rfl⟩

set_option maxHeartbeats 400000 in
theorem RFactorial_good (n : Nat) (w : World) (h : n ≤ 18) :
    Calls Try.prog 12 #[.int .i64 n] w fun e w' => e = .returned (.tuple #[.int .u64 (fact n), .int .i64 0]) ∧ w = w' := by
  go_enter Try.func12, Try.ntmps12
  go_wp2
  go_loop [4, 5] (fun m i => ∃ k : Nat, 1 ≤ k ∧ (k ≤ n ∨ k = 1) ∧ i = .int .i64 ((k : Int) + 1) ∧ m = .int .u64 (fact k)) (fun _ i => n + 2 - (intOf i).toNat)
  case atStart => exact ⟨1, by omega, by omega, rfl, rfl⟩
  case round =>
    obtain ⟨k, hk, hkn, rfl, rfl⟩ := hrel
    by_cases hlt : k + 1 ≤ n
    · have Hw := Lib.hid (fact_wrap (k := k) (by omega))
      go_wp2
      go_round
      case rel => exact ⟨k + 1, by omega, by omega, by go_num, u64_eq Hw.out⟩
      case measure => simp [intOf]; omega
    · go_wp2
      go_ret2
      have hf : fact k = fact n := by
        rcases hkn with hkn | rfl
        · obtain rfl : k = n := by omega
          rfl
        · have : n = 0 ∨ n = 1 := by omega
          rcases this with rfl | rfl <;> rfl
      exact ⟨ret_ue (by rw [hf]) rfl, rfl⟩

set_option maxHeartbeats 400000 in
theorem RFactorial_bad (n : Int) (w : World) (h : n < 0 ∨ 18 < n) :
    Calls Try.prog 12 #[.int .i64 n] w fun e w' => e = .returned (.tuple #[.int .u64 0, .int .i64 220]) ∧ w = w' := by
  rcases h with h | h
  · go_enter Try.func12, Try.ntmps12
    go_wp2
    go_ret2
    exact ⟨rfl, rfl⟩
  · go_enter Try.func12, Try.ntmps12
    go_wp2
    all_goals go_ret2
    all_goals exact ⟨rfl, rfl⟩
end Go.Proofs.Ytbccdjaeopfalaa
