import Derived.Test.YtbccdjaeopfalaaP3
namespace Go.Proofs.Ytbccdjaeopfalaa
open Go.RowKit
/-- How many of the numbers below k lead element i to place a. -/
def cnt (n k : Nat) (i a : Nat) : Nat := ((List.range k).filter fun j => (unrank n j)[a]? == some (i : Int)).length
def fairB (n : Nat) : Bool := (List.range n).all fun i => (List.range n).all fun a => cnt n (fact n) i a * n == fact n
theorem fair1 : fairB 1 = true := by decide +kernel
theorem fair2 : fairB 2 = true := by decide +kernel
theorem fair3 : fairB 3 = true := by decide +kernel
theorem fair4 : fairB 4 = true := by decide +kernel
theorem fair5 : fairB 5 = true := by decide +kernel
theorem fair6 : fairB 6 = true := by decide +kernel
theorem fair {n i a : Nat} (h0 : 1 ≤ n) (h6 : n ≤ 6) (hi : i < n) (ha : a < n) : cnt n (fact n) i a * n = fact n := by
  have h : fairB n = true := by
    have : n = 1 ∨ n = 2 ∨ n = 3 ∨ n = 4 ∨ n = 5 ∨ n = 6 := by omega
    rcases this with rfl | rfl | rfl | rfl | rfl | rfl
    · exact fair1
    · exact fair2
    · exact fair3
    · exact fair4
    · exact fair5
    · exact fair6
  have h1 := List.all_eq_true.1 h i (List.mem_range.2 hi)
  have h2 := List.all_eq_true.1 h1 a (List.mem_range.2 ha)
  exact beq_iff_eq.1 h2
theorem cnt_zero (n i a : Nat) : cnt n 0 i a = 0 := rfl
theorem cnt_succ (n k i a : Nat) : cnt n (k + 1) i a = cnt n k i a + if (unrank n k)[a]? = some (i : Int) then 1 else 0 := by
  unfold cnt
  rw [List.range_succ, List.filter_append, List.length_append]
  congr 1
  by_cases h : (unrank n k)[a]? = some (i : Int) <;> simp [h]
theorem cnt_le (n k i a : Nat) : cnt n k i a ≤ k := by
  unfold cnt
  exact Nat.le_trans (List.length_filter_le _ _) (by simp)
/-- The key of a permutation. -/
def letter (x : Int) : UInt8 := UInt8.ofNat (97 + x.toNat)
def keyL (p : List Int) : List UInt8 := p.map letter
theorem letter_inj {x y : Int} (hx : 0 ≤ x ∧ x < 6) (hy : 0 ≤ y ∧ y < 6) (h : letter x = letter y) : x = y := by
  have h2 := congrArg UInt8.toNat h
  unfold letter at h2
  rw [UInt8.toNat_ofNat_of_lt' (by simp [UInt8.size]; omega), UInt8.toNat_ofNat_of_lt' (by simp [UInt8.size]; omega)] at h2
  omega
theorem keyL_inj : ∀ {p q : List Int}, (∀ x ∈ p, 0 ≤ x ∧ x < 6) → (∀ x ∈ q, 0 ≤ x ∧ x < 6) → keyL p = keyL q → p = q
  | [], [], _, _, _ => rfl
  | [], _ :: _, _, _, h => by simp [keyL] at h
  | _ :: _, [], _, _, h => by simp [keyL] at h
  | x :: p, y :: q, hp, hq, h => by
    have h' : letter x :: keyL p = letter y :: keyL q := h
    injection h' with h1 h2
    have e1 := letter_inj (hp x (by simp)) (hq y (by simp)) h1
    have e2 := keyL_inj (fun z hz => hp z (by simp [hz])) (fun z hz => hq z (by simp [hz])) h2
    rw [e1, e2]
/-- The keys of the first k permutations. -/
def keys (n k : Nat) : List (List UInt8) := (List.range k).map fun j => keyL (unrank n j)
theorem keys_length (n k : Nat) : (keys n k).length = k := by simp [keys]
theorem keys_succ (n k : Nat) : keys n (k + 1) = keys n k ++ [keyL (unrank n k)] := by simp [keys, List.range_succ]
theorem keys_new {n k : Nat} (h6 : n ≤ 6) (hk : k < fact n) : keyL (unrank n k) ∉ keys n k := by
  intro h
  simp only [keys, List.mem_map, List.mem_range] at h
  obtain ⟨j, hj, he⟩ := h
  have hj' : j < fact n := by omega
  have e := keyL_inj (fun x hx => by have := unr_range n j hj' x hx; omega) (fun x hx => by have := unr_range n k hk x hx; omega) he
  have h1 := rank_unrank (n := n) (k := j) (by omega) hj'
  have h2 := rank_unrank (n := n) (k := k) (by omega) hk
  rw [e, h2] at h1
  omega
end Go.Proofs.Ytbccdjaeopfalaa
