import Derived.Test.YtbccdjaeopfalaaP1
namespace Go.Proofs.Ytbccdjaeopfalaa
open Go.RowKit

def iota (n : Nat) : List Int := (List.range n).map fun (i : Nat) => (i : Int)
/-- m elements of a list of m, in the order of the number k. -/
def unr : Nat → List Int → Nat → List Int
  | 0, _, _ => []
  | m + 1, left, k => left.getD (k / fact m) 0 :: unr m (left.eraseIdx (k / fact m)) (k % fact m)
def unrank (n k : Nat) : List Int := unr n (iota n) k
def okN (n : Int) (k : Nat) : Bool := decide (0 ≤ n ∧ n ≤ 18 ∧ k < fact n.toNat)

@[simp] theorem iota_length (n : Nat) : (iota n).length = n := by simp [iota]
theorem unr_length : ∀ m l k, (unr m l k).length = m
  | 0, _, _ => rfl
  | m + 1, l, k => by simp [unr, unr_length m]
theorem unrank_length (n k : Nat) : (unrank n k).length = n := unr_length _ _ _
theorem div_lt_fact {m k : Nat} (h : k < fact (m + 1)) : k / fact m < m + 1 := by
  rw [Nat.div_lt_iff_lt_mul (fact_pos m)]
  exact h
theorem unr_cons {m : Nat} {l : List Int} {k : Nat} {x : Int} (hx : l[k / fact m]? = some x) : unr (m + 1) l k = x :: unr m (l.eraseIdx (k / fact m)) (k % fact m) := by
  simp [unr, List.getD, hx]
theorem eraseIdx_eq {α : Type} (l : List α) (i : Nat) : l.take i ++ l.drop (i + 1) = l.eraseIdx i := (List.eraseIdx_eq_take_drop_succ l i).symm
theorem unr_mem : ∀ (m : Nat) (l : List Int) (k : Nat), l.length = m → k < fact m → ∀ x ∈ unr m l k, x ∈ l
  | 0, _, _, _, _ => by simp [unr]
  | m + 1, l, k, hl, hk => by
    intro x hx
    have hd := div_lt_fact hk
    obtain ⟨y, hy⟩ : ∃ y, l[k / fact m]? = some y := ⟨_, List.getElem?_eq_getElem (by omega)⟩
    rw [unr_cons hy] at hx
    rcases List.mem_cons.1 hx with rfl | hx
    · exact List.mem_of_getElem? hy
    · have := unr_mem m (l.eraseIdx (k / fact m)) (k % fact m) (by rw [List.length_eraseIdx_of_lt (by omega)]; omega) (Nat.mod_lt _ (fact_pos m)) x hx
      exact List.mem_of_mem_eraseIdx this
theorem iota_mem {n : Nat} {x : Int} (h : x ∈ iota n) : 0 ≤ x ∧ x < n := by
  simp only [iota, List.mem_map, List.mem_range] at h
  obtain ⟨i, hi, rfl⟩ := h
  omega
theorem unr_range (n k : Nat) (hk : k < fact n) : ∀ x ∈ unrank n k, 0 ≤ x ∧ x < n := fun x hx => iota_mem (unr_mem n (iota n) k (iota_length n) hk x hx)
end Go.Proofs.Ytbccdjaeopfalaa
