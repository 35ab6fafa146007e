/- Trees of digests: plain. -/
import Derived.Test.YtcijhakofoklcaaTag2
import Derived.Lib.BitFns
namespace Go.Proofs.Ytcijhakofoklcaa
/-- The greatest power of 2 that is less than n. -/
def halfN (n : Nat) : Nat := 2 ^ (n - 1).log2
theorem half_lt {n : Nat} (h : 2 ≤ n) : halfN n < n := by
  have := Nat.log2_self_le (n := n - 1) (by omega)
  unfold halfN; omega
theorem half_pos (n : Nat) : 1 ≤ halfN n := Nat.one_le_two_pow
theorem half_ge {n : Nat} (h : 2 ≤ n) : n ≤ 2 * halfN n := by
  have := Nat.lt_log2_self (n := n - 1)
  unfold halfN
  rw [Nat.pow_succ] at this
  omega
theorem pow_unique {a b n : Nat} (h1 : 2 ^ a < n) (h2 : n ≤ 2 * 2 ^ a) (h3 : 2 ^ b < n) (h4 : n ≤ 2 * 2 ^ b) : a = b := by
  rcases Nat.lt_trichotomy a b with h | h | h
  · have : 2 ^ (a + 1) ≤ 2 ^ b := Nat.pow_le_pow_right (by omega) h
    rw [Nat.pow_succ] at this; omega
  · exact h
  · have : 2 ^ (b + 1) ≤ 2 ^ a := Nat.pow_le_pow_right (by omega) h
    rw [Nat.pow_succ] at this; omega
theorem half_unique {a n : Nat} (hn : 2 ≤ n) (h1 : 2 ^ a < n) (h2 : n ≤ 2 * 2 ^ a) : 2 ^ a = halfN n := by
  have := pow_unique h1 h2 (by have := half_lt hn; unfold halfN at this; exact this) (by have := half_ge hn; unfold halfN at this; exact this)
  unfold halfN
  rw [← this]
theorem bitAux_spec : ∀ f x, x < 2 ^ f → x < 2 ^ Lib.bitLenAux f x ∧ (0 < x → 2 ^ (Lib.bitLenAux f x - 1) ≤ x ∧ 0 < Lib.bitLenAux f x)
  | 0, x, h => by
    have : x = 0 := by simpa using h
    subst this
    exact ⟨by simp [Lib.bitLenAux], by omega⟩
  | f + 1, x, h => by
    by_cases hx : x = 0
    · subst hx
      exact ⟨by simp [Lib.bitLenAux], by omega⟩
    · obtain ⟨h1, h2⟩ := bitAux_spec f (x / 2) (by rw [Nat.pow_succ] at h; omega)
      have e : Lib.bitLenAux (f + 1) x = 1 + Lib.bitLenAux f (x / 2) := by simp [Lib.bitLenAux, hx]
      rw [e]
      refine ⟨by rw [Nat.add_comm, Nat.pow_succ]; omega, fun _ => ⟨?_, by omega⟩⟩
      rcases Nat.eq_zero_or_pos (x / 2) with h0 | h0
      · rw [h0]
        have : Lib.bitLenAux f 0 = 0 := by cases f <;> simp [Lib.bitLenAux]
        rw [this]; simp; omega
      · obtain ⟨h3, h4⟩ := h2 h0
        obtain ⟨m, hm⟩ : ∃ m, Lib.bitLenAux f (x / 2) = m + 1 := ⟨Lib.bitLenAux f (x / 2) - 1, by omega⟩
        rw [hm] at h3 ⊢
        rw [show 1 + (m + 1) - 1 = m + 1 by omega, Nat.pow_succ]
        rw [Nat.add_sub_cancel] at h3
        omega
theorem half_bits {n : Nat} (h : 2 ≤ n) (hn : n ≤ 18446744073709551615) : 2 ^ (Lib.bitLen (n - 1) - 1) = halfN n ∧ 1 ≤ Lib.bitLen (n - 1) := by
  obtain ⟨h1, h2⟩ := bitAux_spec 64 (n - 1) (by rw [show (2 : Nat) ^ 64 = 18446744073709551616 from rfl]; omega)
  obtain ⟨h3, h4⟩ := h2 (by omega)
  refine ⟨half_unique h (by show 2 ^ (Lib.bitLenAux 64 (n - 1) - 1) < n; omega) ?_, h4⟩
  obtain ⟨m, hm⟩ : ∃ m, Lib.bitLenAux 64 (n - 1) = m + 1 := ⟨Lib.bitLenAux 64 (n - 1) - 1, by omega⟩
  show n ≤ 2 * 2 ^ (Lib.bitLenAux 64 (n - 1) - 1)
  rw [hm] at h1 ⊢
  rw [Nat.add_sub_cancel]
  rw [Nat.pow_succ] at h1
  omega
attribute [irreducible] halfN
/-- The digest of a list. -/
def treeS (l : List (List Nat)) : List Nat :=
  if _h : 2 ≤ l.length then nodeS (treeS (l.take (halfN l.length))) (treeS (l.drop (halfN l.length)))
  else match l with
    | [] => tagS emptyT []
    | d :: _ => leafS d
termination_by l.length
decreasing_by
  · simp only [List.length_take]; have := half_lt ‹_›; omega
  · simp only [List.length_drop]; have := half_pos l.length; omega
theorem emptyT_eq : emptyT = strL ⟨#[101, 109, 112, 116, 121]⟩ := by unfold emptyT; rfl
theorem leafS_eq (d : List Nat) : leafS d = tagS (strL ⟨#[108, 101, 97, 102]⟩) d := by unfold leafS leafT; rfl
theorem nodeS_eq (a b : List Nat) : nodeS a b = tagS (strL ⟨#[110, 111, 100, 101]⟩) (a ++ b) := by unfold nodeS nodeT; rfl
theorem treeS_nil : treeS [] = tagS emptyT [] := by rw [treeS]; simp
theorem treeS_one (d : List Nat) : treeS [d] = leafS d := by rw [treeS]; simp
theorem treeS_two {l : List (List Nat)} (h : 2 ≤ l.length) : treeS l = nodeS (treeS (l.take (halfN l.length))) (treeS (l.drop (halfN l.length))) := by
  rw [treeS]; simp [h]
theorem treeS_isD (l : List (List Nat)) : IsD (treeS l) := by
  rw [treeS]
  split
  · exact nodeS_isD _ _
  · split
    · exact tagS_isD _ _
    · exact leafS_isD _
/-- A list of digests. -/
def IsL (l : List (List Nat)) : Prop := ∀ d ∈ l, IsD d
theorem IsL.take {l : List (List Nat)} (h : IsL l) (k : Nat) : IsL (l.take k) := fun d hd => h d (List.mem_of_mem_take hd)
theorem IsL.drop {l : List (List Nat)} (h : IsL l) (k : Nat) : IsL (l.drop k) := fun d hd => h d (List.mem_of_mem_drop hd)
theorem IsL.flat_length {l : List (List Nat)} (h : IsL l) : l.flatten.length = l.length * 32 := by
  induction l with
  | nil => rfl
  | cons d l ih =>
    rw [List.flatten_cons, List.length_append, (h d (by simp)).1, ih (fun x hx => h x (by simp [hx])), List.length_cons]
    omega
theorem IsL.flat_drop {l : List (List Nat)} (h : IsL l) : ∀ k, (l.drop k).flatten = l.flatten.drop (k * 32) := by
  induction l with
  | nil => simp
  | cons d l ih =>
    intro k
    cases k with
    | zero => simp
    | succ k =>
      rw [List.drop_succ_cons, ih (fun x hx => h x (by simp [hx])) k, List.flatten_cons, List.drop_append]
      have h32 := (h d (by simp)).1
      rw [show d.drop ((k + 1) * 32) = [] from List.drop_of_length_le (by omega), h32, show (k + 1) * 32 - 32 = k * 32 by omega]
      simp
theorem IsL.flat_take {l : List (List Nat)} (h : IsL l) : ∀ k, (l.take k).flatten = l.flatten.take (k * 32) := by
  induction l with
  | nil => simp
  | cons d l ih =>
    intro k
    cases k with
    | zero => simp
    | succ k =>
      have h32 := (h d (by simp)).1
      rw [List.take_succ_cons, List.flatten_cons, ih (fun x hx => h x (by simp [hx])) k, List.flatten_cons, List.take_append]
      rw [show d.take ((k + 1) * 32) = d from List.take_of_length_le (by omega), h32, show (k + 1) * 32 - 32 = k * 32 by omega]
/-- The bytes of the k-th digest. -/
theorem IsL.flat_get {l : List (List Nat)} (h : IsL l) {k : Nat} {d : List Nat} (hk : l[k]? = some d) : (l.flatten.drop (k * 32)).take 32 = d := by
  rw [← h.flat_drop k]
  obtain ⟨hl, he⟩ := List.getElem?_eq_some_iff.1 hk
  rw [List.drop_eq_getElem_cons hl, he, List.flatten_cons, List.take_append, (h d (List.mem_of_getElem? hk)).1]
  rw [List.take_of_length_le (by rw [(h d (List.mem_of_getElem? hk)).1]; omega)]
  simp
end Go.Proofs.Ytcijhakofoklcaa
