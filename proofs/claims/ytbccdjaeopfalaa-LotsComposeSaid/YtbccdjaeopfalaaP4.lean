import Derived.Test.YtbccdjaeopfalaaP3
import Derived.Test.YtbccdjaeopfalaaW10
namespace Go.Proofs.Ytbccdjaeopfalaa
open Go.RowKit

theorem map_nth_iota {L : List Int} {n : Nat} (h : L.length = n) : (iota n).map (nth L) = L := by
  subst h
  apply List.ext_getElem
  · simp
  · intro i h1 h2
    simp [iota, nth, h2]
theorem isPerm_of {p : List Int} {n : Nat} (hp : p.length = n) (hn : n ≤ 18) (h : p.Perm (iota n)) : isPerm p = true := (isPerm_iff hp).2 ⟨h, hn⟩
theorem comp_length (p q : List Int) : (comp p q).length = p.length := by simp [comp]
theorem comp_isPerm {p q : List Int} {n : Nat} (hp : p.length = n) (hq : q.length = n) (h1 : isPerm p = true) (h2 : isPerm q = true) : isPerm (comp p q) = true := by
  obtain ⟨p1, hn⟩ := (isPerm_iff hp).1 h1
  obtain ⟨p2, _⟩ := (isPerm_iff hq).1 h2
  refine isPerm_of (by rw [comp_length, hp]) hn ?_
  have := p1.map (nth q)
  rw [map_nth_iota hq] at this
  exact this.trans p2
theorem isPerm_range {p : List Int} {n : Nat} (hp : p.length = n) (h : isPerm p = true) {x : Int} (hx : x ∈ p) : 0 ≤ x ∧ x < n := iota_mem (((isPerm_iff hp).1 h).1.subset hx)
theorem nth_map {q r : List Int} {x : Int} {n : Nat} (hq : q.length = n) (h0 : 0 ≤ x) (h1 : x < n) : nth (q.map (nth r)) x = nth r (nth q x) := by
  obtain ⟨i, rfl⟩ := Int.eq_ofNat_of_zero_le h0
  have hi : i < q.length := by omega
  simp [nth, hi]
theorem comp_assoc {p q r : List Int} {n : Nat} (hp : p.length = n) (hq : q.length = n) (h1 : isPerm p = true) : comp (comp p q) r = comp p (comp q r) := by
  unfold comp
  rw [List.map_map]
  refine List.map_congr_left fun x hx => ?_
  obtain ⟨h0, hx1⟩ := isPerm_range hp h1 hx
  exact (nth_map hq h0 hx1).symm
theorem comp_iota {p : List Int} {n : Nat} (hp : p.length = n) (h1 : isPerm p = true) : comp p (iota n) = p := by
  unfold comp
  refine (List.map_congr_left (g := id) fun x hx => ?_).trans (List.map_id _)
  obtain ⟨h0, hx1⟩ := isPerm_range hp h1 hx
  obtain ⟨i, rfl⟩ := Int.eq_ofNat_of_zero_le h0
  have hi : i < n := by omega
  simp [nth, iota, hi]
theorem iota_isPerm {n : Nat} (hn : n ≤ 18) : isPerm (iota n) = true := isPerm_of (iota_length n) hn (List.Perm.refl _)
/-- The first k places of a permutation, written back. -/
def Back (p : List Int) (n k : Nat) (L : List Int) : Prop := L.length = n ∧ ∀ i x, i < k → p[i]? = some x → L[x.toNat]? = some (i : Int)
theorem Back.step {p L : List Int} {n k i : Nat} (hn : p.Nodup) (h : Back p n k L) (hk : p[k]? = some (i : Int)) (hi : i < n) (hr : ∀ x ∈ p, 0 ≤ x) : Back p n (k + 1) (L.set i (k : Int)) := by
  refine ⟨by rw [List.length_set]; exact h.1, fun j x hj hx => ?_⟩
  by_cases e : j = k
  · subst e
    rw [hk] at hx
    injection hx with hx
    subst hx
    rw [Int.toNat_natCast, List.getElem?_set_self (by rw [h.1]; exact hi)]
  · have h2 := h.2 j x (by omega) hx
    have hne : i ≠ x.toNat := fun he => by
      have hx0 := hr x (List.mem_of_getElem? hx)
      have hxe : x = (i : Int) := by omega
      subst hxe
      have hjl : j < p.length := (List.getElem?_eq_some_iff.1 hx).1
      exact e ((List.getElem?_inj hjl hn).1 (hx.trans hk.symm))
    rw [List.getElem?_set_ne hne]
    exact h2
theorem Back.full {p L : List Int} {n : Nat} (hp : p.length = n) (h1 : isPerm p = true) (h : Back p n n L) : comp p L = iota n ∧ isPerm L = true := by
  have hc : comp p L = iota n := by
    apply List.ext_getElem?
    intro i
    by_cases hi : i < n
    · obtain ⟨x, hx⟩ : ∃ x, p[i]? = some x := ⟨_, List.getElem?_eq_getElem (by omega)⟩
      have h2 := h.2 i x hi hx
      simp [comp, hx, nth, h2, iota, hi]
    · rw [List.getElem?_eq_none (by rw [comp_length]; omega), List.getElem?_eq_none (by simp; omega)]
  refine ⟨hc, ?_⟩
  obtain ⟨p1, hn⟩ := (isPerm_iff hp).1 h1
  refine isPerm_of h.1 hn ?_
  have := p1.map (nth L)
  rw [map_nth_iota h.1] at this
  rw [← hc]
  exact this.symm
theorem isPerm_nodup {p : List Int} {n : Nat} (hp : p.length = n) (h : isPerm p = true) : p.Nodup := by
  obtain ⟨p1, _⟩ := (isPerm_iff hp).1 h
  exact p1.nodup_iff.2 ((iota_inc n).imp fun hlt => by omega)
theorem composeL_perm {p q : List Int} {n : Nat} (hp : p.length = n) (hq : q.length = n) (h1 : isPerm p = true) (h2 : isPerm q = true) : okComp p q = true ∧ composeL p q = comp p q := by
  have h : okComp p q = true := by simp [okComp, hp, hq, h1, h2]
  exact ⟨h, by simp [composeL, h]⟩
end Go.Proofs.Ytbccdjaeopfalaa
