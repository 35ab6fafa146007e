import Derived.Test.YtbccdjaeopfalaaL3
import Derived.Test.YtbccdjaeopfalaaP5
import Derived.Test.YtbccdjaeopfalaaSet
namespace Go.Proofs.Ytbccdjaeopfalaa
open Go.RowKit

theorem Try.info23 : (Try.prog.info? 23).map (fun i => (i.zero, i.size, i.bytes)) = some (some (.slice none 0 0), 1, 24) := by kernel_rfl
def outer (G n t : Nat) : Array Value := ((List.range n).map fun i => if i < t then Value.slice (some ⟨G + 1 + i, 0, none⟩) n n else .slice none 0 0).toArray
def rowC (n : Nat) (C : Nat → Nat) : Array Value := ((List.range n).map fun a => Value.int .i64 (C a : Int)).toArray
theorem outer_get {G n t i : Nat} (hi : i < n) : (outer G n t)[i]? = some (if i < t then Value.slice (some ⟨G + 1 + i, 0, none⟩) n n else .slice none 0 0) := by simp [outer, hi]
theorem rowC_get {n a : Nat} {C : Nat → Nat} (ha : a < n) : (rowC n C)[a]? = some (.int .i64 (C a : Int)) := by simp [rowC, ha]
theorem outer_zero (G n : Nat) : outer G n 0 = (List.replicate n (Value.slice none 0 0)).toArray := by
  unfold outer
  congr 1
  apply List.ext_getElem
  · simp
  · intro i h1 h2; simp
theorem rowC_zero (n : Nat) : rowC n (fun _ => 0) = (List.replicate n (Value.int .i64 0)).toArray := by
  unfold rowC
  congr 1
  apply List.ext_getElem
  · simp
  · intro i h1 h2; simp
theorem outer_step {G n t : Nat} : (outer G n t).setIfInBounds t (.slice (some ⟨G + 1 + t, 0, none⟩) n n) = outer G n (t + 1) := by
  apply Array.ext
  · simp [outer]
  · intro j h1 h2
    have hj : j < n := by simpa [outer] using h2
    by_cases e : t = j
    · subst e; simp [outer]
    · rw [Array.getElem_setIfInBounds_ne (by simpa [outer] using hj) e]
      simp only [outer, List.getElem_toArray, List.getElem_map, List.getElem_range]
      by_cases h : j < t
      · rw [if_pos h, if_pos (by omega)]
      · rw [if_neg h, if_neg (by omega)]
def bump (C : Nat → Nat → Nat) (i a : Nat) : Nat → Nat → Nat := fun i' a' => if i' = i ∧ a' = a then C i a + 1 else C i' a'
theorem rowC_bump {n i a : Nat} {C : Nat → Nat → Nat} : (rowC n (C i)).setIfInBounds a (.int .i64 ((C i a : Int) + 1)) = rowC n (bump C i a i) := by
  apply Array.ext
  · simp [rowC]
  · intro j h1 h2
    have hj : j < n := by simpa [rowC] using h2
    by_cases e : a = j
    · subst e; simp [rowC, bump]
    · rw [Array.getElem_setIfInBounds_ne (by simpa [rowC] using hj) e]
      simp [rowC, bump, Ne.symm e]
theorem bump_other {C : Nat → Nat → Nat} {i a i' : Nat} (h : i' ≠ i) : bump C i a i' = C i' := by
  funext a'
  simp [bump, h]

/-- What the law keeps: the table of places and the set of keys. -/
structure Fair (W : World) (G n M : Nat) (C : Nat → Nat → Nat) (S : List (List UInt8)) : Prop where
  outer : Blk W G 23 (outer G n n)
  rows : ∀ i, i < n → Blk W (G + 1 + i) 3 (rowC n (C i))
  set_ : BoolSet Try.prog 9 4 W M S
  le : G + 1 + n ≤ M
theorem Fair.size {W : World} {G n M : Nat} {C : Nat → Nat → Nat} {S : List (List UInt8)} (h : Fair W G n M C S) : M < W.heap.size := h.set_.lt
theorem Fair.below {W W' : World} {G n M : Nat} {C : Nat → Nat → Nat} {S : List (List UInt8)} (h : Fair W G n M C S) (hb : Below W.heap.size W W') : Fair W' G n M C S :=
  ⟨h.outer.below hb, fun i hi => (h.rows i hi).below hb, h.set_.below hb, h.le⟩
theorem Fair.bump_ {W : World} {G n M i a : Nat} {C : Nat → Nat → Nat} {S : List (List UInt8)} (h : Fair W G n M C S) (hi : i < n) : Fair (W.setCell ⟨G + 1 + i, a, none⟩ (.int .i64 ((C i a : Int) + 1))) G n M (bump C i a) S := by
  have hle := h.le
  refine ⟨h.outer.far (by simp; omega) _, fun j hj => ?_, h.set_.setCell (by simp; omega) _, hle⟩
  by_cases e : j = i
  · subst e
    have := (h.rows j hj).set_ a (.int .i64 ((C j a : Int) + 1))
    rwa [rowC_bump] at this
  · rw [bump_other e]
    exact (h.rows j hj).far (by simp; omega) _
theorem Fair.congr {W : World} {G n M : Nat} {C C' : Nat → Nat → Nat} {S : List (List UInt8)} (h : Fair W G n M C S) (hc : ∀ i a, i < n → a < n → C i a = C' i a) : Fair W G n M C' S := by
  refine ⟨h.outer, fun i hi => ?_, h.set_, h.le⟩
  have e : rowC n (C i) = rowC n (C' i) := by
    unfold rowC
    congr 1
    refine List.map_congr_left fun a ha => ?_
    rw [hc i a hi (by simpa using ha)]
  rw [← e]
  exact h.rows i hi
theorem Fair.store {W : World} {G n M : Nat} {C : Nat → Nat → Nat} {S : List (List UInt8)} (h : Fair W G n M C S) (s : ByteArray) (hs : s.size ≤ maxLen) (hS : S.length < maxLen) (hnew : s.data.toList ∉ S) :
    ∃ w', (Instr.mapUpdate 38 (.map (some M)) (.string s) (.bool true)).run Try.prog W = .ok () w' ∧ Fair w' G n M C (S ++ [s.data.toList]) ∧ W.grownBy w' (some M) := by
  obtain ⟨w', hrun, hset, hg⟩ := h.set_.store Try.underlying9 Try.underlying38 Try.underlying4 s hs hS hnew
  have hle := h.le
  have hsz := h.set_.lt
  exact ⟨w', hrun, ⟨h.outer.grown hg (by simp; omega), fun i hi => (h.rows i hi).grown hg (by simp; omega), hset, hle⟩, hg⟩
/-- Counts within a permutation: the first a places are counted. -/
def cntP (n k a : Nat) : Nat → Nat → Nat := fun i b => cnt n k i b + if b < a ∧ (unrank n k)[b]? = some (i : Int) then 1 else 0
theorem cntP_zero (n k i b : Nat) : cntP n k 0 i b = cnt n k i b := by simp [cntP]
theorem cntP_full {n k i b : Nat} (hb : b < n) : cntP n k n i b = cnt n (k + 1) i b := by simp [cntP, cnt_succ, hb]
theorem cntP_step {n k a q : Nat} (hq : (unrank n k)[a]? = some (q : Int)) (i b : Nat) : bump (cntP n k a) q a i b = cntP n k (a + 1) i b := by
  unfold bump cntP
  by_cases h : i = q ∧ b = a
  · obtain ⟨rfl, rfl⟩ := h
    simp [hq]
  · rw [if_neg h]
    congr 1
    by_cases hb : b = a
    · subst hb
      have hi : i ≠ q := fun e => h ⟨e, rfl⟩
      have : ¬ ((unrank n k)[b]? = some (i : Int)) := by
        rw [hq]; intro e; injection e with e; omega
      simp [this]
    · by_cases h1 : b < a
      · have h2 : b < a + 1 := by omega
        simp [h1, h2]
      · have h2 : ¬ b < a + 1 := by omega
        simp [h1, h2]
theorem rune_str {i : Nat} (hi : i < 6) : Utf8.encode (97 + (i : Int)) = ⟨#[letter (i : Int)]⟩ := by
  have : i = 0 ∨ i = 1 ∨ i = 2 ∨ i = 3 ∨ i = 4 ∨ i = 5 := by omega
  rcases this with rfl | rfl | rfl | rfl | rfl | rfl <;> rfl
theorem Order_own (A : Option Addr) (n c : Nat) (cl : List Int) (k : Nat) (w : World) (hp : cl.length = n) (hnc : n ≤ c) (hm : c ≤ maxLen) (hA : Ints w A cl) (hok : okOrder cl k = true) :
    Calls Try.prog 18 #[.slice A n c, .int .u64 k] w fun e w' => ∃ B d, e = .returned (.tuple #[.slice B n d, .int .i64 0]) ∧ w'.ownsRow w.heap.size 3 1 (.slice B n d) n (((unrank n k).map (nth cl)).map (Value.int .i64)) ∧ Below w.heap.size w w' := by
  refine (Order_any A n c cl k w hp hnc hm hA).mono fun e w' ⟨_, h2, hb⟩ => ?_
  obtain ⟨v, he, hown⟩ := h2 hok
  obtain ⟨B, d, rfl, _, _, _⟩ := own_form hown
  refine ⟨B, d, he, ?_, hb⟩
  have : order cl k = (unrank n k).map (nth cl) := by unfold order; rw [hp]
  rwa [this] at hown
end Go.Proofs.Ytbccdjaeopfalaa
