/- Growths of a list of digests: plain. -/
import Derived.Test.YtcijhakofoklcaaRef7
namespace Go.Proofs.Ytcijhakofoklcaa
/-- The growth from the first n elements to the list. -/
def growS (l : List (List Nat)) (n : Nat) (wh : Bool) : List (List Nat) :=
  if n = l.length then (if wh then [] else [treeS l])
  else if _h : 2 ≤ l.length then (if n ≤ halfN l.length then growS (l.take (halfN l.length)) n wh ++ [treeS (l.drop (halfN l.length))] else growS (l.drop (halfN l.length)) (n - halfN l.length) false ++ [treeS (l.take (halfN l.length))])
  else []
termination_by l.length
decreasing_by
  · simp only [List.length_take]; have := half_lt ‹_›; omega
  · simp only [List.length_drop]; have := half_pos l.length; omega
/-- How many digests a growth has. -/
def grownS (n m : Nat) (wh : Bool) : Nat :=
  if n = m then (if wh then 0 else 1)
  else if _h : 2 ≤ m then (if n ≤ halfN m then grownS n (halfN m) wh + 1 else grownS (n - halfN m) (m - halfN m) false + 1)
  else 0
termination_by m
decreasing_by
  · have := half_lt ‹_›; omega
  · have := half_pos m; omega
theorem growS_whole {l : List (List Nat)} {n : Nat} (h : n = l.length) : growS l n true = [] := by rw [growS]; simp [h]
theorem growS_part {l : List (List Nat)} {n : Nat} (h : n = l.length) : growS l n false = [treeS l] := by rw [growS]; simp [h]
theorem growS_lo {l : List (List Nat)} {n : Nat} (wh : Bool) (h0 : n ≠ l.length) (h : 2 ≤ l.length) (hk : n ≤ halfN l.length) : growS l n wh = growS (l.take (halfN l.length)) n wh ++ [treeS (l.drop (halfN l.length))] := by rw [growS]; simp [h0, h, hk]
theorem growS_hi {l : List (List Nat)} {n : Nat} (wh : Bool) (h0 : n ≠ l.length) (h : 2 ≤ l.length) (hk : ¬ n ≤ halfN l.length) : growS l n wh = growS (l.drop (halfN l.length)) (n - halfN l.length) false ++ [treeS (l.take (halfN l.length))] := by rw [growS]; simp [h0, h, hk]
theorem grownS_whole {n m : Nat} (h : n = m) : grownS n m true = 0 := by rw [grownS]; simp [h]
theorem grownS_part {n m : Nat} (h : n = m) : grownS n m false = 1 := by rw [grownS]; simp [h]
theorem grownS_lo {n m : Nat} (wh : Bool) (h0 : n ≠ m) (h : 2 ≤ m) (hk : n ≤ halfN m) : grownS n m wh = grownS n (halfN m) wh + 1 := by rw [grownS]; simp [h0, h, hk]
theorem grownS_hi {n m : Nat} (wh : Bool) (h0 : n ≠ m) (h : 2 ≤ m) (hk : ¬ n ≤ halfN m) : grownS n m wh = grownS (n - halfN m) (m - halfN m) false + 1 := by rw [grownS]; simp [h0, h, hk]
theorem growS_isL : ∀ (m : Nat) (l : List (List Nat)) (n : Nat) (wh : Bool), l.length = m → IsL (growS l n wh) := by
  intro m
  induction m using Nat.strongRecOn with
  | _ m ih =>
  intro l n wh hl
  by_cases h0 : n = l.length
  · cases wh
    · rw [growS_part h0]; intro d hd; rw [List.mem_singleton] at hd; subst hd; exact treeS_isD _
    · rw [growS_whole h0]; exact IsL.nil_
  · by_cases h : 2 ≤ l.length
    · have h1 := half_lt h
      have h2 := half_pos l.length
      by_cases hk : n ≤ halfN l.length
      · rw [growS_lo wh h0 h hk]
        exact (ih (halfN l.length) (by omega) (l.take (halfN l.length)) n wh (by rw [List.length_take]; omega)).snoc (treeS_isD _)
      · rw [growS_hi wh h0 h hk]
        exact (ih (l.length - halfN l.length) (by omega) (l.drop (halfN l.length)) _ false (by rw [List.length_drop])).snoc (treeS_isD _)
    · rw [growS]; simp [h0, h]; exact IsL.nil_
theorem growS_length : ∀ (m : Nat) (l : List (List Nat)) (n : Nat) (wh : Bool), l.length = m → 1 ≤ n → n ≤ m → (growS l n wh).length = grownS n m wh := by
  intro m
  induction m using Nat.strongRecOn with
  | _ m ih =>
  intro l n wh hl hn1 hn
  by_cases h0 : n = m
  · cases wh
    · rw [growS_part (by rw [hl]; exact h0), grownS_part h0]; rfl
    · rw [growS_whole (by rw [hl]; exact h0), grownS_whole h0]; rfl
  · have h : 2 ≤ m := by omega
    have h1 := half_lt h
    have h2 := half_pos m
    by_cases hk : n ≤ halfN m
    · rw [growS_lo wh (by rw [hl]; exact h0) (by rw [hl]; exact h) (by rw [hl]; exact hk), hl, grownS_lo wh h0 h hk, List.length_append, ih _ h1 (l.take (halfN m)) n wh (by rw [List.length_take, hl]; omega) hn1 hk]
      rfl
    · rw [growS_hi wh (by rw [hl]; exact h0) (by rw [hl]; exact h) (by rw [hl]; exact hk), hl, grownS_hi wh h0 h hk, List.length_append, ih (m - halfN m) (by omega) (l.drop (halfN m)) _ false (by rw [List.length_drop, hl]) (by omega) (by omega)]
      rfl
/-- At most one digest a level, and one more. -/
theorem grownS_pow : ∀ (k n m : Nat) (wh : Bool), m ≤ 2 ^ k → grownS n m wh ≤ k + 1
  | k, n, m, wh, hm => by
    by_cases h0 : n = m
    · cases wh
      · rw [grownS_part h0]; omega
      · rw [grownS_whole h0]; omega
    · by_cases h : 2 ≤ m
      · match k, hm with
        | 0, hm => simp at hm; omega
        | k + 1, hm =>
          have h3 := half_le_pow h hm
          have h4 := half_ge h
          by_cases hk : n ≤ halfN m
          · rw [grownS_lo wh h0 h hk]
            have := grownS_pow k n (halfN m) wh h3
            omega
          · rw [grownS_hi wh h0 h hk]
            have := grownS_pow k (n - halfN m) (m - halfN m) false (by omega)
            omega
      · rw [grownS]; simp [h0, h]
/-- The older and the newer digest that a growth yields (the last digest first). -/
def bothS (a : List Nat) (n m : Nat) (wh : Bool) (p : List (List Nat)) : List Nat × List Nat :=
  if n = m then (if wh then (a, a) else (p.getLastD z32, p.getLastD z32))
  else if _h : 2 ≤ m then
    (if n ≤ halfN m then ((bothS a n (halfN m) wh p.dropLast).1, nodeS (bothS a n (halfN m) wh p.dropLast).2 (p.getLastD z32))
     else (nodeS (p.getLastD z32) (bothS a (n - halfN m) (m - halfN m) false p.dropLast).1, nodeS (p.getLastD z32) (bothS a (n - halfN m) (m - halfN m) false p.dropLast).2))
  else (z32, z32)
termination_by m
decreasing_by
  all_goals first
    | (have := half_lt ‹2 ≤ m›; omega)
    | (have := half_pos m; omega)
theorem bothS_whole {a : List Nat} {n m : Nat} (p : List (List Nat)) (h : n = m) : bothS a n m true p = (a, a) := by rw [bothS]; simp [h]
theorem bothS_part {a : List Nat} {n m : Nat} (p : List (List Nat)) (d : List Nat) (h : n = m) : bothS a n m false (p ++ [d]) = (d, d) := by rw [bothS]; simp [h]
theorem bothS_lo {a : List Nat} {n m : Nat} (wh : Bool) (p : List (List Nat)) (d : List Nat) (h0 : n ≠ m) (h : 2 ≤ m) (hk : n ≤ halfN m) : bothS a n m wh (p ++ [d]) = ((bothS a n (halfN m) wh p).1, nodeS (bothS a n (halfN m) wh p).2 d) := by rw [bothS]; simp [h0, h, hk]
theorem bothS_hi {a : List Nat} {n m : Nat} (wh : Bool) (p : List (List Nat)) (d : List Nat) (h0 : n ≠ m) (h : 2 ≤ m) (hk : ¬ n ≤ halfN m) : bothS a n m wh (p ++ [d]) = (nodeS d (bothS a (n - halfN m) (m - halfN m) false p).1, nodeS d (bothS a (n - halfN m) (m - halfN m) false p).2) := by rw [bothS]; simp [h0, h, hk]
theorem bothS_free : ∀ (m n : Nat) (p : List (List Nat)) (a a' : List Nat), bothS a n m false p = bothS a' n m false p := by
  intro m
  induction m using Nat.strongRecOn with
  | _ m ih =>
  intro n p a a'
  rw [bothS.eq_def a n m, bothS.eq_def a' n m]
  by_cases h0 : n = m
  · simp [h0]
  · by_cases h : 2 ≤ m
    · have h1 := half_lt h
      have h2 := half_pos m
      by_cases hk : n ≤ halfN m
      · simp only [h0, h, hk, if_true, if_false, dif_pos]
        rw [ih (halfN m) h1 n p.dropLast a a']
      · simp only [h0, h, hk, if_false, dif_pos]
        rw [ih (m - halfN m) (by omega) (n - halfN m) p.dropLast a a']
    · simp [h0, h]
/-- A list's growth yields the digests of its beginning and of itself. -/
theorem both_grow : ∀ (m : Nat) (l : List (List Nat)) (n : Nat) (wh : Bool), l.length = m → 1 ≤ n → n ≤ m → bothS (treeS (l.take n)) n m wh (growS l n wh) = (treeS (l.take n), treeS l) := by
  intro m
  induction m using Nat.strongRecOn with
  | _ m ih =>
  intro l n wh hl hn1 hn
  by_cases h0 : n = m
  · have e : l.take n = l := List.take_of_length_le (by omega)
    cases wh
    · rw [growS_part (by rw [hl]; exact h0), show [treeS l] = [] ++ [treeS l] from rfl, bothS_part _ _ h0, e]
    · rw [bothS_whole _ h0, e]
  · have h : 2 ≤ m := by omega
    have h1 := half_lt h
    have h2 := half_pos m
    have h3 := half_ge h
    have ht := treeS_two (l := l) (by rw [hl]; exact h)
    rw [hl] at ht
    by_cases hk : n ≤ halfN m
    · have e : (l.take (halfN m)).take n = l.take n := by rw [List.take_take, Nat.min_eq_left hk]
      have := ih _ h1 (l.take (halfN m)) n wh (by rw [List.length_take, hl]; omega) hn1 hk
      rw [e] at this
      rw [growS_lo wh (by rw [hl]; exact h0) (by rw [hl]; exact h) (by rw [hl]; exact hk), hl, bothS_lo wh _ _ h0 h hk, this, ht]
    · have hp : 2 ^ (m - 1).log2 = halfN m := by unfold halfN; rfl
      have hh : halfN n = halfN m := by
        rw [← hp]
        exact (half_unique (n := n) (a := (m - 1).log2) (by omega) (by rw [hp]; omega) (by rw [hp]; omega)).symm
      have e1 : (l.take n).take (halfN m) = l.take (halfN m) := by rw [List.take_take, Nat.min_eq_left (by omega)]
      have e2 : (l.take n).drop (halfN m) = (l.drop (halfN m)).take (n - halfN m) := by rw [List.drop_take]
      have hln : (l.take n).length = n := by rw [List.length_take, hl]; omega
      have htn := treeS_two (l := l.take n) (by rw [hln]; omega)
      rw [hln, hh, e1, e2] at htn
      have := ih (m - halfN m) (by omega) (l.drop (halfN m)) (n - halfN m) false (by rw [List.length_drop, hl]) (by omega) (by omega)
      rw [growS_hi wh (by rw [hl]; exact h0) (by rw [hl]; exact h) (by rw [hl]; exact hk), hl, bothS_hi wh _ _ h0 h hk, bothS_free (m - halfN m) (n - halfN m) _ (treeS (l.take n)) (treeS ((l.drop (halfN m)).take (n - halfN m))), this, ht, htn]
theorem last_isD {p : List (List Nat)} (h : IsL p) : IsD (p.getLastD z32) := by
  rcases List.eq_nil_or_concat p with rfl | ⟨q, d, rfl⟩
  · exact z32_isD
  · rw [List.concat_eq_append, List.getLastD_concat]
    exact h d (by simp)
theorem IsL.init {p : List (List Nat)} (h : IsL p) : IsL p.dropLast := fun d hd => h d (List.dropLast_subset _ hd)
theorem bothS_isD : ∀ (m n : Nat) (wh : Bool) (a : List Nat) (p : List (List Nat)), IsD a → IsL p → IsD (bothS a n m wh p).1 ∧ IsD (bothS a n m wh p).2 := by
  intro m
  induction m using Nat.strongRecOn with
  | _ m ih =>
  intro n wh a p ha hp
  rw [bothS.eq_def]
  split
  · split
    · exact ⟨ha, ha⟩
    · exact ⟨last_isD hp, last_isD hp⟩
  · split
    · rename_i h
      have h1 := half_lt h
      have h2 := half_pos m
      split
      · exact ⟨(ih _ h1 n wh a _ ha hp.init).1, nodeS_isD _ _⟩
      · exact ⟨nodeS_isD _ _, nodeS_isD _ _⟩
    · exact ⟨z32_isD, z32_isD⟩
end Go.Proofs.Ytcijhakofoklcaa
