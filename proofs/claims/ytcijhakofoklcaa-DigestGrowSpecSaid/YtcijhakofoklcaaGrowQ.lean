/- Growths as the program takes them: from the front, with what is left. Plain. -/
import Derived.Test.YtcijhakofoklcaaGrowP
namespace Go.Proofs.Ytcijhakofoklcaa
/-- One digest off the front; without one, the sign falls. -/
def takeS : List (List Nat) × Bool → List Nat × (List (List Nat) × Bool)
  | ([], _) => (z32, ([], false))
  | (d :: p, b) => (d, (p, b))
/-- The two digests and what is left of the growth. -/
def bothP (a : List Nat) (n m : Nat) (wh : Bool) (s : List (List Nat) × Bool) : (List Nat × List Nat) × (List (List Nat) × Bool) :=
  if n = m then (if wh then ((a, a), s) else (((takeS s).1, (takeS s).1), (takeS s).2))
  else if _h : 2 ≤ m then
    (if n ≤ halfN m then
      (((bothP a n (halfN m) wh s).1.1, nodeS (bothP a n (halfN m) wh s).1.2 (takeS (bothP a n (halfN m) wh s).2).1), (takeS (bothP a n (halfN m) wh s).2).2)
     else
      ((nodeS (takeS (bothP a (n - halfN m) (m - halfN m) false s).2).1 (bothP a (n - halfN m) (m - halfN m) false s).1.1, nodeS (takeS (bothP a (n - halfN m) (m - halfN m) false s).2).1 (bothP a (n - halfN m) (m - halfN m) false s).1.2), (takeS (bothP a (n - halfN m) (m - halfN m) false s).2).2))
  else ((z32, z32), s)
termination_by m
decreasing_by
  all_goals first
    | (have := half_lt ‹2 ≤ m›; omega)
    | (have := half_pos m; omega)
theorem bothP_whole {a : List Nat} {n m : Nat} (s : List (List Nat) × Bool) (h : n = m) : bothP a n m true s = ((a, a), s) := by rw [bothP]; simp [h]
theorem bothP_part {a : List Nat} {n m : Nat} (s : List (List Nat) × Bool) (h : n = m) : bothP a n m false s = (((takeS s).1, (takeS s).1), (takeS s).2) := by rw [bothP]; simp [h]
theorem bothP_lo {a : List Nat} {n m : Nat} (wh : Bool) (s : List (List Nat) × Bool) (h0 : n ≠ m) (h : 2 ≤ m) (hk : n ≤ halfN m) : bothP a n m wh s = (((bothP a n (halfN m) wh s).1.1, nodeS (bothP a n (halfN m) wh s).1.2 (takeS (bothP a n (halfN m) wh s).2).1), (takeS (bothP a n (halfN m) wh s).2).2) := by rw [bothP]; simp [h0, h, hk]
theorem bothP_hi {a : List Nat} {n m : Nat} (wh : Bool) (s : List (List Nat) × Bool) (h0 : n ≠ m) (h : 2 ≤ m) (hk : ¬ n ≤ halfN m) : bothP a n m wh s = ((nodeS (takeS (bothP a (n - halfN m) (m - halfN m) false s).2).1 (bothP a (n - halfN m) (m - halfN m) false s).1.1, nodeS (takeS (bothP a (n - halfN m) (m - halfN m) false s).2).1 (bothP a (n - halfN m) (m - halfN m) false s).1.2), (takeS (bothP a (n - halfN m) (m - halfN m) false s).2).2) := by rw [bothP]; simp [h0, h, hk]
theorem takeS_cons (d : List Nat) (p : List (List Nat)) (b : Bool) : takeS (d :: p, b) = (d, (p, b)) := rfl
theorem takeS_nil (b : Bool) : takeS ([], b) = (z32, ([], false)) := rfl
theorem takeS_isD {s : List (List Nat) × Bool} (h : IsL s.1) : IsD (takeS s).1 := by
  obtain ⟨p, b⟩ := s
  cases p with
  | nil => exact z32_isD
  | cons d p => exact h d (by simp)
theorem takeS_isL {s : List (List Nat) × Bool} (h : IsL s.1) : IsL (takeS s).2.1 := by
  obtain ⟨p, b⟩ := s
  cases p with
  | nil => exact IsL.nil_
  | cons d p => exact fun x hx => h x (by simp [takeS] at hx; simp [hx])
theorem takeS_len (s : List (List Nat) × Bool) : (takeS s).2.1.length = s.1.length - 1 := by
  obtain ⟨p, b⟩ := s
  cases p <;> simp [takeS]
/-- The state alone: so many digests are taken off. -/
theorem bothP_state : ∀ (m n : Nat) (wh : Bool) (a : List Nat) (p : List (List Nat)) (b : Bool), 1 ≤ n → n ≤ m →
    (bothP a n m wh (p, b)).2 = (p.drop (grownS n m wh), b && decide (grownS n m wh ≤ p.length)) := by
  intro m
  induction m using Nat.strongRecOn with
  | _ m ih =>
  intro n wh a p b hn1 hn
  have tk : ∀ q : List (List Nat), ∀ c : Bool, (takeS (q, c)).2 = (q.drop 1, c && decide (1 ≤ q.length)) := by
    intro q c; cases q <;> simp [takeS]
  have st : ∀ g : Nat, (takeS (p.drop g, b && decide (g ≤ p.length))).2 = (p.drop (g + 1), b && decide (g + 1 ≤ p.length)) := by
    intro g
    rw [tk, List.drop_drop]
    congr 1
    rw [Bool.and_assoc]; congr 1
    rw [List.length_drop, ← Bool.decide_and]
    exact decide_eq_decide.2 (by omega)
  by_cases h0 : n = m
  · cases wh
    · rw [bothP_part _ h0, grownS_part h0]; exact tk p b
    · rw [bothP_whole _ h0, grownS_whole h0]; simp
  · have h : 2 ≤ m := by omega
    have h1 := half_lt h
    have h2 := half_pos m
    by_cases hk : n ≤ halfN m
    · rw [bothP_lo wh _ h0 h hk, grownS_lo wh h0 h hk]
      show (takeS (bothP a n (halfN m) wh (p, b)).2).2 = _
      rw [ih _ h1 n wh a p b hn1 hk, st]
    · rw [bothP_hi wh _ h0 h hk, grownS_hi wh h0 h hk]
      show (takeS (bothP a (n - halfN m) (m - halfN m) false (p, b)).2).2 = _
      rw [ih (m - halfN m) (by omega) (n - halfN m) false a p b (by omega) (by omega), st]
/-- With digests enough, the two digests are those of the growth. -/
theorem bothP_digests : ∀ (m n : Nat) (wh : Bool) (a : List Nat) (p q : List (List Nat)) (b : Bool), 1 ≤ n → n ≤ m → p.length = grownS n m wh →
    (bothP a n m wh (p ++ q, b)).1 = bothS a n m wh p := by
  intro m
  induction m using Nat.strongRecOn with
  | _ m ih =>
  intro n wh a p q b hn1 hn hp
  by_cases h0 : n = m
  · cases wh
    · rw [grownS_part h0] at hp
      match p, hp with
      | [d], _ => rw [bothP_part _ h0, show [d] = [] ++ [d] from rfl, bothS_part _ _ h0]; rfl
    · rw [bothP_whole _ h0, bothS_whole _ h0]
  · have h : 2 ≤ m := by omega
    have h1 := half_lt h
    have h2 := half_pos m
    by_cases hk : n ≤ halfN m
    · rw [grownS_lo wh h0 h hk] at hp
      obtain ⟨p', d, rfl⟩ := snoc_of p (by omega)
      have hp' : p'.length = grownS n (halfN m) wh := by simp at hp; omega
      rw [bothP_lo wh _ h0 h hk, bothS_lo wh _ _ h0 h hk, List.append_assoc, ih _ h1 n wh a p' _ b hn1 hk hp', bothP_state _ _ _ _ _ _ hn1 hk, ← hp', List.drop_left, List.singleton_append, takeS_cons]
    · rw [grownS_hi wh h0 h hk] at hp
      obtain ⟨p', d, rfl⟩ := snoc_of p (by omega)
      have hp' : p'.length = grownS (n - halfN m) (m - halfN m) false := by simp at hp; omega
      rw [bothP_hi wh _ h0 h hk, bothS_hi wh _ _ h0 h hk, List.append_assoc, ih (m - halfN m) (by omega) (n - halfN m) false a p' _ b (by omega) (by omega) hp', bothP_state _ _ _ _ _ _ (by omega) (by omega), ← hp', List.drop_left, List.singleton_append, takeS_cons]
theorem bothP_isD : ∀ (m n : Nat) (wh : Bool) (a : List Nat) (s : List (List Nat) × Bool), IsD a → IsL s.1 → IsD (bothP a n m wh s).1.1 ∧ IsD (bothP a n m wh s).1.2 ∧ IsL (bothP a n m wh s).2.1 := by
  intro m
  induction m using Nat.strongRecOn with
  | _ m ih =>
  intro n wh a s ha hs
  by_cases h0 : n = m
  · cases wh
    · rw [bothP_part _ h0]; exact ⟨takeS_isD hs, takeS_isD hs, takeS_isL hs⟩
    · rw [bothP_whole _ h0]; exact ⟨ha, ha, hs⟩
  · by_cases h : 2 ≤ m
    · have h1 := half_lt h
      have h2 := half_pos m
      by_cases hk : n ≤ halfN m
      · rw [bothP_lo wh _ h0 h hk]
        obtain ⟨i1, i2, i3⟩ := ih _ h1 n wh a s ha hs
        exact ⟨i1, nodeS_isD _ _, takeS_isL i3⟩
      · rw [bothP_hi wh _ h0 h hk]
        obtain ⟨i1, i2, i3⟩ := ih (m - halfN m) (by omega) (n - halfN m) false a s ha hs
        exact ⟨nodeS_isD _ _, nodeS_isD _ _, takeS_isL i3⟩
    · rw [bothP]; simp only [h0, h, if_false, dif_neg, not_false_eq_true]; exact ⟨z32_isD, z32_isD, hs⟩
/-- What Grew answers. -/
def grewP (a b : List Nat) (n m : Nat) (p : List (List Nat)) : Bool :=
  (bothP a n m true (p, true)).2.2 && decide ((bothP a n m true (p, true)).2.1.length = 0) && decide ((bothP a n m true (p, true)).1.1 = a) && decide ((bothP a n m true (p, true)).1.2 = b)
/-- The same from the other end. -/
def grewS (a b : List Nat) (n m : Nat) (p : List (List Nat)) : Bool :=
  decide (p.length = grownS n m true) && decide ((bothS a n m true p).1 = a) && decide ((bothS a n m true p).2 = b)
theorem grewP_eq (a b : List Nat) {n m : Nat} (p : List (List Nat)) (hn1 : 1 ≤ n) (hn : n ≤ m) : grewP a b n m p = grewS a b n m p := by
  unfold grewP grewS
  rw [bothP_state m n true a p true hn1 hn]
  by_cases h : p.length = grownS n m true
  · have := bothP_digests m n true a p [] true hn1 hn h
    rw [List.append_nil] at this
    rw [this]
    simp [h]
  · simp only [h, decide_false, Bool.false_and, Bool.true_and]
    have : (decide (grownS n m true ≤ p.length) && decide ((p.drop (grownS n m true)).length = 0)) = false := by
      rw [List.length_drop, ← Bool.decide_and]
      exact decide_eq_false (by omega)
    rw [this]; simp
/-- The growth of a list is accepted. -/
theorem grewS_grow {l : List (List Nat)} {n : Nat} (hn1 : 1 ≤ n) (hn : n ≤ l.length) : grewS (treeS (l.take n)) (treeS l) n l.length (growS l n true) = true := by
  unfold grewS
  rw [both_grow l.length l n true rfl hn1 hn, growS_length l.length l n true rfl hn1 hn]
  simp
/-- A growth of another length is not. -/
theorem grewS_more {l : List (List Nat)} {n : Nat} (hn1 : 1 ≤ n) (hn : n ≤ l.length) (a b d : List Nat) : grewS a b n l.length (growS l n true ++ [d]) = false := by
  unfold grewS
  rw [List.length_append, growS_length l.length l n true rfl hn1 hn]
  simp
end Go.Proofs.Ytcijhakofoklcaa
