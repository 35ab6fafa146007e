/- Plain facts of lists of rounds (fixtures): what Check asks, exchanging home and away. -/
import Derived.Test.YtpmkebejfnflfaaFFul
namespace Go.Proofs.Ytpmkebejfnflfaa
namespace Fix
theorem busyM_append (l m : List Mt) : busyM (l ++ m) = busyM l ++ busyM m := by simp [busyM]
theorem busyM_mem {l : List Mt} {c : Int} : c ∈ busyM l ↔ ∃ x ∈ l, c = x.1 ∨ c = x.2 := by simp [busyM]
theorem busyM_cons (x : Mt) (l : List Mt) : busyM (x :: l) = x.1 :: x.2 :: busyM l := rfl
theorem nodup_snoc2 {α : Type} {l : List α} {a b : α} : (l ++ [a] ++ [b]).Nodup ↔ l.Nodup ∧ a ∉ l ∧ b ∉ l ∧ a ≠ b := by
  simp only [List.nodup_append, List.mem_append, List.mem_singleton]
  constructor
  · rintro ⟨⟨h1, -, h2⟩, -, h3⟩
    exact ⟨h1, fun h => h2 _ h _ rfl rfl, fun h => h3 _ (.inl h) _ rfl rfl, fun h => h3 _ (.inr rfl) _ rfl h⟩
  · rintro ⟨h1, h2, h3, h4⟩
    refine ⟨⟨h1, by simp, fun a' ha b' hb e => ?_⟩, by simp, fun a' ha b' hb e => ?_⟩
    · subst hb; subst e; exact h2 ha
    · subst hb; subst e
      rcases ha with ha | ha
      · exact h3 ha
      · exact h4 ha.symm
theorem okM_iff {cl : List Int} {S : List Mt} {busy : List Int} {x : Mt} : okM cl S busy x = true ↔ x.1 ≠ x.2 ∧ x ∉ S ∧ (x.1 ∈ cl ∧ x.2 ∈ cl) ∧ x.1 ∉ busy ∧ x.2 ∉ busy := by
  unfold okM
  simp only [Bool.and_eq_true, Bool.not_eq_true', decide_eq_true_eq, decide_eq_false_iff_not, and_assoc, ne_eq]
theorem okR_take {cl : List Int} {S l : List Mt} : ∀ j, j ≤ l.length → ((∀ i x, i < j → l[i]? = some x → okM cl (S ++ l.take i) (busyM (l.take i)) x = true) ↔
    ((busyM (l.take j)).Nodup ∧ (∀ x ∈ l.take j, x ∉ S) ∧ ∀ x ∈ l.take j, x.1 ∈ cl ∧ x.2 ∈ cl))
  | 0, _ => by simp [busyM]
  | j + 1, hj => by
    obtain ⟨x, hx⟩ := getElem?_lt (l := l) (k := j) (by omega)
    have ih := okR_take (cl := cl) (S := S) (l := l) j (by omega)
    have hs : (∀ i y, i < j + 1 → l[i]? = some y → okM cl (S ++ l.take i) (busyM (l.take i)) y = true) ↔ (∀ i y, i < j → l[i]? = some y → okM cl (S ++ l.take i) (busyM (l.take i)) y = true) ∧ okM cl (S ++ l.take j) (busyM (l.take j)) x = true := by
      constructor
      · exact fun h => ⟨fun i y hi hy => h i y (by omega) hy, h j x (by omega) hx⟩
      · rintro ⟨h1, h2⟩ i y hi hy
        rcases Nat.lt_or_ge i j with h | h
        · exact h1 i y h hy
        · obtain rfl : i = j := by omega
          rw [hx] at hy; cases hy; exact h2
    rw [hs, ih, take_snoc hx, okM_iff, busyM_snoc, nodup_snoc2]
    simp only [List.mem_append, List.mem_singleton]
    constructor
    · rintro ⟨⟨h1, h2, h3⟩, g1, g2, g3, g4, g5⟩
      refine ⟨⟨h1, g4, g5, g1⟩, fun y hy => ?_, fun y hy => ?_⟩
      · rcases hy with hy | rfl
        · exact h2 y hy
        · exact fun h => g2 (.inl h)
      · rcases hy with hy | rfl
        · exact h3 y hy
        · exact g3
    · rintro ⟨⟨h1, g4, g5, g1⟩, h2, h3⟩
      refine ⟨⟨h1, fun y hy => h2 y (.inl hy), fun y hy => h3 y (.inl hy)⟩, g1, fun h => ?_, h3 x (.inr rfl), g4, g5⟩
      rcases h with h | h
      · exact h2 x (.inr rfl) h
      · exact g4 (busyM_mem.2 ⟨x, h, .inl rfl⟩)
theorem okR_iff {cl : List Int} {S l : List Mt} : okR cl S l = true ↔ (busyM l).Nodup ∧ (∀ x ∈ l, x ∉ S) ∧ ∀ x ∈ l, x.1 ∈ cl ∧ x.2 ∈ cl := by
  have h := okR_take (cl := cl) (S := S) (l := l) l.length (Nat.le_refl _)
  rw [List.take_length] at h
  rw [← h]
  constructor
  · intro h1 i x _ hx
    unfold okR at h1
    have := List.all_eq_true.1 h1 i (List.mem_range.2 (List.getElem?_eq_some_iff.1 hx).1)
    rwa [List.getD_eq_getElem?_getD, hx, Option.getD_some] at this
  · exact fun h1 => okR_good fun j x hx => h1 j x (List.getElem?_eq_some_iff.1 hx).1 hx
theorem nodup_of_busy : ∀ {l : List Mt}, (busyM l).Nodup → l.Nodup
  | [], _ => .nil
  | x :: l, h => by
    rw [busyM_cons] at h
    obtain ⟨h1, h2⟩ := List.nodup_cons.1 h
    obtain ⟨h3, h4⟩ := List.nodup_cons.1 h2
    exact List.nodup_cons.2 ⟨fun hm => h3 (busyM_mem.2 ⟨x, hm, .inr rfl⟩), nodup_of_busy h4⟩
theorem okL_take {cl : List Int} {ls : List (List Mt)} : ∀ k, k ≤ ls.length → ((∀ i l, i < k → ls[i]? = some l → okR cl (ls.take i).flatten l = true) ↔
    ((∀ l ∈ ls.take k, (busyM l).Nodup) ∧ (ls.take k).flatten.Nodup ∧ ∀ l ∈ ls.take k, ∀ x ∈ l, x.1 ∈ cl ∧ x.2 ∈ cl))
  | 0, _ => by simp
  | k + 1, hk => by
    obtain ⟨l, hx⟩ := getElem?_lt (l := ls) (k := k) (by omega)
    have ih := okL_take (cl := cl) (ls := ls) k (by omega)
    have hs : (∀ i y, i < k + 1 → ls[i]? = some y → okR cl (ls.take i).flatten y = true) ↔ (∀ i y, i < k → ls[i]? = some y → okR cl (ls.take i).flatten y = true) ∧ okR cl (ls.take k).flatten l = true := by
      constructor
      · exact fun h => ⟨fun i y hi hy => h i y (by omega) hy, h k l (by omega) hx⟩
      · rintro ⟨h1, h2⟩ i y hi hy
        rcases Nat.lt_or_ge i k with h | h
        · exact h1 i y h hy
        · obtain rfl : i = k := by omega
          rw [hx] at hy; cases hy; exact h2
    rw [hs, ih, take_snoc hx, okR_iff, List.flatten_append, List.nodup_append]
    simp only [List.mem_append, List.mem_singleton, List.flatten_cons, List.flatten_nil, List.append_nil]
    constructor
    · rintro ⟨⟨h1, h2, h3⟩, g1, g2, g3⟩
      refine ⟨fun y hy => ?_, ⟨h2, nodup_of_busy g1, fun a ha b hb e => ?_⟩, fun y hy => ?_⟩
      · rcases hy with hy | rfl
        · exact h1 y hy
        · exact g1
      · subst e; exact g2 a hb ha
      · rcases hy with hy | rfl
        · exact h3 y hy
        · exact g3
    · rintro ⟨h1, ⟨h2, -, h4⟩, h3⟩
      exact ⟨⟨fun y hy => h1 y (.inl hy), h2, fun y hy => h3 y (.inl hy)⟩, h1 l (.inr rfl), fun x hx' hm => h4 x hm x hx' rfl, h3 l (.inr rfl)⟩
/-- What Check asks of the rounds. -/
theorem okL_iff {cl : List Int} {ls : List (List Mt)} : okL cl ls = true ↔ (∀ l ∈ ls, (busyM l).Nodup) ∧ ls.flatten.Nodup ∧ ∀ l ∈ ls, ∀ x ∈ l, x.1 ∈ cl ∧ x.2 ∈ cl := by
  have h := okL_take (cl := cl) (ls := ls) ls.length (Nat.le_refl _)
  rw [List.take_length] at h
  rw [← h]
  constructor
  · intro h1 i x _ hx
    unfold okL at h1
    have := List.all_eq_true.1 h1 i (List.mem_range.2 (List.getElem?_eq_some_iff.1 hx).1)
    rwa [List.getD_eq_getElem?_getD, hx, Option.getD_some] at this
  · exact fun h1 => okL_good fun j x hx => h1 j x (List.getElem?_eq_some_iff.1 hx).1 hx
theorem checkE_cases (cl : List Int) (ls : List (List Mt)) : checkE cl ls = 0 ∨ checkE cl ls = 1 ∨ checkE cl ls = 2 ∨ checkE cl ls = 300 := by
  unfold checkE
  split
  · split
    · split <;> simp
    · simp
  · simp
theorem checkE_zero {cl : List Int} {ls : List (List Mt)} : checkE cl ls = 0 ↔ validC cl = true ∧ ls.length ≤ 46 ∧ okL cl ls = true := by
  unfold checkE
  split
  · rename_i h
    split
    · rename_i h2
      split
      · rename_i h3; simp [h, h2, h3]
      · rename_i h3; simp [h3]
    · rename_i h2; simp [h2]
  · rename_i h; simp [h]
/-! Exchanging home and away. -/
def swapL (ls : List (List Mt)) : List (List Mt) := ls.map (List.map swapM)
theorem swap_swap (x : Mt) : swapM (swapM x) = x := rfl
theorem swap_mem {l : List Mt} {x : Mt} : x ∈ l.map swapM ↔ swapM x ∈ l := by
  constructor
  · intro h
    obtain ⟨y, hy, rfl⟩ := List.mem_map.1 h
    exact hy
  · intro h
    exact List.mem_map.2 ⟨swapM x, h, rfl⟩
theorem swapL_flatten (ls : List (List Mt)) : (swapL ls).flatten = ls.flatten.map swapM := by simp [swapL, List.map_flatten]
theorem swapL_swapL (ls : List (List Mt)) : swapL (swapL ls) = ls := by
  unfold swapL
  rw [List.map_map]
  have : (List.map swapM ∘ List.map swapM) = id := by funext l; simp [List.map_map, Function.comp_def, swap_swap]
  rw [this, List.map_id]
theorem busy_swap : ∀ (l : List Mt), (busyM (l.map swapM)).Perm (busyM l)
  | [] => .refl _
  | x :: l => by
    rw [List.map_cons, busyM_cons, busyM_cons]
    exact (List.Perm.swap _ _ _).trans (((busy_swap l).cons _).cons _)
theorem nodup_map_swap {l : List Mt} (h : l.Nodup) : (l.map swapM).Nodup := h.map (f := swapM) fun a b e h => e (by have := congrArg swapM h; simpa [swap_swap] using this)
theorem okL_swap {cl : List Int} {ls : List (List Mt)} (h : okL cl ls = true) : okL cl (swapL ls) = true := by
  obtain ⟨h1, h2, h3⟩ := okL_iff.1 h
  refine okL_iff.2 ⟨fun l hl => ?_, by rw [swapL_flatten]; exact nodup_map_swap h2, fun l hl x hx => ?_⟩
  · obtain ⟨m, hm, rfl⟩ := List.mem_map.1 hl
    exact (busy_swap m).nodup_iff.2 (h1 m hm)
  · obtain ⟨m, hm, rfl⟩ := List.mem_map.1 hl
    have := h3 m hm _ (swap_mem.1 hx)
    exact ⟨this.2, this.1⟩
theorem okL_swap_eq (cl : List Int) (ls : List (List Mt)) : okL cl (swapL ls) = okL cl ls := by
  cases h : okL cl ls with
  | true => exact okL_swap h
  | false =>
    cases h2 : okL cl (swapL ls) with
    | false => rfl
    | true => have := okL_swap h2; rw [swapL_swapL, h] at this; cases this
theorem checkE_swap (cl : List Int) (ls : List (List Mt)) : checkE cl (swapL ls) = checkE cl ls := by
  unfold checkE
  rw [okL_swap_eq, show (swapL ls).length = ls.length by simp [swapL]]
theorem okPair_comm (S : List Mt) (d : Bool) (a b : Int) : okPair S d b a = okPair S d a b := by
  unfold okPair
  cases d
  · simp only [Bool.false_eq_true, if_false]
    generalize decide ((a, b) ∈ S) = p
    generalize decide ((b, a) ∈ S) = q
    cases p <;> cases q <;> rfl
  · simp only [if_true]
    exact Bool.and_comm _ _
theorem okPair_swap (S : List Mt) (d : Bool) (a b : Int) : okPair (S.map swapM) d a b = okPair S d a b := by
  rw [← okPair_comm S]
  unfold okPair
  have e : ∀ a b : Int, decide ((a, b) ∈ S.map swapM) = decide ((b, a) ∈ S) := fun a b => decide_eq_decide.2 swap_mem
  rw [e, e]
theorem fullR_swap (cl : List Int) (ls : List (List Mt)) (d : Bool) : fullR cl (swapL ls) d = fullR cl ls d := by
  unfold fullR fullB
  rw [checkE_swap, swapL_flatten]
  simp only [okPair_swap]
theorem find_swap (c : Int) : ∀ (l : List Mt), (l.map swapM).find? (inM c) = (l.find? (inM c)).map swapM
  | [] => rfl
  | x :: l => by
    have e : inM c (swapM x) = inM c x := by unfold inM swapM; exact Bool.or_comm _ _
    rw [List.map_cons, List.find?_cons, List.find?_cons, e]
    cases inM c x
    · exact find_swap c l
    · rfl
theorem patM_swap {c : Int} {l : List Mt} (h : ∀ x ∈ l, x.1 ≠ x.2) : patM c (l.map swapM) = - patM c l := by
  unfold patM
  rw [find_swap]
  cases hf : l.find? (inM c) with
  | none => rfl
  | some x =>
    have hx := h x (List.mem_of_find?_eq_some hf)
    have hi := List.find?_some hf
    unfold inM at hi
    simp only [Bool.or_eq_true, decide_eq_true_eq] at hi
    show (if x.2 = c then (1 : Int) else -1) = - (if x.1 = c then (1 : Int) else -1)
    rcases hi with hi | hi
    · rw [if_pos hi, if_neg (by omega)]
    · rw [if_pos hi, if_neg (fun e => hx (e.trans hi.symm))]; rfl
theorem patM_values (c : Int) (l : List Mt) : patM c l = 0 ∨ patM c l = 1 ∨ patM c l = -1 := by
  unfold patM
  cases l.find? (inM c) with
  | none => exact .inl rfl
  | some x =>
    right
    show (if x.1 = c then (1 : Int) else -1) = 1 ∨ (if x.1 = c then (1 : Int) else -1) = -1
    split <;> simp
theorem plays_neg (p : List Int) : playsP (p.map fun x => -x) = (playsP p).map fun x => -x := by
  unfold playsP
  rw [List.filter_map]
  congr 1
  refine List.filter_congr fun x _ => ?_
  simp only [Function.comp]
  congr 1
  exact decide_eq_decide.2 (by omega)
theorem getD_neg (p : List Int) (k : Nat) : (p.map fun x => -x).getD k 0 = - p.getD k 0 := by
  rw [List.getD_eq_getElem?_getD, List.getElem?_map, List.getD_eq_getElem?_getD]
  cases p[k]? <;> rfl
theorem brkTo_neg (p : List Int) : ∀ k, brkTo (p.map fun x => -x) k = brkTo p k
  | 0 => rfl
  | k + 1 => by
    rw [brkTo, brkTo, brkTo_neg p k, getD_neg, getD_neg]
    by_cases h : 1 ≤ k ∧ p.getD k 0 = p.getD (k - 1) 0
    · rw [if_pos h, if_pos ⟨h.1, by rw [h.2]⟩]
    · rw [if_neg h, if_neg fun h2 => h ⟨h2.1, by have := h2.2; omega⟩]
theorem breaks_neg (p : List Int) : breaksP (p.map fun x => -x) = breaksP p := by
  unfold breaksP
  rw [plays_neg, List.length_map, brkTo_neg]
end Fix
end Go.Proofs.Ytpmkebejfnflfaa
