/- The circle's rounds: plain facts (fixtures). -/
import Derived.Test.YtpmkebejfnflfaaFCr0
namespace Go.Proofs.Ytpmkebejfnflfaa
namespace Fix
/-- The matches of the pairs whose clubs there are. -/
def keptN (n : Nat) (x : Nat × Nat) : Bool := decide (x.1 < n) && decide (x.2 < n)
def rawM (cl : List Int) (l : List (Nat × Nat)) : List Mt := (l.filter (keptN cl.length)).map (clubM cl)
theorem rawM_snoc (cl : List Int) (l : List (Nat × Nat)) (x : Nat × Nat) : rawM cl (l ++ [x]) = rawM cl l ++ (if keptN cl.length x then [clubM cl x] else []) := by
  unfold rawM
  rw [List.filter_append, List.map_append]
  cases h : keptN cl.length x <;> simp [List.filter, h]
theorem rawM_le (cl : List Int) (l : List (Nat × Nat)) : (rawM cl l).length ≤ l.length := by
  unfold rawM
  rw [List.length_map]
  exact List.length_filter_le _ _
theorem rawM_pairs (cl : List Int) (r : Nat) : rawM cl (pairsN (cl.length + cl.length % 2) r) = (idxR cl.length r).map (clubM cl) := rfl
theorem getD_lt {cl : List Int} (hv : validC cl = true) : ∀ (j i : Nat), i < j → j < cl.length → cl.getD i 0 < cl.getD j 0 := by
  intro j
  induction j with
  | zero => intro i h; omega
  | succ j ih =>
    intro i hi hj
    have hg := (validC_iff.1 hv).2.2 (j + 1) hj
    unfold goodAt at hg
    simp only [Bool.and_eq_true, Bool.or_eq_true, decide_eq_true_eq, Nat.add_sub_cancel] at hg
    have h1 : cl.getD j 0 < cl.getD (j + 1) 0 := by rcases hg.2 with h | h; (· omega); exact h
    rcases Nat.lt_or_ge i j with h | h
    · exact Int.lt_trans (ih i h (by omega)) h1
    · have : i = j := by omega
      rw [this]; exact h1
theorem getD_min {cl : List Int} (hv : validC cl = true) {i j : Nat} (hi : i < cl.length) (hj : j < cl.length) : min (cl.getD i 0) (cl.getD j 0) = cl.getD (min i j) 0 := by
  rcases Nat.lt_trichotomy i j with h | h | h
  · have := getD_lt hv j i h hj
    rw [Nat.min_eq_left (by omega)]; omega
  · subst h; simp
  · have := getD_lt hv i j h hi
    rw [Nat.min_eq_right (by omega)]; omega
theorem getD_inj {cl : List Int} (hv : validC cl = true) {i j : Nat} (hi : i < cl.length) (hj : j < cl.length) (e : cl.getD i 0 = cl.getD j 0) : i = j := by
  rcases Nat.lt_trichotomy i j with h | h | h
  · have := getD_lt hv j i h hj; omega
  · exact h
  · have := getD_lt hv i j h hi; omega
theorem low_nodup {cl : List Int} (hv : validC cl = true) : ∀ (l : List (Nat × Nat)), (flatI l).Nodup → (∀ x ∈ l, x.1 < cl.length ∧ x.2 < cl.length) → ((l.map (clubM cl)).map lowM).Nodup
  | [], _, _ => .nil
  | x :: l, h, hb => by
    have hf : flatI (x :: l) = x.1 :: x.2 :: flatI l := rfl
    rw [hf] at h
    obtain ⟨h1, h2⟩ := List.nodup_cons.1 h
    obtain ⟨h3, h4⟩ := List.nodup_cons.1 h2
    rw [List.map_cons, List.map_cons]
    refine List.nodup_cons.2 ⟨fun hm => ?_, low_nodup hv l h4 fun y hy => hb y (by simp [hy])⟩
    rw [List.map_map] at hm
    obtain ⟨y, hy, e⟩ := List.mem_map.1 hm
    have hx := hb x (by simp)
    have hy' := hb y (by simp [hy])
    simp only [Function.comp, lowM, clubM] at e
    rw [getD_min hv hy'.1 hy'.2, getD_min hv hx.1 hx.2] at e
    have e' := getD_inj hv (by omega) (by omega) e
    have m1 : y.1 ∈ flatI l := List.mem_flatMap.2 ⟨y, hy, by simp⟩
    have m2 : y.2 ∈ flatI l := List.mem_flatMap.2 ⟨y, hy, by simp⟩
    have n1 : x.1 ≠ y.1 := fun e => h1 (by rw [e]; simp [m1])
    have n2 : x.1 ≠ y.2 := fun e => h1 (by rw [e]; simp [m2])
    have n3 : x.2 ≠ y.1 := fun e => h3 (by rw [e]; exact m1)
    have n4 : x.2 ≠ y.2 := fun e => h3 (by rw [e]; exact m2)
    omega
/-- What the sort makes of a round is the round. -/
theorem round_of {cl : List Int} (hv : validC cl = true) {r : Nat} (hr : r < cl.length + cl.length % 2 - 1) {u : List Mt} (hp : u.Perm (rawM cl (pairsN (cl.length + cl.length % 2) r))) (hs : u.Pairwise (fun a b => lowM a ≤ lowM b)) : u = roundM cl r := by
  rw [rawM_pairs] at hp
  have hA := upto24_at factA_all (validC_iff.1 hv).1 (validC_iff.1 hv).2.1
  unfold factA at hA
  have hA' := List.all_eq_true.1 hA r (List.mem_range.2 hr)
  simp only [Bool.and_eq_true] at hA'
  refine sortM_of hp hs (low_nodup hv _ ((nodupB_iff _).1 hA'.1) fun x hx => ?_)
  unfold idxR at hx
  have := (List.mem_filter.1 hx).2
  simpa using this
theorem roundM_length (cl : List Int) (r : Nat) : (roundM cl r).length ≤ (cl.length + cl.length % 2) / 2 := by
  unfold roundM
  rw [(sortM_perm _).length_eq, ← rawM_pairs]
  exact Nat.le_trans (rawM_le _ _) (by rw [pairsN_length]; exact Nat.le_refl _)
theorem baseM_length (cl : List Int) : (baseM cl).length = cl.length + cl.length % 2 - 1 := by simp [baseM]
theorem baseM_get {cl : List Int} {r : Nat} (h : r < cl.length + cl.length % 2 - 1) : (baseM cl)[r]? = some (roundM cl r) := by simp [baseM, h]
end Fix
end Go.Proofs.Ytpmkebejfnflfaa
