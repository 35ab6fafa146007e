import Derived.Test.YtbccdjaeopfalaaP2
namespace Go.Proofs.Ytbccdjaeopfalaa
open Go.RowKit

theorem split_at {l : List Int} {d : Nat} {x : Int} (h : l[d]? = some x) : l = l.take d ++ x :: l.drop (d + 1) := by
  rw [← drop_cons h, List.take_append_drop]
theorem perm_eraseIdx {l : List Int} {d : Nat} {x : Int} (h : l[d]? = some x) : (x :: l.eraseIdx d).Perm l := by
  rw [← eraseIdx_eq]
  have e := split_at h
  generalize l.take d = u at *
  generalize l.drop (d + 1) = v at *
  subst e
  exact List.perm_middle.symm
theorem unr_perm : ∀ (m : Nat) (l : List Int) (k : Nat), l.length = m → k < fact m → (unr m l k).Perm l
  | 0, l, _, hl, _ => by
    have : l = [] := List.eq_nil_of_length_eq_zero hl
    subst this; exact List.Perm.refl _
  | m + 1, l, k, hl, hk => by
    have hd := div_lt_fact hk
    obtain ⟨y, hy⟩ : ∃ y, l[k / fact m]? = some y := ⟨_, List.getElem?_eq_getElem (by omega)⟩
    rw [unr_cons hy]
    have := unr_perm m (l.eraseIdx (k / fact m)) (k % fact m) (by rw [List.length_eraseIdx_of_lt (by omega)]; omega) (Nat.mod_lt _ (fact_pos m))
    exact (this.cons y).trans (perm_eraseIdx hy)
theorem lessN_perm {x : Int} {r s : List Int} (h : r.Perm s) : lessN x r = lessN x s := (h.filter _).length_eq
theorem lessN_append (x : Int) (r s : List Int) : lessN x (r ++ s) = lessN x r + lessN x s := by simp [lessN, List.filter_append]
theorem lessN_all {x : Int} {r : List Int} (h : ∀ y ∈ r, y < x) : lessN x r = r.length := by
  unfold lessN
  rw [List.filter_eq_self.2 (fun y hy => by simpa using h y hy)]
theorem lessN_none {x : Int} {r : List Int} (h : ∀ y ∈ r, x ≤ y) : lessN x r = 0 := by
  unfold lessN
  rw [List.filter_eq_nil_iff.2 (fun y hy => by have := h y hy; simp; omega)]
  rfl
/-- Strictly increasing. -/
def Inc (l : List Int) : Prop := l.Pairwise (· < ·)
theorem Inc.less {l : List Int} (h : Inc l) {d : Nat} {x : Int} (hx : l[d]? = some x) : lessN x (l.eraseIdx d) = d := by
  have hd : d < l.length := (List.getElem?_eq_some_iff.1 hx).1
  have h' := h
  rw [split_at hx] at h'
  unfold Inc at h'
  rw [List.pairwise_append] at h'
  obtain ⟨h1, h2, h3⟩ := h'
  rw [List.pairwise_cons] at h2
  rw [← eraseIdx_eq, lessN_append, lessN_all (fun y hy => h3 y hy x (by simp)), lessN_none (fun y hy => Int.le_of_lt (h2.1 y hy)), List.length_take]
  omega
theorem Inc.erase {l : List Int} (h : Inc l) (d : Nat) : Inc (l.eraseIdx d) := h.sublist (List.eraseIdx_sublist _ _)
theorem iota_inc (n : Nat) : Inc (iota n) := by
  unfold Inc iota
  rw [List.pairwise_map]
  refine (List.pairwise_lt_range (n := n)).imp fun h => by omega
theorem rk_unr : ∀ (m : Nat) (l : List Int) (k : Nat), l.length = m → Inc l → k < fact m → rk (unr m l k) = k
  | 0, _, k, _, _, hk => by
    have : k = 0 := by simp [fact] at hk; omega
    subst this; rfl
  | m + 1, l, k, hl, hi, hk => by
    have hd := div_lt_fact hk
    obtain ⟨y, hy⟩ : ∃ y, l[k / fact m]? = some y := ⟨_, List.getElem?_eq_getElem (by omega)⟩
    have hel : (l.eraseIdx (k / fact m)).length = m := by rw [List.length_eraseIdx_of_lt (by omega)]; omega
    have hp := unr_perm m (l.eraseIdx (k / fact m)) (k % fact m) hel (Nat.mod_lt _ (fact_pos m))
    have hr := rk_unr m (l.eraseIdx (k / fact m)) (k % fact m) hel (hi.erase _) (Nat.mod_lt _ (fact_pos m))
    rw [unr_cons hy]
    show lessN y _ * fact (unr m _ _).length + rk _ = k
    rw [lessN_perm hp, hi.less hy, unr_length, hr]
    have := Nat.div_add_mod k (fact m)
    rw [Nat.mul_comm] at this
    exact this
theorem unr_rk : ∀ (p : List Int) (m : Nat) (l : List Int), l.length = m → Inc l → p.Perm l → unr m l (rk p) = p
  | [], m, l, hl, _, hp => by
    have : l = [] := hp.nil_eq.symm
    subst this
    subst hl
    rfl
  | x :: r, m, l, hl, hi, hp => by
    have hx : x ∈ l := hp.subset (by simp)
    obtain ⟨d, hd⟩ := List.mem_iff_getElem?.1 hx
    have hlr : r.length + 1 = m := by rw [← hl, ← hp.length_eq]; rfl
    subst hlr
    have hr : r.Perm (l.eraseIdx d) := (hp.trans (perm_eraseIdx hd).symm).cons_inv
    have hlt := rk_lt r
    have hdl : d < l.length := (List.getElem?_eq_some_iff.1 hd).1
    have e1 : rk (x :: r) = d * fact r.length + rk r := by
      show lessN x r * fact r.length + rk r = _
      rw [lessN_perm hr, hi.less hd]
    have e2 : rk (x :: r) / fact r.length = d := by
      rw [e1, Nat.mul_comm, Nat.mul_add_div (fact_pos _), Nat.div_eq_of_lt hlt, Nat.add_zero]
    have e3 : rk (x :: r) % fact r.length = rk r := by
      rw [e1, Nat.mul_comm, Nat.mul_add_mod, Nat.mod_eq_of_lt hlt]
    rw [unr_cons (x := x) (by rw [e2]; exact hd), e2, e3, unr_rk r r.length (l.eraseIdx d) (by rw [List.length_eraseIdx_of_lt hdl]; omega) (hi.erase d) hr]

theorem perm_of_nodup : ∀ (p l : List Int), p.Nodup → (∀ x ∈ p, x ∈ l) → p.length = l.length → p.Perm l
  | [], l, _, _, hl => by
    have : l = [] := List.eq_nil_of_length_eq_zero hl.symm
    subst this; exact List.Perm.refl _
  | x :: r, l, hn, hs, hl => by
    rw [List.nodup_cons] at hn
    have hx : x ∈ l := hs x (by simp)
    have h1 : l.Perm (x :: l.erase x) := List.perm_cons_erase hx
    have h2 := perm_of_nodup r (l.erase x) hn.2 (fun y hy => by
      have hne : y ≠ x := fun e => hn.1 (e ▸ hy)
      exact (List.mem_erase_of_ne hne).2 (hs y (by simp [hy]))) (by rw [List.length_erase_of_mem hx, ← hl]; simp)
    exact (h2.cons x).trans h1.symm
theorem mem_iota {n : Nat} {x : Int} (h0 : 0 ≤ x) (h1 : x < n) : x ∈ iota n := by
  obtain ⟨i, rfl⟩ := Int.eq_ofNat_of_zero_le h0
  simp only [iota, List.mem_map, List.mem_range]
  exact ⟨i, by omega, rfl⟩
theorem isPerm_iff {p : List Int} {n : Nat} (hp : p.length = n) : isPerm p = true ↔ p.Perm (iota n) ∧ n ≤ 18 := by
  have hb : isPerm p = (permB p && decide (n ≤ 18)) := by subst hp; rfl
  rw [hb, Bool.and_eq_true, permB_true hp, decide_eq_true_eq]
  refine ⟨fun ⟨h, hn⟩ => ⟨?_, hn⟩, fun ⟨h, hn⟩ => ⟨⟨?_, ?_⟩, hn⟩⟩
  · exact perm_of_nodup p (iota n) h.1 (fun x hx => mem_iota (h.2 x hx).1 (h.2 x hx).2) (by simpa using hp)
  · refine h.nodup_iff.2 ?_
    exact (iota_inc n).imp fun hlt => by omega
  · intro x hx
    exact iota_mem (h.subset hx)
theorem unrank_isPerm {n k : Nat} (hn : n ≤ 18) (hk : k < fact n) : isPerm (unrank n k) = true :=
  (isPerm_iff (unrank_length n k)).2 ⟨unr_perm n (iota n) k (iota_length n) hk, hn⟩
theorem rank_unrank {n k : Nat} (hn : n ≤ 18) (hk : k < fact n) : rankN (unrank n k) = k := by
  unfold rankN
  rw [if_pos (unrank_isPerm hn hk)]
  exact rk_unr n (iota n) k (iota_length n) (iota_inc n) hk
theorem unrank_rank {p : List Int} {n : Nat} (hp : p.length = n) (h : isPerm p = true) : rankN p < fact n ∧ unrank n (rankN p) = p := by
  have h1 := ((isPerm_iff hp).1 h).1
  unfold rankN
  rw [if_pos h]
  refine ⟨?_, unr_rk p n (iota n) (iota_length n) (iota_inc n) h1⟩
  have := rk_lt p
  rwa [hp] at this

theorem lessN_mono {x y : Int} (h : x ≤ y) : ∀ r : List Int, lessN x r ≤ lessN y r
  | [] => Nat.le_refl _
  | z :: r => by
    have ih := lessN_mono h r
    unfold lessN at *
    simp only [List.filter_cons]
    by_cases h1 : z < x
    · have h2 : z < y := by omega
      simp [h1, h2]; omega
    · by_cases h2 : z < y
      · simp [h1, h2]; omega
      · simp [h1, h2]; omega
/-- The lexicographic order is that of the numbers. -/
theorem rk_lex : ∀ (pre r s : List Int) (x y : Int), (pre ++ x :: r).Perm (pre ++ y :: s) → x < y → rk (pre ++ x :: r) < rk (pre ++ y :: s)
  | [], r, s, x, y, hp, hxy => by
    have hl : r.length = s.length := by have := hp.length_eq; simpa using this
    have h1 : lessN x r + 1 ≤ lessN y s := by
      have e1 : lessN x (x :: r) = lessN x r := by simp [lessN]
      have e2 : lessN y (y :: s) = lessN y s := by simp [lessN]
      have e3 : lessN y (x :: r) = lessN y (y :: s) := lessN_perm hp
      have e4 : lessN y (x :: r) = lessN y r + 1 := by simp [lessN, hxy]
      have e5 : lessN x r ≤ lessN y r := lessN_mono (Int.le_of_lt hxy) r
      omega
    have h2 := rk_lt r
    show lessN x r * fact r.length + rk r < lessN y s * fact s.length + rk s
    rw [← hl]
    have h3 : (lessN x r + 1) * fact r.length ≤ lessN y s * fact r.length := Nat.mul_le_mul_right _ h1
    rw [Nat.add_mul, Nat.one_mul] at h3
    omega
  | z :: pre, r, s, x, y, hp, hxy => by
    have hp' : (pre ++ x :: r).Perm (pre ++ y :: s) := hp.cons_inv
    have ih := rk_lex pre r s x y hp' hxy
    show lessN z (pre ++ x :: r) * fact (pre ++ x :: r).length + rk (pre ++ x :: r) < lessN z (pre ++ y :: s) * fact (pre ++ y :: s).length + rk (pre ++ y :: s)
    rw [lessN_perm hp', hp'.length_eq]
    omega
theorem unrank_lex {n j k i : Nat} {x y : Int} (hj : j < fact n) (hk : k < fact n) (hpre : (unrank n j).take i = (unrank n k).take i) (hx : (unrank n j)[i]? = some x) (hy : (unrank n k)[i]? = some y) (hxy : x < y) : j < k := by
  have h1 := rk_unr n (iota n) j (iota_length n) (iota_inc n) hj
  have h2 := rk_unr n (iota n) k (iota_length n) (iota_inc n) hk
  have p1 := unr_perm n (iota n) j (iota_length n) hj
  have p2 := unr_perm n (iota n) k (iota_length n) hk
  have e1 := split_at hx
  have e2 := split_at hy
  have hp : (unrank n j).Perm (unrank n k) := p1.trans p2.symm
  have e1' : unrank n j = (unrank n k).take i ++ x :: (unrank n j).drop (i + 1) := by rw [← hpre]; exact e1
  have := rk_lex ((unrank n k).take i) ((unrank n j).drop (i + 1)) ((unrank n k).drop (i + 1)) x y (by rw [← e1', ← e2]; exact hp) hxy
  rw [← e1', ← e2] at this
  change rk (unrank n j) = j at h1
  change rk (unrank n k) = k at h2
  omega
end Go.Proofs.Ytbccdjaeopfalaa
