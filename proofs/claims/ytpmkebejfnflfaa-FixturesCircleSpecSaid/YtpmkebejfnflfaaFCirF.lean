/- Plain facts of the circle's list: it is full and balanced (fixtures). -/
import Derived.Test.YtpmkebejfnflfaaFLaw
import Derived.Test.YtpmkebejfnflfaaFCl
namespace Go.Proofs.Ytpmkebejfnflfaa
namespace Fix
theorem nodup_map_on {α β : Type} {f : α → β} : ∀ {l : List α}, l.Nodup → (∀ a ∈ l, ∀ b ∈ l, f a = f b → a = b) → (l.map f).Nodup
  | [], _, _ => .nil
  | x :: l, h, hi => by
    obtain ⟨h1, h2⟩ := List.nodup_cons.1 h
    rw [List.map_cons]
    refine List.nodup_cons.2 ⟨fun hm => ?_, nodup_map_on h2 fun a ha b hb => hi a (by simp [ha]) b (by simp [hb])⟩
    obtain ⟨y, hy, e⟩ := List.mem_map.1 hm
    exact h1 (hi y (by simp [hy]) x (by simp) e ▸ hy)
theorem nodup_flatten_map {α : Type} {f : Nat → List α} : ∀ (m : Nat), (∀ r, r < m → (f r).Nodup) → (∀ r r' x, r < m → r' < m → x ∈ f r → x ∈ f r' → r = r') → ((List.range m).map f).flatten.Nodup
  | 0, _, _ => by simp
  | m + 1, h1, h2 => by
    rw [List.range_succ, List.map_append, List.flatten_append, List.nodup_append]
    refine ⟨nodup_flatten_map m (fun r hr => h1 r (by omega)) fun r r' x hr hr' => h2 r r' x (by omega) (by omega), by simpa using h1 m (by omega), fun a ha b hb e => ?_⟩
    subst e
    obtain ⟨l, hl, ha⟩ := List.mem_flatten.1 ha
    obtain ⟨r, hr, rfl⟩ := List.mem_map.1 hl
    have hr' := List.mem_range.1 hr
    have := h2 r m a (by omega) (by omega) ha (by simpa using hb)
    omega
theorem busy_ne {l : List Mt} (h : (busyM l).Nodup) {x : Mt} (hx : x ∈ l) : x.1 ≠ x.2 := by
  obtain ⟨s, t, rfl⟩ := List.append_of_mem hx
  rw [busyM_append, busyM_cons] at h
  have h1 := (List.nodup_append.1 h).2.1
  exact fun e => (List.nodup_cons.1 h1).1 (by rw [e]; simp)
theorem busy_unique : ∀ {l : List Mt}, (busyM l).Nodup → ∀ {x y : Mt}, x ∈ l → y ∈ l → ∀ {c : Int}, (c = x.1 ∨ c = x.2) → (c = y.1 ∨ c = y.2) → x = y
  | [], _, _, _, hx, _, _, _, _ => by simp at hx
  | z :: l, h, x, y, hx, hy, c, h1, h2 => by
    rw [busyM_cons] at h
    obtain ⟨k1, k2⟩ := List.nodup_cons.1 h
    obtain ⟨k3, k4⟩ := List.nodup_cons.1 k2
    have hin : ∀ {u : Mt}, u ∈ l → (c = u.1 ∨ c = u.2) → c ∈ busyM l := fun hu he => busyM_mem.2 ⟨_, hu, he⟩
    rcases List.mem_cons.1 hx with rfl | hx' <;> rcases List.mem_cons.1 hy with rfl | hy'
    · rfl
    · exfalso
      have hc := hin hy' h2
      rcases h1 with e | e
      · exact k1 (by rw [← e]; simp [hc])
      · exact k3 (by rw [← e]; exact hc)
    · exfalso
      have hc := hin hx' h1
      rcases h2 with e | e
      · exact k1 (by rw [← e]; simp [hc])
      · exact k3 (by rw [← e]; exact hc)
    · exact busy_unique k4 hx' hy' h1 h2
theorem busy_perm {l m : List Mt} (h : l.Perm m) : (busyM l).Perm (busyM m) := h.flatMap_right _
theorem rdI_comm (n i k : Nat) : rdI n i k = rdI n k i := by unfold rdI; rw [Nat.max_comm, Nat.min_comm, Nat.add_comm i k]
variable {cl : List Int}
theorem idx_lt {n r : Nat} {x : Nat × Nat} (h : x ∈ idxR n r) : x.1 < n ∧ x.2 < n := by
  unfold idxR at h
  simpa using (List.mem_filter.1 h).2
theorem idx_facts (hv : validC cl = true) {r : Nat} (hr : r < cl.length + cl.length % 2 - 1) : (flatI (idxR cl.length r)).Nodup ∧ ∀ x ∈ idxR cl.length r, rdI cl.length x.1 x.2 = r := by
  have hA := upto24_at factA_all (validC_iff.1 hv).1 (validC_iff.1 hv).2.1
  unfold factA at hA
  have hA' := List.all_eq_true.1 hA r (List.mem_range.2 hr)
  simp only [Bool.and_eq_true] at hA'
  exact ⟨(nodupB_iff _).1 hA'.1, fun x hx => by simpa using List.all_eq_true.1 hA'.2 x hx⟩
theorem mem_round {r : Nat} {y : Mt} : y ∈ roundM cl r ↔ ∃ x ∈ idxR cl.length r, clubM cl x = y := by
  unfold roundM
  rw [(sortM_perm _).mem_iff, List.mem_map]
theorem club_inj (hv : validC cl = true) {x y : Nat × Nat} (hx : x.1 < cl.length ∧ x.2 < cl.length) (hy : y.1 < cl.length ∧ y.2 < cl.length) (e : clubM cl x = clubM cl y) : x = y := by
  unfold clubM at e
  injection e with e1 e2
  exact Prod.ext (getD_inj hv hx.1 hy.1 e1) (getD_inj hv hx.2 hy.2 e2)
theorem busy_idx (cl : List Int) : ∀ l : List (Nat × Nat), busyM (l.map (clubM cl)) = (flatI l).map fun i => cl.getD i 0
  | [] => rfl
  | x :: l => by
    rw [List.map_cons, busyM_cons, busy_idx cl l]
    rfl
theorem flatI_lt {n : Nat} {l : List (Nat × Nat)} (h : ∀ x ∈ l, x.1 < n ∧ x.2 < n) : ∀ i ∈ flatI l, i < n := fun i hi => by
  obtain ⟨x, hx, hi⟩ := List.mem_flatMap.1 hi
  have := h x hx
  simp at hi
  omega
theorem round_busy (hv : validC cl = true) {r : Nat} (hr : r < cl.length + cl.length % 2 - 1) : (busyM (roundM cl r)).Nodup := by
  have hf := idx_facts hv hr
  unfold roundM
  rw [(busy_perm (sortM_perm _)).nodup_iff, busy_idx]
  have hlt := flatI_lt (n := cl.length) (l := idxR cl.length r) fun x hx => idx_lt hx
  exact nodup_map_on hf.1 fun a ha b hb e => getD_inj hv (hlt a ha) (hlt b hb) e
theorem getD_mem {i : Nat} (h : i < cl.length) : cl.getD i 0 ∈ cl := by
  rw [List.getD_eq_getElem?_getD, List.getElem?_eq_getElem h]
  exact List.getElem_mem h
theorem round_mem {r : Nat} {y : Mt} (h : y ∈ roundM cl r) : y.1 ∈ cl ∧ y.2 ∈ cl := by
  obtain ⟨x, hx, rfl⟩ := mem_round.1 h
  exact ⟨getD_mem (idx_lt hx).1, getD_mem (idx_lt hx).2⟩
theorem mem_base {y : Mt} : y ∈ (baseM cl).flatten ↔ ∃ r, r < cl.length + cl.length % 2 - 1 ∧ y ∈ roundM cl r := by
  unfold baseM
  simp only [List.mem_flatten, List.mem_map, List.mem_range]
  constructor
  · rintro ⟨l, ⟨r, hr, rfl⟩, hy⟩; exact ⟨r, hr, hy⟩
  · rintro ⟨r, hr, hy⟩; exact ⟨_, ⟨r, hr, rfl⟩, hy⟩
/-- A match and its exchange do not both stand in the first half. -/
theorem base_one (hv : validC cl = true) {y : Mt} (h1 : y ∈ (baseM cl).flatten) (h2 : swapM y ∈ (baseM cl).flatten) : False := by
  obtain ⟨r, hr, h1⟩ := mem_base.1 h1
  obtain ⟨r', hr', h2⟩ := mem_base.1 h2
  obtain ⟨x, hx, rfl⟩ := mem_round.1 h1
  obtain ⟨x', hx', e⟩ := mem_round.1 h2
  have e' : x' = (x.2, x.1) := club_inj hv (idx_lt hx') ⟨(idx_lt hx).2, (idx_lt hx).1⟩ e
  have e1 := (idx_facts hv hr).2 x hx
  have e2 := (idx_facts hv hr').2 x' hx'
  rw [e', rdI_comm] at e2
  obtain rfl : r = r' := e1.symm.trans e2
  have hb := round_busy hv hr
  have he : clubM cl x = swapM (clubM cl x) := busy_unique hb h1 h2 (c := (clubM cl x).1) (.inl rfl) (.inr rfl)
  exact busy_ne hb h1 (congrArg Prod.fst he)
theorem base_nodup (hv : validC cl = true) : (baseM cl).flatten.Nodup := by
  unfold baseM
  refine nodup_flatten_map _ (fun r hr => nodup_of_busy (round_busy hv hr)) fun r r' x hr hr' h1 h2 => ?_
  obtain ⟨y, hy, rfl⟩ := mem_round.1 h1
  obtain ⟨y', hy', e⟩ := mem_round.1 h2
  have e' := club_inj hv (idx_lt hy') (idx_lt hy) e
  have e1 := (idx_facts hv hr).2 y hy
  have e2 := (idx_facts hv hr').2 y' hy'
  rw [e'] at e2
  exact e1.symm.trans e2
theorem circle_eq (cl : List Int) (double : Bool) : circleM cl double = if double then baseM cl ++ swapL (baseM cl) else baseM cl := rfl
theorem circle_length (cl : List Int) (double : Bool) : (circleM cl double).length = (if double then 2 else 1) * (cl.length + cl.length % 2 - 1) := by
  rw [circle_eq]
  cases double
  · simp [baseM_length]
  · simp [swapL, baseM_length]; omega
theorem base_ok (hv : validC cl = true) : okL cl (baseM cl) = true := by
  refine okL_iff.2 ⟨fun l hl => ?_, base_nodup hv, fun l hl x hx => ?_⟩
  · obtain ⟨r, hr, rfl⟩ := List.mem_map.1 hl
    exact round_busy hv (List.mem_range.1 hr)
  · obtain ⟨r, hr, rfl⟩ := List.mem_map.1 hl
    exact round_mem hx
theorem circle_ok (hv : validC cl = true) (double : Bool) : okL cl (circleM cl double) = true := by
  rw [circle_eq]
  cases double
  · exact base_ok hv
  · obtain ⟨h1, h2, h3⟩ := okL_iff.1 (base_ok hv)
    obtain ⟨g1, g2, g3⟩ := okL_iff.1 (okL_swap (base_ok hv))
    refine okL_iff.2 ⟨fun l hl => ?_, ?_, fun l hl => ?_⟩
    · rcases List.mem_append.1 hl with hl | hl
      · exact h1 l hl
      · exact g1 l hl
    · show (baseM cl ++ swapL (baseM cl)).flatten.Nodup
      rw [List.flatten_append, List.nodup_append]
      refine ⟨h2, g2, fun a ha b hb e => ?_⟩
      subst e
      rw [swapL_flatten] at hb
      exact base_one hv ha (swap_mem.1 hb)
    · rcases List.mem_append.1 hl with hl | hl
      · exact h3 l hl
      · exact g3 l hl
theorem circle_check (hv : validC cl = true) (double : Bool) : checkE cl (circleM cl double) = 0 := by
  refine checkE_zero.2 ⟨hv, ?_, circle_ok hv double⟩
  rw [circle_length]
  have h := (validC_iff.1 hv).2.1
  split <;> omega
theorem base_pair (hv : validC cl = true) {i k : Nat} (hi : i < cl.length) (hk : k < i) : (cl.getD i 0, cl.getD k 0) ∈ (baseM cl).flatten ∨ (cl.getD k 0, cl.getD i 0) ∈ (baseM cl).flatten := by
  have hB := upto24_at factB_all (validC_iff.1 hv).1 (validC_iff.1 hv).2.1
  unfold factB at hB
  have hB' := List.all_eq_true.1 (List.all_eq_true.1 hB i (List.mem_range.2 hi)) k (List.mem_range.2 hk)
  simp only [Bool.and_eq_true, decide_eq_true_eq, List.any_eq_true, Bool.or_eq_true, beq_iff_eq] at hB'
  obtain ⟨hr, x, hx, hc⟩ := hB'
  rcases hc with ⟨e1, e2⟩ | ⟨e1, e2⟩
  · exact .inl (mem_base.2 ⟨_, hr, mem_round.2 ⟨x, hx, by unfold clubM; rw [e1, e2]⟩⟩)
  · exact .inr (mem_base.2 ⟨_, hr, mem_round.2 ⟨x, hx, by unfold clubM; rw [e1, e2]⟩⟩)
theorem circle_fullB (hv : validC cl = true) (double : Bool) : fullB cl (circleM cl double).flatten double = true := by
  refine fullB_good fun i k a b ha hb hk => ?_
  have hp := base_pair hv (List.getElem?_eq_some_iff.1 ha).1 hk
  rw [getD_of ha, getD_of hb] at hp
  rw [circle_eq]
  unfold okPair
  cases double
  · simp only [Bool.false_eq_true, if_false]
    rcases hp with hp | hp
    · have hn : ¬ (b, a) ∈ (baseM cl).flatten := fun h => base_one hv hp h
      rw [decide_eq_true hp, decide_eq_false hn]; rfl
    · have hn : ¬ (a, b) ∈ (baseM cl).flatten := fun h => base_one hv hp h
      rw [decide_eq_true hp, decide_eq_false hn]; rfl
  · simp only [if_true]
    rw [List.flatten_append, swapL_flatten]
    have hs : ∀ {x y : Int}, (y, x) ∈ (baseM cl).flatten → (x, y) ∈ (baseM cl).flatten.map swapM := fun h => swap_mem.2 h
    rcases hp with hp | hp
    · rw [decide_eq_true (List.mem_append.2 (.inl hp)), decide_eq_true (List.mem_append.2 (.inr (hs hp)))]; rfl
    · rw [decide_eq_true (List.mem_append.2 (.inr (hs hp))), decide_eq_true (List.mem_append.2 (.inl hp))]; rfl
theorem circle_full (hv : validC cl = true) (double : Bool) : fullR cl (circleM cl double) double = true := by
  unfold fullR
  rw [circle_check hv, circle_fullB hv]; rfl
/-! The patterns. -/
theorem find_some {c : Int} {l : List Mt} {x : Mt} (hx : x ∈ l) (hi : inM c x = true) : ∃ y, l.find? (inM c) = some y ∧ y ∈ l ∧ inM c y = true := by
  cases hf : l.find? (inM c) with
  | none =>
    have := List.find?_eq_none.1 hf x hx
    exact absurd hi (by simpa using this)
  | some y => exact ⟨y, rfl, List.mem_of_find?_eq_some hf, List.find?_some hf⟩
theorem inM_iff {c : Int} {x : Mt} : inM c x = true ↔ (c = x.1 ∨ c = x.2) := by
  unfold inM
  simp only [Bool.or_eq_true, decide_eq_true_eq]
  exact ⟨Or.imp Eq.symm Eq.symm, Or.imp Eq.symm Eq.symm⟩
theorem patM_home {c : Int} {l : List Mt} (h : (busyM l).Nodup) {x : Mt} (hx : x ∈ l) (e : x.1 = c) : patM c l = 1 := by
  obtain ⟨y, h1, h2, h3⟩ := find_some hx (inM_iff.2 (.inl e.symm))
  obtain rfl := busy_unique h hx h2 (c := c) (.inl e.symm) (inM_iff.1 h3)
  unfold patM
  rw [h1]
  exact if_pos e
theorem patM_away {c : Int} {l : List Mt} (h : (busyM l).Nodup) {x : Mt} (hx : x ∈ l) (e : x.2 = c) : patM c l = -1 := by
  obtain ⟨y, h1, h2, h3⟩ := find_some hx (inM_iff.2 (.inr e.symm))
  obtain rfl := busy_unique h hx h2 (c := c) (.inr e.symm) (inM_iff.1 h3)
  unfold patM
  rw [h1]
  exact if_neg fun e' => busy_ne h hx (e'.trans e.symm)
theorem patM_none {c : Int} {l : List Mt} (h : ∀ x ∈ l, x.1 ≠ c ∧ x.2 ≠ c) : patM c l = 0 := by
  unfold patM
  rw [List.find?_eq_none.2 fun x hx => by
    have := h x hx
    rw [inM_iff]
    rintro (e | e)
    · exact this.1 e.symm
    · exact this.2 e.symm]
theorem base_pat (hv : validC cl = true) {i : Nat} (hi : i < cl.length) : (baseM cl).map (patM (cl.getD i 0)) = patI cl.length i := by
  unfold baseM patI
  rw [List.map_map]
  refine List.map_congr_left fun r hr => ?_
  have hr' := List.mem_range.1 hr
  have hb := round_busy hv hr'
  show patM (cl.getD i 0) (roundM cl r) = _
  by_cases h1 : (idxR cl.length r).any (fun x => x.1 == i) = true
  · rw [if_pos h1]
    obtain ⟨x, hx, e⟩ := List.any_eq_true.1 h1
    have e' : x.1 = i := by simpa using e
    exact patM_home hb (mem_round.2 ⟨x, hx, rfl⟩) (by unfold clubM; rw [e'])
  · rw [if_neg h1]
    by_cases h2 : (idxR cl.length r).any (fun x => x.2 == i) = true
    · rw [if_pos h2]
      obtain ⟨x, hx, e⟩ := List.any_eq_true.1 h2
      have e' : x.2 = i := by simpa using e
      exact patM_away hb (mem_round.2 ⟨x, hx, rfl⟩) (by unfold clubM; rw [e'])
    · rw [if_neg h2]
      refine patM_none fun y hy => ?_
      obtain ⟨x, hx, rfl⟩ := mem_round.1 hy
      have q1 : ¬ x.1 = i := fun e => h1 (List.any_eq_true.2 ⟨x, hx, by simpa using e⟩)
      have q2 : ¬ x.2 = i := fun e => h2 (List.any_eq_true.2 ⟨x, hx, by simpa using e⟩)
      exact ⟨fun e => q1 (getD_inj hv (idx_lt hx).1 hi e), fun e => q2 (getD_inj hv (idx_lt hx).2 hi e)⟩
theorem count_neg : ∀ (p : List Int) (a : Int), (p.map fun x => -x).count a = p.count (-a)
  | [], _ => rfl
  | x :: p, a => by
    rw [List.map_cons, List.count_cons, List.count_cons, count_neg p a]
    have : (-x == a) = (x == -a) := by
      rw [Bool.eq_iff_iff, beq_iff_eq, beq_iff_eq]; omega
    rw [this]
theorem swap_pat {c : Int} {ls : List (List Mt)} (h : ∀ l ∈ ls, ∀ x ∈ l, x.1 ≠ x.2) : (swapL ls).map (patM c) = (ls.map (patM c)).map fun x => -x := by
  unfold swapL
  rw [List.map_map, List.map_map]
  exact List.map_congr_left fun l hl => patM_swap (h l hl)
/-- How often a club is free, and plays at home and away. -/
theorem circle_counts (hv : validC cl = true) (double : Bool) {c : Int} (hc : c ∈ cl) :
    let p := (circleM cl double).map (patM c)
    p.count 0 = (if double then 2 else 1) * (cl.length % 2) ∧ p.count 1 ≤ p.count (-1) + 1 ∧ p.count (-1) ≤ p.count 1 + 1 ∧ (double = true → p.count 1 = p.count (-1)) := by
  obtain ⟨i, hi, e⟩ := List.mem_iff_getElem.1 hc
  have e' : cl.getD i 0 = c := by rw [List.getD_eq_getElem?_getD, List.getElem?_eq_getElem hi, e]; rfl
  subst e'
  have hC := upto24_at factC_all (validC_iff.1 hv).1 (validC_iff.1 hv).2.1
  unfold factC at hC
  have hC' := List.all_eq_true.1 hC i (List.mem_range.2 hi)
  simp only [Bool.and_eq_true, decide_eq_true_eq] at hC'
  obtain ⟨⟨c0, c1⟩, c2⟩ := hC'
  have hb := okL_iff.1 (base_ok hv)
  have hp := base_pat hv hi
  simp only []
  rw [circle_eq]
  cases double
  · simp only [Bool.false_eq_true, if_false]
    rw [hp]
    exact ⟨by omega, c1, c2, fun h => by simp at h⟩
  · simp only [if_true]
    rw [List.map_append, swap_pat (fun l hl x hx => busy_ne (hb.1 l hl) hx), hp]
    simp only [List.count_append, count_neg, Int.neg_neg, Int.neg_zero]
    refine ⟨by omega, by omega, by omega, fun _ => by omega⟩
end Fix
theorem wf_circle {cl : List Int} (hv : Fix.validC cl = true) {ls : List (List (Int × Int))} (h : Fix.okL cl ls = true) : ∀ l ∈ ls, ∀ x ∈ l, WfM x := fun l hl x hx => by
  obtain ⟨-, -, h3⟩ := Fix.okL_iff.1 h
  obtain ⟨h1, h2⟩ := h3 l hl x hx
  exact ⟨wf_small (valid_range hv _ h1).1 (valid_range hv _ h1).2, wf_small (valid_range hv _ h2).1 (valid_range hv _ h2).2⟩
theorem circle_lens {cl : List Int} (hv : Fix.validC cl = true) (double : Bool) : (∀ l ∈ Fix.circleM cl double, l.length ≤ 12) ∧ (Fix.circleM cl double).flatten.length ≤ 552 ∧ (Fix.circleM cl double).length ≤ 46 := by
  have hn := (Fix.validC_iff.1 hv).2.1
  have h1 : ∀ l ∈ Fix.circleM cl double, l.length ≤ 12 := fun l hl => by
    have hbase : ∀ l ∈ Fix.baseM cl, l.length ≤ 12 := fun l hl => by
      obtain ⟨r, -, rfl⟩ := List.mem_map.1 hl
      have := Fix.roundM_length cl r
      omega
    rw [Fix.circle_eq] at hl
    cases double
    · exact hbase l hl
    · rcases List.mem_append.1 hl with hl | hl
      · exact hbase l hl
      · obtain ⟨m, hm, rfl⟩ := List.mem_map.1 hl
        rw [List.length_map]; exact hbase m hm
  have h2 : (Fix.circleM cl double).length ≤ 46 := by
    rw [Fix.circle_length]
    split <;> omega
  refine ⟨h1, ?_, h2⟩
  have h3 : ∀ (ls : List (List (Int × Int))), (∀ l ∈ ls, l.length ≤ 12) → ls.flatten.length ≤ 12 * ls.length := by
    intro ls
    induction ls with
    | nil => intro _; simp
    | cons l ls ih =>
      intro h
      have := ih fun m hm => h m (by simp [hm])
      have := h l (by simp)
      rw [List.flatten_cons, List.length_append, List.length_cons]
      omega
  have := h3 _ h1
  omega
end Go.Proofs.Ytpmkebejfnflfaa
