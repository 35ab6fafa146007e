/- slices.SortFunc of matches by the lesser club. -/
import Derived.Test.YtpmkebejfnflfaaFShelf
import Derived.Test.YtpmkebejfnflfaaFIv
namespace Go.Proofs.Ytpmkebejfnflfaa
open Go.RowKit Go.Shelf Go.Lib Go.Sort
def encIv (x : Int × Int) : List Value := [.int .i64 x.1, .int .i64 x.2]
theorem ivV_at : ∀ (l : List (Int × Int)) (t : Nat), (ivV l)[t]? = (l[t / 2]?).map fun i => if t % 2 = 0 then Value.int .i64 i.1 else Value.int .i64 i.2
  | [], t => by simp [ivV]
  | i :: l, 0 => by simp [ivV]
  | i :: l, 1 => by simp [ivV]
  | i :: l, t + 2 => by
    have := ivV_at l t
    rw [show (t + 2) / 2 = t / 2 + 1 by omega, show (t + 2) % 2 = t % 2 by omega]
    simpa [ivV] using this
theorem flat_iv (l : List (Int × Int)) : (flatK encIv 2 l.toArray).toList = ivV l := by
  apply List.ext_getElem?
  intro t
  rw [ivV_at]
  by_cases h : t < l.length * 2
  · have h2 : t / 2 < l.length := by omega
    have hg := get_flatK encIv 2 l.toArray t (by simpa using h)
    have hs : t < (flatK encIv 2 l.toArray).size := by simpa using h
    rw [getElem!_pos _ t hs] at hg
    rw [Array.getElem?_toList, Array.getElem?_eq_getElem hs, hg, List.getElem?_eq_getElem h2]
    have e : (l.toArray)[t / 2]! = l[t / 2] := by rw [getElem!_pos _ _ (by simpa using h2)]; simp
    rw [e]
    rcases Nat.mod_two_eq_zero_or_one t with h0 | h0 <;> simp [h0, encIv]
  · rw [List.getElem?_eq_none (by simp; omega), List.getElem?_eq_none (by omega)]
    rfl
theorem holdsK_of_block {w : World} {g n : Nat} {cur : Array Value} {e : TypeId} {l : List (Int × Int)} (hb : w.heap[g]? = some (.cells cur e (0, 0))) (hl : l.length = n) (ht : cur.toList.take (n * 2) = ivV l) : HoldsK encIv 2 w g 0 l.toArray := by
  intro j hj
  have hj' : j < l.length * 2 := by simpa using hj
  refine ⟨?_, by simp [World.frozen?, hb]⟩
  have h1 : (cur.toList.take (n * 2))[j]? = (flatK encIv 2 l.toArray).toList[j]? := by rw [ht, flat_iv]
  rw [List.getElem?_take_of_lt (by omega), Array.getElem?_toList, Array.getElem?_toList, Array.getElem?_eq_getElem (show j < (flatK encIv 2 l.toArray).size by simpa using hj')] at h1
  rw [getElem!_pos _ j (by simpa using hj')]
  simp only [World.cell?, hb, Nat.zero_add, Option.isSome_none, Bool.false_eq_true, if_false]
  exact h1
theorem heap_sortedK {w : World} {g n : Nat} {os : Array Obj} {cur : Array Value} {e : TypeId} {fr : Nat × Nat} (F : Array Value) (hb : w.heap[g]? = some (.cells cur e fr)) :
    (grow (putRow id (Sort.ahead w n) g 0 F) os).heap[g]? = some (.cells (putCells id 0 F cur) e fr) := by
  have hg : g < w.heap.size := (Array.getElem?_eq_some_iff.1 hb).1
  rw [heap_grow_old _ _ (by simpa using hg)]
  simp [putRow, mapBlock, Sort.ahead, Array.getElem?_modify, hb, onCells]
theorem grownBy_sortedK {w : World} {g n : Nat} {os : Array Obj} (F : Array Value) : w.grownBy (grow (putRow id (Sort.ahead w n) g 0 F) os) (some g) := by
  refine ⟨rfl, rfl, rfl, by simp, fun k hk hne => ?_⟩
  rw [heap_grow_old _ _ (by simpa using hk)]
  have : g ≠ k := fun e => hne (by rw [e])
  simp [putRow, mapBlock, Sort.ahead, Array.getElem?_modify, this]
theorem take_putCellsK (cur F : Array Value) (h : F.size ≤ cur.size) : (putCells id 0 F cur).toList.take F.size = F.toList := by
  apply List.ext_getElem?
  intro j
  by_cases hj : j < F.size
  · rw [List.getElem?_take_of_lt hj, Array.getElem?_toList]
    simp [putCells, hj, show j < cur.size by omega]
  · rw [List.getElem?_take_eq_none (by omega), List.getElem?_eq_none (by simp; omega)]
theorem ownsRow_sortedK {w : World} {base g cap n m : Nat} {e : TypeId} {os : Array Obj} {cur : Array Value} {l : List (Int × Int)} (hl : l.length = m) (hbase : base ≤ g) (hb : w.heap[g]? = some (.cells cur e (0, 0)))
    (h1 : m ≤ cap) (h2 : cap ≤ maxLen) (h3 : cur.size = cap * 2) :
    (sortWorldK encIv 2 w g 0 n l.toArray os).ownsRow base e 2 (.slice (some ⟨g, 0, none⟩) m cap) m (ivV l) := by
  have hF : (flatK encIv 2 l.toArray).size = m * 2 := by simp [hl]
  refine ⟨by rw [ivV_length, hl], .inr ⟨g, cap, _, rfl, hbase, heap_sortedK _ hb, h1, h2, by simp [putCells, h3], ?_⟩⟩
  rw [← hF, take_putCellsK _ _ (by rw [hF, h3]; omega), flat_iv]
theorem ltFrom (x y : Int × Int) : ltOf (fun x y : Int × Int => Lib.compareInt (Fix.lowM x) (Fix.lowM y)) x y = decide (Fix.lowM x < Fix.lowM y) := by
  unfold ltOf Lib.compareInt
  by_cases h1 : Fix.lowM x < Fix.lowM y
  · simp [h1]
  · by_cases h2 : Fix.lowM y < Fix.lowM x <;> simp [h1, h2]
theorem swoFrom : SWO (ltOf fun x y : Int × Int => Lib.compareInt (Fix.lowM x) (Fix.lowM y)) where
  irrefl x := by rw [ltFrom]; simp
  trans x y z h1 h2 := by rw [ltFrom] at *; simp at *; omega
  ntrans x y z h1 h2 := by rw [ltFrom] at *; simp at *; omega
set_option maxHeartbeats 1000000 in
theorem iclosure_any (x y : Int × Int) (W : World) : Calls Try.prog 31 #[.agg #[.int .i64 x.1, .int .i64 x.2], .agg #[.int .i64 y.1, .int .i64 y.2]] W fun e w' => e = .returned (.int .i64 (Lib.compareInt (Fix.lowM x) (Fix.lowM y))) ∧ ∃ q os', w' = grow (W.drewN q) os' := by
  have hcon := fun W' => AnyG.cmp_Compare_int Try.cmpInt (Fix.lowM x) (Fix.lowM y) W'
  change ∀ W', Calls Try.prog 32 _ _ _ at hcon
  generalize Lib.compareInt (Fix.lowM x) (Fix.lowM y) = r at hcon ⊢
  go_enter Try.func31, Try.ntmps31
  go_wp2_with (go_at_call 32; refine (hcon _).mono ?_; rintro e w' ⟨rfl, rfl⟩)
  go_ret
  exact ⟨rfl, 0, _, by rw [alloc_eq_grow, alloc_eq_grow, grow_grow]; rfl⟩
theorem sorted_pair {l : List (Int × Int)} {n : Nat} (hn : l.length = n) (h : SortedIn (ltOf fun x y : Int × Int => Lib.compareInt (Fix.lowM x) (Fix.lowM y)) 0 n l.toArray) : l.Pairwise (fun a b => Fix.lowM a ≤ Fix.lowM b) := by
  rw [List.pairwise_iff_getElem]
  intro i j hi hj hij
  have := h i j (Nat.zero_le _) hij (by omega)
  rw [ltFrom] at this
  rw [getElem!_pos _ _ (by simpa using hj), getElem!_pos _ _ (by simpa using hi)] at this
  simp at this
  exact this
set_option maxHeartbeats 2000000 in
/-- slices.SortFunc on a row of the call's own. -/
theorem isort_any (base : Nat) (v : Value) (zs : List (Int × Int)) (w : World) (hown : w.ownsRow base 51 2 v zs.length (ivV zs)) (hlen : zs.length ≤ 1000000) :
    Calls Try.prog 30 #[v, .func (.func 31) #[] #[]] w fun e w' => e = .returned (.tuple #[]) ∧ ∃ u : List (Int × Int), u.Perm zs ∧ u.Pairwise (fun a b => Fix.lowM a ≤ Fix.lowM b) ∧ w'.ownsRow base 51 2 v zs.length (ivV u) ∧ w.grownBy w' v.ownBlock := by
  have eg : ∀ args w, (callFunc 31 args).run Try.prog w = .ok (.enter 31 args) w := enters_of Try.func31 (by kernel_rfl) rfl
  rcases hown.2 with ⟨rfl, h0⟩ | ⟨g, cap, cur, rfl, hbase, hb, h1, h2, h3, h4⟩
  · have hz : zs = [] := List.eq_nil_of_length_eq_zero h0
    subst hz
    have hcon := AnyF.slices_SortFunc_none { Try.sortMt with } none 0 (.func (.func 31) #[] #[]) w
    change Calls Try.prog 30 _ _ _ at hcon
    exact hcon.mono fun e w' ⟨he, hw⟩ => ⟨he, [], .refl _, .nil, by rw [hw]; exact hown, by rw [hw]; exact World.grownBy.refl _ _⟩
  · have hcon := AnyQ.slices_SortFunc Try.sortMt 2 Try.isAgg51 Try.sizeOf51 encIv (fun _ => rfl) (fun x v hv => by simp [encIv] at hv; rcases hv with rfl | rfl <;> rfl) (fun x y => Lib.compareInt (Fix.lowM x) (Fix.lowM y)) swoFrom 31 #[] g 0 cap zs.toArray w eg
      (fun _ _ _ _ x y => iclosure_any x y _) (holdsK_of_block hb rfl h4) (Array.getElem?_eq_some_iff.1 hb).1 (by simp; omega)
    have es : zs.toArray.size = zs.length := by simp
    rw [es] at hcon
    change Calls Try.prog 30 _ _ _ at hcon
    refine hcon.mono ?_
    rintro e w' ⟨he, d', n, os, hp, hs, hw⟩
    obtain ⟨u⟩ := d'
    have hul : u.length = zs.length := by simpa using hp.1
    have hperm : u.Perm zs := by
      have := hp.2.2
      rw [Array.toList_extract, Array.toList_extract] at this
      simpa [List.take_of_length_le (Nat.le_of_eq hul)] using this
    refine ⟨he, u, hperm, sorted_pair hul hs, ?_, ?_⟩
    · rw [hw]; exact ownsRow_sortedK hul hbase hb h1 h2 h3
    · rw [hw]; exact grownBy_sortedK _
end Go.Proofs.Ytpmkebejfnflfaa
