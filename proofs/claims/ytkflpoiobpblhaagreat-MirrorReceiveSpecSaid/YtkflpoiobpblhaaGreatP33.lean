/- Walks and plain laws that the statement rests on: MSort. -/
import Derived.Test.YtkflpoiobpblhaaGreatP00
import Derived.Test.YtkflpoiobpblhaaGreatP31
import Derived.Test.YtkflpoiobpblhaaGreatP32
namespace Go.Proofs.YtkflpoiobpblhaaGreat
open Go.RowKit Go.Shelf Go.Lib Go.Sort
set_option linter.unusedVariables false
set_option linter.unusedSimpArgs false
namespace Mir
abbrev Zi := It × (Option Addr × Nat)
end Mir
def itZ : List Mir.Zi → List Value
 | [] => []
 | z :: l => .string z.1.1 :: .slice z.2.1 z.1.2.length z.2.2 :: itZ l
theorem itZ_itV : ∀ zs : List Mir.Zi, Mir.itV (zs.map Prod.snd) (zs.map Prod.fst) = itZ zs
 | [] => rfl
 | z :: zs => by
   have := itZ_itV zs
   simp only [List.map_cons, Mir.itV, itZ]
   rw [this]
theorem itZ_length : ∀ zs : List Mir.Zi, (itZ zs).length = zs.length * 2
 | [] => rfl
 | z :: zs => by simp only [itZ, List.length_cons, itZ_length zs]; omega
theorem itZ_append : ∀ a b : List Mir.Zi, itZ (a ++ b) = itZ a ++ itZ b
 | [], b => rfl
 | z :: a, b => by simp only [List.cons_append, itZ, itZ_append a b]
def encZ (z : Mir.Zi) : List Value := [.string z.1.1, .slice z.2.1 z.1.2.length z.2.2]
theorem itZ_at : ∀ (l : List Mir.Zi) (t : Nat), (itZ l)[t]? = (l[t / 2]?).map fun z => if t % 2 = 0 then Value.string z.1.1 else Value.slice z.2.1 z.1.2.length z.2.2
 | [], t => by simp [itZ]
 | i :: l, 0 => by simp [itZ]
 | i :: l, 1 => by simp [itZ]
 | i :: l, t + 2 => by
   have := itZ_at l t
   rw [show (t + 2) / 2 = t / 2 + 1 by omega, show (t + 2) % 2 = t % 2 by omega]
   simpa [itZ] using this
theorem flat_itZ (l : List Mir.Zi) : (flatK encZ 2 l.toArray).toList = itZ l := by
 apply List.ext_getElem?
 intro t
 rw [itZ_at]
 by_cases h : t < l.length * 2
 · have h2 : t / 2 < l.length := by omega
   have hg := get_flatK encZ 2 l.toArray t (by simpa using h)
   have hs : t < (flatK encZ 2 l.toArray).size := by simpa using h
   rw [getElem!_pos _ t hs] at hg
   rw [Array.getElem?_toList, Array.getElem?_eq_getElem hs, hg, List.getElem?_eq_getElem h2]
   have e : (l.toArray)[t / 2]! = l[t / 2] := by rw [getElem!_pos _ _ (by simpa using h2)]; simp
   rw [e]
   rcases Nat.mod_two_eq_zero_or_one t with h0 | h0 <;> simp [h0, encZ]
 · rw [List.getElem?_eq_none (by simp; omega), List.getElem?_eq_none (by omega)]
   rfl
theorem holdsK_of_block {w : World} {g n : Nat} {cur : Array Value} {e : TypeId} {l : List Mir.Zi} (hb : w.heap[g]? = some (.cells cur e (0, 0))) (hl : l.length = n) (ht : cur.toList.take (n * 2) = itZ l) : HoldsK encZ 2 w g 0 l.toArray := by
 intro j hj
 have hj' : j < l.length * 2 := by simpa using hj
 refine ⟨?_, by simp [World.frozen?, hb]⟩
 have h1 : (cur.toList.take (n * 2))[j]? = (flatK encZ 2 l.toArray).toList[j]? := by rw [ht, flat_itZ]
 rw [List.getElem?_take_of_lt (by omega), Array.getElem?_toList, Array.getElem?_toList, Array.getElem?_eq_getElem (show j < (flatK encZ 2 l.toArray).size by simpa using hj')] at h1
 rw [getElem!_pos _ j (by simpa using hj')]
 simp only [World.cell?, hb, Nat.zero_add, Option.isSome_none, Bool.false_eq_true, if_false]
 exact h1
theorem heap_sortedK {w : World} {g n : Nat} {os : Array Obj} {cur : Array Value} {e : TypeId} {fr : Nat × Nat} (F : Array Value) (hb : w.heap[g]? = some (.cells cur e fr)) :
    (grow (putRow id (Sort.ahead w n) g 0 F) os).heap[g]? = some (.cells (putCells id 0 F cur) e fr) := by
 have hg : g < w.heap.size := (Array.getElem?_eq_some_iff.1 hb).1
 rw [heap_grow_old _ _ (by simpa using hg)]
 simp [putRow, mapBlock, Sort.ahead, Array.getElem?_modify, hb, onCells]
theorem grownBy_sortedK {w : World} {g n : Nat} {os : Array Obj} (F : Array Value) : w.grownBy (grow (putRow id (Sort.ahead w n) g 0 F) os) (some g) := by
 refine ⟨rfl, rfl, rfl, by simp, fun k hk hne => ?_⟩
 rw [heap_grow_old _ _ (by simpa using hk)]
 have : g ≠ k := fun e => hne (by rw [e])
 simp [putRow, mapBlock, Sort.ahead, Array.getElem?_modify, this]
theorem take_putCellsK (cur F : Array Value) (h : F.size ≤ cur.size) : (putCells id 0 F cur).toList.take F.size = F.toList := by
 apply List.ext_getElem?
 intro j
 by_cases hj : j < F.size
 · rw [List.getElem?_take_of_lt hj, Array.getElem?_toList]
   simp [putCells, hj, show j < cur.size by omega]
 · rw [List.getElem?_take_eq_none (by omega), List.getElem?_eq_none (by simp; omega)]
theorem ownsRow_sortedK {w : World} {base g cap n m : Nat} {e : TypeId} {os : Array Obj} {cur : Array Value} {l : List Mir.Zi} (hl : l.length = m) (hbase : base ≤ g) (hb : w.heap[g]? = some (.cells cur e (0, 0)))
    (h1 : m ≤ cap) (h2 : cap ≤ maxLen) (h3 : cur.size = cap * 2) :
    (sortWorldK encZ 2 w g 0 n l.toArray os).ownsRow base e 2 (.slice (some ⟨g, 0, none⟩) m cap) m (itZ l) := by
 have hF : (flatK encZ 2 l.toArray).size = m * 2 := by simp [hl]
 refine ⟨by rw [itZ_length, hl], .inr ⟨g, cap, _, rfl, hbase, heap_sortedK _ hb, h1, h2, by simp [putCells, h3], ?_⟩⟩
 rw [← hF, take_putCellsK _ _ (by rw [hF, h3]; omega), flat_itZ]
theorem ltFrom (x y : Mir.Zi) : ltOf (fun x y : Mir.Zi => Mir.cmpS x.1.1 y.1.1) x y = Mir.nlt x.1.1 y.1.1 := by
 have h := Mir.cmpS_neg (x := x.1.1) (y := y.1.1)
 unfold ltOf
 cases e : Mir.nlt x.1.1 y.1.1 with
 | true => exact decide_eq_true (h.2 e)
 | false => exact decide_eq_false fun h' => by rw [h.1 h'] at e; cases e
theorem swoFrom : SWO (ltOf fun x y : Mir.Zi => Mir.cmpS x.1.1 y.1.1) where
 irrefl x := by rw [ltFrom]; exact Mir.nlt_irrefl _
 trans x y z h1 h2 := by rw [ltFrom] at *; exact Mir.nlt_trans h1 h2
 ntrans x y z h1 h2 := by
  rw [ltFrom] at *
  cases e : Mir.nlt x.1.1 z.1.1 with
  | false => rfl
  | true =>
    cases e2 : Mir.nlt y.1.1 x.1.1 with
    | true => rw [Mir.nlt_trans e2 e] at h2; cases h2
    | false => rw [Mir.nlt_tri h1 e2] at e; rw [e] at h2; cases h2
set_option maxHeartbeats 1000000 in
theorem iclosure_any (x y : Mir.Zi) (W : World) : Calls Tryz.prog 110 #[.agg #[.string x.1.1, .slice x.2.1 x.1.2.length x.2.2], .agg #[.string y.1.1, .slice y.2.1 y.1.2.length y.2.2]] W fun e w' => e = .returned (.int .i64 (Mir.cmpS x.1.1 y.1.1)) ∧ ∃ q os', w' = grow (W.drewN q) os' := by
 have hcon := fun W' => scmp_any x.1.1 y.1.1 W'
 generalize Mir.cmpS x.1.1 y.1.1 = r at hcon ⊢
 go_enter Tryz.func110, Tryz.ntmps110
 go_wp2_with (go_at_call 111; refine (hcon _).mono ?_; rintro e w' ⟨rfl, rfl⟩)
 go_ret
 exact ⟨rfl, 0, _, by rw [alloc_eq_grow, alloc_eq_grow, grow_grow]; rfl⟩
theorem sorted_pair {l : List Mir.Zi} {n : Nat} (hn : l.length = n) (h : SortedIn (ltOf fun x y : Mir.Zi => Mir.cmpS x.1.1 y.1.1) 0 n l.toArray) : l.Pairwise (fun a b => Mir.nlt b.1.1 a.1.1 = false) := by
 rw [List.pairwise_iff_getElem]
 intro i j hi hj hij
 have := h i j (Nat.zero_le _) hij (by omega)
 rw [ltFrom] at this
 rw [getElem!_pos _ _ (by simpa using hj), getElem!_pos _ _ (by simpa using hi)] at this
 simpa using this
set_option maxHeartbeats 2000000 in
theorem isort_any (base : Nat) (v : Value) (zs : List Mir.Zi) (w : World) (hown : w.ownsRow base 61 2 v zs.length (itZ zs)) (hlen : zs.length ≤ 1000000) :
    Calls Tryz.prog 109 #[v, .func (.func 110) #[] #[]] w fun e w' => e = .returned (.tuple #[]) ∧ ∃ u : List Mir.Zi, u.Perm zs ∧ u.Pairwise (fun a b => Mir.nlt b.1.1 a.1.1 = false) ∧ w'.ownsRow base 61 2 v zs.length (itZ u) ∧ w.grownBy w' v.ownBlock := by
 have eg : ∀ args w, (callFunc 110 args).run Tryz.prog w = .ok (.enter 110 args) w := enters_of Tryz.func110 (by kernel_rfl) rfl
 rcases hown.2 with ⟨rfl, h0⟩ | ⟨g, cap, cur, rfl, hbase, hb, h1, h2, h3, h4⟩
 · have hz : zs = [] := List.eq_nil_of_length_eq_zero h0
   subst hz
   have hcon := AnyF.slices_SortFunc_none { Tryz.sortIt with } none 0 (.func (.func 110) #[] #[]) w
   change Calls Tryz.prog 109 _ _ _ at hcon
   exact hcon.mono fun e w' ⟨he, hw⟩ => ⟨he, [], .refl _, .nil, by rw [hw]; exact hown, by rw [hw]; exact World.grownBy.refl _ _⟩
 · have hcon := AnyQ.slices_SortFunc Tryz.sortIt 2 Tryz.isAgg61 Tryz.sizeOf61 encZ (fun _ => rfl) (fun x v hv => by simp [encZ] at hv; rcases hv with rfl | rfl <;> rfl) (fun x y => Mir.cmpS x.1.1 y.1.1) swoFrom 110 #[] g 0 cap zs.toArray w eg
     (fun _ _ _ _ x y => iclosure_any x y _) (holdsK_of_block hb rfl h4) (Array.getElem?_eq_some_iff.1 hb).1 (by simp; omega)
   have es : zs.toArray.size = zs.length := by simp
   rw [es] at hcon
   change Calls Tryz.prog 109 _ _ _ at hcon
   refine hcon.mono ?_
   rintro e w' ⟨he, d', n, os, hp, hs, hw⟩
   obtain ⟨u⟩ := d'
   have hul : u.length = zs.length := by simpa using hp.1
   have hperm : u.Perm zs := by
    have := hp.2.2
    rw [Array.toList_extract, Array.toList_extract] at this
    simpa [List.take_of_length_le (Nat.le_of_eq hul)] using this
   refine ⟨he, u, hperm, sorted_pair hul hs, ?_, ?_⟩
   · rw [hw]; exact ownsRow_sortedK hul hbase hb h1 h2 h3
   · rw [hw]; exact grownBy_sortedK _
end Go.Proofs.YtkflpoiobpblhaaGreat
