/- Walks and plain laws that the statement rests on: MAppP. -/
import Derived.Test.YtkflpoiobpblhaaP00
import Derived.Test.YtkflpoiobpblhaaP35
import Derived.Test.YtkflpoiobpblhaaP36
import Derived.Test.YtkflpoiobpblhaaP37
namespace Go.Proofs.Ytkflpoiobpblhaa
open Go.RowKit
set_option linter.unusedVariables false
set_option linter.unusedSimpArgs false
def ItDat (w : World) (zs : List Mir.Zi) : Prop := ∀ z ∈ zs, z.1.2.length ≤ z.2.2 ∧ z.2.2 ≤ maxLen ∧ Cells w z.2.1 (Mir.bytesI z.1.2) ∧ ∀ b ∈ z.1.2, b < 256
theorem ItDat.snoc {w : World} {zs : List Mir.Zi} (h : ItDat w zs) (z : Mir.Zi) (h1 : z.1.2.length ≤ z.2.2) (h2 : z.2.2 ≤ maxLen) (h3 : Cells w z.2.1 (Mir.bytesI z.1.2)) (h4 : ∀ b ∈ z.1.2, b < 256) : ItDat w (zs ++ [z]) := by
  intro y hy
  rcases List.mem_append.1 hy with hy | hy
  · exact h y hy
  · rw [List.mem_singleton] at hy; subst hy; exact ⟨h1, h2, h3, h4⟩
theorem ItDat.items {w w' : World} {zs : List Mir.Zi} {A : Option Addr} (h : ItDat w zs) (hb : Below w.heap.size w w') (hc : Cells w' A (itZ zs)) : ItemsC w' A (zs.map Prod.fst) := by
  refine ⟨zs.map Prod.snd, by simp, by rw [itZ_itV]; exact hc, fun k g x e1 e2 => ?_⟩
  rw [List.getElem?_map] at e1 e2
  cases hz : zs[k]? with
  | none => rw [hz] at e1; cases e1
  | some z =>
    rw [hz] at e1 e2
    simp at e1 e2
    subst e1; subst e2
    have := h z (List.mem_of_getElem? hz)
    exact ⟨this.1, this.2.1, this.2.2.1.below hb, this.2.2.2⟩
theorem itZ_get : ∀ (zs : List Mir.Zi) (k : Nat) (z : Mir.Zi), zs[k]? = some z → (itZ zs)[k * 2]? = some (.string z.1.1) ∧ (itZ zs)[k * 2 + 1]? = some (.slice z.2.1 z.1.2.length z.2.2)
  | y :: zs, 0, z, e => by simp at e; subst e; simp [itZ]
  | y :: zs, k + 1, z, e => by
    have := itZ_get zs k z (by simpa using e)
    rw [show (k + 1) * 2 = k * 2 + 1 + 1 by omega]
    simpa [itZ] using this
  | [], _, _, e => by simp at e
theorem its_at {wb w : World} {A : Option Addr} {a : List Mir.It} {za : List Mir.Zi} (hz : za.map Prod.fst = a) (hd : ItDat wb za) (h : Cells w A (itZ za)) (hl : 0 < a.length) :
    ∃ b off, A = some ⟨b, off, none⟩ ∧ b < w.heap.size ∧ ∀ (k : Nat) (x : Mir.It), a[k]? = some x → ∃ D c, w.cell? ⟨b, off + k * 2, none⟩ = some (.string x.1) ∧ w.cell? ⟨b, off + k * 2 + 1, none⟩ = some (.slice D x.2.length c) ∧ x.2.length ≤ c ∧ c ≤ maxLen ∧ Cells wb D (Mir.bytesI x.2) ∧ ∀ b ∈ x.2, b < 256 := by
  have hzl : za.length = a.length := by rw [← hz, List.length_map]
  obtain ⟨b, off, rfl, hb, hc⟩ := Cells.addr h (by rw [itZ_length]; omega)
  refine ⟨b, off, rfl, hb, fun k x hx => ?_⟩
  rw [← hz, List.getElem?_map] at hx
  cases hk : za[k]? with
  | none => rw [hk] at hx; cases hx
  | some z =>
    rw [hk] at hx
    simp at hx
    subst hx
    obtain ⟨g1, g2⟩ := itZ_get za k z hk
    obtain ⟨e1, e2, e3, e4⟩ := hd z (List.mem_of_getElem? hk)
    exact ⟨z.2.1, z.2.2, hc _ _ g1, by rw [Nat.add_assoc]; exact hc _ _ g2, e1, e2, e3, e4⟩
theorem items_zs {w : World} {A : Option Addr} {l : List Mir.It} (h : ItemsC w A l) : ∃ za : List Mir.Zi, za.map Prod.fst = l ∧ ItDat w za ∧ Cells w A (itZ za) := by
  obtain ⟨hs, h1, h2, h3⟩ := h
  have e1 : (l.zip hs).map Prod.fst = l := List.map_fst_zip (by omega)
  have e2 : (l.zip hs).map Prod.snd = hs := List.map_snd_zip (by omega)
  refine ⟨l.zip hs, e1, fun z hz => ?_, by rw [← itZ_itV, e1, e2]; exact h2⟩
  obtain ⟨k, hk, rfl⟩ := List.getElem_of_mem hz
  have hk' : k < l.length := by simp at hk; omega
  have hk2 : k < hs.length := by simp at hk; omega
  rw [List.getElem_zip]
  exact h3 k hs[k] l[k] (List.getElem?_eq_getElem hk2) (List.getElem?_eq_getElem hk')
namespace Mir
def putK (l : List Ch) (k : Nat) : List It := ((l.take k).filter fun x => !x.2).map (·.1)
def namesK (l : List Ch) (k : Nat) : List (List UInt8) := (l.take k).map fun x => x.1.1.data.toList
def keptK (a : List It) (l : List Ch) (k : Nat) : List It := (a.take k).filter fun x => !hasN (l.map chN) x.1
theorem putK_gone {l : List Ch} {k : Nat} {x : It} (h : l[k]? = some (x, true)) : putK l (k + 1) = putK l k := by
  unfold putK
  rw [List.take_add_one, h, List.filter_append, List.map_append]; simp
theorem putK_put {l : List Ch} {k : Nat} {x : It} (h : l[k]? = some (x, false)) : putK l (k + 1) = putK l k ++ [x] := by
  unfold putK
  rw [List.take_add_one, h, List.filter_append, List.map_append]; simp
theorem namesK_succ {l : List Ch} {k : Nat} {x : Ch} (h : l[k]? = some x) : namesK l (k + 1) = namesK l k ++ [x.1.1.data.toList] := by
  unfold namesK
  rw [List.take_add_one, h, List.map_append]; rfl
theorem namesK_length {l : List Ch} {k : Nat} (h : k ≤ l.length) : (namesK l k).length = k := by unfold namesK; simp; omega
theorem data_inj {x y : ByteArray} (h : x.data.toList = y.data.toList) : x = y := ByteArray.ext (Array.toList_inj.1 h)
theorem namesK_new {l : List Ch} {k : Nat} {x : Ch} (hi : Inc (l.map chN)) (h : l[k]? = some x) : x.1.1.data.toList ∉ namesK l k := by
  intro hm
  unfold namesK at hm
  obtain ⟨y, hy, he⟩ := List.mem_map.1 hm
  obtain ⟨j, hj, hje⟩ := List.getElem_of_mem hy
  have hj' : j < k := by simp at hj; omega
  rw [List.getElem_take] at hje
  have hk := (List.getElem?_eq_some_iff.1 h).1
  have hkx := (List.getElem?_eq_some_iff.1 h).2
  rw [Inc, List.pairwise_iff_getElem] at hi
  have := hi j k (by simp; omega) (by simpa using hk) hj'
  rw [List.getElem_map, List.getElem_map, hje, hkx] at this
  exact nlt_ne this (data_inj he)
theorem names_look (l : List Ch) (s : ByteArray) : decide (s.data.toList ∈ namesK l l.length) = hasN (l.map chN) s := by
  have e : (s.data.toList ∈ namesK l l.length) ↔ s ∈ l.map chN := by
    unfold namesK
    rw [List.take_length]
    constructor
    · intro h
      obtain ⟨x, hx, he⟩ := List.mem_map.1 h
      rw [← data_inj he]
      exact List.mem_map.2 ⟨x, hx, rfl⟩
    · intro h
      obtain ⟨x, hx, rfl⟩ := List.mem_map.1 h
      exact List.mem_map.2 ⟨x, hx, rfl⟩
  cases h : hasN (l.map chN) s with
  | true => exact decide_eq_true (e.2 (hasN_iff.1 h))
  | false => exact decide_eq_false (fun h' => by rw [hasN_iff.2 (e.1 h')] at h; cases h)
theorem keptK_in {a : List It} {l : List Ch} {k : Nat} {x : It} (h : a[k]? = some x) (hh : hasN (l.map chN) x.1 = true) : keptK a l (k + 1) = keptK a l k := by
  unfold keptK
  rw [List.take_add_one, h, List.filter_append]; simp [hh]
theorem keptK_out {a : List It} {l : List Ch} {k : Nat} {x : It} (h : a[k]? = some x) (hh : hasN (l.map chN) x.1 = false) : keptK a l (k + 1) = keptK a l k ++ [x] := by
  unfold keptK
  rw [List.take_add_one, h, List.filter_append]; simp [hh]
theorem merged_eq (a : List It) (l : List Ch) : putK l l.length ++ keptK a l a.length = merged a l := by
  unfold putK keptK merged
  rw [List.take_length, List.take_length]
theorem inc_nodup {ns : List ByteArray} (h : Inc ns) : ns.Nodup := h.imp fun h => nlt_ne h
theorem merged_nodup {a : List It} {l : List Ch} (ha : Inc (a.map Prod.fst)) (hl : Inc (l.map chN)) : ((merged a l).map Prod.fst).Nodup := by
  unfold merged
  rw [List.map_append, List.nodup_append]
  refine ⟨?_, ?_, ?_⟩
  · rw [List.map_map]
    exact (inc_nodup hl).sublist ((List.filter_sublist (l := l)).map (Prod.fst ∘ fun x => x.1))
  · exact (inc_nodup ha).sublist ((List.filter_sublist (l := a)).map Prod.fst)
  · intro x hx y hy e
    subst e
    obtain ⟨z, hz, rfl⟩ := List.mem_map.1 hy
    have h1 := (List.mem_filter.1 hz).2
    obtain ⟨u, hu, hue⟩ := List.mem_map.1 hx
    obtain ⟨v, hv, rfl⟩ := List.mem_map.1 hu
    have h2 : z.1 ∈ l.map chN := List.mem_map.2 ⟨v, (List.mem_filter.1 hv).1, hue⟩
    rw [hasN_iff.2 h2] at h1; cases h1
theorem inc_of : ∀ u : List It, u.Pairwise (fun a b => nlt b.1 a.1 = false) → (u.map Prod.fst).Nodup → Inc (u.map Prod.fst)
  | [], _, _ => .nil
  | x :: u, h, hn => by
    rw [List.pairwise_cons] at h
    rw [List.map_cons, List.nodup_cons] at hn
    rw [inc_cons]
    refine ⟨fun z hz => ?_, inc_of u h.2 hn.2⟩
    cases e : nlt x.1 z.1 with
    | true => rfl
    | false =>
      have := nlt_tri e (h.1 z hz)
      exact absurd (List.mem_map.2 ⟨z, hz, this.symm⟩) hn.1
theorem sorted_out {a : List It} {l : List Ch} (ha : Inc (a.map Prod.fst)) (hl : Inc (l.map chN)) {us zs : List Zi} (hz : zs.map Prod.fst = merged a l) (hp : us.Perm zs) (hs : us.Pairwise (fun a b => nlt b.1.1 a.1.1 = false)) : us.map Prod.fst = sortI (merged a l) := by
  have hp' : (us.map Prod.fst).Perm (merged a l) := hz ▸ hp.map Prod.fst
  have hn : ((us.map Prod.fst).map Prod.fst).Nodup := (hp'.map Prod.fst).nodup_iff.2 (merged_nodup ha hl)
  exact (sortI_eq hp'.symm (inc_of _ (List.pairwise_map.2 hs) hn)).symm
theorem okC_none {a : List It} {x : Ch} (h : ∀ y ∈ a, y.1 ≠ x.1.1) : okC a x = !x.2 := by
  unfold okC
  rw [List.find?_eq_none.2 fun y hy => by simpa using h y hy]
theorem okC_some {a : List It} (ha : Inc (a.map Prod.fst)) {s : ByteArray} {d e : List Nat} {g : Bool} (h : (s, e) ∈ a) : okC a ((s, d), g) = if g then decide (d = []) else !itEq (s, e) (s, d) := by
  unfold okC
  rw [show ((s, d), g).1.1 = (s, e).1 from rfl, find_inc ha h]
theorem app_bad {a : List It} {l : List Ch} {k : Nat} {x : Ch} (h : l[k]? = some x) (hb : okC a x = false) : l.all (okC a) = false := List.all_eq_false.2 ⟨x, List.mem_of_getElem? h, by rw [hb]; simp⟩
theorem app_good {a : List It} {l : List Ch} (h : ∀ j x, j < l.length → l[j]? = some x → okC a x = true) : l.all (okC a) = true := List.all_eq_true.2 fun x hx => by
  obtain ⟨j, hj, rfl⟩ := List.getElem_of_mem hx
  exact h j _ hj (List.getElem?_eq_getElem hj)
end Mir
end Go.Proofs.Ytkflpoiobpblhaa
