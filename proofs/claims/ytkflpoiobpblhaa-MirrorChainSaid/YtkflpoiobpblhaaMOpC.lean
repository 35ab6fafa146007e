/- Mirror's laws: items and versions as arguments. -/
import Derived.Deep.Slices
import Derived.Lib.SmallJoins
import Derived.OpenShut
import Derived.Test.YtkflpoiobpblhaaP31
import Derived.Test.YtkflpoiobpblhaaP48
namespace Go.Proofs.Ytkflpoiobpblhaa
open Go.RowKit Go.WideShapes Go.ChangeShapes Go.ChangeAt
set_option linter.unusedVariables false
set_option linter.unusedSimpArgs false
section
variable {w : World}
theorem cells_of_its {b off : Nat} : ∀ (hs : List (Option Addr × Nat)) (l : List Mir.It) (o : Nat), (∀ i h x, hs[i]? = some h → l[i]? = some x → w.cell? ⟨b, off + (o + i) * 2, none⟩ = some (.string x.1) ∧ w.cell? ⟨b, off + (o + i) * 2 + 1, none⟩ = some (.slice h.1 x.2.length h.2)) →
    ∀ j u, (Mir.itV hs l)[j]? = some u → w.cell? ⟨b, off + (o * 2 + j), none⟩ = some u
  | [], l, o, _, j, u, hu => by simp [Mir.itV] at hu
  | h :: hs, [], o, _, j, u, hu => by simp [Mir.itV] at hu
  | h :: hs, x :: l, o, f, 0, u, hu => by
    simp [Mir.itV] at hu; subst hu
    have := (f 0 h x rfl rfl).1
    rwa [show off + (o + 0) * 2 = off + (o * 2 + 0) by omega] at this
  | h :: hs, x :: l, o, f, 1, u, hu => by
    simp [Mir.itV] at hu; subst hu
    have := (f 0 h x rfl rfl).2
    rwa [show off + (o + 0) * 2 + 1 = off + (o * 2 + 1) by omega] at this
  | h :: hs, x :: l, o, f, j + 2, u, hu => by
    have := cells_of_its hs l (o + 1) (fun i g y e1 e2 => by
      have := f (i + 1) g y (by simpa using e1) (by simpa using e2)
      rwa [show o + (i + 1) = o + 1 + i by omega] at this) j u (by simpa [Mir.itV] using hu)
    rwa [show off + ((o + 1) * 2 + j) = off + (o * 2 + (j + 2)) by omega] at this
end
section
variable {H : Type} {enc : TypeId × Value → H} {w : World} {held : Bool}
theorem open_data_at {fuel : Nat} {v : Value} {y : DataW H × List MemPlace} (hf : DataW.trod enc Try.prog w 0 (fun _ => true) held fuel 39 [v] = some y) :
    ∃ A c, ∃ l : List Nat, v = .slice A l.length c ∧ l.length ≤ c ∧ c ≤ maxLen ∧ Cells w A (Mir.bytesI l) ∧ ∀ b ∈ l, b < 256 := by
  rcases Go.Deep.open_slice1 Try.underlying39 (by kernel_rfl) hf with ⟨hcs, _⟩ | ⟨a, len, cap, m, k, V, D, Pl, hcs, _, hl, hm, hmm, hyx, hi⟩
  · simp at hcs
    subst hcs
    exact ⟨none, 0, [], rfl, Nat.le_refl _, Nat.zero_le _, .inl (by simp [Mir.bytesI]), by simp⟩
  · simp at hcs
    subst hcs
    have hm' : m = cap := by simpa using hmm
    subst hm'
    have each : ∀ i, i < len → ∃ n : Nat, n < 256 ∧ w.cell? (a.add i) = some (.int .u8 (n : Int)) := fun i hlt => by
      obtain ⟨h1, h2⟩ := hi i (by omega)
      obtain ⟨n, hn, -, hw⟩ := DataW.trod_int (k := .u8) Try.underlying5 h2
      have hb : 0 ≤ n ∧ n ≤ 255 := by
        simp [Lit.wf, IntKind.min, IntKind.max, IntKind.signed, IntKind.bits] at hw
        omega
      simp at hn
      rw [hn] at h1
      exact ⟨n.toNat, by omega, by rw [h1, Int.toNat_of_nonneg hb.1]⟩
    obtain ⟨f, hf⟩ := Go.Deep.choose_lt each
    refine ⟨some a, m, (List.range len).map f, by simp, by simpa using hl, hm, ?_, fun x hx => ?_⟩
    · rcases Nat.eq_zero_or_pos len with rfl | hpos
      · exact .inl (by simp [Mir.bytesI])
      · obtain ⟨b, off, spot⟩ := a
        have c0 := (hf 0 hpos).2
        have hspot : spot = none := by simpa [Addr.add] using World.cell?_spot c0
        subst hspot
        refine .inr ⟨b, off, rfl, World.block_lt_of_cell? w _ c0, fun j u hu => ?_⟩
        unfold Mir.bytesI at hu
        have hlt : j < len := by
          have := (List.getElem?_eq_some_iff.1 hu).1
          simpa using this
        simp [hlt] at hu
        subst hu
        have h1 := (hf j hlt).2
        rw [Go.WideShapes.add_plain] at h1
        exact h1
    · obtain ⟨i, hi', rfl⟩ := List.mem_map.1 hx
      exact (hf i (List.mem_range.1 hi')).1
theorem two_of {cs : List Value} (h : cs.length = 2) : ∃ a b, cs = [a, b] := by
  match cs, h with
  | [a, b], _ => exact ⟨a, b, rfl⟩
theorem open_item_at {fuel : Nat} {cs : List Value} {y : DataW H × List MemPlace} (hf : DataW.trod enc Try.prog w 0 (fun _ => true) held fuel 65 cs = some y) :
    ∃ q : (Option Addr × Nat) × Mir.It, cs = [.string q.2.1, .slice q.1.1 q.2.2.length q.1.2] ∧ q.2.2.length ≤ q.1.2 ∧ q.1.2 ≤ maxLen ∧ Cells w q.1.1 (Mir.bytesI q.2.2) ∧ ∀ b ∈ q.2.2, b < 256 := by
  obtain ⟨y0, y1, n, -, hl, h0, h1⟩ := trod_struct2 Try.underlying65 hf
  rw [show Try.prog.cellsOf 65 = 2 by kernel_rfl] at hl
  obtain ⟨c0, c1, rfl⟩ := two_of hl
  have h0' : DataW.trod enc Try.prog w 0 (fun _ => true) held n 9 [c0] = some y0 := by
    simpa [show Try.prog.cellsOf 9 = 1 by kernel_rfl] using h0
  have h1' : DataW.trod enc Try.prog w 0 (fun _ => true) held n 39 [c1] = some y1 := by
    simpa [show Try.prog.cellsOf 39 = 1 by kernel_rfl] using h1
  obtain ⟨s, hs, -, -⟩ := DataW.trod_string Try.underlying9 h0'
  obtain ⟨A, c, l, rfl, e1, e2, e3, e4⟩ := open_data_at h1'
  simp at hs
  subst hs
  exact ⟨((A, c), (s, l)), rfl, e1, e2, e3, e4⟩
instance : Inhabited ((Option Addr × Nat) × Mir.It) := ⟨((none, 0), (⟨#[]⟩, []))⟩
instance : Inhabited ((Option Addr × Nat) × Mir.Ch) := ⟨((none, 0), ((⟨#[]⟩, []), false))⟩
theorem open_items_at {fuel : Nat} {v : Value} {y : DataW H × List MemPlace} (hf : DataW.trod enc Try.prog w 0 (fun _ => true) held fuel 22 [v] = some y) :
    ∃ A n c, ∃ l : List Mir.It, v = .slice A n c ∧ l.length = n ∧ n ≤ c ∧ c ≤ maxLen ∧ ItemsC w A l := by
  rcases Go.Deep.open_slice Try.underlying22 hf with ⟨hcs, _⟩ | ⟨a, len, cap, m, k, D, Pl, hcs, _, hl, hm, hmm, _, hi⟩
  · simp at hcs
    subst hcs
    exact ⟨none, 0, 0, [], rfl, rfl, Nat.le_refl _, Nat.zero_le _, ItemsC.nil_ _ _⟩
  · simp at hcs
    subst hcs
    have hm' : m = cap := by simpa using hmm
    subst hm'
    rw [show Try.prog.cellsOf 65 = 2 by kernel_rfl] at hi
    have each : ∀ i, i < len → ∃ q : (Option Addr × Nat) × Mir.It, w.cell? ((a.add (i * 2)).add 0) = some (.string q.2.1) ∧ w.cell? ((a.add (i * 2)).add 1) = some (.slice q.1.1 q.2.2.length q.1.2) ∧ q.2.2.length ≤ q.1.2 ∧ q.1.2 ≤ maxLen ∧ Cells w q.1.1 (Mir.bytesI q.2.2) ∧ ∀ b ∈ q.2.2, b < 256 := fun i hlt => by
      obtain ⟨cs', h1, h2⟩ := hi i (by omega)
      obtain ⟨q, rfl, e⟩ := open_item_at h2
      obtain ⟨_, _, hc⟩ := World.cells?_some h1
      exact ⟨q, by rw [hc 0 (by omega)]; rfl, by rw [hc 1 (by omega)]; rfl, e⟩
    obtain ⟨f, hf⟩ := Go.Deep.choose_lt each
    refine ⟨some a, len, m, (List.range len).map fun i => (f i).2, rfl, by simp, hl, hm, ?_⟩
    rcases Nat.eq_zero_or_pos len with rfl | hpos
    · exact ItemsC.nil_ _ _
    · obtain ⟨b, off, spot⟩ := a
      have c0 := (hf 0 hpos).1
      have hspot : spot = none := by simpa [Addr.add] using World.cell?_spot c0
      subst hspot
      have hlk : ∀ i h x, ((List.range len).map fun i => (f i).1)[i]? = some h → ((List.range len).map fun i => (f i).2)[i]? = some x → i < len ∧ (f i).1 = h ∧ (f i).2 = x := fun i h x e1 e2 => by
        have hlt : i < len := by
          have := (List.getElem?_eq_some_iff.1 e1).1
          simpa using this
        simp [hlt] at e1 e2
        exact ⟨hlt, e1, e2⟩
      refine ⟨(List.range len).map fun i => (f i).1, by simp, .inr ⟨b, off, rfl, World.block_lt_of_cell? w _ c0, fun j u hu => ?_⟩, fun i h x e1 e2 => ?_⟩
      · have := cells_of_its (w := w) (b := b) (off := off) _ _ 0 (fun i h x e1 e2 => by
          obtain ⟨hlt, rfl, rfl⟩ := hlk i h x e1 e2
          have h1 := (hf i hlt).1
          have h2 := (hf i hlt).2.1
          simp only [Go.WideShapes.add_plain] at h1 h2
          rw [Nat.zero_add]
          exact ⟨by simpa using h1, h2⟩) j u hu
        simpa using this
      · obtain ⟨hlt, rfl, rfl⟩ := hlk i h x e1 e2
        exact (hf i hlt).2.2
set_option maxRecDepth 100000 in
theorem open_items {r : Reach} {b0 : Nat} {v : Value} {d : DataW H} {p : List MemPlace} (hv : Value.okWide Try.prog w r b0 22 v) (h : DataW.Trod enc Try.prog w 0 (fun _ => true) held 22 v d p) :
    ∃ A n c, ∃ l : List Mir.It, v = .slice A n c ∧ l.length = n ∧ n ≤ c ∧ c ≤ maxLen ∧ ItemsC w A l := by
  obtain ⟨A, n, c, rfl⟩ := Go.WideShapes.okWide_slice Try.underlying22 hv
  obtain ⟨fuel, hf⟩ := h
  exact open_items_at hf
end
end Go.Proofs.Ytkflpoiobpblhaa
