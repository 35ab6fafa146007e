/- A slice of intervals as a law's argument. -/
import Derived.Test.YtlijdbgknbeefaaDoorCalW
import Derived.Deep.SlicePairs
namespace Go.Proofs.YtlijdbgknbeefaaDoor
open Go.RowKit Go.WideShapes Go.ChangeShapes Go.ChangeAt
section
variable {H : Type} {enc : TypeId × Value → H} {w : World} {held : Bool}
theorem cells_of_pairs {w : World} {b off : Nat} (hb : b < w.heap.size) : ∀ (l : List (Int × Int)) (o : Nat), (∀ i x, l[i]? = some x → w.cell? ⟨b, off + (o + i) * 2, none⟩ = some (.int .i64 x.1) ∧ w.cell? ⟨b, off + ((o + i) * 2 + 1), none⟩ = some (.int .i64 x.2)) → ∀ j u, (ivV l)[j]? = some u → w.cell? ⟨b, off + (o * 2 + j), none⟩ = some u
  | [], _, _, j, u, hu => by simp [ivV] at hu
  | x :: l, o, h, 0, u, hu => by
    simp [ivV] at hu
    subst hu
    exact (h 0 x rfl).1
  | x :: l, o, h, 1, u, hu => by
    simp [ivV] at hu
    subst hu
    exact (h 0 x rfl).2
  | x :: l, o, h, j + 2, u, hu => by
    have := cells_of_pairs hb l (o + 1) (fun i y hi => by
      have := h (i + 1) y (by simpa using hi)
      rwa [show o + (i + 1) = o + 1 + i by omega] at this) j u (by simpa [ivV] using hu)
    rwa [show (o + 1) * 2 + j = o * 2 + (j + 2) by omega] at this
theorem open_ivs {r : Reach} {b0 : Nat} {v : Value} {d : DataW H} {p : List MemPlace} (hv : Value.okWide Tryd.prog w r b0 37 v) (h : DataW.Trod enc Tryd.prog w 0 (fun _ => true) held 37 v d p) :
    ∃ A n c, ∃ l : List (Int × Int), v = .slice A n c ∧ l.length = n ∧ n ≤ c ∧ c ≤ maxLen ∧ IvC w A l ∧ ∀ i ∈ l, (Lit.int .i64 i.1).wf = true ∧ (Lit.int .i64 i.2).wf = true := by
  obtain ⟨a0, len, cap, rfl⟩ := okWide_slice Tryd.underlying37 hv
  obtain ⟨fuel, hf⟩ := h
  rcases Go.Deep.open_slice_pairs Tryd.underlying37 Tryd.underlying43 (by kernel_rfl) rfl rfl (by kernel_rfl) (by kernel_rfl) hf with ⟨hcs, _⟩ | ⟨a, len', cap', m, k, V0, V1, D0, D1, P0, P1, hcs, _, hl, hm, hmm, _, hi⟩
  · simp [Value.cells] at hcs
    obtain ⟨rfl, rfl, rfl⟩ := hcs
    exact ⟨none, 0, 0, [], rfl, rfl, Nat.le_refl _, Nat.zero_le _, IvC.nil_ _ _, by simp⟩
  · simp [Value.cells] at hcs
    obtain ⟨rfl, rfl, rfl⟩ := hcs
    have hm' : m = cap := by simpa using hmm
    subst hm'
    have each : ∀ i, i < len → ∃ x y : Int, w.cell? (a.add (i * 2)) = some (.int .i64 x) ∧ w.cell? (a.add (i * 2 + 1)) = some (.int .i64 y) ∧ (Lit.int .i64 x).wf = true ∧ (Lit.int .i64 y).wf = true := fun i hlt => by
      obtain ⟨c0, c1, t0, t1⟩ := hi i (by omega)
      obtain ⟨x, hx, -, wx⟩ := DataW.trod_int (k := .i64) Tryd.underlying3 t0
      obtain ⟨y, hy, -, wy⟩ := DataW.trod_int (k := .i64) Tryd.underlying3 t1
      simp at hx hy
      rw [hx] at c0
      rw [hy] at c1
      exact ⟨x, y, c0, c1, wx, wy⟩
    have hl1 : ∀ i x, ((List.range len).map fun i => (intOf (V0 i), intOf (V1 i)))[i]? = some x → w.cell? (a.add (i * 2)) = some (.int .i64 x.1) ∧ w.cell? (a.add (i * 2 + 1)) = some (.int .i64 x.2) ∧ (Lit.int .i64 x.1).wf = true ∧ (Lit.int .i64 x.2).wf = true := fun i x hx => by
      have hlt : i < len := by
        have := (List.getElem?_eq_some_iff.1 hx).1
        simpa using this
      simp [hlt] at hx
      obtain ⟨x', y', c0, c1, wx, wy⟩ := each i hlt
      obtain ⟨d0, d1, _, _⟩ := hi i (by omega)
      rw [d0] at c0
      rw [d1] at c1
      injection c0 with c0
      injection c1 with c1
      subst hx
      rw [c0, c1]
      rw [d0, d1, c0, c1]
      exact ⟨rfl, rfl, wx, wy⟩
    refine ⟨some a, len, m, (List.range len).map fun i => (intOf (V0 i), intOf (V1 i)), rfl, by simp, hl, hm, ?_, fun x hx => ?_⟩
    · rcases Nat.eq_zero_or_pos len with rfl | hpos
      · exact .inl (by simp [ivV])
      · obtain ⟨b, off, spot⟩ := a
        obtain ⟨x', y', c0, _, _, _⟩ := each 0 hpos
        have hspot : spot = none := by simpa [Addr.add] using World.cell?_spot c0
        subst hspot
        refine .inr ⟨b, off, rfl, World.block_lt_of_cell? w _ c0, fun j u hu => ?_⟩
        have := cells_of_pairs (w := w) (b := b) (off := off) (World.block_lt_of_cell? w _ c0) _ 0 (fun i x hx => by
          have h1 := hl1 i x hx
          rw [Go.WideShapes.add_plain, Go.WideShapes.add_plain] at h1
          rw [Nat.zero_add]
          exact ⟨h1.1, h1.2.1⟩) j u hu
        simpa using this
    · obtain ⟨i, hi'⟩ := List.getElem?_of_mem hx
      exact ⟨(hl1 i x hi').2.2.1, (hl1 i x hi').2.2.2⟩
end
end Go.Proofs.YtlijdbgknbeefaaDoor
