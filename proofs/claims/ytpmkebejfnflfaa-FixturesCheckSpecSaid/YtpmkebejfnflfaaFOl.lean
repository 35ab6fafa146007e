/- Fixtures' laws: a list of rounds as an argument. -/
import Derived.Test.YtpmkebejfnflfaaFOp
import Derived.SizedLaws
namespace Go.Proofs.Ytpmkebejfnflfaa
open Go.RowKit Go.WideShapes Go.ChangeShapes Go.ChangeAt
section
variable {H : Type} {enc : TypeId × Value → H} {w : World} {held : Bool}
theorem cells_of_pairs {w : World} {b off : Nat} (hb : b < w.heap.size) : ∀ (l : List (Int × Int)) (o : Nat), (∀ i x, l[i]? = some x → w.cell? ⟨b, off + (o + i) * 2, none⟩ = some (.int .i64 x.1) ∧ w.cell? ⟨b, off + ((o + i) * 2 + 1), none⟩ = some (.int .i64 x.2)) → ∀ j u, (ivV l)[j]? = some u → w.cell? ⟨b, off + (o * 2 + j), none⟩ = some u
  | [], _, _, j, u, hu => by simp [ivV] at hu
  | x :: l, o, h, 0, u, hu => by
    simp [ivV] at hu
    subst hu
    exact (h 0 x rfl).1
  | x :: l, o, h, 1, u, hu => by
    simp [ivV] at hu
    subst hu
    exact (h 0 x rfl).2
  | x :: l, o, h, j + 2, u, hu => by
    have := cells_of_pairs hb l (o + 1) (fun i y hi => by
      have := h (i + 1) y (by simpa using hi)
      rwa [show o + (i + 1) = o + 1 + i by omega] at this) j u (by simpa [ivV] using hu)
    rwa [show (o + 1) * 2 + j = o * 2 + (j + 2) by omega] at this
theorem open_ms_at {fuel : Nat} {v : Value} {y : DataW H × List MemPlace} (hf : DataW.trod enc Try.prog w 0 (fun _ => true) held fuel 46 [v] = some y) :
    ∃ A n c, ∃ l : List (Int × Int), v = .slice A n c ∧ l.length = n ∧ n ≤ c ∧ c ≤ maxLen ∧ IvC w A l ∧ (∀ i ∈ l, WfM i) ∧ (n = 0 ∨ ∃ el sp : List (DataW H), y.1 = .slice el sp ∧ el.length = n) := by
  have hsl : ∀ {a : Option Addr} {len cap : Nat}, v = .slice a len cap → (len = 0 ∨ ∃ el sp : List (DataW H), y.1 = .slice el sp ∧ el.length = len) := by
    intro a len cap e
    subst e
    obtain ⟨d, ps⟩ := y
    have hs := Go.Joins.sliceLen_trod Try.underlying46 hf
    cases d <;> simp [Go.Joins.sliceLen] at hs
    case slice el sp => exact .inr ⟨el, sp, rfl, hs⟩
    all_goals exact .inl (by omega)
  rcases Go.Deep.open_slice_pairs Try.underlying46 Try.underlying51 (by kernel_rfl) rfl rfl (by kernel_rfl) (by kernel_rfl) hf with ⟨hcs, _⟩ | ⟨a, len, cap, m, k, V0, V1, D0, D1, P0, P1, hcs, _, hl, hm, hmm, _, hi⟩
  · simp at hcs
    subst hcs
    exact ⟨none, 0, 0, [], rfl, rfl, Nat.le_refl _, Nat.zero_le _, IvC.nil_ _ _, by simp, .inl rfl⟩
  · simp at hcs
    subst hcs
    have hm' : m = cap := by simpa using hmm
    subst hm'
    have each : ∀ i, i < len → ∃ x y : Int, w.cell? (a.add (i * 2)) = some (.int .i64 x) ∧ w.cell? (a.add (i * 2 + 1)) = some (.int .i64 y) ∧ (Lit.int .i64 x).wf = true ∧ (Lit.int .i64 y).wf = true := fun i hlt => by
      obtain ⟨c0, c1, t0, t1⟩ := hi i (by omega)
      obtain ⟨x, hx, -, wx⟩ := DataW.trod_int (k := .i64) Try.underlying3 t0
      obtain ⟨y, hy, -, wy⟩ := DataW.trod_int (k := .i64) Try.underlying3 t1
      simp at hx hy
      rw [hx] at c0
      rw [hy] at c1
      exact ⟨x, y, c0, c1, wx, wy⟩
    have hl1 : ∀ i x, ((List.range len).map fun i => (intOf (V0 i), intOf (V1 i)))[i]? = some x → w.cell? (a.add (i * 2)) = some (.int .i64 x.1) ∧ w.cell? (a.add (i * 2 + 1)) = some (.int .i64 x.2) ∧ (Lit.int .i64 x.1).wf = true ∧ (Lit.int .i64 x.2).wf = true := fun i x hx => by
      have hlt : i < len := by
        have := (List.getElem?_eq_some_iff.1 hx).1
        simpa using this
      simp [hlt] at hx
      obtain ⟨x', y', c0, c1, wx, wy⟩ := each i hlt
      obtain ⟨d0, d1, _, _⟩ := hi i (by omega)
      rw [d0] at c0
      rw [d1] at c1
      injection c0 with c0
      injection c1 with c1
      subst hx
      rw [c0, c1]
      rw [d0, d1, c0, c1]
      exact ⟨rfl, rfl, wx, wy⟩
    refine ⟨some a, len, m, (List.range len).map fun i => (intOf (V0 i), intOf (V1 i)), rfl, by simp, hl, hm, ?_, fun x hx => ?_, hsl rfl⟩
    · rcases Nat.eq_zero_or_pos len with rfl | hpos
      · exact .inl (by simp [ivV])
      · obtain ⟨b, off, spot⟩ := a
        obtain ⟨x', y', c0, _, _, _⟩ := each 0 hpos
        have hspot : spot = none := by simpa [Addr.add] using World.cell?_spot c0
        subst hspot
        refine .inr ⟨b, off, rfl, World.block_lt_of_cell? w _ c0, fun j u hu => ?_⟩
        have := cells_of_pairs (w := w) (b := b) (off := off) (World.block_lt_of_cell? w _ c0) _ 0 (fun i x hx => by
          have h1 := hl1 i x hx
          rw [Go.WideShapes.add_plain, Go.WideShapes.add_plain] at h1
          rw [Nat.zero_add]
          exact ⟨h1.1, h1.2.1⟩) j u hu
        simpa using this
    · obtain ⟨i, hi'⟩ := List.getElem?_of_mem hx
      exact ⟨(hl1 i x hi').2.2.1, (hl1 i x hi').2.2.2⟩
theorem weightsAll_mem {P : Program} {e : TypeId} {n : Nat} {d : DataW H} : ∀ {ds : List (DataW H)}, d ∈ ds → n ∈ DataW.weights P e d → n ∈ DataW.weightsAll P e ds
  | [], h, _ => by simp at h
  | x :: ds, h, hn => by
    unfold DataW.weightsAll
    rcases List.mem_cons.1 h with rfl | h
    · exact List.mem_append.2 (.inl hn)
    · exact List.mem_append.2 (.inr (weightsAll_mem h hn))
theorem rows_of {w : World} {b off : Nat} : ∀ (n o : Nat) (f : Nat → (Option Addr × Nat) × List (Int × Int)), (∀ i, i < n → w.cell? ⟨b, off + (o + i), none⟩ = some (.slice (f (o + i)).1.1 (f (o + i)).2.length (f (o + i)).1.2)) →
    ∀ j u, (rowV ((List.range n).map fun i => (f (o + i)).1) ((List.range n).map fun i => (f (o + i)).2))[j]? = some u → w.cell? ⟨b, off + (o + j), none⟩ = some u := by
  intro n o f h j u hu
  have hlt : j < n := by
    have := (List.getElem?_eq_some_iff.1 hu).1
    rw [rowV_length _ _ (by simp)] at this
    simpa using this
  rw [rowV_get _ _ j (f (o + j)).1 (f (o + j)).2 (by simp [hlt]) (by simp [hlt])] at hu
  injection hu with hu
  rw [← hu]
  exact h j hlt
instance : Inhabited ((Option Addr × Nat) × List (Int × Int)) := ⟨((none, 0), [])⟩
theorem open_rounds_at {fuel : Nat} {v : Value} {y : DataW H × List MemPlace} (hf : DataW.trod enc Try.prog w 0 (fun _ => true) held fuel 24 [v] = some y) :
    ∃ A n c, ∃ ls : List (List (Int × Int)), v = .slice A n c ∧ ls.length = n ∧ n ≤ c ∧ c ≤ maxLen ∧ RoundsC w A ls ∧ (∀ l ∈ ls, ∀ x ∈ l, WfM x) ∧ ((∀ k ∈ DataW.weights Try.prog 24 y.1, k ≤ reachBytes) → ∀ l ∈ ls, l.length * 16 ≤ reachBytes) := by
  rcases Go.Deep.open_slice1 Try.underlying24 (by kernel_rfl) hf with ⟨hcs, _⟩ | ⟨a, len, cap, m, k, V, D, Pl, hcs, _, hl, hm, hmm, hyx, hi⟩
  · simp at hcs
    subst hcs
    exact ⟨none, 0, 0, [], rfl, rfl, Nat.le_refl _, Nat.zero_le _, RoundsC.nil_ _ _, by simp, fun _ => by simp⟩
  · simp at hcs
    subst hcs
    have hm' : m = cap := by simpa using hmm
    subst hm'
    have each : ∀ i, i < len → ∃ q : (Option Addr × Nat) × List (Int × Int), w.cell? (a.add i) = some (.slice q.1.1 q.2.length q.1.2) ∧ q.2.length ≤ q.1.2 ∧ q.1.2 ≤ maxLen ∧ IvC w q.1.1 q.2 ∧ (∀ x ∈ q.2, WfM x) ∧ (q.2.length = 0 ∨ ∃ el sp : List (DataW H), D i = .slice el sp ∧ el.length = q.2.length) := fun i hlt => by
      obtain ⟨h1, h2⟩ := hi i (by omega)
      obtain ⟨A, n, c, l, e1, e2, e3, e4, e5, e6, e7⟩ := open_ms_at h2
      subst e2
      rw [e1] at h1
      exact ⟨((A, c), l), h1, e3, e4, e5, e6, e7⟩
    obtain ⟨f, hf⟩ := Go.Deep.choose_lt each
    refine ⟨some a, len, m, (List.range len).map fun i => (f i).2, rfl, by simp, hl, hm, ?_, fun l hx => ?_, fun hw l hx => ?_⟩
    · rcases Nat.eq_zero_or_pos len with rfl | hpos
      · exact RoundsC.nil_ _ _
      · obtain ⟨b, off, spot⟩ := a
        have c0 := (hf 0 hpos).1
        have hspot : spot = none := by simpa [Addr.add] using World.cell?_spot c0
        subst hspot
        refine ⟨(List.range len).map fun i => (f i).1, by simp, .inr ⟨b, off, rfl, World.block_lt_of_cell? w _ c0, fun j u hu => ?_⟩, fun k' h l e1 e2 => ?_⟩
        · have := rows_of (w := w) (b := b) (off := off) len 0 f (fun i hi' => by
            have h1 := (hf i hi').1
            rw [Go.WideShapes.add_plain] at h1
            rw [Nat.zero_add]
            exact h1) j u (by simpa using hu)
          rwa [Nat.zero_add] at this
        · have hlt : k' < len := by
            have := (List.getElem?_eq_some_iff.1 e2).1
            simpa using this
          simp [hlt] at e1 e2
          subst e1; subst e2
          exact ⟨(hf k' hlt).2.1, (hf k' hlt).2.2.1, (hf k' hlt).2.2.2.1⟩
    · obtain ⟨i, hlt, rfl⟩ := List.mem_map.1 hx
      exact (hf i (List.mem_range.1 hlt)).2.2.2.2.1
    · obtain ⟨i, hlt, rfl⟩ := List.mem_map.1 hx
      rcases (hf i (List.mem_range.1 hlt)).2.2.2.2.2 with h0 | ⟨el, sp, hD, he⟩
      · simp [h0]
      · rw [hyx] at hw
        have h1 := hw ((el.length + sp.length) * 16) (by
          simp only [DataW.weights, Try.underlying24, List.mem_cons, List.mem_append]
          refine .inr (.inl (weightsAll_mem (List.mem_map.2 ⟨i, hlt, rfl⟩) ?_))
          rw [hD]
          simp only [DataW.weights, Try.underlying46, List.mem_cons]
          exact .inl (by rw [show Try.prog.bytesOf 51 = 16 by kernel_rfl]))
        show (f i).2.length * 16 ≤ reachBytes
        rw [← he]
        exact Nat.le_trans (Nat.mul_le_mul_right _ (Nat.le_add_right _ _)) h1
theorem open_list {r : Reach} {b0 : Nat} {v : Value} {d : DataW H} {p : List MemPlace} (hv : Value.okWide Try.prog w r b0 26 v) (h : DataW.Trod enc Try.prog w 0 (fun _ => true) held 26 v d p) :
    ∃ A n c, ∃ ls : List (List (Int × Int)), v = .agg #[.slice A n c] ∧ ls.length = n ∧ n ≤ c ∧ c ≤ maxLen ∧ RoundsC w A ls ∧ (∀ l ∈ ls, ∀ x ∈ l, WfM x) ∧ ((∀ k ∈ DataW.weights Try.prog 26 d, k ≤ reachBytes) → ∀ l ∈ ls, l.length * 16 ≤ reachBytes) := by
  obtain ⟨cs, rfl, hsz⟩ := okWide_struct Try.underlying26 hv
  rw [show Try.prog.cellsOf 26 = 1 by kernel_rfl] at hsz
  obtain ⟨c0, rfl⟩ : ∃ c0, cs = #[c0] := by
    obtain ⟨l⟩ := cs
    match l, hsz with
    | [c0], _ => exact ⟨c0, rfl⟩
  obtain ⟨fuel, hf⟩ := h
  obtain ⟨y0, n, hx, _, h0⟩ := trod_struct1 Try.underlying26 hf
  have h0' : DataW.trod enc Try.prog w 0 (fun _ => true) held n 24 [c0] = some y0 := by
    simpa [Value.cells, show Try.prog.cellsOf 24 = 1 by kernel_rfl] using h0
  obtain ⟨A, n, c, ls, e1, e2, e3, e4, e5, e6, e7⟩ := open_rounds_at h0'
  refine ⟨A, n, c, ls, by rw [e1], e2, e3, e4, e5, e6, fun hw => e7 fun k hk => hw k ?_⟩
  simp only [Prod.mk.injEq] at hx
  rw [hx.1]
  simp only [DataW.weights, Try.underlying26, DataW.weightsEach, List.map_cons, List.map_nil, List.append_nil]
  exact hk
theorem list_reach {ts : List TypeId} {ds : List (DataW H)} (h : (DataW.weightsEach Try.prog ts ds).all (· ≤ reachBytes) = true) {j : Nat} {d : DataW H} {ls : List (List (Int × Int))} (ht : ts[j]? = some 26) (hd : ds[j]? = some d)
    (hz : (∀ k ∈ DataW.weights Try.prog 26 d, k ≤ reachBytes) → ∀ l ∈ ls, l.length * 16 ≤ reachBytes) : ∀ l ∈ ls, l.length * 16 ≤ reachBytes := hz fun k hk => by
  have := List.all_eq_true.1 h k (DataW.weights_mem_each ht hd k hk)
  simpa using this
end
end Go.Proofs.Ytpmkebejfnflfaa
