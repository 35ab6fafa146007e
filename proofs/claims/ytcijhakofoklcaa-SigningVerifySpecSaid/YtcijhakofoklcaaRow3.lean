/- A key as an argument. -/
import Derived.Test.YtcijhakofoklcaaRow
import Derived.Test.YtcijhakofoklcaaLawB
import Derived.Lib.SmallJoins
namespace Go.Proofs.Ytcijhakofoklcaa
open Go.RowKit Go.WideShapes Go.ChangeShapes Go.ChangeAt
section
variable {H : Type} {enc : TypeId × Value → H} {P : Program} {w : World} {held : Bool}
theorem open_intslice_at {fuel : Nat} {t e : TypeId} {k : IntKind} {v : Value} {y : DataW H × List MemPlace} (ht : P.underlying t = some (.slice e)) (he : P.underlying e = some (.int k)) (hc : P.cellsOf e = 1)
    (hf : DataW.trod enc P w 0 (fun _ => true) held fuel t [v] = some y) :
    ∃ A n c, ∃ xs : List Int, v = .slice A n c ∧ xs.length = n ∧ n ≤ c ∧ c ≤ maxLen ∧ Cells w A (xs.map (Value.int k)) ∧ ∀ x ∈ xs, (Lit.int k x).wf = true := by
  rcases open_ints ht he hc hf with ⟨hcs, hx⟩ | ⟨a, len, cap, zs, hcs, _, hl, hm, hz, hx, hcell, hwz⟩
  · simp at hcs
    subst hcs
    exact ⟨none, 0, 0, [], rfl, rfl, Nat.le_refl _, Nat.zero_le _, Cells.nil_ _ _, by simp⟩
  · simp at hcs
    subst hcs
    have hz' : zs.length = cap := by simpa using hz
    refine ⟨some a, len, cap, zs.take len, rfl, by rw [List.length_take]; omega, hl, hm, ?_, fun x hx => hwz x (List.mem_of_mem_take hx)⟩
    rcases Nat.eq_zero_or_pos len with rfl | hpos
    · exact .inl (by simp)
    · obtain ⟨b, off, rfl, hcl⟩ := ints_at hcell (by omega)
      refine .inr ⟨b, off, rfl, World.block_lt_of_cell? w ⟨b, off + 0, none⟩ (hcl 0 (by omega)), fun j u hu => ?_⟩
      rw [List.getElem?_map] at hu
      cases hxj : (zs.take len)[j]? with
      | none => rw [hxj] at hu; cases hu
      | some y =>
        rw [hxj] at hu
        injection hu with hu
        subst hu
        rw [List.getElem?_take] at hxj
        split at hxj
        · rw [hcl j (List.getElem?_eq_some_iff.1 hxj).1, List.getD_eq_getElem?_getD, hxj]; rfl
        · cases hxj
set_option maxRecDepth 100000 in
theorem open_key {r : Reach} {b0 : Nat} {v : Value} {d : DataW H} {p : List MemPlace} (hv : Value.okWide Try.prog w r b0 24 v) (h : DataW.Trod enc Try.prog w 0 (fun _ => true) held 24 v d p) :
    ∃ A n c m u, ∃ s : List Nat, v = .agg #[.slice A n c, .int .i64 m, .int .i64 u] ∧ s.length = n ∧ n ≤ c ∧ c ≤ maxLen ∧ Cells w A (bytesV s) ∧ ByteL s ∧ (Lit.int .i64 m).wf = true ∧ (Lit.int .i64 u).wf = true := by
  obtain ⟨v0, v1, v2, y0, y1, y2, k, rfl, -, -, h0, h1, h2⟩ := Go.Joins.open_agg3 Try.underlying24 (by kernel_rfl) (by kernel_rfl) hv h
  obtain ⟨A, n, c, xs, rfl, hl, hnc, hcm, hC, hw⟩ := open_intslice_at (k := .u8) Try.underlying22 Try.underlying5 (by kernel_rfl) h0
  obtain ⟨s, hs, h8, hC'⟩ := open_bytes hC hw
  obtain ⟨m, hm, -, wm⟩ := DataW.trod_int (k := .i64) Try.underlying3 h1
  obtain ⟨u, hu, -, wu⟩ := DataW.trod_int (k := .i64) Try.underlying3 h2
  simp at hm hu
  subst hm
  subst hu
  exact ⟨A, n, c, m, u, s, rfl, by rw [hs, hl], hnc, hcm, hC', h8, wm, wu⟩
end
end Go.Proofs.Ytcijhakofoklcaa
