/- The reach of a slice of bytes that came in. -/
import Derived.Test.YtcijhakofoklcaaRow3
import Derived.Test.YtcijhakofoklcaaSig11
import Derived.SizedLaws
namespace Go.Proofs.Ytcijhakofoklcaa
open Go.RowKit Go.WideShapes Go.ChangeShapes Go.ChangeAt
section
variable {H : Type} {enc : TypeId × Value → H} {P : Program} {w : World} {held : Bool}
theorem open_intslice_len {r : Reach} {b0 : Nat} {t e : TypeId} {k : IntKind} {v : Value} {d : DataW H} {p : List MemPlace} (ht : P.underlying t = some (.slice e)) (he : P.underlying e = some (.int k)) (hc : P.cellsOf e = 1)
    (hv : Value.okWide P w r b0 t v) (h : DataW.Trod enc P w 0 (fun _ => true) held t v d p) :
    ∃ A n c, ∃ xs : List Int, v = .slice A n c ∧ xs.length = n ∧ n ≤ c ∧ c ≤ maxLen ∧ Cells w A (xs.map (Value.int k)) ∧ (∀ x ∈ xs, (Lit.int k x).wf = true) ∧ (n = 0 ∨ ∃ el sp : List (DataW H), d = .slice el sp ∧ el.length = n) := by
  obtain ⟨A, n, c, xs, rfl, hl, hnc, hcm, hC, hw⟩ := open_intslice ht he hc hv h
  refine ⟨A, n, c, xs, rfl, hl, hnc, hcm, hC, hw, ?_⟩
  have hs := Go.Joins.sliceLen_Trod ht h
  cases d <;> simp [Go.Joins.sliceLen] at hs
  case slice el sp => exact .inr ⟨el, sp, rfl, hs⟩
  all_goals exact .inl (by omega)
theorem reach_of {ts : List TypeId} {ds : List (DataW H)} (h : (DataW.weightsEach P ts ds).all (· ≤ reachBytes) = true) {j : Nat} {t e : TypeId} {d : DataW H} {n : Nat} (ht : ts[j]? = some t) (hd : ds[j]? = some d) (hu : P.underlying t = some (.slice e)) (hb : P.bytesOf e = 1)
    (hz : n = 0 ∨ ∃ el sp : List (DataW H), d = .slice el sp ∧ el.length = n) : n ≤ reachN := by
  rcases hz with rfl | ⟨el, sp, rfl, rfl⟩
  · exact Nat.zero_le _
  · have := sized_slice h ht hd hu
    rw [hb] at this
    have e : reachBytes = reachN := by unfold reachN; rfl
    omega
end
end Go.Proofs.Ytcijhakofoklcaa
