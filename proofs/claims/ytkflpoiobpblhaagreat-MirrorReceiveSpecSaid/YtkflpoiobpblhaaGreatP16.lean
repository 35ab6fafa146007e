/- Walks and plain laws that the statement rests on: LawB. -/
import Derived.OpenShut
import Derived.Test.YtkflpoiobpblhaaGreatP00
import Derived.Test.YtkflpoiobpblhaaGreatP11
namespace Go.Proofs.YtkflpoiobpblhaaGreat
open Go.RowKit Go.WideShapes Go.ChangeShapes Go.ChangeAt
theorem open_bytes {w : World} {A : Option Addr} {xs : List Int} (hA : Cells w A (xs.map (Value.int .u8))) (hw : ∀ x ∈ xs, (Lit.int .u8 x).wf = true) :
    ∃ b : List Nat, b.length = xs.length ∧ ByteL b ∧ Cells w A (bytesV b) := by
 have hx : ∀ x ∈ xs, 0 ≤ x ∧ x < 256 := fun x h => by
  have := hw x h
  have h2 := bounds_u8 this
  omega
 refine ⟨xs.map Int.toNat, by simp, fun i => ?_, ?_⟩
 · rw [List.getD_eq_getElem?_getD, List.getElem?_map]
   cases h : xs[i]? with
   | none => decide
   | some x => have := hx x (List.mem_of_getElem? h); simp; omega
 · have e : bytesV (xs.map Int.toNat) = xs.map (Value.int .u8) := by
     unfold bytesV
     rw [List.map_map]
     apply List.map_congr_left
     intro x h
     have := hx x h
     simp [Function.comp]; omega
   rw [e]; exact hA
end Go.Proofs.YtkflpoiobpblhaaGreat
