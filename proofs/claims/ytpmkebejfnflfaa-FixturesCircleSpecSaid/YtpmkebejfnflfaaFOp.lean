/- Fixtures' laws: an interval as an argument; what a law's walk gives. -/
import Derived.Test.YtpmkebejfnflfaaFSane
import Derived.Test.YtpmkebejfnflfaaRow
import Derived.Lib.SmallJoins
import Derived.Deep.Slices
import Derived.Deep.Fields
import Derived.Deep.SlicePairs
namespace Go.Proofs.Ytpmkebejfnflfaa
open Go.RowKit Go.WideShapes Go.ChangeShapes Go.ChangeAt
def Fine (w : World) (e : Ending) (w' : World) : Prop := e = .returned (.bool true) ∧ Below w.heap.size w w'
section
variable {H : Type} {enc : TypeId × Value → H} {P : Program} {w : World} {held : Bool}
theorem open_iv {r : Reach} {b0 : Nat} {v : Value} {d : DataW H} {p : List MemPlace} (hv : Value.okWide Try.prog w r b0 41 v) (h : DataW.Trod enc Try.prog w 0 (fun _ => true) held 41 v d p) :
    ∃ x y : Int, v = .agg #[.int .i64 x, .int .i64 y] ∧ (Lit.int .i64 x).wf = true ∧ (Lit.int .i64 y).wf = true := by
  obtain ⟨v0, v1, y0, y1, k, rfl, -, -, h0, h1⟩ := Go.Joins.open_agg2 Try.underlying41 (by kernel_rfl) (by kernel_rfl) hv h
  obtain ⟨x, hx, -, wx⟩ := DataW.trod_int (k := .i64) Try.underlying3 h0
  obtain ⟨m, hm, -, wm⟩ := DataW.trod_int (k := .i64) Try.underlying3 h1
  simp at hx hm
  subst hx
  subst hm
  exact ⟨x, m, rfl, wx, wm⟩
end
end Go.Proofs.Ytpmkebejfnflfaa
