/- Walks and plain laws that the statement rests on: LawB. -/
import Derived.OpenShut
import Derived.Test.YtkflpoiobpblhaaP00
import Derived.Test.YtkflpoiobpblhaaP10
namespace Go.Proofs.Ytkflpoiobpblhaa
open Go.RowKit Go.WideShapes Go.ChangeShapes Go.ChangeAt
def Fine (w : World) (e : Ending) (w' : World) : Prop := e = .returned (.bool true) ∧ Below w.heap.size w w'
end Go.Proofs.Ytkflpoiobpblhaa
