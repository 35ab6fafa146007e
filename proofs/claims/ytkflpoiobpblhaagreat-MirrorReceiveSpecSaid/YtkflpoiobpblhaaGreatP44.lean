/- Short lemmas for lines that the walks repeat. -/
import Derived.Test.YtkflpoiobpblhaaGreatP02
import Derived.Test.YtkflpoiobpblhaaGreatP03
namespace Go.Proofs.YtkflpoiobpblhaaGreat
open Go.RowKit
theorem bo {u w v : World} (h : Hid (Below u.heap.size u w)) (h2 : Below w.heap.size w v) : Below u.heap.size u v := below_of h.out h2 h.out.size
theorem θ {p : Prop} (h : p) : Hid p := h
theorem exq {α : Sort _} (a : α) : ∃ x, a = x := ⟨a, rfl⟩
end Go.Proofs.YtkflpoiobpblhaaGreat
