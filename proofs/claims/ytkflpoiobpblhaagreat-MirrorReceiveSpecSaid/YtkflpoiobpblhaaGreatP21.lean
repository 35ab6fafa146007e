/- Walks and plain laws that the statement rests on: Sane2. -/
import Derived.Lib.SlBytesConst
import Derived.Test.YtkflpoiobpblhaaGreatP00
import Derived.Test.YtkflpoiobpblhaaGreatP20
namespace Go.Proofs.YtkflpoiobpblhaaGreat
open Go.RowKit
theorem nilBytes (w : World) (A : Option Addr) : Cells w A (bytesV ([] : List (List Nat)).flatten) := .inl (by unfold bytesV; rfl)
def SaneS (B1 B9 : Nat) (a b lf : List Nat) (w9 W : World) : Prop := Blk W B1 29 (arrK .u8 a) ∧ Blk W (B1 + 1) 29 (arrK .u8 b) ∧ Blk W B9 29 (arrK .u8 lf) ∧ Below w9.heap.size w9 W
theorem SaneS.below {B1 B9 : Nat} {a b lf : List Nat} {w9 W W' : World} (h : SaneS B1 B9 a b lf w9 W) (hb : Below W.heap.size W W') : SaneS B1 B9 a b lf w9 W' :=
 ⟨h.1.below hb, h.2.1.below hb, h.2.2.1.below hb, h.2.2.2.trans (hb.mono h.2.2.2.size)⟩
end Go.Proofs.YtkflpoiobpblhaaGreat
