/- Walks and plain laws that the statement rests on: ShelfR. -/
import Derived.Ground.SlgnProg
import Derived.Shelf.SlicesQ.Reverse
import Derived.Test.YtkflpoiobpblhaaGreatProg
import Derived.Test.YtkflpoiobpblhaaGreatP00
namespace Go.Proofs.YtkflpoiobpblhaaGreat
open Go.Shelf
def Tryz.revD_ren : Go.Shelf.Ren := ⟨fun | 35 => 97 | n => n, fun | 22 => 30 | 23 => 29 | 3 => 3 | 4 => 4 | 0 => 0 | n => n, fun | n => n⟩
theorem Tryz.revD : Go.Proofs.SlLaysE0.n35 Tryz.prog Tryz.revD_ren := {
 mixed := by kernel_rfl
 f35 := ⟨Tryz.f97.name, by decide, Tryz.func97.trans (congrArg some (by kernel_rfl))⟩
 t0 := Tryz.underlying0
 a0 := Tryz.isAgg0
 z0 := Tryz.sizeOf0
 v0 := Tryz.zeroValue0
 t3 := Tryz.underlying3
 a3 := Tryz.isAgg3
 z3 := Tryz.sizeOf3
 v3 := Tryz.zeroValue3
 t4 := Tryz.underlying4
 a4 := Tryz.isAgg4
 z4 := Tryz.sizeOf4
 v4 := Tryz.zeroValue4
 t22 := Tryz.underlying30
 a22 := Tryz.isAgg30
 z22 := Tryz.sizeOf30
 v22 := Tryz.zeroValue30 }
end Go.Proofs.YtkflpoiobpblhaaGreat
