/- Walks and plain laws that the statement rests on: ShelfR. -/
import Derived.Ground.SlgnProg
import Derived.Shelf.SlicesQ.Reverse
import Derived.Test.YtkflpoiobpblhaaProg
import Derived.Test.YtkflpoiobpblhaaP00
namespace Go.Proofs.Ytkflpoiobpblhaa
open Go.Shelf
def Try.revD_ren : Go.Shelf.Ren := ⟨fun | 35 => 71 | n => n, fun | 22 => 34 | 23 => 28 | 3 => 3 | 4 => 4 | 0 => 0 | n => n, fun | n => n⟩
theorem Try.revD : Go.Proofs.SlLaysE0.n35 Try.prog Try.revD_ren := {
  mixed := by kernel_rfl
  f35 := ⟨Try.f71.name, by decide, Try.func71.trans (congrArg some (by kernel_rfl))⟩
  t0 := Try.underlying0
  a0 := Try.isAgg0
  z0 := Try.sizeOf0
  v0 := Try.zeroValue0
  t3 := Try.underlying3
  a3 := Try.isAgg3
  z3 := Try.sizeOf3
  v3 := Try.zeroValue3
  t4 := Try.underlying4
  a4 := Try.isAgg4
  z4 := Try.sizeOf4
  v4 := Try.zeroValue4
  t22 := Try.underlying34
  a22 := Try.isAgg34
  z22 := Try.sizeOf34
  v22 := Try.zeroValue34 }
end Go.Proofs.Ytkflpoiobpblhaa
