/- Walks and plain laws that the statement rests on: Shelf. -/
import Derived.Ground.Names8Prog
import Derived.Shelf.SlGeneric
import Derived.Shelf.Small.Bits
import Derived.Shelf.Spec.SlicesGrow
import Derived.Shelf.Strconv.Itoa0
import Derived.Test.YtkflpoiobpblhaaGreatProg
import Derived.Test.YtkflpoiobpblhaaGreatP00
namespace Go.Proofs.YtkflpoiobpblhaaGreat
open Go.Shelf
def Tryz.lays125_ren : Go.Shelf.Ren := ⟨fun | 125 => 116 | 128 => 127 | 129 => 128 | n => n, fun | 46 => 110 | 3 => 3 | 51 => 160 | 53 => 129 | 4 => 4 | 5 => 5 | 9 => 9 | n => n, fun | n => n⟩
theorem Tryz.lays125 : Go.Proofs.Lays.n125 Tryz.prog Tryz.lays125_ren := {
 mixed := by kernel_rfl
 f125 := Tryz.func116.trans (congrArg some (by kernel_rfl))
 f128 := Tryz.func127.trans (congrArg some (by kernel_rfl))
 f129 := Tryz.func128.trans (congrArg some (by kernel_rfl))
 t3 := Tryz.underlying3
 a3 := Tryz.isAgg3
 z3 := Tryz.sizeOf3
 v3 := Tryz.zeroValue3
 t4 := Tryz.underlying4
 a4 := Tryz.isAgg4
 z4 := Tryz.sizeOf4
 v4 := Tryz.zeroValue4
 t5 := Tryz.underlying5
 a5 := Tryz.isAgg5
 z5 := Tryz.sizeOf5
 v5 := Tryz.zeroValue5
 t9 := Tryz.underlying9
 a9 := Tryz.isAgg9
 z9 := Tryz.sizeOf9
 v9 := Tryz.zeroValue9
 t46 := Tryz.underlying110
 a46 := Tryz.isAgg110
 z46 := Tryz.sizeOf110
 v46 := Tryz.zeroValue110
 t51 := Tryz.underlying160
 a51 := Tryz.isAgg160
 z51 := Tryz.sizeOf160
 v51 := Tryz.zeroValue160
 t53 := Tryz.underlying129
 a53 := Tryz.isAgg129
 z53 := Tryz.sizeOf129
 v53 := Tryz.zeroValue129 }
theorem Tryz.bits_Len (x : Int) (w : World) (h0 : 0 ≤ x) (h1 : x ≤ 18446744073709551615) :
    Calls Tryz.prog 116 #[.int .u64 x] w fun e w' => e = .returned (.int .i64 (Lib.bitLen x.toNat)) ∧ w' = w := Any.bits_Len Tryz.lays125 x w h0 h1
def Tryz.growB_ren : Go.Shelf.Ren := ⟨fun | 4 => 96 | n => n, fun | 22 => 22 | 25 => 5 | 3 => 3 | 4 => 4 | 9 => 9 | 20 => 20 | 0 => 0 | n => n, fun | n => n⟩
theorem Tryz.growB : Go.Proofs.Lays8.n4 Tryz.prog Tryz.growB_ren := {
 mixed := by kernel_rfl
 f4 := ⟨Tryz.f96.name, by decide, Tryz.func96.trans (congrArg some (by kernel_rfl))⟩
 t0 := Tryz.underlying0
 a0 := Tryz.isAgg0
 z0 := Tryz.sizeOf0
 v0 := Tryz.zeroValue0
 t3 := Tryz.underlying3
 a3 := Tryz.isAgg3
 z3 := Tryz.sizeOf3
 v3 := Tryz.zeroValue3
 t4 := Tryz.underlying4
 a4 := Tryz.isAgg4
 z4 := Tryz.sizeOf4
 v4 := Tryz.zeroValue4
 t9 := Tryz.underlying9
 a9 := Tryz.isAgg9
 z9 := Tryz.sizeOf9
 v9 := Tryz.zeroValue9
 t20 := Tryz.underlying20
 a20 := Tryz.isAgg20
 z20 := Tryz.sizeOf20
 v20 := Tryz.zeroValue20
 t22 := Tryz.underlying22
 a22 := Tryz.isAgg22
 z22 := Tryz.sizeOf22
 v22 := Tryz.zeroValue22 }
end Go.Proofs.YtkflpoiobpblhaaGreat
