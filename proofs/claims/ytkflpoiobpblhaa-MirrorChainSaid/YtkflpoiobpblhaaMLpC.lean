/- Mirror: plain laws behind MirrorNumbers, MirrorStranger and MirrorChain. -/
import Derived.Test.YtkflpoiobpblhaaP43
namespace Go.Proofs.Ytkflpoiobpblhaa
open Go.RowKit
set_option linter.unusedVariables false
set_option linter.unusedSimpArgs false
namespace Mir
section
variable (s : List Nat) (a b : List It)
def fK (g0 g1 : Bool) : Fo := match g0, g1 with
  | false, false => f0K s
  | true, false => f1K s a
  | false, true => g0K s a b
  | true, true => f2K s b
def vK (p : Bool) : Ve := if p then v2K s a b else v1K s a
variable {s a b} (ha : itE a = 0) (hb : itE b = 0) (hla : a.length ≤ 30000) (hlb : b.length ≤ 30000)
include ha hb hla hlb
theorem rcv_got (g0 g1 p : Bool) (h : (if p then g1 else g0) = true) : rcv (fK s a b g0 g1) (vK s a b p) = (fo0, 450) := by
  cases p
  · cases g0
    · cases h
    · cases g1
      · exact rcv_f1_v1 ha hb hla hlb
      · exact rcv_f2_v1 ha hb hla hlb
  · cases g1
    · cases h
    · cases g0
      · exact rcv_g0_v2 ha hb hla hlb
      · exact rcv_f2_v2 ha hb hla hlb
theorem rcv_new (g0 g1 p : Bool) (h : (if p then g1 else g0) = false) : rcv (fK s a b g0 g1) (vK s a b p) = (fK s a b (g0 || !p) (g1 || p), 0) := by
  cases p
  · cases g0
    · cases g1
      · exact rcv_f0_v1 ha hb hla hlb
      · exact rcv_g0_v1 ha hb hla hlb
    · cases h
  · cases g1
    · cases g0
      · exact rcv_f0_v2 ha hb hla hlb
      · exact rcv_f1_v2 ha hb hla hlb
    · cases h
theorem fK_ok (g0 g1 : Bool) : foE (fK s a b g0 g1) = 0 := by
  cases g0 <;> cases g1
  · exact f0_ok
  · exact g0_ok ha hb hla hlb
  · exact f1_ok ha hla
  · exact f2_ok ha hb hla hlb
end
end Mir
end Go.Proofs.Ytkflpoiobpblhaa
