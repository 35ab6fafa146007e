/- Mirror: plain laws behind MirrorNumbers, MirrorStranger and MirrorChain. -/
import Derived.Test.YtkflpoiobpblhaaP43
namespace Go.Proofs.Ytkflpoiobpblhaa
open Go.RowKit
set_option linter.unusedVariables false
set_option linter.unusedSimpArgs false
namespace Mir
section
variable (s : List Nat) (a b : List It)
theorem num_ver (ha : itE a = 0) (hla : a.length ≤ 30000) (no : Int) : verE (rootK s) 2 { v1K s a with no := no } = if no = 1 then 0 else if no < 1 ∨ 4096 < no then 450 else 451 := by
  by_cases h1 : no = 1
  · subst h1
    rw [if_pos rfl]
    exact v1_ver (s := s) ha hla
  · rw [if_neg h1]
    by_cases h2 : no < 1 ∨ 4096 < no
    · rw [if_pos h2]
      unfold verE
      rw [if_pos h2]
    · rw [if_neg h2]
      unfold verE
      have hc : chOk (v1K s a).ch = true := chOk_diff itE_nil ha (by simp; omega)
      have hi : (v1K s a).sg.i = 0 := rfl
      rw [if_neg h2]
      show (if chOk (v1K s a).ch = false then (430 : Int) else if (v1K s a).sg.i ≠ no - 1 ∨ _ then 451 else 0) = 451
      rw [hc, hi, if_neg (by simp), if_pos (.inl (by omega))]
def fK (g0 g1 : Bool) : Fo := match g0, g1 with
  | false, false => f0K s
  | true, false => f1K s a
  | false, true => g0K s a b
  | true, true => f2K s b
variable {s a b} (ha : itE a = 0) (hb : itE b = 0) (hla : a.length ≤ 30000) (hlb : b.length ≤ 30000)
include ha hb hla hlb
end
end Mir
end Go.Proofs.Ytkflpoiobpblhaa
