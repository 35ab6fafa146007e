/- Mirror: plain laws behind MirrorNumbers, MirrorStranger and MirrorChain. -/
import Derived.Test.YtkflpoiobpblhaaP43
namespace Go.Proofs.Ytkflpoiobpblhaa
open Go.RowKit
set_option linter.unusedVariables false
set_option linter.unusedSimpArgs false
namespace Mir
theorem drain_no : ∀ (l : List Ve) (f : Fo), f.no ≤ (drain l f).no
  | [], f => Int.le_refl _
  | v :: l, f => by
    rw [drain_cons]
    by_cases h : v.no = f.no + 1
    · rw [if_pos h]
      refine Int.le_trans ?_ (drain_no l _)
      rw [apS_no]
      split
      · omega
      · exact Int.le_refl _
    · rw [if_neg h]; exact Int.le_refl _
theorem rcv_cases (f : Fo) (v : Ve) : ((rcv f v).1 = fo0 ∧ (rcv f v).2 ≠ 0) ∨ ((rcv f v).2 = 0 ∧ f.no < v.no ∧ f.no ≤ (rcv f v).1.no) := by
  unfold rcv
  by_cases h1 : foE f ≠ 0
  · rw [if_pos h1]; exact .inl ⟨rfl, h1⟩
  rw [if_neg h1]
  by_cases h2 : verE f.pub f.many v ≠ 0
  · rw [if_pos h2]; exact .inl ⟨rfl, h2⟩
  rw [if_neg h2]
  by_cases h3 : (f.ea.any fun u => decide (u.no = v.no)) = true ∨ v.no ≤ f.no
  · rw [if_pos h3]; exact .inl ⟨rfl, by simp⟩
  rw [if_neg h3]
  have hlt : f.no < v.no := by
    apply Classical.byContradiction
    intro hn
    exact h3 (.inr (by omega))
  by_cases h4 : f.no + 1 < v.no
  · rw [if_pos h4]
    by_cases h5 : f.ea.length = 64
    · rw [if_pos h5]; exact .inl ⟨rfl, by simp⟩
    · rw [if_neg h5]; exact .inr ⟨rfl, hlt, Int.le_refl _⟩
  · rw [if_neg h4]
    by_cases h5 : (apS f v).2 = false
    · rw [if_pos h5]; exact .inl ⟨rfl, by simp⟩
    · rw [if_neg h5]
      refine .inr ⟨rfl, hlt, Int.le_trans ?_ (drain_no _ _)⟩
      rw [apS_no]
      split
      · omega
      · exact Int.le_refl _
section
variable (s : List Nat) (a b : List It)
def fK (g0 g1 : Bool) : Fo := match g0, g1 with
  | false, false => f0K s
  | true, false => f1K s a
  | false, true => g0K s a b
  | true, true => f2K s b
variable {s a b} (ha : itE a = 0) (hb : itE b = 0) (hla : a.length ≤ 30000) (hlb : b.length ≤ 30000)
include ha hb hla hlb
end
end Mir
end Go.Proofs.Ytkflpoiobpblhaa
