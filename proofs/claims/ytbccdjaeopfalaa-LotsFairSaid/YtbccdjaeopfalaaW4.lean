import Derived.Test.YtbccdjaeopfalaaW3
namespace Go.Proofs.Ytbccdjaeopfalaa
open Go.RowKit

/-- The block of the closure's marks. -/
def marks (seen : List Int) : Array Value := ((List.range 18).map fun (i : Nat) => Value.bool (decide ((i : Int) ∈ seen))).toArray
theorem marks_get (seen : List Int) {i : Nat} (hi : i < 18) : (marks seen)[i]? = some (.bool (decide ((i : Int) ∈ seen))) := by
  simp [marks, hi]
theorem marks_set (seen : List Int) (i : Nat) : (marks seen).setIfInBounds i (.bool true) = marks (seen ++ [(i : Int)]) := by
  apply Array.ext
  · simp [marks]
  · intro j h1 h2
    have hj : j < 18 := by simpa [marks] using h2
    by_cases e : i = j
    · subst e; simp [marks]
    · rw [Array.getElem_setIfInBounds_ne (by simpa [marks] using hj) e]
      simp only [marks, List.getElem_toArray, List.getElem_map, List.getElem_range]
      have : ¬ ((j : Int) = (i : Int)) := by omega
      simp [this]
def Marks (w : World) (m : Nat) (seen : List Int) : Prop := Blk w m 48 (marks seen)

theorem Marks.cell {w : World} {m : Nat} {seen : List Int} (h : Marks w m seen) {i : Nat} (hi : i < 18) : w.cell? ⟨m, i, none⟩ = some (.bool (decide ((i : Int) ∈ seen))) :=
  (Blk.cell h i).trans (marks_get seen hi)
theorem Marks.frozen {w : World} {m : Nat} {seen : List Int} (h : Marks w m seen) (i : Nat) : w.frozen? ⟨m, i, none⟩ = false := Blk.frozen h i
theorem Marks.set {w : World} {m : Nat} {seen : List Int} (h : Marks w m seen) (i : Nat) : Marks (w.setCell ⟨m, i, none⟩ (.bool true)) m (seen ++ [(i : Int)]) := by
  have := Blk.set_ h i (.bool true)
  rwa [marks_set] at this

set_option maxHeartbeats 400000 in
theorem mark_no (x : Int) (bp m n c : Nat) (A : Option Addr) (seen : List Int) (w : World) (hp : w.cell? ⟨bp, 0, none⟩ = some (.slice A n c)) (hn : n ≤ 18) (hM : Marks w m seen)
    (hx : ¬ (0 ≤ x ∧ x < n ∧ x ∉ seen)) :
    Calls Try.prog 27 #[.int .i64 x, .pointer (some ⟨bp, 0, none⟩), .pointer (some ⟨m, 0, none⟩)] w fun e w' => e = .returned (.bool false) ∧ w = w' := by
  by_cases h0 : x < 0
  · clear hx
    go_enter Try.func27, Try.ntmps27
    go_wp2
    go_ret
    exact ⟨rfl, rfl⟩
  · by_cases h1 : (n : Int) ≤ x
    · clear hx
      go_enter Try.func27, Try.ntmps27
      go_wp2
      go_ret
      exact ⟨rfl, rfl⟩
    · obtain ⟨k, rfl⟩ := Int.eq_ofNat_of_zero_le (by omega : 0 ≤ x)
      have hk : k < 18 := by omega
      have hs : (k : Int) ∈ seen := by
        refine Classical.byContradiction fun hs => hx ⟨by omega, by omega, hs⟩
      have e1 := hM.cell hk
      rw [decide_eq_true hs] at e1
      clear hx hs
      have hM := Lib.hid hM
      go_enter Try.func27, Try.ntmps27
      go_wp2
      go_ret
      exact ⟨rfl, rfl⟩

set_option maxHeartbeats 400000 in
theorem mark_yes (x : Int) (bp m n c : Nat) (A : Option Addr) (seen : List Int) (w : World) (hp : w.cell? ⟨bp, 0, none⟩ = some (.slice A n c)) (hn : n ≤ 18) (hM : Marks w m seen)
    (h0 : 0 ≤ x) (h1 : x < n) (hs : x ∉ seen) :
    Calls Try.prog 27 #[.int .i64 x, .pointer (some ⟨bp, 0, none⟩), .pointer (some ⟨m, 0, none⟩)] w fun e w' => e = .returned (.bool true) ∧ w.setCell ⟨m, x.toNat, none⟩ (.bool true) = w' := by
  obtain ⟨k, rfl⟩ := Int.eq_ofNat_of_zero_le h0
  have hk : k < 18 := by omega
  have e1 := hM.cell hk
  rw [decide_eq_false hs] at e1
  have e2 := hM.frozen k
  clear hs h0
  have hM := Lib.hid hM
  go_enter Try.func27, Try.ntmps27
  go_wp2
  go_ret
  exact ⟨rfl, rfl⟩

end Go.Proofs.Ytbccdjaeopfalaa
