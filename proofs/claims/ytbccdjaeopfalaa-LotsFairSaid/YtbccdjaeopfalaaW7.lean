import Derived.Test.YtbccdjaeopfalaaP2
import Derived.Test.YtbccdjaeopfalaaShelf
namespace Go.Proofs.Ytbccdjaeopfalaa
open Go.RowKit

/-- A row of the call's own: cells and marks. -/
def HoldsI (w : World) (B : Nat) (L : List Int) : Prop := ∀ j x, L[j]? = some x → w.cell? ⟨B, j, none⟩ = some (.int .i64 x) ∧ w.frozen? ⟨B, j, none⟩ = false
theorem HoldsI.holds {w : World} {B : Nat} {L : List Int} (h : HoldsI w B L) : Sort.Holds (Value.int .i64) w B 0 L.toArray := by
  intro j hj
  have hj' : j < L.length := by simpa using hj
  obtain ⟨h1, h2⟩ := h j _ (List.getElem?_eq_getElem hj')
  rw [Nat.zero_add]
  refine ⟨?_, h2⟩
  rw [h1]
  simp [hj']
theorem HoldsI.of_holds {w : World} {B : Nat} {L : List Int} (h : Sort.Holds (Value.int .i64) w B 0 L.toArray) : HoldsI w B L := by
  intro j x hx
  have hj : j < L.length := (List.getElem?_eq_some_iff.1 hx).1
  obtain ⟨h1, h2⟩ := h j (by simpa using hj)
  rw [Nat.zero_add] at h1 h2
  refine ⟨?_, h2⟩
  rw [h1]
  have : L[j] = x := (List.getElem?_eq_some_iff.1 hx).2
  simp [hj, this]
theorem HoldsI.take {w : World} {B : Nat} {L L' : List Int} (h : HoldsI w B (L ++ L')) : HoldsI w B L := by
  intro j x hx
  exact h j x (by rw [List.getElem?_append_left (List.getElem?_eq_some_iff.1 hx).1]; exact hx)
theorem HoldsI.grown {w w' : World} {B : Nat} {L : List Int} {row : Option Nat} (h : HoldsI w B L) (hg : w.grownBy w' row) (hB : B < w.heap.size) (hne : some B ≠ row) : HoldsI w' B L := by
  intro j x hx
  have hb := hg.block B hB hne
  exact ⟨(World.cell?_of_block (a := ⟨B, j, none⟩) hb).trans (h j x hx).1, (World.frozen?_of_block (a := ⟨B, j, none⟩) hb).trans (h j x hx).2⟩
theorem grown_putRow (w : World) (q B : Nat) (d : Array Int) : w.grownBy (Sort.putRow (Value.int .i64) (Sort.ahead w q) B 0 d) (some B) := by
  refine ⟨rfl, rfl, rfl, by simp [Sort.heap_ahead], fun k hk hne => ?_⟩
  have hne' : ¬ B = k := fun e => hne (by rw [e])
  simp [Sort.putRow, Sort.mapBlock, Array.getElem?_modify, hne', Sort.heap_ahead]

theorem tup_is {a b : Int} {v v' : Value} (h : a = b) (h' : v = v') : Ending.returned (.tuple #[.int .i64 a, v]) = .returned (.tuple #[.int .i64 b, v']) := by rw [h, h']

set_option maxHeartbeats 400000 in
theorem take_any (B cap at' n : Nat) (L : List Int) (x : Int) (w : World) (hL : L.length = n) (hH : HoldsI w B L) (hcap : n ≤ cap) (hm : cap ≤ 18) (hx : L[at']? = some x) (ha : at' < n) :
    Calls Try.prog 22 #[.slice (some ⟨B, 0, none⟩) n cap, .int .i64 at'] w fun e w' => e = .returned (.tuple #[.int .i64 x, .slice (some ⟨B, 0, none⟩) (n - 1) cap]) ∧ HoldsI w' B (L.eraseIdx at') ∧ w.grownBy w' (some B) := by
  have e1 : w.cell? ⟨B, at', none⟩ = some (.int .i64 x) := (hH at' x hx).1
  have HL := Lib.hid hL
  have hD := Try.slices_Delete_int B 0 cap at' (at' + 1) L w hH.holds (by omega) (by omega) (by omega) (by omega)
  rw [hL] at hD
  have hD' : Calls Try.prog 26 #[.slice (some ⟨B, 0, none⟩) n cap, .int .i64 at', .int .i64 ((at' : Int) + 1)] w fun e w' => e = .returned (.slice (some ⟨B, 0, none⟩) (n - 1) cap) ∧ HoldsI w' B (L.eraseIdx at') ∧ w.grownBy w' (some B) := by
    refine hD.mono fun e w' ⟨he, q, hw⟩ => ⟨?_, ?_, ?_⟩
    · rw [he]
      have : n - (at' + 1 - at') = n - 1 := by omega
      rw [this]
    · subst hw
      have h0 : Sort.Holds (Value.int .i64) (Sort.ahead w q) B 0 L.toArray := hH.holds
      have h1 := Sort.holds_putRow (Value.int .i64) (Sort.ahead w q) B 0 L.toArray (L.take at' ++ L.drop (at' + 1) ++ List.replicate (at' + 1 - at') 0).toArray h0 (by simp [HL.out]; omega)
      have h2 := HoldsI.of_holds h1
      rw [eraseIdx_eq] at h2 ⊢
      exact h2.take
    · subst hw; exact grown_putRow _ _ _ _
  have HD := Lib.hid hD'
  clear hD hD' hL hH hx
  go_enter Try.func22, Try.ntmps22
  go_wp2_with (go_at_call 26; refine (HD.out).mono ?_; rintro e w1 ⟨rfl, hH1, hg1⟩)
  go_ret2
  exact ⟨rfl, hH1, hg1⟩
end Go.Proofs.Ytbccdjaeopfalaa
