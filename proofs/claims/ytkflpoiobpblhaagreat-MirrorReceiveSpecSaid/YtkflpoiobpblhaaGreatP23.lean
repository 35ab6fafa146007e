/- Walks and plain laws that the statement rests on: Sig1. -/
import Derived.BigGuardPart
import Derived.Lib.SliceRun
import Derived.Test.YtkflpoiobpblhaaGreatP00
import Derived.Test.YtkflpoiobpblhaaGreatP06
namespace Go.Proofs.YtkflpoiobpblhaaGreat
open Go.RowKit
def okKey (n : Nat) (m u : Int) : Bool := decide (1 ≤ n ∧ n ≤ 64 ∧ 1 ≤ m ∧ m ≤ 4096 ∧ 0 ≤ u ∧ u ≤ m)
def fewK (n : Nat) (m : Int) (k : Nat) : Bool := decide (m ≤ 2 ∧ n ≤ 100 ∧ k ≤ 300)
set_option maxHeartbeats 1000000 in
theorem valid_any (A : Option Addr) (n c : Nat) (m u : Int) (w : World) :
    Calls Tryz.prog 52 #[.agg #[.slice A n c, .int .i64 m, .int .i64 u]] w fun e w' => e = .returned (.bool (okKey n m u)) ∧ Below w.heap.size w w' := by
 go_enter Tryz.func52, Tryz.ntmps52
 go_wp2_with (fail)
 all_goals
  go_ret
  exact ⟨ret_bool (by unfold okKey; simp only [decide_eq_decide, false_eq_decide_iff]; omega), (Below.refl _ _).alloc (Nat.le_refl _) _⟩
set_option maxHeartbeats 1000000 in
theorem few_any (A : Option Addr) (n c : Nat) (m u : Int) (B : Option Addr) (k d : Nat) (w : World) :
    Calls Tryz.prog 6 #[.agg #[.slice A n c, .int .i64 m, .int .i64 u], .slice B k d] w fun e w' => e = .returned (.bool (fewK n m k)) ∧ Below w.heap.size w w' := by
 go_enter Tryz.func6, Tryz.ntmps6
 go_wp2_with (fail)
 all_goals
  go_ret
  exact ⟨ret_bool (by unfold fewK; simp only [decide_eq_decide, false_eq_decide_iff]; omega), (Below.refl _ _).alloc (Nat.le_refl _) _⟩
def twoL (i : Nat) : List Nat := [i / 256 % 256, i % 256]
set_option maxHeartbeats 1000000 in
theorem two_any (i : Nat) (w : World) (hi : i < 65536) :
    Calls Tryz.prog 98 #[.int .i64 i] w fun e w' => e = .returned (.slice (some ⟨w.heap.size, 0, none⟩) 2 2) ∧ Blk w' w.heap.size 5 (arrK .u8 (twoL i)) ∧ Below w.heap.size w w' := by
 go_enter Tryz.func98, Tryz.ntmps98
 go_wp2_with (fail)
 go_ret
 refine ⟨rfl, ?_, (Below.refl _ _).alloc (Nat.le_refl _) _⟩
 rw [show arrK .u8 (twoL i) = #[.int .u8 ((i : Int) / 256), .int .u8 ((i : Int) % 256)] by
  have e1 : ((i / 256 % 256 : Nat) : Int) = (i : Int) / 256 := by omega
  have e2 : ((i % 256 : Nat) : Int) = (i : Int) % 256 := by omega
  simp only [arrK, twoL, List.map_cons, List.map_nil, e1, e2]]
 exact Blk.new w _ _
set_option maxRecDepth 100000 in
set_option maxHeartbeats 1000000 in
theorem clone_any (A : Option Addr) (n c : Nat) (s : List Nat) (w : World) (hA : Cells w A (bytesV s)) (hs : s.length = n) (hn : n ≤ 1000000) (hnc : n ≤ c) (hcm : c ≤ maxLen) :
    Calls Tryz.prog 51 #[.slice A n c] w fun e w' => ∃ A' c', e = .returned (.slice A' n c') ∧ n ≤ c' ∧ c' ≤ maxLen ∧ Cells w' A' (bytesV s) ∧ Hid (∀ b off, A' = some ⟨b, off, none⟩ → w.heap.size ≤ b) ∧ Below w.heap.size w w' := by
 have HA := Lib.hid hA
 have Hs := Lib.hid hs
 have Hc := Lib.hid hcm
 clear hA hs hcm
 cases A with
 | none =>
   have H0 : Hid (n = 0) := by
    show n = 0
    rcases HA.out with h | ⟨b, off, h, _⟩
    · have := bytesV_length s
      rw [h] at this
      rw [← Hs.out]; simpa using this.symm
    · cases h
   have q22 : ∀ (W : World), (binOp .eql 22 (.slice none n c) (.slice none 0 0)).run Tryz.prog W = .ok (.bool true) W := fun W => Lib.run_eql_slice_nil W _ _ none n c 0 0 Tryz.underlying22
   go_enter Tryz.func51, Tryz.ntmps51
   go_wp2_with (fail)
   go_ret
   have h0 := H0.out
   subst h0
   exact ⟨none, 0, rfl, Nat.le_refl _, by omega, HA.out, (fun b off h => by cases h), Below.refl _ _⟩
 | some a =>
   have q22 : ∀ (W : World), (binOp .eql 22 (.slice (some a) n c) (.slice none 0 0)).run Tryz.prog W = .ok (.bool false) W := fun W => Lib.run_eql_slice_nil W _ _ (some a) n c 0 0 Tryz.underlying22
   go_enter Tryz.func51, Tryz.ntmps51
   go_wp2_with (
    (at_builtin
     refine wpList_append_cells rfl (.tmp 5) (.tmp 6) 22 rfl w.heap.size 5 (.int .u8 0) 1 1 (by kernel_rfl) (by kernel_rfl) rfl (by omega) (.slice (some ⟨w.heap.size, 0, none⟩) 0 0) 0 [] (World.ownsRow_lit (size := 1) w #[] 0 (Nat.le_refl _) (Nat.zero_le _) rfl) rfl (some a) n c (bytesV s) rfl (by rw [bytesV_length, Hs.out, Nat.mul_one]) (HA.out.alloc _) (bytesV_one _) (by unfold maxLen; omega) (by omega) (by simp) ?_
     intro v3 w3 hown3 hg3 _
     have hb3 := Lib.hid (below_grown ((Below.refl w.heap.size w).alloc (Nat.le_refl _) (.cells #[] 5)) hg3 (by simp) (by intro k hk; simp [Value.ownBlock] at hk; omega))
     obtain ⟨A3, c3, rfl, le3, lm3, -⟩ := own_form hown3
     have Hown3 := Lib.hid hown3
     have Le3 := Lib.hid le3
     have Lm3 := Lib.hid lm3
     clear hown3 hg3 le3 lm3))
   go_ret
   have h := Hown3.out
   rw [List.nil_append] at h
   exact ⟨A3, c3, rfl, by have := Le3.out; omega, Lm3.out, Cells.own h, (fun b off hb => own_base h b (by rw [hb]; rfl)), hb3.out⟩
end Go.Proofs.YtkflpoiobpblhaaGreat
