/- New at a seed of any length. -/
import Derived.Test.YtcijhakofoklcaaSig10
namespace Go.Proofs.Ytcijhakofoklcaa
open Go.RowKit
def reachN : Nat := 140737488351232
set_option maxRecDepth 100000 in
set_option maxHeartbeats 1000000 in
theorem clone_big (A : Option Addr) (n c : Nat) (s : List Nat) (w : World) (hA : Cells w A (bytesV s)) (hs : s.length = n) (hn : n ≤ reachN) (hnc : n ≤ c) (hcm : c ≤ maxLen) :
    Calls Try.prog 57 #[.slice A n c] w fun e w' => ∃ A' c', e = .returned (.slice A' n c') ∧ n ≤ c' ∧ c' ≤ maxLen ∧ Cells w' A' (bytesV s) ∧ Hid (∀ b off, A' = some ⟨b, off, none⟩ → w.heap.size ≤ b) ∧ Below w.heap.size w w' := by
  have HA := Lib.hid hA
  have Hs := Lib.hid hs
  have Hc := Lib.hid hcm
  have R1 := Lib.hid (show 0 + n ≤ maxLen by unfold reachN at hn; unfold maxLen; omega)
  have R2 := Lib.hid (show (0 + n) * 1 ≤ 140737488355328 by unfold reachN at hn; omega)
  clear hA hs hcm hn
  cases A with
  | none =>
    have H0 : Hid (n = 0) := by
      show n = 0
      rcases HA.out with h | ⟨b, off, h, _⟩
      · have := bytesV_length s
        rw [h] at this
        rw [← Hs.out]; simpa using this.symm
      · cases h
    have q22 : ∀ (W : World), (binOp .eql 22 (.slice none n c) (.slice none 0 0)).run Try.prog W = .ok (.bool true) W := fun W => Lib.run_eql_slice_nil W _ _ none n c 0 0 Try.underlying22
    go_enter Try.func57, Try.ntmps57
    go_wp2_with (fail)
    go_ret
    have h0 := H0.out
    subst h0
    exact ⟨none, 0, rfl, Nat.le_refl _, by omega, HA.out, (fun b off h => by cases h), Below.refl _ _⟩
  | some a =>
    have q22 : ∀ (W : World), (binOp .eql 22 (.slice (some a) n c) (.slice none 0 0)).run Try.prog W = .ok (.bool false) W := fun W => Lib.run_eql_slice_nil W _ _ (some a) n c 0 0 Try.underlying22
    go_enter Try.func57, Try.ntmps57
    go_wp2_with (
      (at_builtin
       refine wpList_append_cells rfl (.tmp 5) (.tmp 6) 22 rfl w.heap.size 5 (.int .u8 0) 1 1 (by kernel_rfl) (by kernel_rfl) rfl (by omega) (.slice (some ⟨w.heap.size, 0, none⟩) 0 0) 0 [] (World.ownsRow_lit (size := 1) w #[] 0 (Nat.le_refl _) (Nat.zero_le _) rfl) rfl (some a) n c (bytesV s) rfl (by rw [bytesV_length, Hs.out, Nat.mul_one]) (HA.out.alloc _) (bytesV_one _) R1.out R2.out (by simp) ?_
       intro v3 w3 hown3 hg3 _
       have hb3 := Lib.hid (below_grown ((Below.refl w.heap.size w).alloc (Nat.le_refl _) (.cells #[] 5)) hg3 (by simp) (by intro k hk; simp [Value.ownBlock] at hk; omega))
       obtain ⟨A3, c3, rfl, le3, lm3, -⟩ := own_form hown3
       have Hown3 := Lib.hid hown3
       have Le3 := Lib.hid le3
       have Lm3 := Lib.hid lm3
       clear hown3 hg3 le3 lm3))
    go_ret
    have h := Hown3.out
    rw [List.nil_append] at h
    exact ⟨A3, c3, rfl, by have := Le3.out; omega, Lm3.out, Cells.own h, (fun b off hb => own_base h b (by rw [hb]; rfl)), hb3.out⟩
set_option linter.unusedSimpArgs false in
set_option maxRecDepth 100000 in
set_option maxHeartbeats 4000000 in
theorem New_big (A : Option Addr) (n c : Nat) (m : Int) (s : List Nat) (w : World) (hA : Cells w A (bytesV s)) (hs : s.length = n) (hn : n ≤ reachN) (hnc : n ≤ c) (hcm : c ≤ maxLen) (hk : okKey n m 0 = false) :
    Calls Try.prog 23 #[.slice A n c, .int .i64 m] w fun e w' => e = .returned (.tuple #[.agg #[.slice none 0 0, .int .i64 0, .int .i64 0], .int .i64 40]) ∧ Below w.heap.size w w' := by
  have HA := Lib.hid hA
  have Hs := Lib.hid hs
  have Hcm := Lib.hid hcm
  have HV := Lib.hid (fun A c W => valid_any A n c m 0 W)
  rw [hk] at HV
  clear hA hs hcm hk
  go_enter Try.func23, Try.ntmps23
  go_wp2_with (fail)
  generalize hge : World.alloc _ _ = w1
  have HR := Lib.hid (show Blk w1 w.heap.size 24 #[.slice none 0 0, .int .i64 0, .int .i64 0] by subst hge; exact Blk.new w _ _)
  have HB := Lib.hid (show Below w.heap.size w w1 by subst hge; exact (Below.refl _ _).alloc (Nat.le_refl _) _)
  clear hge
  refine (clone_big A n c s w1 (HA.out.below HB.out) Hs.out hn hnc Hcm.out).mono ?_
  rintro e w2 ⟨A2, c2, rfl, hc2, hm2, hC2, hne2, hb2⟩
  have HR2 := Lib.hid (HR.out.below hb2)
  have HB2 := Lib.hid (below_of HB.out hb2 HB.out.size)
  have C2 := Lib.hid hC2
  have Hm2 := Lib.hid hm2
  clear hb2 hC2 hm2
  go_wp2_with (fail)
  generalize hge : World.alloc _ _ = w3
  have HT3 := Lib.hid (show Blk w3 w2.heap.size 24 #[.slice A2 n c2, .int .i64 m, .int .i64 0] by subst hge; exact Blk.new w2 _ _)
  have hb3 : Below w2.heap.size w2 w3 := by subst hge; exact (Below.refl _ _).alloc (Nat.le_refl _) _
  have HR3 := Lib.hid (HR2.out.below hb3)
  have HB3 := Lib.hid (below_of HB2.out hb3 HB2.out.size)
  have C3 := Lib.hid (C2.out.below hb3)
  clear hge hb3
  refine (HV.out A2 c2 w3).mono ?_
  rintro e w4 ⟨rfl, hb4⟩
  have HT4 := Lib.hid (HT3.out.below hb4)
  have HR4 := Lib.hid (HR3.out.below hb4)
  have HB4 := Lib.hid (below_of HB3.out hb4 HB3.out.size)
  have C4 := Lib.hid (C3.out.below hb4)
  clear hb4
  have q0 := HR4.out.cellv (i := 0) rfl
  have q1 := HR4.out.cellv (i := 1) rfl
  have q2 := HR4.out.cellv (i := 2) rfl
  have g0 := HR4.out.frozen 0
  have g1 := HR4.out.frozen 1
  have g2 := HR4.out.frozen 2
  go_wp2_with (fail)
  have hp := put3 HR4.out (.slice none 0 0) (.int .i64 0) (.int .i64 0)
  exact ret_row2 rfl w.heap.size 24 #[.slice none 0 0, .int .i64 0, .int .i64 0] _ rfl rfl hp.1 Try.underlying24 rfl (by kernel_rfl) rfl ⟨rfl, below_grown HB4.out hp.2 HB4.out.size (by simp)⟩
end Go.Proofs.Ytcijhakofoklcaa
