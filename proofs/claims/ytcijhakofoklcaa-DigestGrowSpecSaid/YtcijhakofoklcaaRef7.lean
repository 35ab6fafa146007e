/- The reference's Climb and Same. -/
import Derived.Test.YtcijhakofoklcaaRef6
namespace Go.Proofs.Ytcijhakofoklcaa
open Go.RowKit
set_option linter.unusedSimpArgs false in
set_option maxRecDepth 100000 in
set_option maxHeartbeats 4000000 in
theorem rclimb_bad (d : List Nat) (at_ n : Int) (A : Option Addr) (m c : Nat) (w : World) (hd : IsD d) (hb : ¬ (1 ≤ n ∧ n ≤ 1099511627776 ∧ 0 ≤ at_ ∧ at_ < n)) :
    Calls Try.prog 55 #[.agg (arrK .u8 d), .int .i64 at_, .int .i64 n, .slice A m c] w fun e w' => e = .returned (.tuple #[.agg (arrK .u8 z32), .int .i64 1]) ∧ Below w.heap.size w w' := by
  have Hb := Lib.hid hb
  have Hd := Lib.hid hd
  clear hb hd
  have h : n < 1 ∨ (1 ≤ n ∧ 1099511627776 < n) ∨ (1 ≤ n ∧ n ≤ 1099511627776 ∧ at_ < 0) ∨ (1 ≤ n ∧ n ≤ 1099511627776 ∧ 0 ≤ at_ ∧ n ≤ at_) := by have := Hb.out; omega
  rcases h with h1 | ⟨h1, h2⟩ | ⟨h1, h2, h3⟩ | ⟨h1, h2, h3, h4⟩
  all_goals
    go_enter Try.func55, Try.ntmps55
    go_wp2_with (first
      | (refine wpList_load_blk rfl 37 (.tmp 8) rfl (w.heap.size + 1) rfl 37 (arrK .u8 z32) (.array 32 5) (blk_two w (arrK .u8 d) (arrK .u8 z32) 37 37).2 (by kernel_rfl) rfl (by kernel_rfl) ?_)
      | (refine wpList_store_same rfl 37 (.tmp 8) (.tmp 33) rfl (w.heap.size + 1) (arrK .u8 z32) rfl rfl 37 (blk_two w (arrK .u8 d) (arrK .u8 z32) 37 37).2 (by kernel_rfl) (arrK_all _ _) ?_))
    exact ret_row2 rfl (w.heap.size + 1) 37 (arrK .u8 z32) (.array 32 5) rfl rfl (blk_two w (arrK .u8 d) (arrK .u8 z32) 37 37).2 (by kernel_rfl) rfl (by kernel_rfl) rfl ⟨rfl, ((Below.refl _ _).alloc (Nat.le_refl _) _).alloc (by simp) _⟩
set_option linter.unusedSimpArgs false in
set_option maxRecDepth 100000 in
set_option maxHeartbeats 4000000 in
theorem rclimb_good (d : List Nat) (at0 n0 : Nat) (A : Option Addr) (m c : Nat) (p : List (List Nat)) (w : World) (hd : IsD d) (h1 : 1 ≤ n0) (h2 : n0 ≤ 1099511627776) (h3 : at0 < n0) (hp : p.length = m) (hP : IsL p) (hmc : m ≤ c) (hcm : c ≤ maxLen) (hA : Cells w A (bytesV p.flatten)) :
    Calls Try.prog 55 #[.agg (arrK .u8 d), .int .i64 at0, .int .i64 n0, .slice A m c] w fun e w' =>
      (m = (dirsS at0 n0).length → e = .returned (.tuple #[.agg (arrK .u8 (climbS d at0 n0 p)), .int .i64 0])) ∧ (m ≠ (dirsS at0 n0).length → e = .returned (.tuple #[.agg (arrK .u8 z32), .int .i64 1])) ∧ Below w.heap.size w w' := by
  have Hd := Lib.hid hd
  have Hp := Lib.hid hp
  have HP := Lib.hid hP
  have HA := Lib.hid hA
  have Hcm := Lib.hid hcm
  clear hd hp hP hA
  unfold maxLen at hcm
  have h1I : (1 : Int) ≤ (n0 : Int) := by omega
  have h2I : (n0 : Int) ≤ 1099511627776 := by omega
  have h3I : (at0 : Int) < (n0 : Int) := by omega
  have q1 : decide ((n0 : Int) < 1) = false := by simp; omega
  have q2 : decide ((1099511627776 : Int) < (n0 : Int)) = false := by simp; omega
  have q3 : decide ((at0 : Int) < 0) = false := by simp
  have q4 : decide ((n0 : Int) ≤ (at0 : Int)) = false := by simp; omega
  have q5 : decide (n0 ≤ at0) = false := by simp; omega
  have q6 : decide (n0 < 1) = false := by simp; omega
  have q7 : decide (1099511627776 < n0) = false := by simp; omega
  have HL := Lib.hid (fun W => rlength_any n0 at0 W h3 h2)
  by_cases hm : m = (dirsS at0 n0).length
  · have HC := Lib.hid (fun W h => rclimb_in n0 at0 m d p A c W h3 h2 Hd.out Hp.out HP.out hm hmc Hcm h)
    have Hm := Lib.hid hm
    rw [← hm] at HL
    have g1 : ((m : Int) != (m : Int)) = false := by simp
    have g2 : (m != m) = false := by simp
    have Dx := Lib.hid (climbS_isD d at0 n0 p)
    generalize climbS d at0 n0 p = x at *
    clear hm
    go_enter Try.func55, Try.ntmps55
    go_wp2_with (fail)
    generalize hge : World.alloc _ _ = w1
    have HX := Lib.hid (show Blk w1 w.heap.size 37 (arrK .u8 d) by subst hge; exact (blk_two w (arrK .u8 d) (arrK .u8 z32) 37 37).1)
    have HR := Lib.hid (show Blk w1 (w.heap.size + 1) 37 (arrK .u8 z32) by subst hge; exact (blk_two w (arrK .u8 d) (arrK .u8 z32) 37 37).2)
    have HB := Lib.hid (show Below w.heap.size w w1 by subst hge; exact ((Below.refl _ _).alloc (Nat.le_refl _) _).alloc (by simp) _)
    clear hge
    go_wp2_with (first
      | (go_at_call 76; refine (HL.out _).mono ?_; rintro e w' ⟨rfl, rfl⟩)
      | (go_at_call 77; refine (HC.out _ (HA.out.below HB.out)).mono ?_; rintro e w5 ⟨rfl, hb5⟩; have HR5 := Lib.hid (HR.out.below hb5); have HB5 := Lib.hid (below_of HB.out hb5 HB.out.size); clear hb5)
      | (refine wpList_load_blk rfl 37 (.tmp 4) rfl w.heap.size rfl 37 (arrK .u8 d) (.array 32 5) HX.out (by kernel_rfl) rfl (info32 Hd.out.1) ?_)
      | (refine wpList_put_blk rfl 37 (.tmp 8) (.tmp 38) rfl (w.heap.size + 1) (arrK .u8 x) rfl rfl 37 (arrK .u8 z32) HR5.out (info32 Dx.out.1) (by rw [len32 Dx.out.1, len32 z32_length]) (arrK_all _ _) ?_
         intro w6 HD6 hg6 hz6
         have HD6 := Lib.hid HD6
         have HB6 := below_grown HB5.out hg6 HB5.out.size (by simp)
         clear hg6 hz6))
    exact ret_row2 rfl (w.heap.size + 1) 37 (arrK .u8 x) (.array 32 5) rfl rfl HD6.out (by kernel_rfl) rfl (info32 Dx.out.1) rfl ⟨fun _ => rfl, fun h => absurd Hm.out h, HB6⟩
  · have Hm := Lib.hid hm
    generalize hL : (dirsS at0 n0).length = L at *
    have g1 : ((m : Int) != (L : Int)) = true := by simp; omega
    have g2 : (m != L) = true := by simp; omega
    clear hm hL
    go_enter Try.func55, Try.ntmps55
    go_wp2_with (fail)
    go_wp2_with (first
      | (go_at_call 76; refine (HL.out _).mono ?_; rintro e w' ⟨rfl, rfl⟩)
      | (refine wpList_load_blk rfl 37 (.tmp 8) rfl (w.heap.size + 1) rfl 37 (arrK .u8 z32) (.array 32 5) (blk_two w (arrK .u8 d) (arrK .u8 z32) 37 37).2 (by kernel_rfl) rfl (by kernel_rfl) ?_)
      | (refine wpList_store_same rfl 37 (.tmp 8) (.tmp 33) rfl (w.heap.size + 1) (arrK .u8 z32) rfl rfl 37 (blk_two w (arrK .u8 d) (arrK .u8 z32) 37 37).2 (by kernel_rfl) (arrK_all _ _) ?_))
    exact ret_row2 rfl (w.heap.size + 1) 37 (arrK .u8 z32) (.array 32 5) rfl rfl (blk_two w (arrK .u8 d) (arrK .u8 z32) 37 37).2 (by kernel_rfl) rfl (by kernel_rfl) rfl ⟨fun h => absurd h Hm.out, fun _ => rfl, ((Below.refl _ _).alloc (Nat.le_refl _) _).alloc (by simp) _⟩
theorem rclimb_any (d : List Nat) (at_ n : Int) (A : Option Addr) (m c : Nat) (p : List (List Nat)) (w : World) (hd : IsD d) (hp : p.length = m) (hP : IsL p) (hmc : m ≤ c) (hcm : c ≤ maxLen) (hA : Cells w A (bytesV p.flatten)) :
    Calls Try.prog 55 #[.agg (arrK .u8 d), .int .i64 at_, .int .i64 n, .slice A m c] w fun e w' =>
      e = .returned (.tuple #[.agg (arrK .u8 (climbR d at_ n p)), .int .i64 (errArg (okClimb at_ n m))]) ∧ Below w.heap.size w w' := by
  by_cases hb : 1 ≤ n ∧ n ≤ 1099511627776 ∧ 0 ≤ at_ ∧ at_ < n
  · obtain ⟨h1, h2, h3, h4⟩ := hb
    obtain ⟨n0, rfl⟩ := Int.eq_ofNat_of_zero_le (show 0 ≤ n by omega)
    obtain ⟨a0, rfl⟩ := Int.eq_ofNat_of_zero_le h3
    refine (rclimb_good d a0 n0 A m c p w hd (by omega) (by omega) (by omega) hp hP hmc hcm hA).mono ?_
    rintro e w' ⟨g1, g2, g3⟩
    refine ⟨?_, g3⟩
    have hall : decide ((1 : Int) ≤ (n0 : Int) ∧ (n0 : Int) ≤ 1099511627776 ∧ 0 ≤ (a0 : Int) ∧ (a0 : Int) < (n0 : Int)) = true := decide_eq_true ⟨h1, h2, h3, h4⟩
    by_cases hm : m = (dirsS a0 n0).length
    · rw [g1 hm]
      have hok : okClimb a0 n0 m = true := by unfold okClimb; rw [hall]; simp [hm]
      unfold climbR
      rw [hp, hok]
      unfold errArg; rfl
    · rw [g2 hm]
      have hok : okClimb a0 n0 m = false := by unfold okClimb; rw [hall]; simp [hm]
      unfold climbR
      rw [hp, hok]
      unfold errArg; rfl
  · refine (rclimb_bad d at_ n A m c w hd hb).mono ?_
    rintro e w' ⟨g1, g3⟩
    refine ⟨?_, g3⟩
    have hok : okClimb at_ n m = false := by unfold okClimb; rw [decide_eq_false hb]; rfl
    rw [g1]
    unfold climbR
    rw [hp, hok]
    unfold errArg; rfl
set_option linter.unusedSimpArgs false in
set_option maxRecDepth 100000 in
set_option maxHeartbeats 4000000 in
theorem same_any (l : List (List Nat)) (m : Nat) (A B : Option Addr) (c c2 : Nat) (w : World) (hl : l.length = m) (hL : IsL l) (hm : m ≤ 1000000) (hA : Cells w A (bytesV l.flatten)) (hB : Cells w B (bytesV l.flatten)) :
    Calls Try.prog 36 #[.slice A m c, .slice B m c2] w fun e w' => e = .returned (.bool true) ∧ Below w.heap.size w w' := by
  have Hl := Lib.hid hl
  have HL := Lib.hid hL
  have HA := Lib.hid hA
  have HB := Lib.hid hB
  clear hl hL hA hB
  have g1 : ((m : Int) != (m : Int)) = false := by simp
  have g2 : (m != m) = false := by simp
  go_enter Try.func36, Try.ntmps36
  go_wp2_with (fail)
  go_loopw [5] (fun i wr => ∃ k : Nat, k ≤ m ∧ i = .int .i64 k ∧ Hid (Below w.heap.size w wr)) (fun i _ => m - (intOf i).toNat)
  case atStart => exact ⟨0, by omega, rfl, Below.refl _ _⟩
  case round =>
    obtain ⟨k, hk, rfl, Hbr⟩ := hrel
    by_cases hkm : k < m
    · have hdk : decide ((k : Int) < (m : Int)) = true := by simp; omega
      have hdk2 : decide (k < m) = true := by simp; omega
      have hkI : (k : Int) < (m : Int) := by omega
      obtain ⟨d, hd⟩ := getElem?_lt (l := l) (k := k) (by rw [Hl.out]; exact hkm)
      have Dd := Lib.hid (HL.out d (List.mem_of_getElem? hd))
      obtain ⟨pb, po, rfl, -, -⟩ := Cells.addr HA.out (by rw [bytesV_length, HL.out.flat_length, Hl.out]; omega)
      obtain ⟨qb, qo, rfl, -, -⟩ := Cells.addr HB.out (by rw [bytesV_length, HL.out.flat_length, Hl.out]; omega)
      have R1 := Lib.hid (fun W (h : Below w.heap.size w W) => range_at HL.out (HA.out.below h) hd)
      have R2 := Lib.hid (fun W (h : Below w.heap.size w W) => range_at HL.out (HB.out.below h) hd)
      have hEq : ∀ W, (Op.equalIn 10000 37 (.agg (arrK .u8 d)) (.agg (arrK .u8 d))).run Try.prog W = .ok true W := fun W => by
        have := run_eqD Dd.out Dd.out W
        simpa using this
      clear hd
      go_wp2_with (fail)
      refine wp_region_held_drew (S := fun W => Below w.heap.size w W) (by kernel_rfl) (Hbr.out.trans (below_drewN (Below.refl _ _) 1)) (fun Hd => ?_)
      replace Hd : Below w.heap.size w wr.drew := Hd
      generalize World.drew wr = wd at *
      refine wpAnyH_take (i := 0) (v := ?_) rfl (by kernel_rfl) (by kernel_rfl) (by kernel_rfl) (fun _ _ _ h => h) (Or.inl ⟨by rfl, ?_⟩) Hd ?_
      rotate_left
      · intro w hSw; go_simp; try with_reducible rfl
      simp only [List.getElem_toArray, List.getElem_cons_zero, List.getElem_cons_succ, Act.put, List.setIfInBounds_toArray, List.set_cons_zero, List.set_cons_succ]
      refine wpAnyH_take (i := 1) (v := ?_) rfl (by kernel_rfl) (by kernel_rfl) (by kernel_rfl) (fun _ _ _ h => h) (Or.inl ⟨by rfl, ?_⟩) Hd ?_
      rotate_left
      · intro w hSw; go_simp; try with_reducible rfl
      simp only [List.getElem_toArray, List.getElem_cons_zero, List.getElem_cons_succ, Act.put, List.setIfInBounds_toArray, List.set_cons_zero, List.set_cons_succ]
      refine wpAnyH_take (i := 2) (v := ?_) rfl (by kernel_rfl) (by kernel_rfl) (by kernel_rfl) (fun _ _ _ h => h) (Or.inl ⟨by rfl, ?_⟩) Hd ?_
      rotate_left
      · intro w hSw; go_simp; try with_reducible rfl
      simp only [List.getElem_toArray, List.getElem_cons_zero, List.getElem_cons_succ, Act.put, List.setIfInBounds_toArray, List.set_cons_zero, List.set_cons_succ]
      refine wpAnyH_take (i := 3) (v := .agg (arrK .u8 d)) rfl (by kernel_rfl) (by kernel_rfl) (by kernel_rfl) (fun _ _ _ h => h) (yieldsIf_load_mid (by rfl) _ _ rfl _ _ rfl (d.map fun (n : Nat) => Value.int .u8 (n : Int)) (.array 32 5) (fun W hW => R1.out W hW) (by kernel_rfl) rfl (dV_info Dd.out.1)) Hd ?_
      simp only [List.getElem_toArray, List.getElem_cons_zero, List.getElem_cons_succ, Act.put, List.setIfInBounds_toArray, List.set_cons_zero, List.set_cons_succ]
      refine wpAnyH_take (i := 4) (v := ?_) rfl (by kernel_rfl) (by kernel_rfl) (by kernel_rfl) (fun _ _ _ h => h) (Or.inl ⟨by rfl, ?_⟩) Hd ?_
      rotate_left
      · intro w hSw; go_simp; try with_reducible rfl
      simp only [List.getElem_toArray, List.getElem_cons_zero, List.getElem_cons_succ, Act.put, List.setIfInBounds_toArray, List.set_cons_zero, List.set_cons_succ]
      refine wpAnyH_take (i := 5) (v := ?_) rfl (by kernel_rfl) (by kernel_rfl) (by kernel_rfl) (fun _ _ _ h => h) (Or.inl ⟨by rfl, ?_⟩) Hd ?_
      rotate_left
      · intro w hSw; go_simp; try with_reducible rfl
      simp only [List.getElem_toArray, List.getElem_cons_zero, List.getElem_cons_succ, Act.put, List.setIfInBounds_toArray, List.set_cons_zero, List.set_cons_succ]
      refine wpAnyH_take (i := 6) (v := ?_) rfl (by kernel_rfl) (by kernel_rfl) (by kernel_rfl) (fun _ _ _ h => h) (Or.inl ⟨by rfl, ?_⟩) Hd ?_
      rotate_left
      · intro w hSw; go_simp; try with_reducible rfl
      simp only [List.getElem_toArray, List.getElem_cons_zero, List.getElem_cons_succ, Act.put, List.setIfInBounds_toArray, List.set_cons_zero, List.set_cons_succ]
      refine wpAnyH_take (i := 7) (v := .agg (arrK .u8 d)) rfl (by kernel_rfl) (by kernel_rfl) (by kernel_rfl) (fun _ _ _ h => h) (yieldsIf_load_mid (by rfl) _ _ rfl _ _ rfl (d.map fun (n : Nat) => Value.int .u8 (n : Int)) (.array 32 5) (fun W hW => R2.out W hW) (by kernel_rfl) rfl (dV_info Dd.out.1)) Hd ?_
      simp only [List.getElem_toArray, List.getElem_cons_zero, List.getElem_cons_succ, Act.put, List.setIfInBounds_toArray, List.set_cons_zero, List.set_cons_succ]
      refine wpAnyH_take (i := 8) (v := ?_) rfl (by kernel_rfl) (by kernel_rfl) (by kernel_rfl) (fun _ _ _ h => h) (Or.inl ⟨by rfl, ?_⟩) Hd ?_
      rotate_left
      · intro w hSw; go_simp; try with_reducible rfl
      simp only [List.getElem_toArray, List.getElem_cons_zero, List.getElem_cons_succ, Act.put, List.setIfInBounds_toArray, List.set_cons_zero, List.set_cons_succ]
      refine wpAnyH_done (by kernel_rfl) ?_ _
      go_wp2_with (fail)
      go_roundw
      case rel => exact ⟨k + 1, by omega, by go_num, Hd⟩
      case measure => simp [intOf]; omega
    · have hdk : decide ((k : Int) < (m : Int)) = false := by simp; omega
      have hdk2 : decide (k < m) = false := by simp; omega
      go_wp2_with (fail)
      go_ret
      exact ⟨rfl, Hbr.out⟩
end Go.Proofs.Ytcijhakofoklcaa
