/- The walk of the reference's constants. -/
import Derived.Test.YtcijhakofoklcaaRef1
import Derived.StillTailTactics
namespace Go.Proofs.Ytcijhakofoklcaa
open Go.RowKit
theorem and1 {s : Nat} (hs : s < 256) : IntKind.u64.wrap (bits .and .i64 (s : Int) 1) = ((s &&& 1 : Nat) : Int) := by
  have h : ∀ s : Fin 256, IntKind.u64.wrap (bits .and .i64 (s.1 : Int) 1) = ((s.1 &&& 1 : Nat) : Int) := by decide +kernel
  exact h ⟨s, hs⟩
set_option maxRecDepth 100000 in
set_option maxHeartbeats 4000000 in
theorem constants_any (w : World) : Calls Try.prog 84 #[] w fun e w' => e = .returned (.agg (arrK .u64 constL)) ∧ Below w.heap.size w w' := by
  have hz168 : ∀ W, (zeroValue 114).run Try.prog W = .ok (.agg (arrK .u64 (List.replicate 168 0))) W := fun W => by kernel_rfl
  go_enter Try.func84, Try.ntmps84
  go_wp2_with (
    (refine wpList_store_same rfl 114 (.tmp 1) (.tmp 7) rfl (w.heap.size + 1) (arrK .u64 (List.replicate 168 0)) rfl rfl 114 (blk_two w (arrK .u64 (List.replicate 24 0)) (arrK .u64 (List.replicate 168 0)) 93 114).2 (by kernel_rfl) (arrK_all _ _) ?_
     generalize hge : World.alloc _ _ = w1
     have H1 := Lib.hid (show Blk w1 w.heap.size 93 (arrK .u64 (List.replicate 24 0)) by subst hge; exact (blk_two w (arrK .u64 (List.replicate 24 0)) (arrK .u64 (List.replicate 168 0)) 93 114).1)
     have H2 := Lib.hid (show Blk w1 (w.heap.size + 1) 114 (arrK .u64 (List.replicate 168 0)) by subst hge; exact (blk_two w (arrK .u64 (List.replicate 24 0)) (arrK .u64 (List.replicate 168 0)) 93 114).2)
     have hB : Below w.heap.size w w1 := by subst hge; exact ((Below.refl _ _).alloc (Nat.le_refl _) _).alloc (by simp) _
     clear hge))
  clear hz168
  go_loopw [2, 3] (fun s i wr => ∃ k : Nat, k ≤ 168 ∧ i = .int .i64 k ∧ s = .int .i64 (csAcc k).2 ∧ Hid (Blk wr (w.heap.size + 1) 114 (arrK .u64 (csAcc k).1)) ∧ w1.grownBy wr (some (w.heap.size + 1))) (fun _ i _ => 168 - (intOf i).toNat)
  case atStart => exact ⟨0, by omega, rfl, by rw [csAcc_zero]; rfl, by show Blk _ _ _ _; rw [csAcc_zero]; exact H2.out, World.grownBy.refl _ _⟩
  case round =>
    obtain ⟨k, hk, rfl, rfl, Ht, hg⟩ := hrel
    obtain ⟨hl, hs, -⟩ := csAcc_small k
    by_cases hlk : k < 168
    · have hdk : decide ((k : Int) < 168) = true := by simp; omega
      have e := csAcc_succ k
      have Hst := Lib.hid (show Blk (wr.setCell ⟨w.heap.size + 1, k, none⟩ (.int .u64 ((csAcc k).2 &&& 1 : Nat))) (w.heap.size + 1) 114 (arrK .u64 (csAcc (k + 1)).1) by
        rw [e]; exact Ht.out.put _ _)
      have ey : (csAcc (k + 1)).2 = lfsr (csAcc k).2 := by rw [e]
      have hf := Ht.out.frozen k
      have hc := Ht.out.word (i := k) (by omega)
      clear e
      generalize (csAcc k).1.getD k 0 = old at *
      generalize (csAcc k).2 = s at *
      have Ey := Lib.hid ey
      clear ey hl
      have g1 := and1 hs
      generalize s &&& 1 = bt at *
      have hg2 := Lib.hid (show w1.grownBy (wr.setCell ⟨w.heap.size + 1, k, none⟩ (.int .u64 (bt : Nat))) (some (w.heap.size + 1)) from grown_trans hg (grown_setCell _ _ _))
      by_cases hbig : 2 * s > 255
      · have hdb : decide ((256 : Int) ≤ 2 * (s : Int)) = true := by simp; omega
        have hx := lfsr_ref hs
        have Hs3 := Lib.hid (show lfsr s = 2 * s ^^^ 369 by rw [lfsr_eq, if_pos hbig])
        go_wp2_with (fail)
        go_roundw
        case rel => exact ⟨k + 1, by omega, by go_num, by rw [Ey.out, Hs3.out], Hst.out, hg2.out⟩
        case measure => simp [intOf]; omega
      · have hdb : decide ((256 : Int) ≤ 2 * (s : Int)) = false := by simp; omega
        have Hs3 := Lib.hid (show lfsr s = 2 * s by rw [lfsr_eq, if_neg hbig])
        go_wp2_with (fail)
        go_roundw
        case rel => exact ⟨k + 1, by omega, by go_num, by rw [Ey.out, Hs3.out]; go_num, Hst.out, hg2.out⟩
        case measure => simp [intOf]; omega
    · have hk168 : Hid (k = 168) := by show k = 168; omega
      have hdk : decide ((k : Int) < 168) = false := by simp; omega
      have HC2 := Lib.hid (show Blk wr (w.heap.size + 1) 114 (arrK .u64 bitsL) by have := Ht.out; rw [hk168.out, ← bitsL_eq] at this; exact this)
      have hcl : bitsL.length = 168 ∧ ∀ i, bitsL.getD i 0 < 2 := by rw [bitsL_eq]; exact ⟨(csAcc_small 168).1, (csAcc_small 168).2.2⟩
      have Hcl := Lib.hid hcl
      have HR2 := Lib.hid (H1.out.grown hg (by simp))
      have hB2 := below_grown hB hg (Nat.le_of_lt H1.out.lt) (by simp)
      have hS2 : w.heap.size + 1 + 1 ≤ wr.heap.size := HC2.out.lt
      clear Ht H1 H2 hB hs hl hcl
      generalize (csAcc k).2 = sl at *
      obtain ⟨w2, rfl⟩ : ∃ w2 : World, w2 = wr := ⟨_, rfl⟩
      go_wp2_with (
        (refine wpList_store_same rfl 93 (.tmp 4) (.tmp 24) rfl w2.heap.size (arrK .u64 (List.replicate 24 0)) rfl rfl 93 (Blk.new w2 93 (arrK .u64 (List.replicate 24 0))) (by kernel_rfl) (arrK_all _ _) ?_
         generalize hge : World.alloc _ _ = w3
         have HK3 := Lib.hid (show Blk w3 w2.heap.size 93 (arrK .u64 (List.replicate 24 0)) by subst hge; exact Blk.new w2 _ _)
         have HC3 := Lib.hid (show Blk w3 (w.heap.size + 1) 114 (arrK .u64 bitsL) by subst hge; exact HC2.out.alloc _)
         have HR3 := Lib.hid (show Blk w3 w.heap.size 93 (arrK .u64 (List.replicate 24 0)) by subst hge; exact HR2.out.alloc _)
         have hB3 : Below w.heap.size w w3 := by subst hge; exact hB2.alloc hB2.size _
         clear hge HC2 HR2 hB2))
      go_loopw [5] (fun i wr => ∃ r : Nat, r ≤ 24 ∧ i = .int .i64 r ∧ Hid (Blk wr w2.heap.size 93 (arrK .u64 (rkOut bitsL r))) ∧ w3.grownBy wr (some w2.heap.size)) (fun i _ => 24 - (intOf i).toNat)
      case atStart => exact ⟨0, by omega, rfl, by show Blk _ _ _ _; rw [rkOut_zero]; exact HK3.out, World.grownBy.refl _ _⟩
      case round =>
        obtain ⟨r, hr, rfl, Hk, hg5⟩ := hrel
        by_cases hlr : r < 24
        · have hdr : decide ((r : Int) < 24) = true := by simp; omega
          obtain ⟨P, hP⟩ : ∃ P, rkOut bitsL r = P := ⟨_, rfl⟩
          have Hpl := Lib.hid (show P.length = 24 ∧ AllW P by rw [← hP]; exact ⟨rkOut_length _ _, rkOut_w Hcl.out.2 r⟩)
          have Hnx := Lib.hid (show rkOut bitsL (r + 1) = rkIn bitsL r P 7 by rw [rkOut_succ, hP])
          rw [hP] at Hk
          clear hP
          obtain ⟨w5, rfl⟩ : ∃ w5 : World, w5 = wr := ⟨_, rfl⟩
          go_wp2_with (fail)
          go_loopw [6] (fun i wr => ∃ j : Nat, j ≤ 7 ∧ i = .int .i64 j ∧ Hid (Blk wr w2.heap.size 93 (arrK .u64 (rkIn bitsL r P j))) ∧ w5.grownBy wr (some w2.heap.size)) (fun i _ => 7 - (intOf i).toNat)
          case atStart => exact ⟨0, by omega, rfl, by show Blk _ _ _ _; rw [rkIn_zero]; exact Hk.out, World.grownBy.refl _ _⟩
          case round =>
            obtain ⟨j, hj, rfl, Hj, hg6⟩ := hrel
            by_cases hlj : j < 7
            · have hdj : decide ((j : Int) < 7) = true := by simp; omega
              have hcj := Hcl.out.2 (7 * r + j)
              have HCr := (HC3.out.grown hg5 (by simp; omega)).grown hg6 (by simp; omega)
              have e1 := Hj.out.word (i := r) (by rw [rkIn_length, Hpl.out.1]; exact hlr)
              have f1 := Hj.out.frozen r
              have e2 := HCr.word (i := 7 * r + j) (by rw [Hcl.out.1]; omega)
              have wz := rkIn_w Hcl.out.2 r Hpl.out.2 j (by omega) r
              have Hst := Lib.hid (show Blk (wr.drew.setCell ⟨w2.heap.size, r, none⟩ (.int .u64 ((rkIn bitsL r P j).getD r 0 ||| (bitsL.getD (7 * r + j) 0 <<< (2 ^ j - 1)) : Nat))) w2.heap.size 93 (arrK .u64 (rkIn bitsL r P (j + 1))) by
                rw [rkIn_succ]; exact (Hj.out.drewN 1).put _ _)
              clear HCr
              generalize (rkIn bitsL r P j).getD r 0 = z at *
              generalize bitsL.getD (7 * r + j) 0 = cv at *
              have hor := or_w wz (rkV_w hcj hlj)
              have hsh := rk_walk hcj hlj
              have hrI : (r : Int) < 24 := by omega
              have g7 : ((7 * r + j : Nat) : Int) < 168 := by omega
              have g8 : 7 * (r : Int) + (j : Int) < 168 := by omega
              have g9 : (7 * (r : Int) + (j : Int)).toNat = 7 * r + j := by omega
              have g10 : IntKind.i64.wrap (7 * (r : Int) + (j : Int)) = 7 * (r : Int) + (j : Int) := IntWalk.i64_in _ (by omega)
              have g11 : 0 ≤ 7 * (r : Int) + (j : Int) := by omega
              have g12 : IntKind.i64.wrap (7 * (r : Int)) = 7 * (r : Int) := IntWalk.i64_in _ (by omega)
              have hg7 := Lib.hid (show w5.grownBy wr.drew (some w2.heap.size) from grown_trans hg6 (grown_of_below (((Drawn.refl wr).drewN 1).below _) _))
              generalize cv <<< (2 ^ j - 1) = sv at *
              go_wp2_with (fail)
              refine wp_region_still_tail 16 (by kernel_rfl) (by kernel_rfl) ?_
              simp only [List.take_succ_cons, List.take_zero, List.drop_succ_cons, List.drop_zero]
              repeat still_step
              refine wpStill_nil ?_
              change wpList _ _ _ _ _ wr.drew
              go_wp2_with (fail)
              go_roundw
              case rel => exact ⟨j + 1, by omega, by go_num, Hst.out, grown_trans hg7.out (grown_setCell _ _ _)⟩
              case measure => simp [intOf]; omega
            · have hj7 : Hid (j = 7) := by show j = 7; omega
              have hdj : decide ((j : Int) < 7) = false := by simp; omega
              have Hj2 := Lib.hid (show Blk wr w2.heap.size 93 (arrK .u64 (rkOut bitsL (r + 1))) by have := Hj.out; rw [hj7.out, ← Hnx.out] at this; exact this)
              have hg8 := Lib.hid (grown_trans hg5 hg6)
              clear Hj
              go_wp2_with (fail)
              go_roundw
              case rel => exact ⟨r + 1, by omega, by go_num, Hj2.out, hg8.out⟩
              case measure => simp [intOf]; omega
        · have hr24 : Hid (r = 24) := by show r = 24; omega
          have hdr : decide ((r : Int) < 24) = false := by simp; omega
          have HK4 := Lib.hid (show Blk wr w2.heap.size 93 (arrK .u64 constL) by have := Hk.out; rw [hr24.out, rk_all] at this; exact this)
          have HR4 := Lib.hid (HR3.out.grown hg5 (by simp; omega))
          have hB4 := below_grown hB3 hg5 (Nat.le_of_lt HR3.out.lt) (by simp; omega)
          clear Hk
          go_wp2_with (first
            | (refine wpList_load_blk rfl 93 (.tmp 4) rfl w2.heap.size rfl 93 (arrK .u64 constL) (.array 24 92) HK4.out (by kernel_rfl) rfl (by kernel_rfl) ?_)
            | (refine wpList_put_blk rfl 93 (.tmp 0) (.tmp 49) rfl w.heap.size (arrK .u64 constL) rfl rfl 93 (arrK .u64 (List.replicate 24 0)) HR4.out (by kernel_rfl) (by kernel_rfl) (arrK_all _ _) ?_
               intro w6 H6 hg6 hz6
               have HR6 := Lib.hid H6
               have hB6 := below_grown hB4 hg6 hB4.size (by simp)
               clear H6 hz6))
          exact ret_row rfl w.heap.size 93 (arrK .u64 constL) (.array 24 92) rfl HR6.out (by kernel_rfl) rfl (by kernel_rfl) rfl ⟨rfl, hB6⟩
end Go.Proofs.Ytcijhakofoklcaa
