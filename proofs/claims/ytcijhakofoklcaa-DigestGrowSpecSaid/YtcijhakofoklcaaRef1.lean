/- The walks of the reference's at, rol, turns, constants. -/
import Derived.Test.YtcijhakofoklcaaBlk
import Derived.Test.YtcijhakofoklcaaRefP
namespace Go.Proofs.Ytcijhakofoklcaa
open Go.RowKit
theorem at_any (x y : Int) (w : World) (hx : 0 ≤ x) (hx2 : x ≤ 100) (hy : -5 ≤ y) (hy2 : y ≤ 100) :
    Calls Try.prog 90 #[.int .i64 x, .int .i64 y] w fun e w' => e = .returned (.int .i64 (5 * ((y + 5) % 5) + (x + 5) % 5)) ∧ w = w' := by
  have h1 : 0 ≤ y + 5 := by omega
  have h2 : 0 ≤ x + 5 := by omega
  have h3 : 0 ≤ (y + 5) % 5 := by omega
  have h4 : (y + 5) % 5 < 5 := by omega
  have h5 : 0 ≤ (x + 5) % 5 := by omega
  have h6 : (x + 5) % 5 < 5 := by omega
  go_enter Try.func90, Try.ntmps90
  go_wp2
  go_ret
  exact ⟨ret_int (by omega), rfl⟩
theorem at_xy (x y : Nat) (w : World) (hx : x < 5) (hy : y < 5) :
    Calls Try.prog 90 #[.int .i64 x, .int .i64 y] w fun e w' => e = .returned (.int .i64 (5 * y + x : Nat)) ∧ w' = w := by
  refine (at_any x y w (by omega) (by omega) (by omega) (by omega)).mono ?_
  rintro e w' ⟨rfl, rfl⟩
  exact ⟨ret_int (by omega), rfl⟩
theorem rol_any (v s : Nat) (hs : s < 64) (hv : IsW v) (w : World) :
    Calls Try.prog 91 #[.int .u64 v, .int .i64 s] w fun e w' => e = .returned (.int .u64 (rotl v s : Nat)) ∧ ∃ m, w' = w.drewN m := by
  have hsI : (s : Int) < 64 := by omega
  have hm : (s : Int) % 64 = s := by omega
  by_cases h0 : s = 0
  · subst h0
    have hv0 : rotl v 0 = v := by
      unfold rotl
      rw [Nat.shiftLeft_zero, Nat.mod_eq_of_lt hv, Nat.shiftRight_eq_div_pow, Nat.div_eq_of_lt (by exact hv)]
      simp
    rw [hv0]
    clear hv0 hm hsI
    go_enter Try.func91, Try.ntmps91
    go_wp2
    go_ret
    exact ⟨rfl, 0, rfl⟩
  · have h1 : ((s : Int) == 0) = false := by simp; omega
    have hm2 : (s : Int).tmod 64 = s := by rw [Int.tmod_eq_emod_of_nonneg (by omega)]; omega
    go_enter Try.func91, Try.ntmps91
    go_wp2
    go_quiet (fail)
    go_wp2
    go_ret
    exact ⟨ret_int (rot_eq hv), _, rfl⟩
set_option maxRecDepth 100000 in
set_option maxHeartbeats 4000000 in
theorem turns_any (w : World) : Calls Try.prog 83 #[] w fun e w' => e = .returned (.agg (arrK .i64 turnL)) ∧ Below w.heap.size w w' := by
  go_enter Try.func83, Try.ntmps83
  go_wp2_with (
    (refine wpList_store_same rfl 91 (.tmp 1) (.tmp 6) rfl (w.heap.size + 1) (arrK .i64 (List.replicate 25 0)) rfl rfl 91 (blk_two w (arrK .i64 (List.replicate 25 0)) (arrK .i64 (List.replicate 25 0)) 91 91).2 (by kernel_rfl) (arrK_all _ _) ?_
     generalize hge : World.alloc _ _ = w1
     have H1 := Lib.hid (show Blk w1 w.heap.size 91 (arrK .i64 (List.replicate 25 0)) by subst hge; exact (blk_two w (arrK .i64 (List.replicate 25 0)) (arrK .i64 (List.replicate 25 0)) 91 91).1)
     have H2 := Lib.hid (show Blk w1 (w.heap.size + 1) 91 (arrK .i64 (List.replicate 25 0)) by subst hge; exact (blk_two w (arrK .i64 (List.replicate 25 0)) (arrK .i64 (List.replicate 25 0)) 91 91).2)
     have hB : Below w.heap.size w w1 := by subst hge; exact ((Below.refl _ _).alloc (Nat.le_refl _) _).alloc (by simp) _
     clear hge))
  go_loopw [2, 3, 4] (fun x y i wr => ∃ k : Nat, k ≤ 24 ∧ i = .int .i64 k ∧ x = .int .i64 (tAcc k).1 ∧ y = .int .i64 (tAcc k).2.1 ∧ Hid (Blk wr (w.heap.size + 1) 91 (arrK .i64 (tAcc k).2.2)) ∧ w1.grownBy wr (some (w.heap.size + 1))) (fun _ _ i _ => 24 - (intOf i).toNat)
  case atStart => exact ⟨0, by omega, rfl, by rw [tAcc_zero]; rfl, by rw [tAcc_zero]; rfl, by show Blk _ _ _ _; rw [tAcc_zero]; exact H2.out, World.grownBy.refl _ _⟩
  case round =>
    obtain ⟨k, hk, rfl, rfl, rfl, Ht, hg⟩ := hrel
    obtain ⟨hx, hy, hl⟩ := tAcc_small k hk
    by_cases hlk : k < 24
    · have hdk : decide ((k : Int) < 24) = true := by simp; omega
      have e : tAcc (k + 1) = tStep (tAcc k) k := tAcc_succ k
      have Hst := Lib.hid (show Blk (wr.setCell ⟨w.heap.size + 1, 5 * (tAcc k).2.1 + (tAcc k).1, none⟩ (.int .i64 ((k + 1) * (k + 2) / 2 % 64 : Nat))) (w.heap.size + 1) 91 (arrK .i64 (tAcc (k + 1)).2.2) by
        rw [e]; exact Ht.out.put _ _)
      have ex : (tAcc (k + 1)).1 = (tAcc k).2.1 := by rw [e]; rfl
      have ey : (tAcc (k + 1)).2.1 = (2 * (tAcc k).1 + 3 * (tAcc k).2.1) % 5 := by rw [e]; rfl
      have hf := Ht.out.frozen (5 * (tAcc k).2.1 + (tAcc k).1)
      have hc := Ht.out.word (i := 5 * (tAcc k).2.1 + (tAcc k).1) (by omega)
      clear e
      generalize (tAcc k).2.2.getD (5 * (tAcc k).2.1 + (tAcc k).1) 0 = old at *
      generalize (tAcc k).1 = x at *
      generalize (tAcc k).2.1 = y at *
      have Ex := Lib.hid ex
      have Ey := Lib.hid ey
      clear ex ey hl
      have g0 : ((k : Int) + 1) * ((k : Int) + 2) = (((k + 1) * (k + 2) : Nat) : Int) := by simp
      have hq : (k + 1) * (k + 2) ≤ 600 := Nat.mul_le_mul (show k + 1 ≤ 24 by omega) (show k + 2 ≤ 25 by omega)
      generalize (k + 1) * (k + 2) = q at *
      have g1 : IntKind.i64.wrap (q : Int) = (q : Int) := IntWalk.i64_in _ (by omega)
      have g2 : (q : Int).tdiv 2 = ((q / 2 : Nat) : Int) := by rw [Int.tdiv_eq_ediv_of_nonneg (by omega)]; omega
      have g3 : (((q / 2 : Nat) : Int)).tmod 64 = ((q / 2 % 64 : Nat) : Int) := by rw [Int.tmod_eq_emod_of_nonneg (by omega)]; omega
      have g4 : (2 * (x : Int) + 3 * (y : Int)).tmod 5 = (((2 * x + 3 * y) % 5 : Nat) : Int) := by rw [Int.tmod_eq_emod_of_nonneg (by omega)]; omega
      have g5 : (((5 * y + x : Nat)) : Int) < 25 := by omega
      have g8 : ((q / 2 % 64 : Nat) : Int) = (q : Int) / 2 % 64 := by omega
      have g9 : (((2 * x + 3 * y) % 5 : Nat) : Int) = (2 * (x : Int) + 3 * (y : Int)) % 5 := by omega
      have g6 : (5 * (y : Int) + (x : Int)).toNat = 5 * y + x := by omega
      have g7 : 5 * (y : Int) + (x : Int) < 25 := by omega
      have g10 : 0 ≤ 5 * (y : Int) + (x : Int) := by omega
      rw [g8] at Hst
      clear g8
      have hg2 := Lib.hid (show w1.grownBy (wr.setCell ⟨w.heap.size + 1, 5 * y + x, none⟩ (.int .i64 ((q : Int) / 2 % 64))) (some (w.heap.size + 1)) from grown_trans hg (grown_setCell _ _ _))
      go_wp2_with (go_at_call 90; refine (at_xy x y _ hx hy).mono ?_; rintro e w' ⟨rfl, rfl⟩)
      refine ⟨⟨k + 1, by omega, by simp, by rw [Ex.out], by rw [Ey.out, g9], Hst, hg2.out⟩, ?_⟩
      simp [intOf]; omega
    · have hk24 : Hid (k = 24) := by show k = 24; omega
      have hdk : decide ((k : Int) < 24) = false := by simp; omega
      have HT2 := Lib.hid (show Blk wr (w.heap.size + 1) 91 (arrK .i64 turnL) by have := Ht.out; rw [hk24.out, tAcc_all] at this; exact this)
      have HR2 := Lib.hid (H1.out.grown hg (by simp))
      have hB2 := below_grown hB hg (Nat.le_of_lt H1.out.lt) (by simp)
      clear Ht H1 H2 hB hx hy hl
      go_wp2_with (first
        | (refine wpList_load_blk rfl 91 (.tmp 1) rfl (w.heap.size + 1) rfl 91 (arrK .i64 turnL) (.array 25 3) HT2.out (by kernel_rfl) rfl (by kernel_rfl) ?_)
        | (refine wpList_put_blk rfl 91 (.tmp 0) (.tmp 30) rfl w.heap.size (arrK .i64 turnL) rfl rfl 91 (arrK .i64 (List.replicate 25 0)) HR2.out (by kernel_rfl) (by kernel_rfl) (arrK_all _ _) ?_
           intro w3 H3 hg3 hz3
           have HR3 := Lib.hid H3
           have hB3 := below_grown hB2 hg3 hB2.size (by simp)
           clear H3 hz3))
      exact ret_row rfl w.heap.size 91 (arrK .i64 turnL) (.array 25 3) rfl HR3.out (by kernel_rfl) rfl (by kernel_rfl) rfl ⟨rfl, hB3⟩
end Go.Proofs.Ytcijhakofoklcaa
