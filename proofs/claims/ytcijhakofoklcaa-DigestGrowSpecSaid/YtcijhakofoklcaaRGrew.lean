/- The walk of the reference's Grew. -/
import Derived.Test.YtcijhakofoklcaaRBoth
import Derived.Test.YtcijhakofoklcaaWGrew
namespace Go.Proofs.Ytcijhakofoklcaa
open Go.RowKit
set_option linter.unusedVariables false in
set_option linter.unusedSimpArgs false in
set_option maxRecDepth 100000 in
set_option maxHeartbeats 8000000 in
theorem rgrew_in (a b : List Nat) (n m : Nat) (A : Option Addr) (q c : Nat) (p : List (List Nat)) (w : World) (ha : IsD a) (hb : IsD b) (hn1 : 1 ≤ n) (hn : n ≤ m) (hm : m ≤ 1099511627776) (hp : p.length = q) (hP : IsL p) (hqc : q ≤ c) (Hcm : Hid (c ≤ maxLen)) (hA : Cells w A (bytesV p.flatten)) :
    Calls Try.prog 39 #[.agg (arrK .u8 a), .agg (arrK .u8 b), .int .i64 n, .int .i64 m, .slice A q c] w fun e w' => e = .returned (.bool (grewS a b n m p)) ∧ Below w.heap.size w w' := by
  have Ha := Lib.hid ha
  have Hb := Lib.hid hb
  have lz := Lib.hid z32_length
  have q1 : decide ((n : Int) < 1) = false := by simp; omega
  have q1' : decide (n < 1) = false := by simp; omega
  have q2 : decide ((m : Int) < (n : Int)) = false := by simp; omega
  have q2' : decide (m < n) = false := by simp; omega
  have q3 : decide ((1099511627776 : Int) < (m : Int)) = false := by simp; omega
  have q3' : decide (1099511627776 < m) = false := by simp; omega
  have HN := Lib.hid (fun W => rgrown_any m n true W hn1 hn hm)
  have P0 := Lib.hid (fun hq W (h : Cells W A (bytesV p.flatten)) => rboth_any m n true q a p A c W hn1 hn hm ha hp hP hq hqc Hcm h)
  obtain ⟨Dx0, Dy0⟩ := bothS_isD m n true a p ha hP
  unfold grewS
  rw [hp]
  obtain ⟨⟨x, y⟩, hbs⟩ : ∃ r, bothS a n m true p = r := ⟨_, rfl⟩
  rw [hbs] at P0 Dx0 Dy0 ⊢
  obtain ⟨g, hg⟩ : ∃ g, grownS n m true = g := ⟨_, rfl⟩
  rw [hg] at HN P0 ⊢
  simp only [] at P0 Dx0 Dy0 ⊢
  have Dx := Lib.hid Dx0
  have Dy := Lib.hid Dy0
  have HE1 := Lib.hid (fun W => run_eqD Dx.out Ha.out W)
  have HE2 := Lib.hid (fun W => run_eqD Dy.out Hb.out W)
  obtain ⟨r1, hr1⟩ : ∃ r, decide (x = a) = r := ⟨_, rfl⟩
  obtain ⟨r2, hr2⟩ : ∃ r, decide (y = b) = r := ⟨_, rfl⟩
  rw [hr1] at HE1 ⊢
  rw [hr2] at HE2 ⊢
  have HA := Lib.hid hA
  clear hr1 hr2 hbs Dx0 Dy0 ha hb hP hp hA hg hn1 hn hm
  by_cases hqg : q = g
  · have P := Lib.hid (P0.out hqg)
    have hd : decide (q = g) = true := decide_eq_true hqg
    rw [hd]
    subst hqg
    have g1 : ((q : Int) != (q : Int)) = false := by simp
    have g2 : (q != q) = false := by simp
    clear hd P0
    cases r1 <;> cases r2
    all_goals
      simp only [Bool.and_true, Bool.true_and, Bool.and_false, Bool.false_and]
      go_enter Try.func39, Try.ntmps39
      go_wp2_with (fail)
      generalize hge : World.alloc _ _ = w1
      have HA1 := Lib.hid (show Blk w1 w.heap.size 37 (arrK .u8 a) by subst hge; exact (blk_two w (arrK .u8 a) (arrK .u8 b) 37 37).1)
      have HB1 := Lib.hid (show Blk w1 (w.heap.size + 1) 37 (arrK .u8 b) by subst hge; exact (blk_two w (arrK .u8 a) (arrK .u8 b) 37 37).2)
      have HW1 := Lib.hid (show Below w.heap.size w w1 by subst hge; exact ((Below.refl _ _).alloc (Nat.le_refl _) _).alloc (by simp) _)
      clear hge
      refine (HN.out _).mono ?_
      rintro e w9 ⟨rfl, rfl⟩
      go_wp2_with (first
        | (refine wpList_load_blk rfl 37 (.tmp 5) rfl w.heap.size rfl 37 (arrK .u8 a) (.array 32 5) HA1.out (by kernel_rfl) rfl (info32 Ha.out.1) ?_))
      refine (P.out _ (HA.out.below HW1.out)).mono ?_
      rintro e w2 ⟨rfl, hb2⟩
      have HA2 := Lib.hid (HA1.out.below hb2)
      have HB2 := Lib.hid (HB1.out.below hb2)
      have HW2 := Lib.hid (below_of HW1.out hb2 HW1.out.size)
      have l4 := HB2.out.lt
      clear hb2 HA1 HB1 HW1
      go_wp2_with (first
        | (refine wpList_load_blk_g 37 (.tmp 5) (by rfl) (by rfl) (w.heap.size) rfl 37 (arrK .u8 a) (.array 32 5) HA3.out (by kernel_rfl) rfl (info32 Ha.out.1) ?_)
        | (refine wpList_load_blk_g 37 (.tmp 6) (by rfl) (by rfl) (w.heap.size + 1) rfl 37 (arrK .u8 b) (.array 32 5) HB3.out (by kernel_rfl) rfl (info32 Hb.out.1) ?_)
        | (refine wpList_load_blk_g 37 (.tmp 11) (by rfl) (by rfl) (w2.heap.size) rfl 37 (arrK .u8 x) (.array 32 5) HX3.out (by kernel_rfl) rfl (info32 Dx.out.1) ?_)
        | (refine wpList_load_blk_g 37 (.tmp 12) (by rfl) (by rfl) (w2.heap.size + 1) rfl 37 (arrK .u8 y) (.array 32 5) HY3.out (by kernel_rfl) rfl (info32 Dy.out.1) ?_)
        | (refine wpList_put_blk rfl 37 (.tmp 12) (.tmp 39) rfl (w2.heap.size + 1) (arrK .u8 y) rfl rfl 37 (arrK .u8 z32) HY.out (info32 Dy.out.1) (by rw [len32 Dy.out.1, len32 lz.out]) (arrK_all _ _) ?_
           intro w4 HY4 hg4 hz4
           have HX3 := Lib.hid (HX.out.grown hg4 (by simp)); have HY3 := Lib.hid HY4
           have hb4 := below_grown hb3.out hg4 hb3.out.size (by simp)
           have HA3 := Lib.hid (HA2.out.below hb4); have HB3 := Lib.hid (HB2.out.below hb4)
           have HBf := Lib.hid (HW2.out.trans (hb4.mono HW2.out.size))
           have eq1 := HE1.out; have eq2 := HE2.out
           clear hg4 hz4 hb4 HY4)
        | (refine wpList_put_blk rfl 37 (.tmp 11) (.tmp 38) rfl w2.heap.size (arrK .u8 x) rfl rfl 37 (arrK .u8 z32) (blk_two w2 (arrK .u8 z32) (arrK .u8 z32) 37 37).1 (info32 Dx.out.1) (by rw [len32 Dx.out.1, len32 lz.out]) (arrK_all _ _) ?_
           intro w3 HX3' hg3 hz3
           have HX := Lib.hid HX3'
           have HY := Lib.hid ((blk_two w2 (arrK .u8 z32) (arrK .u8 z32) 37 37).2.grown hg3 (by simp))
           have hb3 := Lib.hid (show Below w2.heap.size w2 w3 from below_grown (((Below.refl w2.heap.size w2).alloc (Nat.le_refl _) (.cells (arrK .u8 z32) 37)).alloc (by simp) (.cells (arrK .u8 z32) 37)) hg3 (by simp; omega) (by simp))
           clear hg3 hz3 HX3'))
      go_ret
      exact ⟨rfl, HBf.out⟩
  · have hd : decide (q = g) = false := decide_eq_false hqg
    rw [hd, Bool.false_and, Bool.false_and]
    have g1 : ((q : Int) != (g : Int)) = true := by simp; omega
    have g2 : (q != g) = true := by simp; omega
    clear hd P0 hqg
    go_enter Try.func39, Try.ntmps39
    go_wp2_with (fail)
    refine (HN.out _).mono ?_
    rintro e w9 ⟨rfl, rfl⟩
    go_wp2_with (fail)
    go_ret
    exact ⟨rfl, ((Below.refl _ _).alloc (Nat.le_refl _) _).alloc (by simp) _⟩
theorem rgrew_any (a b : List Nat) (n m : Int) (A : Option Addr) (q c : Nat) (p : List (List Nat)) (w : World) (ha : IsD a) (hb : IsD b) (hp : p.length = q) (hP : IsL p) (hqc : q ≤ c) (Hcm : Hid (c ≤ maxLen)) (hA : Cells w A (bytesV p.flatten)) :
    Calls Try.prog 39 #[.agg (arrK .u8 a), .agg (arrK .u8 b), .int .i64 n, .int .i64 m, .slice A q c] w fun e w' => e = .returned (.bool (grewR a b n m p)) ∧ Below w.heap.size w w' := by
  by_cases h : 1 ≤ n ∧ n ≤ m ∧ m ≤ 1099511627776
  · obtain ⟨k, rfl⟩ := Int.eq_ofNat_of_zero_le (show 0 ≤ n by omega)
    obtain ⟨j, rfl⟩ := Int.eq_ofNat_of_zero_le (show 0 ≤ m by omega)
    have e : grewR a b (k : Int) (j : Int) p = grewS a b k j p := by
      unfold grewR
      rw [decide_eq_true h, Bool.true_and, Int.toNat_natCast, Int.toNat_natCast]
    rw [e]
    exact rgrew_in a b k j A q c p w ha hb (by omega) (by omega) (by omega) hp hP hqc Hcm hA
  · have e : grewR a b n m p = false := by unfold grewR; rw [decide_eq_false h]; rfl
    rw [e]
    have h' : n < 1 ∨ (1 ≤ n ∧ m < n) ∨ (1 ≤ n ∧ n ≤ m ∧ 1099511627776 < m) := by omega
    clear h e ha hb hp hP hqc hA
    rcases h' with h | ⟨h0, h⟩ | ⟨h0, h1, h⟩
    · have q1 : decide (n < 1) = true := by simp; omega
      go_enter Try.func39, Try.ntmps39
      go_wp2_with (fail)
      go_ret
      exact ⟨rfl, ((Below.refl _ _).alloc (Nat.le_refl _) _).alloc (by simp) _⟩
    · have q1 : decide (n < 1) = false := by simp; omega
      have q2 : decide (m < n) = true := by simp; omega
      go_enter Try.func39, Try.ntmps39
      go_wp2_with (fail)
      go_ret
      exact ⟨rfl, ((Below.refl _ _).alloc (Nat.le_refl _) _).alloc (by simp) _⟩
    · have q1 : decide (n < 1) = false := by simp; omega
      have q2 : decide (m < n) = false := by simp; omega
      have q3 : decide (1099511627776 < m) = true := by simp; omega
      go_enter Try.func39, Try.ntmps39
      go_wp2_with (fail)
      go_ret
      exact ⟨rfl, ((Below.refl _ _).alloc (Nat.le_refl _) _).alloc (by simp) _⟩
end Go.Proofs.Ytcijhakofoklcaa
