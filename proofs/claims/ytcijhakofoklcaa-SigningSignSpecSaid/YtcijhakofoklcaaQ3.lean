/- The statement SigningSignSpecSaid: for every key and message, Sign agrees with the reference; no condition beside the row's own. -/
import Derived.Test.YtcijhakofoklcaaSigR5
import Derived.Test.YtcijhakofoklcaaRow3
import Derived.ChangeMaps5
import Derived.BigGuardPart
import Derived.Test.YtcijhakofoklcaaSigR6
namespace Go.Proofs.Ytcijhakofoklcaa
open Go.RowKit Go.WideShapes Go.ChangeShapes Go.ChangeAt
theorem fewK_t3 {n : Nat} {m : Int} {k : Nat} (h : fewK n m k = true) : m ≤ 2 ∧ n ≤ 100 ∧ k ≤ 300 := by unfold fewK at h; exact of_decide_eq_true h
theorem pathR_le {l : List (List Nat)} (h : l.length ≤ 24) (at_ : Int) : (pathR l at_).length ≤ 1000000 := by
  unfold pathR
  split
  · rw [pathS_length _ _ _ rfl]
    exact Nat.le_trans (dirsS_pow 5 _ _ (by omega)) (by omega)
  · simp
set_option linter.unusedSimpArgs false in
set_option maxRecDepth 100000 in
set_option maxHeartbeats 4000000 in
theorem SigningSignSpec_walk (w : World) (A : Option Addr) (n c : Nat) (m u : Int) (s : List Nat) (hl : s.length = n) (_hnc : n ≤ c) (_hcm : c ≤ maxLen) (hA0 : Cells w A (bytesV s)) (h80 : ByteL s) (_wm : (Lit.int .i64 m).wf = true) (_wu : (Lit.int .i64 u).wf = true) (Bm : Option Addr) (km dm : Nat) (xsm : List Int) (hlm : xsm.length = km) (_hnm : km ≤ dm) (_hmm : dm ≤ maxLen) (hBm : Cells w Bm (xsm.map (Value.int .u8))) (hwm : ∀ x ∈ xsm, (Lit.int .u8 x).wf = true) :
    Calls Try.prog 3 #[.agg #[.slice A n c, .int .i64 m, .int .i64 u], .slice Bm km dm] w (Fine w) := by
  obtain ⟨msgm, hmlm, hm8m, hMm⟩ := open_bytes hBm hwm
  have HMm := Lib.hid hMm
  have Hmlm := Lib.hid (hmlm.trans hlm)
  have Hm8m := Lib.hid hm8m
  clear hMm hmlm hlm hm8m hBm hwm
  have HA := Lib.hid hA0
  have Hs := Lib.hid hl
  have Hs8 := Lib.hid h80
  clear hA0 hl h80
  have HFw := Lib.hid (fun W => few_any A n c m u Bm km dm W)
  have HVa := Lib.hid (fun W => rvalid_any A n c m u W)
  cases hok : okKey n m u with
  | false =>
    have HSb := Lib.hid (fun W => Sign_bad A n c m u Bm km dm W (.inl hok))
    have HRb := Lib.hid (fun W => rSign_bad A n c m u Bm km dm W (.inl hok))
    rw [hok] at HVa
    clear hok
    cases hfw : fewK n m km with
    | false =>
      rw [hfw] at HFw
      clear hfw
      go_enter Try.func3, Try.ntmps3
      go_wp2_with (fail)
      generalize hge : World.alloc _ _ = w0
      have HK0 := Lib.hid (show Blk w0 w.heap.size 24 #[.slice A n c, .int .i64 m, .int .i64 u] by subst hge; exact Blk.new w _ _)
      have HB0 := Lib.hid (show Below w.heap.size w w0 by subst hge; exact (Below.refl _ _).alloc (Nat.le_refl _) _)
      clear hge
      refine (ssane_any w0).mono ?_
      rintro e w1 ⟨rfl, hb1⟩
      have HK1 := Lib.hid (HK0.out.below hb1)
      have HB1 := Lib.hid (below_of HB0.out hb1 HB0.out.size)
      clear hb1
      have q0 := HK1.out.cellv (i := 0) rfl
      have q1 := HK1.out.cellv (i := 1) rfl
      have q2 := HK1.out.cellv (i := 2) rfl
      go_wp2_with (fail)
      refine (HFw.out w1).mono ?_
      rintro e w2 ⟨rfl, hb2⟩
      have HK2 := Lib.hid (HK1.out.below hb2)
      have HB2 := Lib.hid (below_of HB1.out hb2 HB1.out.size)
      clear hb2 q0 q1 q2
      have q0 := HK2.out.cellv (i := 0) rfl
      have q1 := HK2.out.cellv (i := 1) rfl
      have q2 := HK2.out.cellv (i := 2) rfl
      go_wp2_with (fail)
      refine (HVa.out w2).mono ?_
      rintro e w2b ⟨rfl, hb3⟩
      have HK2 := Lib.hid (HK2.out.below hb3)
      have HB2 := Lib.hid (below_of HB2.out hb3 HB2.out.size)
      clear hb3 q0 q1 q2
      have q0 := HK2.out.cellv (i := 0) rfl
      have q1 := HK2.out.cellv (i := 1) rfl
      have q2 := HK2.out.cellv (i := 2) rfl
      go_wp2_with (fail)
      refine (HSb.out w2b).mono ?_
      rintro e w3 ⟨rfl, hb3⟩
      have HK3 := Lib.hid (HK2.out.below hb3)
      have HB3 := Lib.hid (below_of HB2.out hb3 HB2.out.size)
      clear hb3 q0 q1 q2
      go_upto_region 6 with (fail)
      generalize hge : World.alloc _ _ = w4
      have HX4 := Lib.hid (show Blk w4 w3.heap.size 24 #[.slice none 0 0, .int .i64 0, .int .i64 0] by subst hge; exact (blk_two w3 _ _ 24 30).1)
      have HS4 := Lib.hid (show Blk w4 (w3.heap.size + 1) 30 #[.int .i64 0, .slice none 0 0, .slice none 0 0, .slice none 0 0] by subst hge; exact (blk_two w3 _ _ 24 30).2)
      have hb4 : Below w3.heap.size w3 w4 := by subst hge; exact below_two (Below.refl _ _) (Nat.le_refl _) _ _
      have HK4 := Lib.hid (HK3.out.below hb4)
      have HB4 := Lib.hid (below_of HB3.out hb4 HB3.out.size)
      clear hge hb4
      obtain ⟨X, hX⟩ : ∃ X, w3.heap.size = X := ⟨_, rfl⟩
      rw [hX] at HX4 HS4 ⊢
      clear hX
      have q0 := HK4.out.cellv (i := 0) rfl
      have q1 := HK4.out.cellv (i := 1) rfl
      have q2 := HK4.out.cellv (i := 2) rfl
      go_wp2_with (fail)
      refine (HRb.out w4).mono ?_
      rintro e w5 ⟨rfl, hb5⟩
      have HX5 := Lib.hid (HX4.out.below hb5)
      have HS5 := Lib.hid (HS4.out.below hb5)
      have HB5 := Lib.hid (below_of HB4.out hb5 HB4.out.size)
      clear hb5 q0 q1 q2
      go_upto_region 7 with (fail)
      generalize hge : World.alloc _ _ = w6
      have HY6 := Lib.hid (show Blk w6 w5.heap.size 24 #[.slice none 0 0, .int .i64 0, .int .i64 0] by subst hge; exact (blk_two w5 _ _ 24 30).1)
      have HT6 := Lib.hid (show Blk w6 (w5.heap.size + 1) 30 #[.int .i64 0, .slice none 0 0, .slice none 0 0, .slice none 0 0] by subst hge; exact (blk_two w5 _ _ 24 30).2)
      have hb6 : Below w5.heap.size w5 w6 := by subst hge; exact below_two (Below.refl _ _) (Nat.le_refl _) _ _
      have HX6 := Lib.hid (HX5.out.below hb6)
      have HS6 := Lib.hid (HS5.out.below hb6)
      have HB6 := Lib.hid (below_of HB5.out hb6 HB5.out.size)
      clear hge hb6
      obtain ⟨Y, hY⟩ : ∃ Y, w5.heap.size = Y := ⟨_, rfl⟩
      rw [hY] at HY6 HT6 ⊢
      clear hY
      have a0 := HX6.out.cellv (i := 0) rfl
      have a1 := HX6.out.cellv (i := 1) rfl
      have a2 := HX6.out.cellv (i := 2) rfl
      have b0 := HY6.out.cellv (i := 0) rfl
      have b1 := HY6.out.cellv (i := 1) rfl
      have b2 := HY6.out.cellv (i := 2) rfl
      go_wp2_with (fail)
      refine (samekey_any none none 0 0 0 0 0 [] w6 (.inl (by unfold bytesV; rfl)) (.inl (by unfold bytesV; rfl)) rfl (fun j => by simp)).mono ?_
      rintro e w7 ⟨rfl, hb7⟩
      have HS7 := Lib.hid (HS6.out.below hb7)
      have HT7 := Lib.hid (HT6.out.below hb7)
      have HB7 := Lib.hid (below_of HB6.out hb7 HB6.out.size)
      clear hb7 a0 a1 a2 b0 b1 b2
      have s0 := HS7.out.cellv (i := 0) rfl
      have s1 := HS7.out.cellv (i := 1) rfl
      have s2 := HS7.out.cellv (i := 2) rfl
      have s3 := HS7.out.cellv (i := 3) rfl
      have t0 := HT7.out.cellv (i := 0) rfl
      have t1 := HT7.out.cellv (i := 1) rfl
      have t2 := HT7.out.cellv (i := 2) rfl
      have t3 := HT7.out.cellv (i := 3) rfl
      go_wp2_with (fail)
      refine (samesig_any 0 none none none none none none 0 0 0 0 0 0 0 0 0 [] [] [] w7 rfl rfl rfl IsL.nil_ IsL.nil_ IsL.nil_ (by omega) (by omega) (by omega) (.inl (by unfold bytesV; rfl)) (.inl (by unfold bytesV; rfl)) (.inl (by unfold bytesV; rfl)) (.inl (by unfold bytesV; rfl)) (.inl (by unfold bytesV; rfl)) (.inl (by unfold bytesV; rfl))).mono ?_
      rintro e w8 ⟨rfl, hb8⟩
      have HB8 := Lib.hid (below_of HB7.out hb8 HB7.out.size)
      clear hb8 s0 s1 s2 s3 t0 t1 t2 t3
      go_wp2_with (fail)
      go_ret
      exact ⟨rfl, HB8.out⟩
    | true =>
      rw [hfw] at HFw
      clear hfw
      go_enter Try.func3, Try.ntmps3
      go_wp2_with (fail)
      generalize hge : World.alloc _ _ = w0
      have HK0 := Lib.hid (show Blk w0 w.heap.size 24 #[.slice A n c, .int .i64 m, .int .i64 u] by subst hge; exact Blk.new w _ _)
      have HB0 := Lib.hid (show Below w.heap.size w w0 by subst hge; exact (Below.refl _ _).alloc (Nat.le_refl _) _)
      clear hge
      refine (ssane_any w0).mono ?_
      rintro e w1 ⟨rfl, hb1⟩
      have HK1 := Lib.hid (HK0.out.below hb1)
      have HB1 := Lib.hid (below_of HB0.out hb1 HB0.out.size)
      clear hb1
      have q0 := HK1.out.cellv (i := 0) rfl
      have q1 := HK1.out.cellv (i := 1) rfl
      have q2 := HK1.out.cellv (i := 2) rfl
      go_wp2_with (fail)
      refine (HFw.out w1).mono ?_
      rintro e w2 ⟨rfl, hb2⟩
      have HK2 := Lib.hid (HK1.out.below hb2)
      have HB2 := Lib.hid (below_of HB1.out hb2 HB1.out.size)
      clear hb2 q0 q1 q2
      have q0 := HK2.out.cellv (i := 0) rfl
      have q1 := HK2.out.cellv (i := 1) rfl
      have q2 := HK2.out.cellv (i := 2) rfl
      go_wp2_with (fail)
      refine (HSb.out w2).mono ?_
      rintro e w3 ⟨rfl, hb3⟩
      have HK3 := Lib.hid (HK2.out.below hb3)
      have HB3 := Lib.hid (below_of HB2.out hb3 HB2.out.size)
      clear hb3 q0 q1 q2
      go_upto_region 6 with (fail)
      generalize hge : World.alloc _ _ = w4
      have HX4 := Lib.hid (show Blk w4 w3.heap.size 24 #[.slice none 0 0, .int .i64 0, .int .i64 0] by subst hge; exact (blk_two w3 _ _ 24 30).1)
      have HS4 := Lib.hid (show Blk w4 (w3.heap.size + 1) 30 #[.int .i64 0, .slice none 0 0, .slice none 0 0, .slice none 0 0] by subst hge; exact (blk_two w3 _ _ 24 30).2)
      have hb4 : Below w3.heap.size w3 w4 := by subst hge; exact below_two (Below.refl _ _) (Nat.le_refl _) _ _
      have HK4 := Lib.hid (HK3.out.below hb4)
      have HB4 := Lib.hid (below_of HB3.out hb4 HB3.out.size)
      clear hge hb4
      obtain ⟨X, hX⟩ : ∃ X, w3.heap.size = X := ⟨_, rfl⟩
      rw [hX] at HX4 HS4 ⊢
      clear hX
      have q0 := HK4.out.cellv (i := 0) rfl
      have q1 := HK4.out.cellv (i := 1) rfl
      have q2 := HK4.out.cellv (i := 2) rfl
      go_wp2_with (fail)
      refine (HRb.out w4).mono ?_
      rintro e w5 ⟨rfl, hb5⟩
      have HX5 := Lib.hid (HX4.out.below hb5)
      have HS5 := Lib.hid (HS4.out.below hb5)
      have HB5 := Lib.hid (below_of HB4.out hb5 HB4.out.size)
      clear hb5 q0 q1 q2
      go_upto_region 7 with (fail)
      generalize hge : World.alloc _ _ = w6
      have HY6 := Lib.hid (show Blk w6 w5.heap.size 24 #[.slice none 0 0, .int .i64 0, .int .i64 0] by subst hge; exact (blk_two w5 _ _ 24 30).1)
      have HT6 := Lib.hid (show Blk w6 (w5.heap.size + 1) 30 #[.int .i64 0, .slice none 0 0, .slice none 0 0, .slice none 0 0] by subst hge; exact (blk_two w5 _ _ 24 30).2)
      have hb6 : Below w5.heap.size w5 w6 := by subst hge; exact below_two (Below.refl _ _) (Nat.le_refl _) _ _
      have HX6 := Lib.hid (HX5.out.below hb6)
      have HS6 := Lib.hid (HS5.out.below hb6)
      have HB6 := Lib.hid (below_of HB5.out hb6 HB5.out.size)
      clear hge hb6
      obtain ⟨Y, hY⟩ : ∃ Y, w5.heap.size = Y := ⟨_, rfl⟩
      rw [hY] at HY6 HT6 ⊢
      clear hY
      have a0 := HX6.out.cellv (i := 0) rfl
      have a1 := HX6.out.cellv (i := 1) rfl
      have a2 := HX6.out.cellv (i := 2) rfl
      have b0 := HY6.out.cellv (i := 0) rfl
      have b1 := HY6.out.cellv (i := 1) rfl
      have b2 := HY6.out.cellv (i := 2) rfl
      go_wp2_with (fail)
      refine (samekey_any none none 0 0 0 0 0 [] w6 (.inl (by unfold bytesV; rfl)) (.inl (by unfold bytesV; rfl)) rfl (fun j => by simp)).mono ?_
      rintro e w7 ⟨rfl, hb7⟩
      have HS7 := Lib.hid (HS6.out.below hb7)
      have HT7 := Lib.hid (HT6.out.below hb7)
      have HB7 := Lib.hid (below_of HB6.out hb7 HB6.out.size)
      clear hb7 a0 a1 a2 b0 b1 b2
      have s0 := HS7.out.cellv (i := 0) rfl
      have s1 := HS7.out.cellv (i := 1) rfl
      have s2 := HS7.out.cellv (i := 2) rfl
      have s3 := HS7.out.cellv (i := 3) rfl
      have t0 := HT7.out.cellv (i := 0) rfl
      have t1 := HT7.out.cellv (i := 1) rfl
      have t2 := HT7.out.cellv (i := 2) rfl
      have t3 := HT7.out.cellv (i := 3) rfl
      go_wp2_with (fail)
      refine (samesig_any 0 none none none none none none 0 0 0 0 0 0 0 0 0 [] [] [] w7 rfl rfl rfl IsL.nil_ IsL.nil_ IsL.nil_ (by omega) (by omega) (by omega) (.inl (by unfold bytesV; rfl)) (.inl (by unfold bytesV; rfl)) (.inl (by unfold bytesV; rfl)) (.inl (by unfold bytesV; rfl)) (.inl (by unfold bytesV; rfl)) (.inl (by unfold bytesV; rfl))).mono ?_
      rintro e w8 ⟨rfl, hb8⟩
      have HB8 := Lib.hid (below_of HB7.out hb8 HB7.out.size)
      clear hb8 s0 s1 s2 s3 t0 t1 t2 t3
      go_wp2_with (fail)
      go_ret
      exact ⟨rfl, HB8.out⟩
  | true =>
    cases hfw : fewK n m km with
    | false =>
      rw [hok] at HVa
      rw [hfw] at HFw
      clear hok hfw
      go_enter Try.func3, Try.ntmps3
      go_wp2_with (fail)
      generalize hge : World.alloc _ _ = w0
      have HK0 := Lib.hid (show Blk w0 w.heap.size 24 #[.slice A n c, .int .i64 m, .int .i64 u] by subst hge; exact Blk.new w _ _)
      have HB0 := Lib.hid (show Below w.heap.size w w0 by subst hge; exact (Below.refl _ _).alloc (Nat.le_refl _) _)
      clear hge
      refine (ssane_any w0).mono ?_
      rintro e w1 ⟨rfl, hb1⟩
      have HK1 := Lib.hid (HK0.out.below hb1)
      have HB1 := Lib.hid (below_of HB0.out hb1 HB0.out.size)
      clear hb1
      have q0 := HK1.out.cellv (i := 0) rfl
      have q1 := HK1.out.cellv (i := 1) rfl
      have q2 := HK1.out.cellv (i := 2) rfl
      go_wp2_with (fail)
      refine (HFw.out w1).mono ?_
      rintro e w2 ⟨rfl, hb2⟩
      have HK2 := Lib.hid (HK1.out.below hb2)
      have HB2 := Lib.hid (below_of HB1.out hb2 HB1.out.size)
      clear hb2 q0 q1 q2
      have q0 := HK2.out.cellv (i := 0) rfl
      have q1 := HK2.out.cellv (i := 1) rfl
      have q2 := HK2.out.cellv (i := 2) rfl
      go_wp2_with (fail)
      refine (HVa.out w2).mono ?_
      rintro e w2b ⟨rfl, hb3⟩
      have HK2 := Lib.hid (HK2.out.below hb3)
      have HB2 := Lib.hid (below_of HB2.out hb3 HB2.out.size)
      clear hb3 q0 q1 q2
      have q0 := HK2.out.cellv (i := 0) rfl
      have q1 := HK2.out.cellv (i := 1) rfl
      have q2 := HK2.out.cellv (i := 2) rfl
      go_wp2_with (fail)
      go_ret
      exact ⟨rfl, HB2.out⟩
    | true =>
      rw [hfw] at HFw
      obtain ⟨hf1, hf2, hf3⟩ := fewK_t3 hfw
      clear hfw
      obtain ⟨h1, h2, h3, h4, h5, h6⟩ := okKey_true hok
      obtain ⟨m, rfl⟩ := Int.eq_ofNat_of_zero_le (show 0 ≤ m by omega)
      obtain ⟨u, rfl⟩ := Int.eq_ofNat_of_zero_le h5
      by_cases hum : u = m
      · subst hum
        have HSb := Lib.hid (fun W => Sign_bad A n c u u Bm km dm W (.inr ⟨hok, by omega, rfl⟩))
        have HRb := Lib.hid (fun W => rSign_bad A n c u u Bm km dm W (.inr ⟨hok, by omega, rfl⟩))
        go_enter Try.func3, Try.ntmps3
        go_wp2_with (fail)
        generalize hge : World.alloc _ _ = w0
        have HK0 := Lib.hid (show Blk w0 w.heap.size 24 #[.slice A n c, .int .i64 u, .int .i64 u] by subst hge; exact Blk.new w _ _)
        have HB0 := Lib.hid (show Below w.heap.size w w0 by subst hge; exact (Below.refl _ _).alloc (Nat.le_refl _) _)
        clear hge
        refine (ssane_any w0).mono ?_
        rintro e w1 ⟨rfl, hb1⟩
        have HK1 := Lib.hid (HK0.out.below hb1)
        have HB1 := Lib.hid (below_of HB0.out hb1 HB0.out.size)
        clear hb1
        have q0 := HK1.out.cellv (i := 0) rfl
        have q1 := HK1.out.cellv (i := 1) rfl
        have q2 := HK1.out.cellv (i := 2) rfl
        go_wp2_with (fail)
        refine (HFw.out w1).mono ?_
        rintro e w2 ⟨rfl, hb2⟩
        have HK2 := Lib.hid (HK1.out.below hb2)
        have HB2 := Lib.hid (below_of HB1.out hb2 HB1.out.size)
        clear hb2 q0 q1 q2
        have q0 := HK2.out.cellv (i := 0) rfl
        have q1 := HK2.out.cellv (i := 1) rfl
        have q2 := HK2.out.cellv (i := 2) rfl
        go_wp2_with (fail)
        refine (HSb.out w2).mono ?_
        rintro e w3 ⟨rfl, hb3⟩
        have HK3 := Lib.hid (HK2.out.below hb3)
        have HB3 := Lib.hid (below_of HB2.out hb3 HB2.out.size)
        clear hb3 q0 q1 q2
        go_upto_region 6 with (fail)
        generalize hge : World.alloc _ _ = w4
        have HX4 := Lib.hid (show Blk w4 w3.heap.size 24 #[.slice none 0 0, .int .i64 0, .int .i64 0] by subst hge; exact (blk_two w3 _ _ 24 30).1)
        have HS4 := Lib.hid (show Blk w4 (w3.heap.size + 1) 30 #[.int .i64 0, .slice none 0 0, .slice none 0 0, .slice none 0 0] by subst hge; exact (blk_two w3 _ _ 24 30).2)
        have hb4 : Below w3.heap.size w3 w4 := by subst hge; exact below_two (Below.refl _ _) (Nat.le_refl _) _ _
        have HK4 := Lib.hid (HK3.out.below hb4)
        have HB4 := Lib.hid (below_of HB3.out hb4 HB3.out.size)
        clear hge hb4
        obtain ⟨X, hX⟩ : ∃ X, w3.heap.size = X := ⟨_, rfl⟩
        rw [hX] at HX4 HS4 ⊢
        clear hX
        have q0 := HK4.out.cellv (i := 0) rfl
        have q1 := HK4.out.cellv (i := 1) rfl
        have q2 := HK4.out.cellv (i := 2) rfl
        go_wp2_with (fail)
        refine (HRb.out w4).mono ?_
        rintro e w5 ⟨rfl, hb5⟩
        have HX5 := Lib.hid (HX4.out.below hb5)
        have HS5 := Lib.hid (HS4.out.below hb5)
        have HB5 := Lib.hid (below_of HB4.out hb5 HB4.out.size)
        clear hb5 q0 q1 q2
        go_upto_region 7 with (fail)
        generalize hge : World.alloc _ _ = w6
        have HY6 := Lib.hid (show Blk w6 w5.heap.size 24 #[.slice none 0 0, .int .i64 0, .int .i64 0] by subst hge; exact (blk_two w5 _ _ 24 30).1)
        have HT6 := Lib.hid (show Blk w6 (w5.heap.size + 1) 30 #[.int .i64 0, .slice none 0 0, .slice none 0 0, .slice none 0 0] by subst hge; exact (blk_two w5 _ _ 24 30).2)
        have hb6 : Below w5.heap.size w5 w6 := by subst hge; exact below_two (Below.refl _ _) (Nat.le_refl _) _ _
        have HX6 := Lib.hid (HX5.out.below hb6)
        have HS6 := Lib.hid (HS5.out.below hb6)
        have HB6 := Lib.hid (below_of HB5.out hb6 HB5.out.size)
        clear hge hb6
        obtain ⟨Y, hY⟩ : ∃ Y, w5.heap.size = Y := ⟨_, rfl⟩
        rw [hY] at HY6 HT6 ⊢
        clear hY
        have a0 := HX6.out.cellv (i := 0) rfl
        have a1 := HX6.out.cellv (i := 1) rfl
        have a2 := HX6.out.cellv (i := 2) rfl
        have b0 := HY6.out.cellv (i := 0) rfl
        have b1 := HY6.out.cellv (i := 1) rfl
        have b2 := HY6.out.cellv (i := 2) rfl
        go_wp2_with (fail)
        refine (samekey_any none none 0 0 0 0 0 [] w6 (.inl (by unfold bytesV; rfl)) (.inl (by unfold bytesV; rfl)) rfl (fun j => by simp)).mono ?_
        rintro e w7 ⟨rfl, hb7⟩
        have HS7 := Lib.hid (HS6.out.below hb7)
        have HT7 := Lib.hid (HT6.out.below hb7)
        have HB7 := Lib.hid (below_of HB6.out hb7 HB6.out.size)
        clear hb7 a0 a1 a2 b0 b1 b2
        have s0 := HS7.out.cellv (i := 0) rfl
        have s1 := HS7.out.cellv (i := 1) rfl
        have s2 := HS7.out.cellv (i := 2) rfl
        have s3 := HS7.out.cellv (i := 3) rfl
        have t0 := HT7.out.cellv (i := 0) rfl
        have t1 := HT7.out.cellv (i := 1) rfl
        have t2 := HT7.out.cellv (i := 2) rfl
        have t3 := HT7.out.cellv (i := 3) rfl
        go_wp2_with (fail)
        refine (samesig_any 0 none none none none none none 0 0 0 0 0 0 0 0 0 [] [] [] w7 rfl rfl rfl IsL.nil_ IsL.nil_ IsL.nil_ (by omega) (by omega) (by omega) (.inl (by unfold bytesV; rfl)) (.inl (by unfold bytesV; rfl)) (.inl (by unfold bytesV; rfl)) (.inl (by unfold bytesV; rfl)) (.inl (by unfold bytesV; rfl)) (.inl (by unfold bytesV; rfl))).mono ?_
        rintro e w8 ⟨rfl, hb8⟩
        have HB8 := Lib.hid (below_of HB7.out hb8 HB7.out.size)
        clear hb8 s0 s1 s2 s3 t0 t1 t2 t3
        go_wp2_with (fail)
        go_ret
        exact ⟨rfl, HB8.out⟩
      · have hu : u < m := by omega
        have HSi := Lib.hid (fun W h h' => Sign_good A n c m u s Bm km dm msgm W h Hs.out Hs8.out hok hu h' Hmlm.out (by omega) Hm8m.out)
        have HRi := Lib.hid (fun W h h' => rSign_good A n c m u s Bm km dm msgm W h Hs.out Hs8.out hok hu h' Hmlm.out (by omega) Hm8m.out)
        obtain ⟨x, hx⟩ : ∃ x, bitL (msgS (treeS (pubL s m)) u msgm) 64 = x := ⟨_, rfl⟩
        rw [hx] at HSi HRi
        have Hol := Lib.hid (openL_length s u x 64)
        have Hcl := Lib.hid (closL_length s u x 64)
        have HoL := Lib.hid (openL_isL s u x 64)
        have HcL := Lib.hid (closL_isL s u x 64)
        have HpL := Lib.hid (pathR_isL (pubL s m) (u : Int))
        have Hqm := Lib.hid (show (pathR (pubL s m) (u : Int)).length ≤ 1000000 from pathR_le (by rw [pubL_length]; omega) _)
        clear hx hok h5 h6 h3
        generalize openL s u x 64 = ol at *
        generalize closL s u x 64 = cl at *
        generalize pathR (pubL s m) (u : Int) = pl at *
        go_enter Try.func3, Try.ntmps3
        go_wp2_with (fail)
        generalize hge : World.alloc _ _ = w0
        have HK0 := Lib.hid (show Blk w0 w.heap.size 24 #[.slice A n c, .int .i64 m, .int .i64 u] by subst hge; exact Blk.new w _ _)
        have HB0 := Lib.hid (show Below w.heap.size w w0 by subst hge; exact (Below.refl _ _).alloc (Nat.le_refl _) _)
        clear hge
        refine (ssane_any w0).mono ?_
        rintro e w1 ⟨rfl, hb1⟩
        have HK1 := Lib.hid (HK0.out.below hb1)
        have HB1 := Lib.hid (below_of HB0.out hb1 HB0.out.size)
        clear hb1
        have q0 := HK1.out.cellv (i := 0) rfl
        have q1 := HK1.out.cellv (i := 1) rfl
        have q2 := HK1.out.cellv (i := 2) rfl
        go_wp2_with (fail)
        refine (HFw.out w1).mono ?_
        rintro e w2 ⟨rfl, hb2⟩
        have HK2 := Lib.hid (HK1.out.below hb2)
        have HB2 := Lib.hid (below_of HB1.out hb2 HB1.out.size)
        clear hb2 q0 q1 q2
        have q0 := HK2.out.cellv (i := 0) rfl
        have q1 := HK2.out.cellv (i := 1) rfl
        have q2 := HK2.out.cellv (i := 2) rfl
        go_wp2_with (fail)
        refine (HSi.out w2 (HA.out.below HB2.out) (HMm.out.below HB2.out)).mono ?_
        rintro e w3 ⟨Ao, co, Ac, cc, Ap, q, cp, rfl, hpq, hqc, hcp, -, -, -, -, hCo, hCc, hCp, hb3⟩
        have HK3 := Lib.hid (HK2.out.below hb3)
        have HB3 := Lib.hid (below_of HB2.out hb3 HB2.out.size)
        have Hpq := Lib.hid hpq
        have HCo3 := Lib.hid hCo
        have HCc3 := Lib.hid hCc
        have HCp3 := Lib.hid hCp
        clear hb3 q0 q1 q2 hpq hqc hcp hCo hCc hCp
        go_upto_region 6 with (fail)
        generalize hge : World.alloc _ _ = w4
        have HX4 := Lib.hid (show Blk w4 w3.heap.size 24 #[.slice A n c, .int .i64 m, .int .i64 ((u : Int) + 1)] by subst hge; exact (blk_two w3 _ _ 24 30).1)
        have HS4 := Lib.hid (show Blk w4 (w3.heap.size + 1) 30 #[.int .i64 u, .slice Ao 64 co, .slice Ac 64 cc, .slice Ap q cp] by subst hge; exact (blk_two w3 _ _ 24 30).2)
        have hb4 : Below w3.heap.size w3 w4 := by subst hge; exact below_two (Below.refl _ _) (Nat.le_refl _) _ _
        have HK4 := Lib.hid (HK3.out.below hb4)
        have HCo4 := Lib.hid (HCo3.out.below hb4)
        have HCc4 := Lib.hid (HCc3.out.below hb4)
        have HCp4 := Lib.hid (HCp3.out.below hb4)
        have HB4 := Lib.hid (below_of HB3.out hb4 HB3.out.size)
        clear hge hb4
        obtain ⟨X, hX⟩ : ∃ X, w3.heap.size = X := ⟨_, rfl⟩
        rw [hX] at HX4 HS4 ⊢
        clear hX
        have q0 := HK4.out.cellv (i := 0) rfl
        have q1 := HK4.out.cellv (i := 1) rfl
        have q2 := HK4.out.cellv (i := 2) rfl
        go_wp2_with (fail)
        refine (HRi.out w4 (HA.out.below HB4.out) (HMm.out.below HB4.out)).mono ?_
        rintro e w5 ⟨Ao2, co2, Ac2, cc2, Ap2, q2', cp2, rfl, hpq, hqc, hcp, -, -, -, -, hCo, hCc, hCp, hb5⟩
        obtain rfl : q2' = q := by rw [← hpq, Hpq.out]
        have HX5 := Lib.hid (HX4.out.below hb5)
        have HS5 := Lib.hid (HS4.out.below hb5)
        have HCo5 := Lib.hid (HCo4.out.below hb5)
        have HCc5 := Lib.hid (HCc4.out.below hb5)
        have HCp5 := Lib.hid (HCp4.out.below hb5)
        have HDo5 := Lib.hid hCo
        have HDc5 := Lib.hid hCc
        have HDp5 := Lib.hid hCp
        have HB5 := Lib.hid (below_of HB4.out hb5 HB4.out.size)
        clear hb5 q0 q1 q2 hpq hqc hcp hCo hCc hCp
        go_upto_region 7 with (fail)
        generalize hge : World.alloc _ _ = w6
        have HY6 := Lib.hid (show Blk w6 w5.heap.size 24 #[.slice A n c, .int .i64 m, .int .i64 ((u : Int) + 1)] by subst hge; exact (blk_two w5 _ _ 24 30).1)
        have HT6 := Lib.hid (show Blk w6 (w5.heap.size + 1) 30 #[.int .i64 u, .slice Ao2 64 co2, .slice Ac2 64 cc2, .slice Ap2 q2' cp2] by subst hge; exact (blk_two w5 _ _ 24 30).2)
        have hb6 : Below w5.heap.size w5 w6 := by subst hge; exact below_two (Below.refl _ _) (Nat.le_refl _) _ _
        have HX6 := Lib.hid (HX5.out.below hb6)
        have HS6 := Lib.hid (HS5.out.below hb6)
        have HCo6 := Lib.hid (HCo5.out.below hb6)
        have HCc6 := Lib.hid (HCc5.out.below hb6)
        have HCp6 := Lib.hid (HCp5.out.below hb6)
        have HDo6 := Lib.hid (HDo5.out.below hb6)
        have HDc6 := Lib.hid (HDc5.out.below hb6)
        have HDp6 := Lib.hid (HDp5.out.below hb6)
        have HB6 := Lib.hid (below_of HB5.out hb6 HB5.out.size)
        clear hge hb6
        obtain ⟨Y, hY⟩ : ∃ Y, w5.heap.size = Y := ⟨_, rfl⟩
        rw [hY] at HY6 HT6 ⊢
        clear hY
        have a0 := HX6.out.cellv (i := 0) rfl
        have a1 := HX6.out.cellv (i := 1) rfl
        have a2 := HX6.out.cellv (i := 2) rfl
        have b0 := HY6.out.cellv (i := 0) rfl
        have b1 := HY6.out.cellv (i := 1) rfl
        have b2 := HY6.out.cellv (i := 2) rfl
        go_wp2_with (fail)
        refine (samekey_any A A n c c m ((u : Int) + 1) s w6 (HA.out.below HB6.out) (HA.out.below HB6.out) Hs.out Hs8.out).mono ?_
        rintro e w7 ⟨rfl, hb7⟩
        have HS7 := Lib.hid (HS6.out.below hb7)
        have HT7 := Lib.hid (HT6.out.below hb7)
        have HCo7 := Lib.hid (HCo6.out.below hb7)
        have HCc7 := Lib.hid (HCc6.out.below hb7)
        have HCp7 := Lib.hid (HCp6.out.below hb7)
        have HDo7 := Lib.hid (HDo6.out.below hb7)
        have HDc7 := Lib.hid (HDc6.out.below hb7)
        have HDp7 := Lib.hid (HDp6.out.below hb7)
        have HB7 := Lib.hid (below_of HB6.out hb7 HB6.out.size)
        clear hb7 a0 a1 a2 b0 b1 b2
        have s0 := HS7.out.cellv (i := 0) rfl
        have s1 := HS7.out.cellv (i := 1) rfl
        have s2 := HS7.out.cellv (i := 2) rfl
        have s3 := HS7.out.cellv (i := 3) rfl
        have t0 := HT7.out.cellv (i := 0) rfl
        have t1 := HT7.out.cellv (i := 1) rfl
        have t2 := HT7.out.cellv (i := 2) rfl
        have t3 := HT7.out.cellv (i := 3) rfl
        go_wp2_with (fail)
        refine (samesig_any u Ao Ao2 Ac Ac2 Ap Ap2 64 64 q2' co co2 cc cc2 cp cp2 ol cl pl w7 Hol.out Hcl.out Hpq.out HoL.out HcL.out HpL.out (by omega) (by omega) (by have := Hqm.out; rw [Hpq.out] at this; exact this) HCo7.out HDo7.out HCc7.out HDc7.out HCp7.out HDp7.out).mono ?_
        rintro e w8 ⟨rfl, hb8⟩
        have HB8 := Lib.hid (below_of HB7.out hb8 HB7.out.size)
        clear hb8 s0 s1 s2 s3 t0 t1 t2 t3
        go_wp2_with (fail)
        go_ret
        exact ⟨rfl, HB8.out⟩
-- the row
theorem signingSignSpec_own : ownKnob Try.prog.godebug = none := by kernel_rfl
theorem signingSignSpec_laidOut : laidOutB Try.prog = true := by kernel_rfl
theorem signingSignSpec_readable : (Try.f3.params.toList.all fun t => Try.prog.readableRec t && decide (t < Try.prog.types.size)) = true := by kernel_rfl
set_option maxRecDepth 100000 in
theorem signingSignSpec_lifted (os : Os) (started : os.Started) (H : Type) (enc : TypeId × Value → H) :
    ReturnsInHanded {} Try.checked os 3 .any (Rows.signingSignSpecSpec.pre6 enc Try.prog Try.f3 Rows.signingSignSpecRow.domain false) (Rows.signingSignSpecSpec.post enc Try.prog Try.f3 false true false false) := by
  refine returnsInHanded_of_change (C := Try.checked) signingSignSpec_own started (by kernel_rfl) Try.func3
    (ChangeSpec.witness6 (enc := enc) (C := Try.checked) false ⟨#[], #[.agg #[.slice none 0 0, .int .i64 0, .int .i64 0], .slice none 0 0], []⟩ 8 (by kernel_rfl) (by kernel_rfl) (by kernel_rfl) (by kernel_rfl)) ?_
  intro W base args ds gs before hval0 hW hcnd _
  have hval : ∀ (j : Nat) t v, Try.f3.params[j]? = some t → args[j]? = some v → Value.okWide Try.prog W .any base t v := hval0
  have hW' := hW
  obtain ⟨p, q, hA0, hV, rfl, hfz, hnd⟩ := hW
  have hA : DataW.TrodAll enc Try.prog W 0 (fun _ => true) true Try.f3.params.toList args.toList ds p := hA0
  rw [Try.params3] at hA hval
  obtain ⟨v0, vs0, d0, ds0, p0, q0, hargs, rfl, rfl, h0, r0⟩ := trodAll_cons hA
  obtain ⟨v1, vs1, d1, ds1, p1, q1, rfl, rfl, rfl, h1, r1⟩ := trodAll_cons r0
  obtain ⟨rfl, rfl, rfl⟩ := trodAll_nil r1
  obtain rfl : args = #[v0, v1] := by cases args; simp_all
  obtain ⟨rfl, rfl⟩ := trodVars_none hV
  obtain ⟨A0, n0, c0, m0, u0, s0, rfl, l0, nc0, cm0, g0, b0, wm0, wu0⟩ := open_key (hval 0 24 v0 rfl rfl) h0
  obtain ⟨A1, n1, c1, xs1, rfl, l1, nc1, cm1, g1, w1⟩ := open_intslice Try.underlying22 Try.underlying5 (by kernel_rfl) (hval 1 22 v1 rfl rfl) h1
  refine (SigningSignSpec_walk W A0 n0 c0 m0 u0 s0 l0 nc0 cm0 g0 b0 wm0 wu0 A1 n1 c1 xs1 l1 nc1 cm1 g1 w1).mono fun e W' ⟨he, hb⟩ => ?_
  subst he
  simp only [List.append_nil] at hW'
  refine ⟨_, rfl, law_post signingSignSpec_laidOut ?_ (by kernel_rfl) Try.underlying4 rfl hW' rfl rfl rfl hb⟩
  intro t ht
  have hr := List.all_eq_true.1 signingSignSpec_readable t ht
  rw [Bool.and_eq_true] at hr
  exact ⟨hr.1, of_decide_eq_true hr.2⟩
theorem signingSignSpec_over : Rows.signingSignSpecRow.holds Try.pinned (OpenSpec.ofChange Rows.signingSignSpecSpec) :=
  OpenClaim.holds_of_wide 3 Try.f3 rfl rfl rfl rfl rfl rfl rfl ⟨rfl, rfl, rfl, rfl, rfl⟩ rfl rfl rfl rfl rfl (by kernel_rfl) Try.func3 (by kernel_rfl)
    (of_decide_eq_true (by kernel_rfl)) (by unfold Func.isWrapper; rw [if_neg (of_decide_eq_false (by kernel_rfl))]; exact ⟨rfl, rfl⟩)
    (fun os started H enc _ => signingSignSpec_lifted os started H enc)
theorem signingSignSpec_proved : Rows.SigningSignSpecSaid := signingSignSpec_over
#print axioms signingSignSpec_proved
end Go.Proofs.Ytcijhakofoklcaa
