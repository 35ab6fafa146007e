/- The statement SigningVerifiesSaid: for every key and message, the signature verifies under the public key, and signing changes neither the public key nor the number of one-time keys; no condition beside the row's own. -/
import Derived.Test.YtcijhakofoklcaaSig9
import Derived.Test.YtcijhakofoklcaaRow3
import Derived.ChangeMaps5
import Derived.Deep.DeepCutAuto
namespace Go.Proofs.Ytcijhakofoklcaa
open Go.RowKit Go.WideShapes Go.ChangeShapes Go.ChangeAt
theorem fewK_true {n : Nat} {m : Int} {k : Nat} (h : fewK n m k = true) : m ≤ 2 ∧ n ≤ 100 ∧ k ≤ 300 := by unfold fewK at h; exact of_decide_eq_true h
theorem okKey_next {n m u : Nat} (h : okKey n m u = true) (hu : u < m) : okKey n m ((u : Int) + 1) = true := by
  obtain ⟨h1, h2, h3, h4, h5, h6⟩ := okKey_true h
  unfold okKey
  exact decide_eq_true ⟨h1, h2, h3, h4, by omega, by omega⟩
theorem pubR_ok {n m : Nat} {u : Int} {s : List Nat} (h : okKey n m u = true) : pubR n m u s = treeS (pubL s m) := by unfold pubR; rw [h]; simp
theorem pubR_no {n : Nat} {m u : Int} {s : List Nat} (h : okKey n m u = false) : pubR n m u s = z32 := by unfold pubR; rw [h]; rfl
theorem errKey_true : errKey true = 0 := rfl
theorem errKey_false : errKey false = 40 := rfl
set_option linter.unusedSimpArgs false in
set_option maxRecDepth 100000 in
set_option maxHeartbeats 4000000 in
theorem SigningVerifies_walk (w : World) (A : Option Addr) (n c : Nat) (m u : Int) (s : List Nat) (hl : s.length = n) (_hnc : n ≤ c) (_hcm : c ≤ maxLen) (hA0 : Cells w A (bytesV s)) (h80 : ByteL s) (_wm : (Lit.int .i64 m).wf = true) (_wu : (Lit.int .i64 u).wf = true) (B : Option Addr) (k d : Nat) (xs : List Int) (hl : xs.length = k) (_hn : k ≤ d) (_hm : d ≤ maxLen) (hB : Cells w B (xs.map (Value.int .u8))) (hw : ∀ x ∈ xs, (Lit.int .u8 x).wf = true) :
    Calls Try.prog 6 #[.agg #[.slice A n c, .int .i64 m, .int .i64 u], .slice B k d] w (Fine w) := by
  obtain ⟨msg, hml, hm8, hM⟩ := open_bytes hB hw
  have HM := Lib.hid hM
  have Hml := Lib.hid (hml.trans hl)
  have Hm8 := Lib.hid hm8
  clear hM hml hl hm8 hB hw
  have HA := Lib.hid hA0
  have Hs := Lib.hid hl
  have Hs8 := Lib.hid h80
  clear hA0 hl h80
  have HFw := Lib.hid (fun W => few_any A n c m u B k d W)
  cases hfw : fewK n m k with
  | false =>
    rw [hfw] at HFw
    clear hfw
    go_enter Try.func6, Try.ntmps6
    go_wp2_with (fail)
    generalize hge : World.alloc _ _ = w0
    have HK0 := Lib.hid (show Blk w0 w.heap.size 24 #[.slice A n c, .int .i64 m, .int .i64 u] by subst hge; exact Blk.new w _ _)
    have HB0 := Lib.hid (show Below w.heap.size w w0 by subst hge; exact (Below.refl _ _).alloc (Nat.le_refl _) _)
    clear hge
    refine (ssane_any w0).mono ?_
    rintro e w1 ⟨rfl, hb1⟩
    have HK1 := Lib.hid (HK0.out.below hb1)
    have HB1 := Lib.hid (below_of HB0.out hb1 HB0.out.size)
    clear hb1
    have q0 := HK1.out.cellv (i := 0) rfl
    have q1 := HK1.out.cellv (i := 1) rfl
    have q2 := HK1.out.cellv (i := 2) rfl
    go_wp2_with (fail)
    refine (HFw.out w1).mono ?_
    rintro e w2 ⟨rfl, hb2⟩
    have HK2 := Lib.hid (HK1.out.below hb2)
    have HB2 := Lib.hid (below_of HB1.out hb2 HB1.out.size)
    clear hb2 q0 q1 q2
    go_wp2_with (fail)
    go_ret
    exact ⟨rfl, HB2.out⟩
  | true =>
    rw [hfw] at HFw
    obtain ⟨hf1, hf2, hf3⟩ := fewK_true hfw
    clear hfw
    cases hok : okKey n m u with
    | false =>
      have HPu := Lib.hid (fun W h => Public_any A n c m u s W h Hs.out Hs8.out)
      rw [hok, pubR_no hok, errKey_false] at HPu
      have HSb := Lib.hid (fun W => Sign_bad A n c m u B k d W (.inl hok))
      have dD := Lib.hid z32_isD
      go_enter Try.func6, Try.ntmps6
      go_wp2_with (fail)
      generalize hge : World.alloc _ _ = w0
      have HK0 := Lib.hid (show Blk w0 w.heap.size 24 #[.slice A n c, .int .i64 m, .int .i64 u] by subst hge; exact Blk.new w _ _)
      have HB0 := Lib.hid (show Below w.heap.size w w0 by subst hge; exact (Below.refl _ _).alloc (Nat.le_refl _) _)
      clear hge
      refine (ssane_any w0).mono ?_
      rintro e w1 ⟨rfl, hb1⟩
      have HK1 := Lib.hid (HK0.out.below hb1)
      have HB1 := Lib.hid (below_of HB0.out hb1 HB0.out.size)
      clear hb1
      have q0 := HK1.out.cellv (i := 0) rfl
      have q1 := HK1.out.cellv (i := 1) rfl
      have q2 := HK1.out.cellv (i := 2) rfl
      go_wp2_with (fail)
      refine (HFw.out w1).mono ?_
      rintro e w2 ⟨rfl, hb2⟩
      have HK2 := Lib.hid (HK1.out.below hb2)
      have HB2 := Lib.hid (below_of HB1.out hb2 HB1.out.size)
      clear hb2 q0 q1 q2
      have q0 := HK2.out.cellv (i := 0) rfl
      have q1 := HK2.out.cellv (i := 1) rfl
      have q2 := HK2.out.cellv (i := 2) rfl
      go_wp2_with (fail)
      refine (HPu.out w2 (HA.out.below HB2.out)).mono ?_
      rintro e w3 ⟨rfl, hb3⟩
      have HK3 := Lib.hid (HK2.out.below hb3)
      have HB3 := Lib.hid (below_of HB2.out hb3 HB2.out.size)
      clear hb3 q0 q1 q2
      go_upto_region 6 with (
        (refine wpList_put_blk rfl 37 (.tmp 5) (.tmp 21) rfl w3.heap.size (arrK .u8 z32) rfl rfl 37 (arrK .u8 z32) (Blk.new w3 37 (arrK .u8 z32)) (info32 dD.out.1) (by rw [len32 dD.out.1]; try rw [len32 z32_length]) (arrK_all _ _) ?_
         intro w4 HD4 hg4 hz4
         have hb4 : Below w3.heap.size w3 w4 := below_grown ((Below.refl w3.heap.size w3).alloc (Nat.le_refl _) (.cells (arrK .u8 z32) 37)) hg4 (by simp) (by simp)
         have HK4 := Lib.hid (HK3.out.below hb4)
         have HB4 := Lib.hid (below_of HB3.out hb4 HB3.out.size)
         clear HD4 hg4 hz4 hb4))
      have q0 := HK4.out.cellv (i := 0) rfl
      have q1 := HK4.out.cellv (i := 1) rfl
      have q2 := HK4.out.cellv (i := 2) rfl
      go_wp2_with (fail)
      refine (HSb.out w4).mono ?_
      rintro e w5 ⟨rfl, hb5⟩
      have HB5 := Lib.hid (below_of HB4.out hb5 HB4.out.size)
      clear hb5 q0 q1 q2
      go_wp2_with (fail)
      go_ret
      exact ⟨rfl, below_two HB5.out HB5.out.size _ _⟩
    | true =>
      obtain ⟨h1, h2, h3, h4, h5, h6⟩ := okKey_true hok
      obtain ⟨m, rfl⟩ := Int.eq_ofNat_of_zero_le (show 0 ≤ m by omega)
      obtain ⟨u, rfl⟩ := Int.eq_ofNat_of_zero_le h5
      have HPu := Lib.hid (fun W h => Public_any A n c m u s W h Hs.out Hs8.out)
      rw [hok, pubR_ok hok, errKey_true] at HPu
      by_cases hum : u = m
      · subst hum
        have HSb := Lib.hid (fun W => Sign_bad A n c u u B k d W (.inr ⟨hok, by omega, rfl⟩))
        have dD := Lib.hid (treeS_isD (pubL s u))
        go_enter Try.func6, Try.ntmps6
        go_wp2_with (fail)
        generalize hge : World.alloc _ _ = w0
        have HK0 := Lib.hid (show Blk w0 w.heap.size 24 #[.slice A n c, .int .i64 u, .int .i64 u] by subst hge; exact Blk.new w _ _)
        have HB0 := Lib.hid (show Below w.heap.size w w0 by subst hge; exact (Below.refl _ _).alloc (Nat.le_refl _) _)
        clear hge
        refine (ssane_any w0).mono ?_
        rintro e w1 ⟨rfl, hb1⟩
        have HK1 := Lib.hid (HK0.out.below hb1)
        have HB1 := Lib.hid (below_of HB0.out hb1 HB0.out.size)
        clear hb1
        have q0 := HK1.out.cellv (i := 0) rfl
        have q1 := HK1.out.cellv (i := 1) rfl
        have q2 := HK1.out.cellv (i := 2) rfl
        go_wp2_with (fail)
        refine (HFw.out w1).mono ?_
        rintro e w2 ⟨rfl, hb2⟩
        have HK2 := Lib.hid (HK1.out.below hb2)
        have HB2 := Lib.hid (below_of HB1.out hb2 HB1.out.size)
        clear hb2 q0 q1 q2
        have q0 := HK2.out.cellv (i := 0) rfl
        have q1 := HK2.out.cellv (i := 1) rfl
        have q2 := HK2.out.cellv (i := 2) rfl
        go_wp2_with (fail)
        refine (HPu.out w2 (HA.out.below HB2.out)).mono ?_
        rintro e w3 ⟨rfl, hb3⟩
        have HK3 := Lib.hid (HK2.out.below hb3)
        have HB3 := Lib.hid (below_of HB2.out hb3 HB2.out.size)
        clear hb3 q0 q1 q2
        go_upto_region 6 with (
          (refine wpList_put_blk rfl 37 (.tmp 5) (.tmp 21) rfl w3.heap.size (arrK .u8 (treeS (pubL s u))) rfl rfl 37 (arrK .u8 z32) (Blk.new w3 37 (arrK .u8 z32)) (info32 dD.out.1) (by rw [len32 dD.out.1]; try rw [len32 z32_length]) (arrK_all _ _) ?_
           intro w4 HD4 hg4 hz4
           have hb4 : Below w3.heap.size w3 w4 := below_grown ((Below.refl w3.heap.size w3).alloc (Nat.le_refl _) (.cells (arrK .u8 z32) 37)) hg4 (by simp) (by simp)
           have HK4 := Lib.hid (HK3.out.below hb4)
           have HB4 := Lib.hid (below_of HB3.out hb4 HB3.out.size)
           clear HD4 hg4 hz4 hb4))
        have q0 := HK4.out.cellv (i := 0) rfl
        have q1 := HK4.out.cellv (i := 1) rfl
        have q2 := HK4.out.cellv (i := 2) rfl
        go_wp2_with (fail)
        refine (HSb.out w4).mono ?_
        rintro e w5 ⟨rfl, hb5⟩
        have HB5 := Lib.hid (below_of HB4.out hb5 HB4.out.size)
        clear hb5 q0 q1 q2
        go_wp2_with (fail)
        go_ret
        exact ⟨rfl, below_two HB5.out HB5.out.size _ _⟩
      · have hu : u < m := by omega
        have HPu2 := Lib.hid (fun A' c' W h => Public_any A' n c' m ((u : Int) + 1) s W h Hs.out Hs8.out)
        rw [okKey_next hok hu, pubR_ok (okKey_next hok hu), errKey_true] at HPu2
        have HSi := Lib.hid (fun W h h' => Sign_good A n c m u s B k d msg W h Hs.out Hs8.out hok hu h' Hml.out (by omega) Hm8.out)
        obtain ⟨x, hx⟩ : ∃ x, bitL (msgS (treeS (pubL s m)) u msg) 64 = x := ⟨_, rfl⟩
        rw [hx] at HSi
        have Hver := Lib.hid (ver_sign s m u msg x hu (by omega) (by rw [Hml.out]; omega) (fun j _ => by rw [hx]))
        have Dt := Lib.hid (treeS_isD (pubL s m))
        have HVg := Lib.hid (fun D o cl p Ao Ac Ap co cc q cp W (hD : IsD D) => Verify_good D m u msg B k d o cl p Ao Ac Ap co cc q cp W hD (by omega) (by omega) hu)
        have hEq : ∀ W, (Op.equalIn 10000 37 (.agg (arrK .u8 (treeS (pubL s m)))) (.agg (arrK .u8 (treeS (pubL s m))))).run Try.prog W = .ok true W := fun W => by
          have := run_eqD Dt.out Dt.out W
          simpa using this
        have Hol := Lib.hid (openL_length s u x 64)
        have Hcl := Lib.hid (closL_length s u x 64)
        have HoL := Lib.hid (openL_isL s u x 64)
        have HcL := Lib.hid (closL_isL s u x 64)
        have HpL := Lib.hid (pathR_isL (pubL s m) (u : Int))
        clear hx hok h5 h6 h3
        generalize treeS (pubL s m) = D at *
        generalize openL s u x 64 = ol at *
        generalize closL s u x 64 = cl at *
        generalize pathR (pubL s m) (u : Int) = pl at *
        go_enter Try.func6, Try.ntmps6
        go_wp2_with (fail)
        generalize hge : World.alloc _ _ = w0
        have HK0 := Lib.hid (show Blk w0 w.heap.size 24 #[.slice A n c, .int .i64 m, .int .i64 u] by subst hge; exact Blk.new w _ _)
        have HB0 := Lib.hid (show Below w.heap.size w w0 by subst hge; exact (Below.refl _ _).alloc (Nat.le_refl _) _)
        clear hge
        refine (ssane_any w0).mono ?_
        rintro e w1 ⟨rfl, hb1⟩
        have HK1 := Lib.hid (HK0.out.below hb1)
        have HB1 := Lib.hid (below_of HB0.out hb1 HB0.out.size)
        clear hb1
        have q0 := HK1.out.cellv (i := 0) rfl
        have q1 := HK1.out.cellv (i := 1) rfl
        have q2 := HK1.out.cellv (i := 2) rfl
        go_wp2_with (fail)
        refine (HFw.out w1).mono ?_
        rintro e w2 ⟨rfl, hb2⟩
        have HK2 := Lib.hid (HK1.out.below hb2)
        have HB2 := Lib.hid (below_of HB1.out hb2 HB1.out.size)
        clear hb2 q0 q1 q2
        have q0 := HK2.out.cellv (i := 0) rfl
        have q1 := HK2.out.cellv (i := 1) rfl
        have q2 := HK2.out.cellv (i := 2) rfl
        go_wp2_with (fail)
        refine (HPu.out w2 (HA.out.below HB2.out)).mono ?_
        rintro e w3 ⟨rfl, hb3⟩
        have HK3 := Lib.hid (HK2.out.below hb3)
        have HB3 := Lib.hid (below_of HB2.out hb3 HB2.out.size)
        clear hb3 q0 q1 q2
        go_upto_region 6 with (
          (refine wpList_put_blk rfl 37 (.tmp 5) (.tmp 21) rfl w3.heap.size (arrK .u8 D) rfl rfl 37 (arrK .u8 z32) (Blk.new w3 37 (arrK .u8 z32)) (info32 Dt.out.1) (by rw [len32 Dt.out.1, len32 z32_length]) (arrK_all _ _) ?_
           intro w4 HD4 hg4 hz4
           have hb4 : Below w3.heap.size w3 w4 := below_grown ((Below.refl w3.heap.size w3).alloc (Nat.le_refl _) (.cells (arrK .u8 z32) 37)) hg4 (by simp) (by simp)
           have HD4 := Lib.hid HD4
           have HK4 := Lib.hid (HK3.out.below hb4)
           have HB4 := Lib.hid (below_of HB3.out hb4 HB3.out.size)
           clear hg4 hz4 hb4))
        obtain ⟨G, hG⟩ : ∃ G, w3.heap.size = G := ⟨_, rfl⟩
        rw [hG] at HD4 ⊢
        clear hG
        have q0 := HK4.out.cellv (i := 0) rfl
        have q1 := HK4.out.cellv (i := 1) rfl
        have q2 := HK4.out.cellv (i := 2) rfl
        go_wp2_with (fail)
        refine (HSi.out w4 (HA.out.below HB4.out) (HM.out.below HB4.out)).mono ?_
        rintro e w5 ⟨Ao, co, Ac, cc, Ap, q, cp, rfl, hpq, hqc, hcp, -, -, -, -, hCo, hCc, hCp, hb5⟩
        have HK5 := Lib.hid (HK4.out.below hb5)
        have HD5 := Lib.hid (HD4.out.below hb5)
        have HB5 := Lib.hid (below_of HB4.out hb5 HB4.out.size)
        have Hpq := Lib.hid hpq
        have Hqc := Lib.hid hqc
        have Hcp := Lib.hid hcp
        have HCo := Lib.hid hCo
        have HCc := Lib.hid hCc
        have HCp := Lib.hid hCp
        clear hb5 q0 q1 q2 hpq hqc hcp hCo hCc hCp
        go_wp2_with (fail)
        generalize hge : World.alloc _ _ = w6
        have HX6 := Lib.hid (show Blk w6 w5.heap.size 24 #[.slice A n c, .int .i64 m, .int .i64 ((u : Int) + 1)] by subst hge; exact (blk_two w5 _ _ 24 30).1)
        have HS6 := Lib.hid (show Blk w6 (w5.heap.size + 1) 30 #[.int .i64 u, .slice Ao 64 co, .slice Ac 64 cc, .slice Ap q cp] by subst hge; exact (blk_two w5 _ _ 24 30).2)
        have hb6 : Below w5.heap.size w5 w6 := by subst hge; exact below_two (Below.refl _ _) (Nat.le_refl _) _ _
        have HK6 := Lib.hid (HK5.out.below hb6)
        have HD6 := Lib.hid (HD5.out.below hb6)
        have HCo6 := Lib.hid (HCo.out.below hb6)
        have HCc6 := Lib.hid (HCc.out.below hb6)
        have HCp6 := Lib.hid (HCp.out.below hb6)
        have HB6 := Lib.hid (below_of HB5.out hb6 HB5.out.size)
        clear hge hb6
        refine (HPu2.out A c w6 (HA.out.below HB6.out)).mono ?_
        rintro e w7 ⟨rfl, hb7⟩
        have HX7 := Lib.hid (HX6.out.below hb7)
        have HS7 := Lib.hid (HS6.out.below hb7)
        have HK7 := Lib.hid (HK6.out.below hb7)
        have HD7 := Lib.hid (HD6.out.below hb7)
        have HCo7 := Lib.hid (HCo6.out.below hb7)
        have HCc7 := Lib.hid (HCc6.out.below hb7)
        have HCp7 := Lib.hid (HCp6.out.below hb7)
        have HB7 := Lib.hid (below_of HB6.out hb7 HB6.out.size)
        clear hb7
        go_upto_region 10 with (
          (refine wpList_put_blk rfl 37 (.tmp 10) (.tmp 52) rfl w7.heap.size (arrK .u8 D) rfl rfl 37 (arrK .u8 z32) (Blk.new w7 37 (arrK .u8 z32)) (info32 Dt.out.1) (by rw [len32 Dt.out.1, len32 z32_length]) (arrK_all _ _) ?_
           intro w8 HE8 hg8 hz8
           have hb8 : Below w7.heap.size w7 w8 := below_grown ((Below.refl w7.heap.size w7).alloc (Nat.le_refl _) (.cells (arrK .u8 z32) 37)) hg8 (by simp) (by simp)
           have HE8 := Lib.hid HE8
           have HX8 := Lib.hid (HX7.out.below hb8)
           have HS8 := Lib.hid (HS7.out.below hb8)
           have HK8 := Lib.hid (HK7.out.below hb8)
           have HD8 := Lib.hid (HD7.out.below hb8)
           have HCo8 := Lib.hid (HCo7.out.below hb8)
           have HCc8 := Lib.hid (HCc7.out.below hb8)
           have HCp8 := Lib.hid (HCp7.out.below hb8)
           have HB8 := Lib.hid (below_of HB7.out hb8 HB7.out.size)
           clear hg8 hz8 hb8))
        obtain ⟨E, hE⟩ : ∃ E, w7.heap.size = E := ⟨_, rfl⟩
        obtain ⟨X, hX⟩ : ∃ X, w5.heap.size = X := ⟨_, rfl⟩
        rw [hE] at HE8 ⊢
        rw [hX] at HX8 HS8 ⊢
        clear hE hX
        have q1 := HK8.out.cellv (i := 1) rfl
        have q2 := HK8.out.cellv (i := 2) rfl
        have p1 := HX8.out.cellv (i := 1) rfl
        have p2 := HX8.out.cellv (i := 2) rfl
        have s0 := HS8.out.cellv (i := 0) rfl
        have s1 := HS8.out.cellv (i := 1) rfl
        have s2 := HS8.out.cellv (i := 2) rfl
        have s3 := HS8.out.cellv (i := 3) rfl
        go_wp2_with (first
          | (refine wpList_load_blk_g 37 (.tmp 10) (by rfl) (by kernel_rfl) E rfl 37 (arrK .u8 D) (.array 32 5) HE8.out (by kernel_rfl) rfl (info32 Dt.out.1) ?_)
          | (refine wpList_load_blk_g 37 (.tmp 5) (by rfl) (by kernel_rfl) G rfl 37 (arrK .u8 D) (.array 32 5) HD8.out (by kernel_rfl) rfl (info32 Dt.out.1) ?_))
        refine (HVg.out D ol cl pl Ao Ac Ap co cc q cp w8 Dt.out (HM.out.below HB8.out) Hml.out (by omega) Hm8.out Hol.out Hcl.out Hpq.out HoL.out HcL.out HpL.out HCo8.out HCc8.out HCp8.out Hqc.out Hcp.out).mono ?_
        rintro e w9 ⟨he, hb9⟩
        rw [Hver.out] at he
        subst he
        have HB9 := Lib.hid (below_of HB8.out hb9 HB8.out.size)
        clear hb9
        go_wp2_with (fail)
        go_ret
        exact ⟨rfl, HB9.out⟩
-- the row
theorem signingVerifies_own : ownKnob Try.prog.godebug = none := by kernel_rfl
theorem signingVerifies_laidOut : laidOutB Try.prog = true := by kernel_rfl
theorem signingVerifies_readable : (Try.f6.params.toList.all fun t => Try.prog.readableRec t && decide (t < Try.prog.types.size)) = true := by kernel_rfl
set_option maxRecDepth 100000 in
theorem signingVerifies_lifted (os : Os) (started : os.Started) (H : Type) (enc : TypeId × Value → H) :
    ReturnsInHanded {} Try.checked os 6 .any (Rows.signingVerifiesSpec.pre6 enc Try.prog Try.f6 Rows.signingVerifiesRow.domain false) (Rows.signingVerifiesSpec.post enc Try.prog Try.f6 false true false false) := by
  refine returnsInHanded_of_change (C := Try.checked) signingVerifies_own started (by kernel_rfl) Try.func6
    (ChangeSpec.witness6 (enc := enc) (C := Try.checked) false ⟨#[], #[.agg #[.slice none 0 0, .int .i64 0, .int .i64 0], .slice none 0 0], []⟩ 8 (by kernel_rfl) (by kernel_rfl) (by kernel_rfl) (by kernel_rfl)) ?_
  intro W base args ds gs before hval0 hW hcnd _
  have hval : ∀ (j : Nat) t v, Try.f6.params[j]? = some t → args[j]? = some v → Value.okWide Try.prog W .any base t v := hval0
  have hW' := hW
  obtain ⟨p, q, hA0, hV, rfl, hfz, hnd⟩ := hW
  have hA : DataW.TrodAll enc Try.prog W 0 (fun _ => true) true Try.f6.params.toList args.toList ds p := hA0
  rw [Try.params6] at hA hval
  obtain ⟨v0, vs0, d0, ds0, p0, q0, hargs, rfl, rfl, h0, r0⟩ := trodAll_cons hA
  obtain ⟨v1, vs1, d1, ds1, p1, q1, rfl, rfl, rfl, h1, r1⟩ := trodAll_cons r0
  obtain ⟨rfl, rfl, rfl⟩ := trodAll_nil r1
  obtain rfl : args = #[v0, v1] := by cases args; simp_all
  obtain ⟨rfl, rfl⟩ := trodVars_none hV
  obtain ⟨A0, n0, c0, m0, u0, s0, rfl, l0, nc0, cm0, g0, b0, wm0, wu0⟩ := open_key (hval 0 24 v0 rfl rfl) h0
  obtain ⟨A1, n1, c1, xs1, rfl, l1, nc1, cm1, g1, w1⟩ := open_intslice Try.underlying22 Try.underlying5 (by kernel_rfl) (hval 1 22 v1 rfl rfl) h1
  refine (SigningVerifies_walk W A0 n0 c0 m0 u0 s0 l0 nc0 cm0 g0 b0 wm0 wu0 A1 n1 c1 xs1 l1 nc1 cm1 g1 w1).mono fun e W' ⟨he, hb⟩ => ?_
  subst he
  simp only [List.append_nil] at hW'
  refine ⟨_, rfl, law_post signingVerifies_laidOut ?_ (by kernel_rfl) Try.underlying4 rfl hW' rfl rfl rfl hb⟩
  intro t ht
  have hr := List.all_eq_true.1 signingVerifies_readable t ht
  rw [Bool.and_eq_true] at hr
  exact ⟨hr.1, of_decide_eq_true hr.2⟩
theorem signingVerifies_over : Rows.signingVerifiesRow.holds Try.pinned (OpenSpec.ofChange Rows.signingVerifiesSpec) :=
  OpenClaim.holds_of_wide 6 Try.f6 rfl rfl rfl rfl rfl rfl rfl ⟨rfl, rfl, rfl, rfl, rfl⟩ rfl rfl rfl rfl rfl (by kernel_rfl) Try.func6 (by kernel_rfl)
    (of_decide_eq_true (by kernel_rfl)) (by unfold Func.isWrapper; rw [if_neg (of_decide_eq_false (by kernel_rfl))]; exact ⟨rfl, rfl⟩)
    (fun os started H enc _ => signingVerifies_lifted os started H enc)
theorem signingVerifies_proved : Rows.SigningVerifiesSaid := signingVerifies_over
#print axioms signingVerifies_proved
end Go.Proofs.Ytcijhakofoklcaa
