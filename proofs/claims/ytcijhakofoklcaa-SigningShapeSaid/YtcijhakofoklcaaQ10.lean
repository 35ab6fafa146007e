/- The statement SigningShapeSaid: for every key and message, a signature with too few or too many parts, with an index that the key does not have, or for a number of keys that is not permitted, does not verify; no condition beside the row's own. -/
import Derived.Test.YtcijhakofoklcaaSig9
import Derived.Test.YtcijhakofoklcaaRow3
import Derived.ChangeMaps5
namespace Go.Proofs.Ytcijhakofoklcaa
open Go.RowKit Go.WideShapes Go.ChangeShapes Go.ChangeAt
theorem fewK_true {n : Nat} {m : Int} {k : Nat} (h : fewK n m k = true) : m ≤ 2 ∧ n ≤ 100 ∧ k ≤ 300 := by unfold fewK at h; exact of_decide_eq_true h
theorem okKey_next {n m u : Nat} (h : okKey n m u = true) (hu : u < m) : okKey n m ((u : Int) + 1) = true := by
  obtain ⟨h1, h2, h3, h4, h5, h6⟩ := okKey_true h
  unfold okKey
  exact decide_eq_true ⟨h1, h2, h3, h4, by omega, by omega⟩
theorem pubR_ok {n m : Nat} {u : Int} {s : List Nat} (h : okKey n m u = true) : pubR n m u s = treeS (pubL s m) := by unfold pubR; rw [h]; simp
theorem pubR_no {n : Nat} {m u : Int} {s : List Nat} (h : okKey n m u = false) : pubR n m u s = z32 := by unfold pubR; rw [h]; rfl
theorem errKey_true : errKey true = 0 := rfl
theorem errKey_false : errKey false = 40 := rfl
theorem verS_long {D : List Nat} {m u : Nat} {msg : List Nat} {o c p : List (List Nat)} (x : List Nat) (h : verS D (m : Int) (u : Int) msg o c p = true) : verS D (m : Int) (u : Int) msg o c (p ++ [x]) = false := by
  have hk : okClimb (u : Int) (m : Int) p.length = true ∧ (1 ≤ (m : Int) ∧ (m : Int) ≤ 4096 ∧ 0 ≤ (u : Int) ∧ (u : Int) < (m : Int)) := by
    unfold verS at h
    rw [Bool.and_eq_true, Bool.and_eq_true] at h
    have h1 := of_decide_eq_true h.1
    exact ⟨h.2.1, h1.1, h1.2.1, h1.2.2.1, h1.2.2.2.1⟩
  have hum : u < m := by omega
  have h2 := hk.1
  rw [okClimb_nat hum (by omega)] at h2
  have h3 := of_decide_eq_true h2
  unfold verS
  rw [okClimb_nat hum (by omega), List.length_append, h3]
  simp
set_option linter.unusedSimpArgs false in
set_option maxRecDepth 100000 in
set_option maxHeartbeats 4000000 in
theorem SigningShape_walk (w : World) (A : Option Addr) (n c : Nat) (m u : Int) (s : List Nat) (hl : s.length = n) (_hnc : n ≤ c) (_hcm : c ≤ maxLen) (hA0 : Cells w A (bytesV s)) (h80 : ByteL s) (_wm : (Lit.int .i64 m).wf = true) (_wu : (Lit.int .i64 u).wf = true) (B : Option Addr) (k d : Nat) (xs : List Int) (hl : xs.length = k) (_hn : k ≤ d) (_hm : d ≤ maxLen) (hB : Cells w B (xs.map (Value.int .u8))) (hw : ∀ x ∈ xs, (Lit.int .u8 x).wf = true) (how : Int) (_wh : (Lit.int .i64 how).wf = true) (v : Int) (wv : (Lit.int .i64 v).wf = true) :
    Calls Try.prog 10 #[.agg #[.slice A n c, .int .i64 m, .int .i64 u], .slice B k d, .int .i64 how, .int .i64 v] w (Fine w) := by
  obtain ⟨msg, hml, hm8, hM⟩ := open_bytes hB hw
  have HM := Lib.hid hM
  have Hml := Lib.hid (hml.trans hl)
  have Hm8 := Lib.hid hm8
  clear hM hml hl hm8 hB hw
  have HA := Lib.hid hA0
  have Hs := Lib.hid hl
  have Hs8 := Lib.hid h80
  clear hA0 hl h80
  have HFw := Lib.hid (fun W => few_any A n c m u B k d W)
  cases hfw : fewK n m k with
  | false =>
    rw [hfw] at HFw
    clear hfw
    go_enter Try.func10, Try.ntmps10
    go_wp2_with (fail)
    generalize hge : World.alloc _ _ = w0
    have HK0 := Lib.hid (show Blk w0 w.heap.size 24 #[.slice A n c, .int .i64 m, .int .i64 u] by subst hge; exact Blk.new w _ _)
    have HB0 := Lib.hid (show Below w.heap.size w w0 by subst hge; exact (Below.refl _ _).alloc (Nat.le_refl _) _)
    clear hge
    refine (ssane_any w0).mono ?_
    rintro e w1 ⟨rfl, hb1⟩
    have HK1 := Lib.hid (HK0.out.below hb1)
    have HB1 := Lib.hid (below_of HB0.out hb1 HB0.out.size)
    clear hb1
    have q0 := HK1.out.cellv (i := 0) rfl
    have q1 := HK1.out.cellv (i := 1) rfl
    have q2 := HK1.out.cellv (i := 2) rfl
    go_wp2_with (fail)
    refine (HFw.out w1).mono ?_
    rintro e w2 ⟨rfl, hb2⟩
    have HK2 := Lib.hid (HK1.out.below hb2)
    have HB2 := Lib.hid (below_of HB1.out hb2 HB1.out.size)
    clear hb2 q0 q1 q2
    go_wp2_with (fail)
    go_ret
    exact ⟨rfl, HB2.out⟩
  | true =>
    rw [hfw] at HFw
    obtain ⟨hf1, hf2, hf3⟩ := fewK_true hfw
    clear hfw
    cases hok : okKey n m u with
    | false =>
      have HPu := Lib.hid (fun W h => Public_any A n c m u s W h Hs.out Hs8.out)
      rw [hok, pubR_no hok, errKey_false] at HPu
      have HSb := Lib.hid (fun W => Sign_bad A n c m u B k d W (.inl hok))
      have dD := Lib.hid z32_isD
      go_enter Try.func10, Try.ntmps10
      go_wp2_with (fail)
      generalize hge : World.alloc _ _ = w0
      have HK0 := Lib.hid (show Blk w0 w.heap.size 24 #[.slice A n c, .int .i64 m, .int .i64 u] by subst hge; exact Blk.new w _ _)
      have HB0 := Lib.hid (show Below w.heap.size w w0 by subst hge; exact (Below.refl _ _).alloc (Nat.le_refl _) _)
      clear hge
      refine (ssane_any w0).mono ?_
      rintro e w1 ⟨rfl, hb1⟩
      have HK1 := Lib.hid (HK0.out.below hb1)
      have HB1 := Lib.hid (below_of HB0.out hb1 HB0.out.size)
      clear hb1
      have q0 := HK1.out.cellv (i := 0) rfl
      have q1 := HK1.out.cellv (i := 1) rfl
      have q2 := HK1.out.cellv (i := 2) rfl
      go_wp2_with (fail)
      refine (HFw.out w1).mono ?_
      rintro e w2 ⟨rfl, hb2⟩
      have HK2 := Lib.hid (HK1.out.below hb2)
      have HB2 := Lib.hid (below_of HB1.out hb2 HB1.out.size)
      clear hb2 q0 q1 q2
      have q0 := HK2.out.cellv (i := 0) rfl
      have q1 := HK2.out.cellv (i := 1) rfl
      have q2 := HK2.out.cellv (i := 2) rfl
      go_wp2_with (fail)
      refine (HPu.out w2 (HA.out.below HB2.out)).mono ?_
      rintro e w3 ⟨rfl, hb3⟩
      have HK3 := Lib.hid (HK2.out.below hb3)
      have HB3 := Lib.hid (below_of HB2.out hb3 HB2.out.size)
      clear hb3 q0 q1 q2
      go_upto_region 6 with (
        (refine wpList_put_blk rfl 37 (.tmp 9) (.tmp 24) rfl w3.heap.size (arrK .u8 z32) rfl rfl 37 (arrK .u8 z32) (Blk.new w3 37 (arrK .u8 z32)) (info32 dD.out.1) (by rw [len32 dD.out.1]; try rw [len32 z32_length]) (arrK_all _ _) ?_
         intro w4 HD4 hg4 hz4
         have hb4 : Below w3.heap.size w3 w4 := below_grown ((Below.refl w3.heap.size w3).alloc (Nat.le_refl _) (.cells (arrK .u8 z32) 37)) hg4 (by simp) (by simp)
         have HD4 := Lib.hid HD4
         have HK4 := Lib.hid (HK3.out.below hb4)
         have HB4 := Lib.hid (below_of HB3.out hb4 HB3.out.size)
         clear hg4 hz4 hb4))
      have q0 := HK4.out.cellv (i := 0) rfl
      have q1 := HK4.out.cellv (i := 1) rfl
      have q2 := HK4.out.cellv (i := 2) rfl
      go_wp2_with (fail)
      refine (HSb.out w4).mono ?_
      rintro e w5 ⟨rfl, hb5⟩
      have HB5 := Lib.hid (below_of HB4.out hb5 HB4.out.size)
      clear hb5 q0 q1 q2
      go_wp2_with (fail)
      go_ret
      exact ⟨rfl, below_two HB5.out HB5.out.size _ _⟩
    | true =>
      obtain ⟨h1, h2, h3, h4, h5, h6⟩ := okKey_true hok
      obtain ⟨m, rfl⟩ := Int.eq_ofNat_of_zero_le (show 0 ≤ m by omega)
      obtain ⟨u, rfl⟩ := Int.eq_ofNat_of_zero_le h5
      have HPu := Lib.hid (fun W h => Public_any A n c m u s W h Hs.out Hs8.out)
      rw [hok, pubR_ok hok, errKey_true] at HPu
      by_cases hum : u = m
      · subst hum
        have HSb := Lib.hid (fun W => Sign_bad A n c u u B k d W (.inr ⟨hok, by omega, rfl⟩))
        have dD := Lib.hid (treeS_isD (pubL s u))
        go_enter Try.func10, Try.ntmps10
        go_wp2_with (fail)
        generalize hge : World.alloc _ _ = w0
        have HK0 := Lib.hid (show Blk w0 w.heap.size 24 #[.slice A n c, .int .i64 u, .int .i64 u] by subst hge; exact Blk.new w _ _)
        have HB0 := Lib.hid (show Below w.heap.size w w0 by subst hge; exact (Below.refl _ _).alloc (Nat.le_refl _) _)
        clear hge
        refine (ssane_any w0).mono ?_
        rintro e w1 ⟨rfl, hb1⟩
        have HK1 := Lib.hid (HK0.out.below hb1)
        have HB1 := Lib.hid (below_of HB0.out hb1 HB0.out.size)
        clear hb1
        have q0 := HK1.out.cellv (i := 0) rfl
        have q1 := HK1.out.cellv (i := 1) rfl
        have q2 := HK1.out.cellv (i := 2) rfl
        go_wp2_with (fail)
        refine (HFw.out w1).mono ?_
        rintro e w2 ⟨rfl, hb2⟩
        have HK2 := Lib.hid (HK1.out.below hb2)
        have HB2 := Lib.hid (below_of HB1.out hb2 HB1.out.size)
        clear hb2 q0 q1 q2
        have q0 := HK2.out.cellv (i := 0) rfl
        have q1 := HK2.out.cellv (i := 1) rfl
        have q2 := HK2.out.cellv (i := 2) rfl
        go_wp2_with (fail)
        refine (HPu.out w2 (HA.out.below HB2.out)).mono ?_
        rintro e w3 ⟨rfl, hb3⟩
        have HK3 := Lib.hid (HK2.out.below hb3)
        have HB3 := Lib.hid (below_of HB2.out hb3 HB2.out.size)
        clear hb3 q0 q1 q2
        go_upto_region 6 with (
          (refine wpList_put_blk rfl 37 (.tmp 9) (.tmp 24) rfl w3.heap.size (arrK .u8 (treeS (pubL s u))) rfl rfl 37 (arrK .u8 z32) (Blk.new w3 37 (arrK .u8 z32)) (info32 dD.out.1) (by rw [len32 dD.out.1]; try rw [len32 z32_length]) (arrK_all _ _) ?_
           intro w4 HD4 hg4 hz4
           have hb4 : Below w3.heap.size w3 w4 := below_grown ((Below.refl w3.heap.size w3).alloc (Nat.le_refl _) (.cells (arrK .u8 z32) 37)) hg4 (by simp) (by simp)
           have HD4 := Lib.hid HD4
           have HK4 := Lib.hid (HK3.out.below hb4)
           have HB4 := Lib.hid (below_of HB3.out hb4 HB3.out.size)
           clear hg4 hz4 hb4))
        have q0 := HK4.out.cellv (i := 0) rfl
        have q1 := HK4.out.cellv (i := 1) rfl
        have q2 := HK4.out.cellv (i := 2) rfl
        go_wp2_with (fail)
        refine (HSb.out w4).mono ?_
        rintro e w5 ⟨rfl, hb5⟩
        have HB5 := Lib.hid (below_of HB4.out hb5 HB4.out.size)
        clear hb5 q0 q1 q2
        go_wp2_with (fail)
        go_ret
        exact ⟨rfl, below_two HB5.out HB5.out.size _ _⟩
      · have hu : u < m := by omega
        have HSi := Lib.hid (fun W h h' => Sign_good A n c m u s B k d msg W h Hs.out Hs8.out hok hu h' Hml.out (by omega) Hm8.out)
        obtain ⟨x, hx⟩ : ∃ x, bitL (msgS (treeS (pubL s m)) u msg) 64 = x := ⟨_, rfl⟩
        rw [hx] at HSi
        have Hver := Lib.hid (ver_sign s m u msg x hu (by omega) (by rw [Hml.out]; omega) (fun j _ => by rw [hx]))
        have Dt := Lib.hid (treeS_isD (pubL s m))
        have HVg := Lib.hid (fun D o cl p Ao Ac Ap co cc q cp W (hD : IsD D) => Verify_good D m u msg B k d o cl p Ao Ac Ap co cc q cp W hD (by omega) (by omega) hu)
        have Hol := Lib.hid (openL_length s u x 64)
        have Hcl := Lib.hid (closL_length s u x 64)
        have HoL := Lib.hid (openL_isL s u x 64)
        have HcL := Lib.hid (closL_isL s u x 64)
        have HpL := Lib.hid (pathR_isL (pubL s m) (u : Int))
        have hplen : (pathR (pubL s m) (u : Int)).length ≤ 100 := by
          rw [pathR_nat (by rw [pubL_length]; exact hu), pathS_length m _ _ (pubL_length s m)]
          have := dirsS_lt m u (by omega)
          omega
        clear hx hok h5 h6 h3
        generalize treeS (pubL s m) = D at *
        generalize openL s u x 64 = ol at *
        generalize closL s u x 64 = cl at *
        generalize pathR (pubL s m) (u : Int) = pl at *
        go_enter Try.func10, Try.ntmps10
        go_wp2_with (fail)
        generalize hge : World.alloc _ _ = w0
        have HK0 := Lib.hid (show Blk w0 w.heap.size 24 #[.slice A n c, .int .i64 m, .int .i64 u] by subst hge; exact Blk.new w _ _)
        have HB0 := Lib.hid (show Below w.heap.size w w0 by subst hge; exact (Below.refl _ _).alloc (Nat.le_refl _) _)
        clear hge
        refine (ssane_any w0).mono ?_
        rintro e w1 ⟨rfl, hb1⟩
        have HK1 := Lib.hid (HK0.out.below hb1)
        have HB1 := Lib.hid (below_of HB0.out hb1 HB0.out.size)
        clear hb1
        have q0 := HK1.out.cellv (i := 0) rfl
        have q1 := HK1.out.cellv (i := 1) rfl
        have q2 := HK1.out.cellv (i := 2) rfl
        go_wp2_with (fail)
        refine (HFw.out w1).mono ?_
        rintro e w2 ⟨rfl, hb2⟩
        have HK2 := Lib.hid (HK1.out.below hb2)
        have HB2 := Lib.hid (below_of HB1.out hb2 HB1.out.size)
        clear hb2 q0 q1 q2
        have q0 := HK2.out.cellv (i := 0) rfl
        have q1 := HK2.out.cellv (i := 1) rfl
        have q2 := HK2.out.cellv (i := 2) rfl
        go_wp2_with (fail)
        refine (HPu.out w2 (HA.out.below HB2.out)).mono ?_
        rintro e w3 ⟨rfl, hb3⟩
        have HK3 := Lib.hid (HK2.out.below hb3)
        have HB3 := Lib.hid (below_of HB2.out hb3 HB2.out.size)
        clear hb3 q0 q1 q2
        go_upto_region 6 with (
          (refine wpList_put_blk rfl 37 (.tmp 9) (.tmp 24) rfl w3.heap.size (arrK .u8 D) rfl rfl 37 (arrK .u8 z32) (Blk.new w3 37 (arrK .u8 z32)) (info32 Dt.out.1) (by rw [len32 Dt.out.1]; try rw [len32 z32_length]) (arrK_all _ _) ?_
           intro w4 HD4 hg4 hz4
           have hb4 : Below w3.heap.size w3 w4 := below_grown ((Below.refl w3.heap.size w3).alloc (Nat.le_refl _) (.cells (arrK .u8 z32) 37)) hg4 (by simp) (by simp)
           have HD4 := Lib.hid HD4
           have HK4 := Lib.hid (HK3.out.below hb4)
           have HB4 := Lib.hid (below_of HB3.out hb4 HB3.out.size)
           clear hg4 hz4 hb4))
        obtain ⟨G, hG⟩ : ∃ G, w3.heap.size = G := ⟨_, rfl⟩
        rw [hG] at HD4 ⊢
        clear hG
        have q0 := HK4.out.cellv (i := 0) rfl
        have q1 := HK4.out.cellv (i := 1) rfl
        have q2 := HK4.out.cellv (i := 2) rfl
        go_wp2_with (fail)
        refine (HSi.out w4 (HA.out.below HB4.out) (HM.out.below HB4.out)).mono ?_
        rintro e w5 ⟨Ao, co, Ac, cc, Ap, q, cp, rfl, hpq, hqc, hcp, hco1, hco2, hcc1, hcc2, hCo, hCc, hCp, hb5⟩
        have HK5 := Lib.hid (HK4.out.below hb5)
        have HD5 := Lib.hid (HD4.out.below hb5)
        have HB5 := Lib.hid (below_of HB4.out hb5 HB4.out.size)
        rw [hpq] at hplen
        have Hpq := Lib.hid hpq
        have Hqc := Lib.hid hqc
        have Hcp := Lib.hid hcp
        have HCo := Lib.hid hCo
        have HCc := Lib.hid hCc
        have HCp := Lib.hid hCp
        clear hb5 q0 q1 q2 hpq hqc hcp hCo hCc hCp hco2 hcc2 hcc1
        have q1 : ∀ o o2 : Obj, ((w5.alloc o).alloc o2).cell? ⟨w.heap.size, 1, none⟩ = some (.int .i64 m) := fun o o2 => ((HK5.out.alloc o).alloc o2).cellv (i := 1) rfl
        go_upto_region 10 with (fail)
        clear q1
        generalize hge : World.alloc _ _ = w6
        have HS6 := Lib.hid (show Blk w6 (w5.heap.size + 1) 30 #[.int .i64 u, .slice Ao 64 co, .slice Ac 64 cc, .slice Ap q cp] by subst hge; exact (blk_two w5 _ _ 24 30).2)
        have hb6 : Below w5.heap.size w5 w6 := by subst hge; exact below_two (Below.refl _ _) (Nat.le_refl _) _ _
        have HK6 := Lib.hid (HK5.out.below hb6)
        have HD6 := Lib.hid (HD5.out.below hb6)
        have HCo6 := Lib.hid (HCo.out.below hb6)
        have HCc6 := Lib.hid (HCc.out.below hb6)
        have HCp6 := Lib.hid (HCp.out.below hb6)
        have HB6 := Lib.hid (below_of HB5.out hb6 HB5.out.size)
        clear hge hb6
        obtain ⟨X, hX⟩ : ∃ X, w5.heap.size = X := ⟨_, rfl⟩
        have hwX : w.heap.size ≤ X := by rw [← hX]; exact HB5.out.size
        have hGX : G < X := by rw [← hX]; exact HD5.out.lt
        have hKX : w.heap.size < X := by rw [← hX]; exact HK5.out.lt
        rw [hX] at HS6 ⊢
        clear hX HK5 HD5 HB5 HCo HCc HCp
        have s0 := HS6.out.cellv (i := 0) rfl
        have s1 := HS6.out.cellv (i := 1) rfl
        have s2 := HS6.out.cellv (i := 2) rfl
        have s3 := HS6.out.cellv (i := 3) rfl
        have g0 := HS6.out.frozen 0
        have g1 := HS6.out.frozen 1
        have q1 := HK6.out.cellv (i := 1) rfl
        have hv1 : -9223372036854775808 ≤ v := (bounds_i64 wv).1
        have hv2 : v ≤ 9223372036854775807 := (bounds_i64 wv).2
        clear wv
        have hcase : how = 0 ∨ how = 1 ∨ how = 2 ∨ how = 3 ∨ how = 4 ∨ how = 5 ∨ how = 6 ∨ (how ≠ 0 ∧ how ≠ 1 ∧ how ≠ 2 ∧ how ≠ 3 ∧ how ≠ 4 ∧ how ≠ 5 ∧ how ≠ 6) := by omega
        rcases hcase with rfl | rfl | rfl | rfl | rfl | rfl | rfl | ⟨n0, n1, n2, n3, n4, n5, n6⟩
        · go_wp2_with (
            (refine wpList_load_blk rfl 37 (.tmp 9) rfl G rfl 37 (arrK .u8 D) (.array 32 5) (HD6.out.far (by simp; omega) _) (by kernel_rfl) rfl (info32 Dt.out.1) ?_))
          generalize hge : World.setCell _ _ _ = w7
          have hg7 : w6.grownBy w7 (some (X + 1)) := by subst hge; exact grown_setOne _
          have HB7 := Lib.hid (below_grown HB6.out hg7 HB6.out.size (by simp; omega))
          clear hge hg7
          refine (Verify_bad D _ _ B k d Ao Ac Ap _ co 64 cc q cp w7 (by omega)).mono ?_
          rintro e w8 ⟨rfl, hb8⟩
          have HB8 := Lib.hid (below_of HB7.out hb8 HB7.out.size)
          clear hb8
          go_wp2_with (fail)
          go_ret
          exact ⟨rfl, HB8.out⟩
        · have oG : G < w6.heap.size := HD6.out.lt
          have oX : X + 1 < w6.heap.size := HS6.out.lt
          have apo0 := Lib.hid (cells_lt HCo6.out (Nat.le_refl _))
          have apc0 := Lib.hid (cells_lt HCc6.out (Nat.le_refl _))
          have app0 := Lib.hid (cells_lt HCp6.out (Nat.le_refl _))
          clear s0 s1 s2 s3 g0 g1 q1
          go_upto_region 15 with (fail)
          refine wp_region_held_drew (S := fun W => Below w.heap.size w W ∧ Blk W G 37 (arrK .u8 D)) (by kernel_rfl) (⟨below_drewN HB6.out 1, HD6.out⟩) (fun Hd => ?_)
          have Hd : Below w.heap.size w w6.drew := below_drewN HB6.out 1
          have Zd : w6.heap.size ≤ w6.drew.heap.size := Nat.le_refl _
          have fD : Blk w6.drew G 37 (arrK .u8 D) := HD6.out
          have fS : Blk w6.drew (X + 1) 30 #[.int .i64 u, .slice Ao 64 co, .slice Ac 64 cc, .slice Ap q cp] := HS6.out
          have fo : Cells w6.drew Ao (bytesV ol.flatten) := HCo6.out
          have fc : Cells w6.drew Ac (bytesV cl.flatten) := HCc6.out
          have fp : Cells w6.drew Ap (bytesV pl.flatten) := HCp6.out
          generalize World.drew w6 = wd at *
          refine wpAnyH_take (i := 1) (v := ?_) rfl (by kernel_rfl) (by kernel_rfl) (by kernel_rfl) (fun _ _ _ h => h) (Or.inl ⟨by rfl, ?_⟩) ⟨Hd, fD⟩ ?_
          rotate_left
          · intro w hSw
            go_simp
            try with_reducible rfl
          try simp only [List.getElem_toArray, List.getElem_cons_zero, List.getElem_cons_succ, Act.put, List.setIfInBounds_toArray, List.set_cons_zero, List.set_cons_succ]
          refine wpAnyH_take (i := 4) (v := .agg (arrK .u8 D)) rfl (by kernel_rfl) (by kernel_rfl) (by kernel_rfl) (fun _ _ _ h => h) (yields_load_blk (by rfl) _ _ rfl (G) rfl 37 (arrK .u8 D) (.array 32 5) (fun W hW => hW.2) (by kernel_rfl) rfl (info32 Dt.out.1)) ⟨Hd, fD⟩ ?_
          try simp only [List.getElem_toArray, List.getElem_cons_zero, List.getElem_cons_succ, Act.put, List.setIfInBounds_toArray, List.set_cons_zero, List.set_cons_succ]
          refine wpAnyH_ready (rs := [0, 2, 5]) (by kernel_rfl) (by simp) (AllReadyH.cons rfl (fun K hK => ?_) (AllReadyH.cons rfl (fun K hK => ?_) (AllReadyH.cons rfl (fun K hK => ?_) AllReadyH.nil)))
          · go_simp
            generalize hge : World.alloc _ _ = w1_
            have fr1 : w1_.ownsRow (w6.heap.size) 37 32 (.slice (some ⟨wd.heap.size, 0, none⟩) 0 0) 0 (bytesV ([] : List (List Nat)).flatten) := by subst hge; exact ownD_empty wd _ Zd
            have hb1 : Below wd.heap.size wd w1_ := by subst hge; exact (Below.refl _ _).alloc (Nat.le_refl _) _
            clear hge
            have fD1 := fD.below hb1
            have fS1 := fS.below hb1
            have fo1 := fo.below hb1
            have fc1 := fc.below hb1
            have fp1 := fp.below hb1
            have Hb1 : Below w.heap.size w w1_ := below_of Hd hb1 Hd.size
            have Zb1 : w6.heap.size ≤ w1_.heap.size := Nat.le_trans Zd hb1.size
            refine hK.out _ _ ⟨Hb1, fD1⟩ fun _ => ?_
            clear hK K
            try simp only [List.getElem_toArray, List.getElem_cons_zero, List.getElem_cons_succ, Act.put, List.setIfInBounds_toArray, List.set_cons_zero, List.set_cons_succ]
            refine wpAnyH_ready (rs := [2, 5]) (by kernel_rfl) (by simp) (AllReadyH.cons rfl (fun K hK => ?_) (AllReadyH.cons rfl (fun K hK => ?_) AllReadyH.nil))
            · have ql := fS1.cellv (i := 2) rfl
              go_simp
              first | with_reducible rfl | skip
              refine hK.out _ _ ⟨Hb1, fD1⟩ fun _ => ?_
              clear hK K
              try simp only [List.getElem_toArray, List.getElem_cons_zero, List.getElem_cons_succ, Act.put, List.setIfInBounds_toArray, List.set_cons_zero, List.set_cons_succ]
              refine wpAnyH_ready (rs := [3, 5]) (by kernel_rfl) (by simp) (AllReadyH.cons rfl (fun K hK => ?_) (AllReadyH.cons rfl (fun K hK => ?_) AllReadyH.nil))
              · refine step_addDs (by rfl) (.tmp 77) (.tmp 79) (by rfl) (w6.heap.size) (.slice (some ⟨wd.heap.size, 0, none⟩) 0 0) (0) (([] : List (List Nat))) fr1 (by rfl) Ac 64 cc cl Hcl.out HcL.out (fc1) (by rfl) (by omega) Zb1 ?_
                intro v2 w2_ fr2 hg2 st2
                have fD2 := fD1.grown hg2 (fun e => absurd (own_base fr1 _ e.symm) (Nat.not_le.2 oG))
                have fS2 := fS1.grown hg2 (fun e => absurd (own_base fr1 _ e.symm) (Nat.not_le.2 oX))
                have fo2 := fo1.grownB hg2 apo0.out fr1
                have fc2 := fc1.grownB hg2 apc0.out fr1
                have fp2 := fp1.grownB hg2 app0.out fr1
                have Hb2 : Below w.heap.size w w2_ := below_grown Hb1 hg2 Hb1.size (fun k hk => Nat.le_trans HB6.out.size (own_base fr1 k hk))
                have Zb2 : w6.heap.size ≤ w2_.heap.size := Nat.le_trans Zb1 hg2.size
                obtain ⟨A2, c2, rfl, le2, lm2, -⟩ := own_form fr2
                rw [Nat.zero_add] at fr2 le2 
                simp only [Nat.zero_add]
                refine hK.out _ _ ⟨Hb2, fD2⟩ fun _ => ?_
                clear hK K
                try simp only [List.getElem_toArray, List.getElem_cons_zero, List.getElem_cons_succ, Act.put, List.setIfInBounds_toArray, List.set_cons_zero, List.set_cons_succ]
                refine wpAnyH_ready (rs := [5]) (by kernel_rfl) (by simp) (AllReadyH.cons rfl (fun K hK => ?_) AllReadyH.nil)
                refine step_oneD (by rfl) _ (by rfl) (D) Dt.out (by rfl) ?_
                generalize hge : World.alloc _ _ = w3_
                have fb3 : Blk w3_ w2_.heap.size 37 (arrK .u8 (D)) := by subst hge; exact Blk.new _ _ _
                have hb3 : Below w2_.heap.size w2_ w3_ := by subst hge; exact (Below.refl _ _).alloc (Nat.le_refl _) _
                clear hge
                have fD3 := fD2.below hb3
                have fS3 := fS2.below hb3
                have fo3 := fo2.below hb3
                have fc3 := fc2.below hb3
                have fp3 := fp2.below hb3
                have fr3 := own_below fr2 hb3
                have aprb3 := apart_new fr2
                have lob3 : w6.heap.size ≤ w2_.heap.size := Zb2
                have Hb3 : Below w.heap.size w w3_ := below_of Hb2 hb3 Hb2.size
                have Zb3 : w6.heap.size ≤ w3_.heap.size := Nat.le_trans Zb2 hb3.size
                refine hK.out _ _ ⟨Hb3, fD3⟩ fun _ => ?_
                clear hK K
                try simp only [List.getElem_toArray, List.getElem_cons_zero, List.getElem_cons_succ, Act.put, List.setIfInBounds_toArray, List.set_cons_zero, List.set_cons_succ]
                refine wpAnyH_ready (rs := [6]) (by kernel_rfl) (by simp) (AllReadyH.cons rfl (fun K hK => ?_) AllReadyH.nil)
                refine step_pushDs (by rfl) (.tmp 80) (.tmp 82) (by rfl) (w6.heap.size) (.slice A2 (64) c2) (64) ((([] : List (List Nat)) ++ cl)) (D) fr3 (by rfl) (w2_.heap.size) fb3 Dt.out (by rfl) (by omega) Zb3 ?_
                intro v4 w4_ fr4 hg4 st4
                have aprb4 := apart_sits st4 aprb3 fb3.lt
                have fD4 := fD3.grown hg4 (fun e => absurd (own_base fr3 _ e.symm) (Nat.not_le.2 oG))
                have fS4 := fS3.grown hg4 (fun e => absurd (own_base fr3 _ e.symm) (Nat.not_le.2 oX))
                have fo4 := fo3.grownB hg4 apo0.out fr3
                have fc4 := fc3.grownB hg4 apc0.out fr3
                have fp4 := fp3.grownB hg4 app0.out fr3
                have fb4 := fb3.grown hg4 (fun e => aprb3 e.symm)
                have Hb4 : Below w.heap.size w w4_ := below_grown Hb3 hg4 Hb3.size (fun k hk => Nat.le_trans HB6.out.size (own_base fr3 k hk))
                have Zb4 : w6.heap.size ≤ w4_.heap.size := Nat.le_trans Zb3 hg4.size
                obtain ⟨A4, c4, rfl, le4, lm4, -⟩ := own_form fr4
                refine hK.out _ _ ⟨Hb4, fD4⟩ fun _ => ?_
                clear hK K
                try simp only [List.getElem_toArray, List.getElem_cons_zero, List.getElem_cons_succ, Act.put, List.setIfInBounds_toArray, List.set_cons_zero, List.set_cons_succ]
                refine wpAnyH_take (i := 7) (v := ?_) rfl (by kernel_rfl) (by kernel_rfl) (by kernel_rfl) (fun _ _ _ h => h) (Or.inl ⟨by rfl, ?_⟩) ⟨Hb4, fD4⟩ ?_
                rotate_left
                · intro w hSw
                  go_simp
                  try with_reducible rfl
                try simp only [List.getElem_toArray, List.getElem_cons_zero, List.getElem_cons_succ, Act.put, List.setIfInBounds_toArray, List.set_cons_zero, List.set_cons_succ]
                refine wpAnyH_ready (rs := [8]) (by kernel_rfl) (by simp) (AllReadyH.cons rfl (fun K hK => ?_) AllReadyH.nil)
                refine step_put_cell (by rfl) _ _ _ (by rfl) (X + 1) 2 ((.slice A4 (64 + 1) c4)) (by rfl) (by rfl) _ _ fS4 (by simp) (by kernel_rfl) (by rfl) ?_
                intro w5_ fS5 hg5 hz5
                have neD5 := fD4.lt
                have fD5 := fD4.grown hg5 (by first | (simp; done) | (simp; omega))
                have fo5 := fo4.off8 hg5 fS4 (by first | exact no8_sig | exact no8_key)
                have fc5 := fc4.off8 hg5 fS4 (by first | exact no8_sig | exact no8_key)
                have fp5 := fp4.off8 hg5 fS4 (by first | exact no8_sig | exact no8_key)
                have neb5 := fb4.lt
                have fb5 := fb4.grown hg5 (by first | (simp; done) | (simp; omega))
                have fr5 := fr4.kept hg5 (.inr (fun e => absurd (own_base fr4 _ e) (Nat.not_le.2 oX)))
                have Hb5 : Below w.heap.size w w5_ := below_grown Hb4 hg5 Hb4.size (by first | (simp; done) | (simp; omega))
                have Zb5 : w6.heap.size ≤ w5_.heap.size := Nat.le_trans Zb4 hg5.size
                refine hK.out _ _ ⟨Hb5, fD5⟩ fun _ => ?_
                clear hK K
                try simp only [List.getElem_toArray, List.getElem_cons_zero, List.getElem_cons_succ, Act.put, List.setIfInBounds_toArray, List.set_cons_zero, List.set_cons_succ]
                refine wpAnyH_done (by kernel_rfl) ?_ _
                go_upto_region 26 with (fail)
                obtain ⟨w9, hw9⟩ : ∃ w9, w9 = w5_ := ⟨_, rfl⟩
                subst hw9
                have HD9 := Lib.hid fD5
                have HB9 := Lib.hid Hb5
                have HS9 := fS5
                have s0 := HS9.cellv (i := 0) rfl
                have s1 := HS9.cellv (i := 1) rfl
                have s2 := HS9.cellv (i := 2) rfl
                have s3 := HS9.cellv (i := 3) rfl
                have HCo9 := fo5
                have HCc9 := fc5
                have Hr9 := Lib.hid fr5
                have Hr9l := Lib.hid le4
                have Hr9m := Lib.hid lm4
                go_wp2_with (
                  (refine wpList_load_blk rfl 37 (.tmp 9) rfl G rfl 37 (arrK .u8 D) (.array 32 5) HD9.out (by kernel_rfl) rfl (info32 Dt.out.1) ?_))
                refine (Verify_bad D _ _ B k d Ao A4 Ap _ co _ c4 q cp w9 (by omega)).mono ?_
                rintro e w10 ⟨rfl, hb10⟩
                have HB10 := Lib.hid (below_of HB9.out hb10 HB9.out.size)
                clear hb10
                go_wp2_with (fail)
                go_ret
                exact ⟨rfl, HB10.out⟩
              · refine step_oneD (by rfl) _ (by rfl) (D) Dt.out (by rfl) ?_
                generalize hge : World.alloc _ _ = w2_
                have fb2 : Blk w2_ w1_.heap.size 37 (arrK .u8 (D)) := by subst hge; exact Blk.new _ _ _
                have hb2 : Below w1_.heap.size w1_ w2_ := by subst hge; exact (Below.refl _ _).alloc (Nat.le_refl _) _
                clear hge
                have fD2 := fD1.below hb2
                have fS2 := fS1.below hb2
                have fo2 := fo1.below hb2
                have fc2 := fc1.below hb2
                have fp2 := fp1.below hb2
                have fr2 := own_below fr1 hb2
                have aprb2 := apart_new fr1
                have lob2 : w6.heap.size ≤ w1_.heap.size := Zb1
                have Hb2 : Below w.heap.size w w2_ := below_of Hb1 hb2 Hb1.size
                have Zb2 : w6.heap.size ≤ w2_.heap.size := Nat.le_trans Zb1 hb2.size
                refine hK.out _ _ ⟨Hb2, fD2⟩ fun _ => ?_
                clear hK K
                try simp only [List.getElem_toArray, List.getElem_cons_zero, List.getElem_cons_succ, Act.put, List.setIfInBounds_toArray, List.set_cons_zero, List.set_cons_succ]
                refine wpAnyH_ready (rs := [3]) (by kernel_rfl) (by simp) (AllReadyH.cons rfl (fun K hK => ?_) AllReadyH.nil)
                refine step_addDs (by rfl) (.tmp 77) (.tmp 79) (by rfl) (w6.heap.size) (.slice (some ⟨wd.heap.size, 0, none⟩) 0 0) (0) (([] : List (List Nat))) fr2 (by rfl) Ac 64 cc cl Hcl.out HcL.out (fc2) (by rfl) (by omega) Zb2 ?_
                intro v3 w3_ fr3 hg3 st3
                have aprb3 := apart_sits st3 aprb2 fb2.lt
                have fD3 := fD2.grown hg3 (fun e => absurd (own_base fr2 _ e.symm) (Nat.not_le.2 oG))
                have fS3 := fS2.grown hg3 (fun e => absurd (own_base fr2 _ e.symm) (Nat.not_le.2 oX))
                have fo3 := fo2.grownB hg3 apo0.out fr2
                have fc3 := fc2.grownB hg3 apc0.out fr2
                have fp3 := fp2.grownB hg3 app0.out fr2
                have fb3 := fb2.grown hg3 (fun e => aprb2 e.symm)
                have Hb3 : Below w.heap.size w w3_ := below_grown Hb2 hg3 Hb2.size (fun k hk => Nat.le_trans HB6.out.size (own_base fr2 k hk))
                have Zb3 : w6.heap.size ≤ w3_.heap.size := Nat.le_trans Zb2 hg3.size
                obtain ⟨A3, c3, rfl, le3, lm3, -⟩ := own_form fr3
                rw [Nat.zero_add] at fr3 le3 aprb3
                simp only [Nat.zero_add]
                refine hK.out _ _ ⟨Hb3, fD3⟩ fun _ => ?_
                clear hK K
                try simp only [List.getElem_toArray, List.getElem_cons_zero, List.getElem_cons_succ, Act.put, List.setIfInBounds_toArray, List.set_cons_zero, List.set_cons_succ]
                refine wpAnyH_ready (rs := [6]) (by kernel_rfl) (by simp) (AllReadyH.cons rfl (fun K hK => ?_) AllReadyH.nil)
                refine step_pushDs (by rfl) (.tmp 80) (.tmp 82) (by rfl) (w6.heap.size) (.slice A3 (64) c3) (64) ((([] : List (List Nat)) ++ cl)) (D) fr3 (by rfl) (w1_.heap.size) fb3 Dt.out (by rfl) (by omega) Zb3 ?_
                intro v4 w4_ fr4 hg4 st4
                have aprb4 := apart_sits st4 aprb3 fb3.lt
                have fD4 := fD3.grown hg4 (fun e => absurd (own_base fr3 _ e.symm) (Nat.not_le.2 oG))
                have fS4 := fS3.grown hg4 (fun e => absurd (own_base fr3 _ e.symm) (Nat.not_le.2 oX))
                have fo4 := fo3.grownB hg4 apo0.out fr3
                have fc4 := fc3.grownB hg4 apc0.out fr3
                have fp4 := fp3.grownB hg4 app0.out fr3
                have fb4 := fb3.grown hg4 (fun e => aprb3 e.symm)
                have Hb4 : Below w.heap.size w w4_ := below_grown Hb3 hg4 Hb3.size (fun k hk => Nat.le_trans HB6.out.size (own_base fr3 k hk))
                have Zb4 : w6.heap.size ≤ w4_.heap.size := Nat.le_trans Zb3 hg4.size
                obtain ⟨A4, c4, rfl, le4, lm4, -⟩ := own_form fr4
                refine hK.out _ _ ⟨Hb4, fD4⟩ fun _ => ?_
                clear hK K
                try simp only [List.getElem_toArray, List.getElem_cons_zero, List.getElem_cons_succ, Act.put, List.setIfInBounds_toArray, List.set_cons_zero, List.set_cons_succ]
                refine wpAnyH_take (i := 7) (v := ?_) rfl (by kernel_rfl) (by kernel_rfl) (by kernel_rfl) (fun _ _ _ h => h) (Or.inl ⟨by rfl, ?_⟩) ⟨Hb4, fD4⟩ ?_
                rotate_left
                · intro w hSw
                  go_simp
                  try with_reducible rfl
                try simp only [List.getElem_toArray, List.getElem_cons_zero, List.getElem_cons_succ, Act.put, List.setIfInBounds_toArray, List.set_cons_zero, List.set_cons_succ]
                refine wpAnyH_ready (rs := [8]) (by kernel_rfl) (by simp) (AllReadyH.cons rfl (fun K hK => ?_) AllReadyH.nil)
                refine step_put_cell (by rfl) _ _ _ (by rfl) (X + 1) 2 ((.slice A4 (64 + 1) c4)) (by rfl) (by rfl) _ _ fS4 (by simp) (by kernel_rfl) (by rfl) ?_
                intro w5_ fS5 hg5 hz5
                have neD5 := fD4.lt
                have fD5 := fD4.grown hg5 (by first | (simp; done) | (simp; omega))
                have fo5 := fo4.off8 hg5 fS4 (by first | exact no8_sig | exact no8_key)
                have fc5 := fc4.off8 hg5 fS4 (by first | exact no8_sig | exact no8_key)
                have fp5 := fp4.off8 hg5 fS4 (by first | exact no8_sig | exact no8_key)
                have neb5 := fb4.lt
                have fb5 := fb4.grown hg5 (by first | (simp; done) | (simp; omega))
                have fr5 := fr4.kept hg5 (.inr (fun e => absurd (own_base fr4 _ e) (Nat.not_le.2 oX)))
                have Hb5 : Below w.heap.size w w5_ := below_grown Hb4 hg5 Hb4.size (by first | (simp; done) | (simp; omega))
                have Zb5 : w6.heap.size ≤ w5_.heap.size := Nat.le_trans Zb4 hg5.size
                refine hK.out _ _ ⟨Hb5, fD5⟩ fun _ => ?_
                clear hK K
                try simp only [List.getElem_toArray, List.getElem_cons_zero, List.getElem_cons_succ, Act.put, List.setIfInBounds_toArray, List.set_cons_zero, List.set_cons_succ]
                refine wpAnyH_done (by kernel_rfl) ?_ _
                go_upto_region 26 with (fail)
                obtain ⟨w9, hw9⟩ : ∃ w9, w9 = w5_ := ⟨_, rfl⟩
                subst hw9
                have HD9 := Lib.hid fD5
                have HB9 := Lib.hid Hb5
                have HS9 := fS5
                have s0 := HS9.cellv (i := 0) rfl
                have s1 := HS9.cellv (i := 1) rfl
                have s2 := HS9.cellv (i := 2) rfl
                have s3 := HS9.cellv (i := 3) rfl
                have HCo9 := fo5
                have HCc9 := fc5
                have Hr9 := Lib.hid fr5
                have Hr9l := Lib.hid le4
                have Hr9m := Lib.hid lm4
                go_wp2_with (
                  (refine wpList_load_blk rfl 37 (.tmp 9) rfl G rfl 37 (arrK .u8 D) (.array 32 5) HD9.out (by kernel_rfl) rfl (info32 Dt.out.1) ?_))
                refine (Verify_bad D _ _ B k d Ao A4 Ap _ co _ c4 q cp w9 (by omega)).mono ?_
                rintro e w10 ⟨rfl, hb10⟩
                have HB10 := Lib.hid (below_of HB9.out hb10 HB9.out.size)
                clear hb10
                go_wp2_with (fail)
                go_ret
                exact ⟨rfl, HB10.out⟩
            · refine step_oneD (by rfl) _ (by rfl) (D) Dt.out (by rfl) ?_
              generalize hge : World.alloc _ _ = w2_
              have fb2 : Blk w2_ w1_.heap.size 37 (arrK .u8 (D)) := by subst hge; exact Blk.new _ _ _
              have hb2 : Below w1_.heap.size w1_ w2_ := by subst hge; exact (Below.refl _ _).alloc (Nat.le_refl _) _
              clear hge
              have fD2 := fD1.below hb2
              have fS2 := fS1.below hb2
              have fo2 := fo1.below hb2
              have fc2 := fc1.below hb2
              have fp2 := fp1.below hb2
              have fr2 := own_below fr1 hb2
              have aprb2 := apart_new fr1
              have lob2 : w6.heap.size ≤ w1_.heap.size := Zb1
              have Hb2 : Below w.heap.size w w2_ := below_of Hb1 hb2 Hb1.size
              have Zb2 : w6.heap.size ≤ w2_.heap.size := Nat.le_trans Zb1 hb2.size
              refine hK.out _ _ ⟨Hb2, fD2⟩ fun _ => ?_
              clear hK K
              try simp only [List.getElem_toArray, List.getElem_cons_zero, List.getElem_cons_succ, Act.put, List.setIfInBounds_toArray, List.set_cons_zero, List.set_cons_succ]
              refine wpAnyH_ready (rs := [2]) (by kernel_rfl) (by simp) (AllReadyH.cons rfl (fun K hK => ?_) AllReadyH.nil)
              have ql := fS2.cellv (i := 2) rfl
              go_simp
              first | with_reducible rfl | skip
              refine hK.out _ _ ⟨Hb2, fD2⟩ fun _ => ?_
              clear hK K
              try simp only [List.getElem_toArray, List.getElem_cons_zero, List.getElem_cons_succ, Act.put, List.setIfInBounds_toArray, List.set_cons_zero, List.set_cons_succ]
              refine wpAnyH_ready (rs := [3]) (by kernel_rfl) (by simp) (AllReadyH.cons rfl (fun K hK => ?_) AllReadyH.nil)
              refine step_addDs (by rfl) (.tmp 77) (.tmp 79) (by rfl) (w6.heap.size) (.slice (some ⟨wd.heap.size, 0, none⟩) 0 0) (0) (([] : List (List Nat))) fr2 (by rfl) Ac 64 cc cl Hcl.out HcL.out (fc2) (by rfl) (by omega) Zb2 ?_
              intro v3 w3_ fr3 hg3 st3
              have aprb3 := apart_sits st3 aprb2 fb2.lt
              have fD3 := fD2.grown hg3 (fun e => absurd (own_base fr2 _ e.symm) (Nat.not_le.2 oG))
              have fS3 := fS2.grown hg3 (fun e => absurd (own_base fr2 _ e.symm) (Nat.not_le.2 oX))
              have fo3 := fo2.grownB hg3 apo0.out fr2
              have fc3 := fc2.grownB hg3 apc0.out fr2
              have fp3 := fp2.grownB hg3 app0.out fr2
              have fb3 := fb2.grown hg3 (fun e => aprb2 e.symm)
              have Hb3 : Below w.heap.size w w3_ := below_grown Hb2 hg3 Hb2.size (fun k hk => Nat.le_trans HB6.out.size (own_base fr2 k hk))
              have Zb3 : w6.heap.size ≤ w3_.heap.size := Nat.le_trans Zb2 hg3.size
              obtain ⟨A3, c3, rfl, le3, lm3, -⟩ := own_form fr3
              rw [Nat.zero_add] at fr3 le3 aprb3
              simp only [Nat.zero_add]
              refine hK.out _ _ ⟨Hb3, fD3⟩ fun _ => ?_
              clear hK K
              try simp only [List.getElem_toArray, List.getElem_cons_zero, List.getElem_cons_succ, Act.put, List.setIfInBounds_toArray, List.set_cons_zero, List.set_cons_succ]
              refine wpAnyH_ready (rs := [6]) (by kernel_rfl) (by simp) (AllReadyH.cons rfl (fun K hK => ?_) AllReadyH.nil)
              refine step_pushDs (by rfl) (.tmp 80) (.tmp 82) (by rfl) (w6.heap.size) (.slice A3 (64) c3) (64) ((([] : List (List Nat)) ++ cl)) (D) fr3 (by rfl) (w1_.heap.size) fb3 Dt.out (by rfl) (by omega) Zb3 ?_
              intro v4 w4_ fr4 hg4 st4
              have aprb4 := apart_sits st4 aprb3 fb3.lt
              have fD4 := fD3.grown hg4 (fun e => absurd (own_base fr3 _ e.symm) (Nat.not_le.2 oG))
              have fS4 := fS3.grown hg4 (fun e => absurd (own_base fr3 _ e.symm) (Nat.not_le.2 oX))
              have fo4 := fo3.grownB hg4 apo0.out fr3
              have fc4 := fc3.grownB hg4 apc0.out fr3
              have fp4 := fp3.grownB hg4 app0.out fr3
              have fb4 := fb3.grown hg4 (fun e => aprb3 e.symm)
              have Hb4 : Below w.heap.size w w4_ := below_grown Hb3 hg4 Hb3.size (fun k hk => Nat.le_trans HB6.out.size (own_base fr3 k hk))
              have Zb4 : w6.heap.size ≤ w4_.heap.size := Nat.le_trans Zb3 hg4.size
              obtain ⟨A4, c4, rfl, le4, lm4, -⟩ := own_form fr4
              refine hK.out _ _ ⟨Hb4, fD4⟩ fun _ => ?_
              clear hK K
              try simp only [List.getElem_toArray, List.getElem_cons_zero, List.getElem_cons_succ, Act.put, List.setIfInBounds_toArray, List.set_cons_zero, List.set_cons_succ]
              refine wpAnyH_take (i := 7) (v := ?_) rfl (by kernel_rfl) (by kernel_rfl) (by kernel_rfl) (fun _ _ _ h => h) (Or.inl ⟨by rfl, ?_⟩) ⟨Hb4, fD4⟩ ?_
              rotate_left
              · intro w hSw
                go_simp
                try with_reducible rfl
              try simp only [List.getElem_toArray, List.getElem_cons_zero, List.getElem_cons_succ, Act.put, List.setIfInBounds_toArray, List.set_cons_zero, List.set_cons_succ]
              refine wpAnyH_ready (rs := [8]) (by kernel_rfl) (by simp) (AllReadyH.cons rfl (fun K hK => ?_) AllReadyH.nil)
              refine step_put_cell (by rfl) _ _ _ (by rfl) (X + 1) 2 ((.slice A4 (64 + 1) c4)) (by rfl) (by rfl) _ _ fS4 (by simp) (by kernel_rfl) (by rfl) ?_
              intro w5_ fS5 hg5 hz5
              have neD5 := fD4.lt
              have fD5 := fD4.grown hg5 (by first | (simp; done) | (simp; omega))
              have fo5 := fo4.off8 hg5 fS4 (by first | exact no8_sig | exact no8_key)
              have fc5 := fc4.off8 hg5 fS4 (by first | exact no8_sig | exact no8_key)
              have fp5 := fp4.off8 hg5 fS4 (by first | exact no8_sig | exact no8_key)
              have neb5 := fb4.lt
              have fb5 := fb4.grown hg5 (by first | (simp; done) | (simp; omega))
              have fr5 := fr4.kept hg5 (.inr (fun e => absurd (own_base fr4 _ e) (Nat.not_le.2 oX)))
              have Hb5 : Below w.heap.size w w5_ := below_grown Hb4 hg5 Hb4.size (by first | (simp; done) | (simp; omega))
              have Zb5 : w6.heap.size ≤ w5_.heap.size := Nat.le_trans Zb4 hg5.size
              refine hK.out _ _ ⟨Hb5, fD5⟩ fun _ => ?_
              clear hK K
              try simp only [List.getElem_toArray, List.getElem_cons_zero, List.getElem_cons_succ, Act.put, List.setIfInBounds_toArray, List.set_cons_zero, List.set_cons_succ]
              refine wpAnyH_done (by kernel_rfl) ?_ _
              go_upto_region 26 with (fail)
              obtain ⟨w9, hw9⟩ : ∃ w9, w9 = w5_ := ⟨_, rfl⟩
              subst hw9
              have HD9 := Lib.hid fD5
              have HB9 := Lib.hid Hb5
              have HS9 := fS5
              have s0 := HS9.cellv (i := 0) rfl
              have s1 := HS9.cellv (i := 1) rfl
              have s2 := HS9.cellv (i := 2) rfl
              have s3 := HS9.cellv (i := 3) rfl
              have HCo9 := fo5
              have HCc9 := fc5
              have Hr9 := Lib.hid fr5
              have Hr9l := Lib.hid le4
              have Hr9m := Lib.hid lm4
              go_wp2_with (
                (refine wpList_load_blk rfl 37 (.tmp 9) rfl G rfl 37 (arrK .u8 D) (.array 32 5) HD9.out (by kernel_rfl) rfl (info32 Dt.out.1) ?_))
              refine (Verify_bad D _ _ B k d Ao A4 Ap _ co _ c4 q cp w9 (by omega)).mono ?_
              rintro e w10 ⟨rfl, hb10⟩
              have HB10 := Lib.hid (below_of HB9.out hb10 HB9.out.size)
              clear hb10
              go_wp2_with (fail)
              go_ret
              exact ⟨rfl, HB10.out⟩
          · have ql := fS.cellv (i := 2) rfl
            go_simp
            first | with_reducible rfl | skip
            refine hK.out _ _ ⟨Hd, fD⟩ fun _ => ?_
            clear hK K
            try simp only [List.getElem_toArray, List.getElem_cons_zero, List.getElem_cons_succ, Act.put, List.setIfInBounds_toArray, List.set_cons_zero, List.set_cons_succ]
            refine wpAnyH_ready (rs := [0, 5]) (by kernel_rfl) (by simp) (AllReadyH.cons rfl (fun K hK => ?_) (AllReadyH.cons rfl (fun K hK => ?_) AllReadyH.nil))
            · go_simp
              generalize hge : World.alloc _ _ = w1_
              have fr1 : w1_.ownsRow (w6.heap.size) 37 32 (.slice (some ⟨wd.heap.size, 0, none⟩) 0 0) 0 (bytesV ([] : List (List Nat)).flatten) := by subst hge; exact ownD_empty wd _ Zd
              have hb1 : Below wd.heap.size wd w1_ := by subst hge; exact (Below.refl _ _).alloc (Nat.le_refl _) _
              clear hge
              have fD1 := fD.below hb1
              have fS1 := fS.below hb1
              have fo1 := fo.below hb1
              have fc1 := fc.below hb1
              have fp1 := fp.below hb1
              have Hb1 : Below w.heap.size w w1_ := below_of Hd hb1 Hd.size
              have Zb1 : w6.heap.size ≤ w1_.heap.size := Nat.le_trans Zd hb1.size
              refine hK.out _ _ ⟨Hb1, fD1⟩ fun _ => ?_
              clear hK K
              try simp only [List.getElem_toArray, List.getElem_cons_zero, List.getElem_cons_succ, Act.put, List.setIfInBounds_toArray, List.set_cons_zero, List.set_cons_succ]
              refine wpAnyH_ready (rs := [3, 5]) (by kernel_rfl) (by simp) (AllReadyH.cons rfl (fun K hK => ?_) (AllReadyH.cons rfl (fun K hK => ?_) AllReadyH.nil))
              · refine step_addDs (by rfl) (.tmp 77) (.tmp 79) (by rfl) (w6.heap.size) (.slice (some ⟨wd.heap.size, 0, none⟩) 0 0) (0) (([] : List (List Nat))) fr1 (by rfl) Ac 64 cc cl Hcl.out HcL.out (fc1) (by rfl) (by omega) Zb1 ?_
                intro v2 w2_ fr2 hg2 st2
                have fD2 := fD1.grown hg2 (fun e => absurd (own_base fr1 _ e.symm) (Nat.not_le.2 oG))
                have fS2 := fS1.grown hg2 (fun e => absurd (own_base fr1 _ e.symm) (Nat.not_le.2 oX))
                have fo2 := fo1.grownB hg2 apo0.out fr1
                have fc2 := fc1.grownB hg2 apc0.out fr1
                have fp2 := fp1.grownB hg2 app0.out fr1
                have Hb2 : Below w.heap.size w w2_ := below_grown Hb1 hg2 Hb1.size (fun k hk => Nat.le_trans HB6.out.size (own_base fr1 k hk))
                have Zb2 : w6.heap.size ≤ w2_.heap.size := Nat.le_trans Zb1 hg2.size
                obtain ⟨A2, c2, rfl, le2, lm2, -⟩ := own_form fr2
                rw [Nat.zero_add] at fr2 le2 
                simp only [Nat.zero_add]
                refine hK.out _ _ ⟨Hb2, fD2⟩ fun _ => ?_
                clear hK K
                try simp only [List.getElem_toArray, List.getElem_cons_zero, List.getElem_cons_succ, Act.put, List.setIfInBounds_toArray, List.set_cons_zero, List.set_cons_succ]
                refine wpAnyH_ready (rs := [5]) (by kernel_rfl) (by simp) (AllReadyH.cons rfl (fun K hK => ?_) AllReadyH.nil)
                refine step_oneD (by rfl) _ (by rfl) (D) Dt.out (by rfl) ?_
                generalize hge : World.alloc _ _ = w3_
                have fb3 : Blk w3_ w2_.heap.size 37 (arrK .u8 (D)) := by subst hge; exact Blk.new _ _ _
                have hb3 : Below w2_.heap.size w2_ w3_ := by subst hge; exact (Below.refl _ _).alloc (Nat.le_refl _) _
                clear hge
                have fD3 := fD2.below hb3
                have fS3 := fS2.below hb3
                have fo3 := fo2.below hb3
                have fc3 := fc2.below hb3
                have fp3 := fp2.below hb3
                have fr3 := own_below fr2 hb3
                have aprb3 := apart_new fr2
                have lob3 : w6.heap.size ≤ w2_.heap.size := Zb2
                have Hb3 : Below w.heap.size w w3_ := below_of Hb2 hb3 Hb2.size
                have Zb3 : w6.heap.size ≤ w3_.heap.size := Nat.le_trans Zb2 hb3.size
                refine hK.out _ _ ⟨Hb3, fD3⟩ fun _ => ?_
                clear hK K
                try simp only [List.getElem_toArray, List.getElem_cons_zero, List.getElem_cons_succ, Act.put, List.setIfInBounds_toArray, List.set_cons_zero, List.set_cons_succ]
                refine wpAnyH_ready (rs := [6]) (by kernel_rfl) (by simp) (AllReadyH.cons rfl (fun K hK => ?_) AllReadyH.nil)
                refine step_pushDs (by rfl) (.tmp 80) (.tmp 82) (by rfl) (w6.heap.size) (.slice A2 (64) c2) (64) ((([] : List (List Nat)) ++ cl)) (D) fr3 (by rfl) (w2_.heap.size) fb3 Dt.out (by rfl) (by omega) Zb3 ?_
                intro v4 w4_ fr4 hg4 st4
                have aprb4 := apart_sits st4 aprb3 fb3.lt
                have fD4 := fD3.grown hg4 (fun e => absurd (own_base fr3 _ e.symm) (Nat.not_le.2 oG))
                have fS4 := fS3.grown hg4 (fun e => absurd (own_base fr3 _ e.symm) (Nat.not_le.2 oX))
                have fo4 := fo3.grownB hg4 apo0.out fr3
                have fc4 := fc3.grownB hg4 apc0.out fr3
                have fp4 := fp3.grownB hg4 app0.out fr3
                have fb4 := fb3.grown hg4 (fun e => aprb3 e.symm)
                have Hb4 : Below w.heap.size w w4_ := below_grown Hb3 hg4 Hb3.size (fun k hk => Nat.le_trans HB6.out.size (own_base fr3 k hk))
                have Zb4 : w6.heap.size ≤ w4_.heap.size := Nat.le_trans Zb3 hg4.size
                obtain ⟨A4, c4, rfl, le4, lm4, -⟩ := own_form fr4
                refine hK.out _ _ ⟨Hb4, fD4⟩ fun _ => ?_
                clear hK K
                try simp only [List.getElem_toArray, List.getElem_cons_zero, List.getElem_cons_succ, Act.put, List.setIfInBounds_toArray, List.set_cons_zero, List.set_cons_succ]
                refine wpAnyH_take (i := 7) (v := ?_) rfl (by kernel_rfl) (by kernel_rfl) (by kernel_rfl) (fun _ _ _ h => h) (Or.inl ⟨by rfl, ?_⟩) ⟨Hb4, fD4⟩ ?_
                rotate_left
                · intro w hSw
                  go_simp
                  try with_reducible rfl
                try simp only [List.getElem_toArray, List.getElem_cons_zero, List.getElem_cons_succ, Act.put, List.setIfInBounds_toArray, List.set_cons_zero, List.set_cons_succ]
                refine wpAnyH_ready (rs := [8]) (by kernel_rfl) (by simp) (AllReadyH.cons rfl (fun K hK => ?_) AllReadyH.nil)
                refine step_put_cell (by rfl) _ _ _ (by rfl) (X + 1) 2 ((.slice A4 (64 + 1) c4)) (by rfl) (by rfl) _ _ fS4 (by simp) (by kernel_rfl) (by rfl) ?_
                intro w5_ fS5 hg5 hz5
                have neD5 := fD4.lt
                have fD5 := fD4.grown hg5 (by first | (simp; done) | (simp; omega))
                have fo5 := fo4.off8 hg5 fS4 (by first | exact no8_sig | exact no8_key)
                have fc5 := fc4.off8 hg5 fS4 (by first | exact no8_sig | exact no8_key)
                have fp5 := fp4.off8 hg5 fS4 (by first | exact no8_sig | exact no8_key)
                have neb5 := fb4.lt
                have fb5 := fb4.grown hg5 (by first | (simp; done) | (simp; omega))
                have fr5 := fr4.kept hg5 (.inr (fun e => absurd (own_base fr4 _ e) (Nat.not_le.2 oX)))
                have Hb5 : Below w.heap.size w w5_ := below_grown Hb4 hg5 Hb4.size (by first | (simp; done) | (simp; omega))
                have Zb5 : w6.heap.size ≤ w5_.heap.size := Nat.le_trans Zb4 hg5.size
                refine hK.out _ _ ⟨Hb5, fD5⟩ fun _ => ?_
                clear hK K
                try simp only [List.getElem_toArray, List.getElem_cons_zero, List.getElem_cons_succ, Act.put, List.setIfInBounds_toArray, List.set_cons_zero, List.set_cons_succ]
                refine wpAnyH_done (by kernel_rfl) ?_ _
                go_upto_region 26 with (fail)
                obtain ⟨w9, hw9⟩ : ∃ w9, w9 = w5_ := ⟨_, rfl⟩
                subst hw9
                have HD9 := Lib.hid fD5
                have HB9 := Lib.hid Hb5
                have HS9 := fS5
                have s0 := HS9.cellv (i := 0) rfl
                have s1 := HS9.cellv (i := 1) rfl
                have s2 := HS9.cellv (i := 2) rfl
                have s3 := HS9.cellv (i := 3) rfl
                have HCo9 := fo5
                have HCc9 := fc5
                have Hr9 := Lib.hid fr5
                have Hr9l := Lib.hid le4
                have Hr9m := Lib.hid lm4
                go_wp2_with (
                  (refine wpList_load_blk rfl 37 (.tmp 9) rfl G rfl 37 (arrK .u8 D) (.array 32 5) HD9.out (by kernel_rfl) rfl (info32 Dt.out.1) ?_))
                refine (Verify_bad D _ _ B k d Ao A4 Ap _ co _ c4 q cp w9 (by omega)).mono ?_
                rintro e w10 ⟨rfl, hb10⟩
                have HB10 := Lib.hid (below_of HB9.out hb10 HB9.out.size)
                clear hb10
                go_wp2_with (fail)
                go_ret
                exact ⟨rfl, HB10.out⟩
              · refine step_oneD (by rfl) _ (by rfl) (D) Dt.out (by rfl) ?_
                generalize hge : World.alloc _ _ = w2_
                have fb2 : Blk w2_ w1_.heap.size 37 (arrK .u8 (D)) := by subst hge; exact Blk.new _ _ _
                have hb2 : Below w1_.heap.size w1_ w2_ := by subst hge; exact (Below.refl _ _).alloc (Nat.le_refl _) _
                clear hge
                have fD2 := fD1.below hb2
                have fS2 := fS1.below hb2
                have fo2 := fo1.below hb2
                have fc2 := fc1.below hb2
                have fp2 := fp1.below hb2
                have fr2 := own_below fr1 hb2
                have aprb2 := apart_new fr1
                have lob2 : w6.heap.size ≤ w1_.heap.size := Zb1
                have Hb2 : Below w.heap.size w w2_ := below_of Hb1 hb2 Hb1.size
                have Zb2 : w6.heap.size ≤ w2_.heap.size := Nat.le_trans Zb1 hb2.size
                refine hK.out _ _ ⟨Hb2, fD2⟩ fun _ => ?_
                clear hK K
                try simp only [List.getElem_toArray, List.getElem_cons_zero, List.getElem_cons_succ, Act.put, List.setIfInBounds_toArray, List.set_cons_zero, List.set_cons_succ]
                refine wpAnyH_ready (rs := [3]) (by kernel_rfl) (by simp) (AllReadyH.cons rfl (fun K hK => ?_) AllReadyH.nil)
                refine step_addDs (by rfl) (.tmp 77) (.tmp 79) (by rfl) (w6.heap.size) (.slice (some ⟨wd.heap.size, 0, none⟩) 0 0) (0) (([] : List (List Nat))) fr2 (by rfl) Ac 64 cc cl Hcl.out HcL.out (fc2) (by rfl) (by omega) Zb2 ?_
                intro v3 w3_ fr3 hg3 st3
                have aprb3 := apart_sits st3 aprb2 fb2.lt
                have fD3 := fD2.grown hg3 (fun e => absurd (own_base fr2 _ e.symm) (Nat.not_le.2 oG))
                have fS3 := fS2.grown hg3 (fun e => absurd (own_base fr2 _ e.symm) (Nat.not_le.2 oX))
                have fo3 := fo2.grownB hg3 apo0.out fr2
                have fc3 := fc2.grownB hg3 apc0.out fr2
                have fp3 := fp2.grownB hg3 app0.out fr2
                have fb3 := fb2.grown hg3 (fun e => aprb2 e.symm)
                have Hb3 : Below w.heap.size w w3_ := below_grown Hb2 hg3 Hb2.size (fun k hk => Nat.le_trans HB6.out.size (own_base fr2 k hk))
                have Zb3 : w6.heap.size ≤ w3_.heap.size := Nat.le_trans Zb2 hg3.size
                obtain ⟨A3, c3, rfl, le3, lm3, -⟩ := own_form fr3
                rw [Nat.zero_add] at fr3 le3 aprb3
                simp only [Nat.zero_add]
                refine hK.out _ _ ⟨Hb3, fD3⟩ fun _ => ?_
                clear hK K
                try simp only [List.getElem_toArray, List.getElem_cons_zero, List.getElem_cons_succ, Act.put, List.setIfInBounds_toArray, List.set_cons_zero, List.set_cons_succ]
                refine wpAnyH_ready (rs := [6]) (by kernel_rfl) (by simp) (AllReadyH.cons rfl (fun K hK => ?_) AllReadyH.nil)
                refine step_pushDs (by rfl) (.tmp 80) (.tmp 82) (by rfl) (w6.heap.size) (.slice A3 (64) c3) (64) ((([] : List (List Nat)) ++ cl)) (D) fr3 (by rfl) (w1_.heap.size) fb3 Dt.out (by rfl) (by omega) Zb3 ?_
                intro v4 w4_ fr4 hg4 st4
                have aprb4 := apart_sits st4 aprb3 fb3.lt
                have fD4 := fD3.grown hg4 (fun e => absurd (own_base fr3 _ e.symm) (Nat.not_le.2 oG))
                have fS4 := fS3.grown hg4 (fun e => absurd (own_base fr3 _ e.symm) (Nat.not_le.2 oX))
                have fo4 := fo3.grownB hg4 apo0.out fr3
                have fc4 := fc3.grownB hg4 apc0.out fr3
                have fp4 := fp3.grownB hg4 app0.out fr3
                have fb4 := fb3.grown hg4 (fun e => aprb3 e.symm)
                have Hb4 : Below w.heap.size w w4_ := below_grown Hb3 hg4 Hb3.size (fun k hk => Nat.le_trans HB6.out.size (own_base fr3 k hk))
                have Zb4 : w6.heap.size ≤ w4_.heap.size := Nat.le_trans Zb3 hg4.size
                obtain ⟨A4, c4, rfl, le4, lm4, -⟩ := own_form fr4
                refine hK.out _ _ ⟨Hb4, fD4⟩ fun _ => ?_
                clear hK K
                try simp only [List.getElem_toArray, List.getElem_cons_zero, List.getElem_cons_succ, Act.put, List.setIfInBounds_toArray, List.set_cons_zero, List.set_cons_succ]
                refine wpAnyH_take (i := 7) (v := ?_) rfl (by kernel_rfl) (by kernel_rfl) (by kernel_rfl) (fun _ _ _ h => h) (Or.inl ⟨by rfl, ?_⟩) ⟨Hb4, fD4⟩ ?_
                rotate_left
                · intro w hSw
                  go_simp
                  try with_reducible rfl
                try simp only [List.getElem_toArray, List.getElem_cons_zero, List.getElem_cons_succ, Act.put, List.setIfInBounds_toArray, List.set_cons_zero, List.set_cons_succ]
                refine wpAnyH_ready (rs := [8]) (by kernel_rfl) (by simp) (AllReadyH.cons rfl (fun K hK => ?_) AllReadyH.nil)
                refine step_put_cell (by rfl) _ _ _ (by rfl) (X + 1) 2 ((.slice A4 (64 + 1) c4)) (by rfl) (by rfl) _ _ fS4 (by simp) (by kernel_rfl) (by rfl) ?_
                intro w5_ fS5 hg5 hz5
                have neD5 := fD4.lt
                have fD5 := fD4.grown hg5 (by first | (simp; done) | (simp; omega))
                have fo5 := fo4.off8 hg5 fS4 (by first | exact no8_sig | exact no8_key)
                have fc5 := fc4.off8 hg5 fS4 (by first | exact no8_sig | exact no8_key)
                have fp5 := fp4.off8 hg5 fS4 (by first | exact no8_sig | exact no8_key)
                have neb5 := fb4.lt
                have fb5 := fb4.grown hg5 (by first | (simp; done) | (simp; omega))
                have fr5 := fr4.kept hg5 (.inr (fun e => absurd (own_base fr4 _ e) (Nat.not_le.2 oX)))
                have Hb5 : Below w.heap.size w w5_ := below_grown Hb4 hg5 Hb4.size (by first | (simp; done) | (simp; omega))
                have Zb5 : w6.heap.size ≤ w5_.heap.size := Nat.le_trans Zb4 hg5.size
                refine hK.out _ _ ⟨Hb5, fD5⟩ fun _ => ?_
                clear hK K
                try simp only [List.getElem_toArray, List.getElem_cons_zero, List.getElem_cons_succ, Act.put, List.setIfInBounds_toArray, List.set_cons_zero, List.set_cons_succ]
                refine wpAnyH_done (by kernel_rfl) ?_ _
                go_upto_region 26 with (fail)
                obtain ⟨w9, hw9⟩ : ∃ w9, w9 = w5_ := ⟨_, rfl⟩
                subst hw9
                have HD9 := Lib.hid fD5
                have HB9 := Lib.hid Hb5
                have HS9 := fS5
                have s0 := HS9.cellv (i := 0) rfl
                have s1 := HS9.cellv (i := 1) rfl
                have s2 := HS9.cellv (i := 2) rfl
                have s3 := HS9.cellv (i := 3) rfl
                have HCo9 := fo5
                have HCc9 := fc5
                have Hr9 := Lib.hid fr5
                have Hr9l := Lib.hid le4
                have Hr9m := Lib.hid lm4
                go_wp2_with (
                  (refine wpList_load_blk rfl 37 (.tmp 9) rfl G rfl 37 (arrK .u8 D) (.array 32 5) HD9.out (by kernel_rfl) rfl (info32 Dt.out.1) ?_))
                refine (Verify_bad D _ _ B k d Ao A4 Ap _ co _ c4 q cp w9 (by omega)).mono ?_
                rintro e w10 ⟨rfl, hb10⟩
                have HB10 := Lib.hid (below_of HB9.out hb10 HB9.out.size)
                clear hb10
                go_wp2_with (fail)
                go_ret
                exact ⟨rfl, HB10.out⟩
            · refine step_oneD (by rfl) _ (by rfl) (D) Dt.out (by rfl) ?_
              generalize hge : World.alloc _ _ = w1_
              have fb1 : Blk w1_ wd.heap.size 37 (arrK .u8 (D)) := by subst hge; exact Blk.new _ _ _
              have hb1 : Below wd.heap.size wd w1_ := by subst hge; exact (Below.refl _ _).alloc (Nat.le_refl _) _
              clear hge
              have fD1 := fD.below hb1
              have fS1 := fS.below hb1
              have fo1 := fo.below hb1
              have fc1 := fc.below hb1
              have fp1 := fp.below hb1
              have lob1 : w6.heap.size ≤ wd.heap.size := Zd
              have Hb1 : Below w.heap.size w w1_ := below_of Hd hb1 Hd.size
              have Zb1 : w6.heap.size ≤ w1_.heap.size := Nat.le_trans Zd hb1.size
              refine hK.out _ _ ⟨Hb1, fD1⟩ fun _ => ?_
              clear hK K
              try simp only [List.getElem_toArray, List.getElem_cons_zero, List.getElem_cons_succ, Act.put, List.setIfInBounds_toArray, List.set_cons_zero, List.set_cons_succ]
              refine wpAnyH_ready (rs := [0]) (by kernel_rfl) (by simp) (AllReadyH.cons rfl (fun K hK => ?_) AllReadyH.nil)
              go_simp
              generalize hge : World.alloc _ _ = w2_
              have fr2 : w2_.ownsRow (w6.heap.size) 37 32 (.slice (some ⟨w1_.heap.size, 0, none⟩) 0 0) 0 (bytesV ([] : List (List Nat)).flatten) := by subst hge; exact ownD_empty w1_ _ Zb1
              have hb2 : Below w1_.heap.size w1_ w2_ := by subst hge; exact (Below.refl _ _).alloc (Nat.le_refl _) _
              clear hge
              have fD2 := fD1.below hb2
              have fS2 := fS1.below hb2
              have fo2 := fo1.below hb2
              have fc2 := fc1.below hb2
              have fp2 := fp1.below hb2
              have fb2 := fb1.below hb2
              have aprb2 : Apart (.slice (some ⟨w1_.heap.size, 0, none⟩) 0 0) (wd.heap.size) := apart_lit fb1.lt
              have Hb2 : Below w.heap.size w w2_ := below_of Hb1 hb2 Hb1.size
              have Zb2 : w6.heap.size ≤ w2_.heap.size := Nat.le_trans Zb1 hb2.size
              refine hK.out _ _ ⟨Hb2, fD2⟩ fun _ => ?_
              clear hK K
              try simp only [List.getElem_toArray, List.getElem_cons_zero, List.getElem_cons_succ, Act.put, List.setIfInBounds_toArray, List.set_cons_zero, List.set_cons_succ]
              refine wpAnyH_ready (rs := [3]) (by kernel_rfl) (by simp) (AllReadyH.cons rfl (fun K hK => ?_) AllReadyH.nil)
              refine step_addDs (by rfl) (.tmp 77) (.tmp 79) (by rfl) (w6.heap.size) (.slice (some ⟨w1_.heap.size, 0, none⟩) 0 0) (0) (([] : List (List Nat))) fr2 (by rfl) Ac 64 cc cl Hcl.out HcL.out (fc2) (by rfl) (by omega) Zb2 ?_
              intro v3 w3_ fr3 hg3 st3
              have aprb3 := apart_sits st3 aprb2 fb2.lt
              have fD3 := fD2.grown hg3 (fun e => absurd (own_base fr2 _ e.symm) (Nat.not_le.2 oG))
              have fS3 := fS2.grown hg3 (fun e => absurd (own_base fr2 _ e.symm) (Nat.not_le.2 oX))
              have fo3 := fo2.grownB hg3 apo0.out fr2
              have fc3 := fc2.grownB hg3 apc0.out fr2
              have fp3 := fp2.grownB hg3 app0.out fr2
              have fb3 := fb2.grown hg3 (fun e => aprb2 e.symm)
              have Hb3 : Below w.heap.size w w3_ := below_grown Hb2 hg3 Hb2.size (fun k hk => Nat.le_trans HB6.out.size (own_base fr2 k hk))
              have Zb3 : w6.heap.size ≤ w3_.heap.size := Nat.le_trans Zb2 hg3.size
              obtain ⟨A3, c3, rfl, le3, lm3, -⟩ := own_form fr3
              rw [Nat.zero_add] at fr3 le3 aprb3
              simp only [Nat.zero_add]
              refine hK.out _ _ ⟨Hb3, fD3⟩ fun _ => ?_
              clear hK K
              try simp only [List.getElem_toArray, List.getElem_cons_zero, List.getElem_cons_succ, Act.put, List.setIfInBounds_toArray, List.set_cons_zero, List.set_cons_succ]
              refine wpAnyH_ready (rs := [6]) (by kernel_rfl) (by simp) (AllReadyH.cons rfl (fun K hK => ?_) AllReadyH.nil)
              refine step_pushDs (by rfl) (.tmp 80) (.tmp 82) (by rfl) (w6.heap.size) (.slice A3 (64) c3) (64) ((([] : List (List Nat)) ++ cl)) (D) fr3 (by rfl) (wd.heap.size) fb3 Dt.out (by rfl) (by omega) Zb3 ?_
              intro v4 w4_ fr4 hg4 st4
              have aprb4 := apart_sits st4 aprb3 fb3.lt
              have fD4 := fD3.grown hg4 (fun e => absurd (own_base fr3 _ e.symm) (Nat.not_le.2 oG))
              have fS4 := fS3.grown hg4 (fun e => absurd (own_base fr3 _ e.symm) (Nat.not_le.2 oX))
              have fo4 := fo3.grownB hg4 apo0.out fr3
              have fc4 := fc3.grownB hg4 apc0.out fr3
              have fp4 := fp3.grownB hg4 app0.out fr3
              have fb4 := fb3.grown hg4 (fun e => aprb3 e.symm)
              have Hb4 : Below w.heap.size w w4_ := below_grown Hb3 hg4 Hb3.size (fun k hk => Nat.le_trans HB6.out.size (own_base fr3 k hk))
              have Zb4 : w6.heap.size ≤ w4_.heap.size := Nat.le_trans Zb3 hg4.size
              obtain ⟨A4, c4, rfl, le4, lm4, -⟩ := own_form fr4
              refine hK.out _ _ ⟨Hb4, fD4⟩ fun _ => ?_
              clear hK K
              try simp only [List.getElem_toArray, List.getElem_cons_zero, List.getElem_cons_succ, Act.put, List.setIfInBounds_toArray, List.set_cons_zero, List.set_cons_succ]
              refine wpAnyH_take (i := 7) (v := ?_) rfl (by kernel_rfl) (by kernel_rfl) (by kernel_rfl) (fun _ _ _ h => h) (Or.inl ⟨by rfl, ?_⟩) ⟨Hb4, fD4⟩ ?_
              rotate_left
              · intro w hSw
                go_simp
                try with_reducible rfl
              try simp only [List.getElem_toArray, List.getElem_cons_zero, List.getElem_cons_succ, Act.put, List.setIfInBounds_toArray, List.set_cons_zero, List.set_cons_succ]
              refine wpAnyH_ready (rs := [8]) (by kernel_rfl) (by simp) (AllReadyH.cons rfl (fun K hK => ?_) AllReadyH.nil)
              refine step_put_cell (by rfl) _ _ _ (by rfl) (X + 1) 2 ((.slice A4 (64 + 1) c4)) (by rfl) (by rfl) _ _ fS4 (by simp) (by kernel_rfl) (by rfl) ?_
              intro w5_ fS5 hg5 hz5
              have neD5 := fD4.lt
              have fD5 := fD4.grown hg5 (by first | (simp; done) | (simp; omega))
              have fo5 := fo4.off8 hg5 fS4 (by first | exact no8_sig | exact no8_key)
              have fc5 := fc4.off8 hg5 fS4 (by first | exact no8_sig | exact no8_key)
              have fp5 := fp4.off8 hg5 fS4 (by first | exact no8_sig | exact no8_key)
              have neb5 := fb4.lt
              have fb5 := fb4.grown hg5 (by first | (simp; done) | (simp; omega))
              have fr5 := fr4.kept hg5 (.inr (fun e => absurd (own_base fr4 _ e) (Nat.not_le.2 oX)))
              have Hb5 : Below w.heap.size w w5_ := below_grown Hb4 hg5 Hb4.size (by first | (simp; done) | (simp; omega))
              have Zb5 : w6.heap.size ≤ w5_.heap.size := Nat.le_trans Zb4 hg5.size
              refine hK.out _ _ ⟨Hb5, fD5⟩ fun _ => ?_
              clear hK K
              try simp only [List.getElem_toArray, List.getElem_cons_zero, List.getElem_cons_succ, Act.put, List.setIfInBounds_toArray, List.set_cons_zero, List.set_cons_succ]
              refine wpAnyH_done (by kernel_rfl) ?_ _
              go_upto_region 26 with (fail)
              obtain ⟨w9, hw9⟩ : ∃ w9, w9 = w5_ := ⟨_, rfl⟩
              subst hw9
              have HD9 := Lib.hid fD5
              have HB9 := Lib.hid Hb5
              have HS9 := fS5
              have s0 := HS9.cellv (i := 0) rfl
              have s1 := HS9.cellv (i := 1) rfl
              have s2 := HS9.cellv (i := 2) rfl
              have s3 := HS9.cellv (i := 3) rfl
              have HCo9 := fo5
              have HCc9 := fc5
              have Hr9 := Lib.hid fr5
              have Hr9l := Lib.hid le4
              have Hr9m := Lib.hid lm4
              go_wp2_with (
                (refine wpList_load_blk rfl 37 (.tmp 9) rfl G rfl 37 (arrK .u8 D) (.array 32 5) HD9.out (by kernel_rfl) rfl (info32 Dt.out.1) ?_))
              refine (Verify_bad D _ _ B k d Ao A4 Ap _ co _ c4 q cp w9 (by omega)).mono ?_
              rintro e w10 ⟨rfl, hb10⟩
              have HB10 := Lib.hid (below_of HB9.out hb10 HB9.out.size)
              clear hb10
              go_wp2_with (fail)
              go_ret
              exact ⟨rfl, HB10.out⟩
          · refine step_oneD (by rfl) _ (by rfl) (D) Dt.out (by rfl) ?_
            generalize hge : World.alloc _ _ = w1_
            have fb1 : Blk w1_ wd.heap.size 37 (arrK .u8 (D)) := by subst hge; exact Blk.new _ _ _
            have hb1 : Below wd.heap.size wd w1_ := by subst hge; exact (Below.refl _ _).alloc (Nat.le_refl _) _
            clear hge
            have fD1 := fD.below hb1
            have fS1 := fS.below hb1
            have fo1 := fo.below hb1
            have fc1 := fc.below hb1
            have fp1 := fp.below hb1
            have lob1 : w6.heap.size ≤ wd.heap.size := Zd
            have Hb1 : Below w.heap.size w w1_ := below_of Hd hb1 Hd.size
            have Zb1 : w6.heap.size ≤ w1_.heap.size := Nat.le_trans Zd hb1.size
            refine hK.out _ _ ⟨Hb1, fD1⟩ fun _ => ?_
            clear hK K
            try simp only [List.getElem_toArray, List.getElem_cons_zero, List.getElem_cons_succ, Act.put, List.setIfInBounds_toArray, List.set_cons_zero, List.set_cons_succ]
            refine wpAnyH_ready (rs := [0, 2]) (by kernel_rfl) (by simp) (AllReadyH.cons rfl (fun K hK => ?_) (AllReadyH.cons rfl (fun K hK => ?_) AllReadyH.nil))
            · go_simp
              generalize hge : World.alloc _ _ = w2_
              have fr2 : w2_.ownsRow (w6.heap.size) 37 32 (.slice (some ⟨w1_.heap.size, 0, none⟩) 0 0) 0 (bytesV ([] : List (List Nat)).flatten) := by subst hge; exact ownD_empty w1_ _ Zb1
              have hb2 : Below w1_.heap.size w1_ w2_ := by subst hge; exact (Below.refl _ _).alloc (Nat.le_refl _) _
              clear hge
              have fD2 := fD1.below hb2
              have fS2 := fS1.below hb2
              have fo2 := fo1.below hb2
              have fc2 := fc1.below hb2
              have fp2 := fp1.below hb2
              have fb2 := fb1.below hb2
              have aprb2 : Apart (.slice (some ⟨w1_.heap.size, 0, none⟩) 0 0) (wd.heap.size) := apart_lit fb1.lt
              have Hb2 : Below w.heap.size w w2_ := below_of Hb1 hb2 Hb1.size
              have Zb2 : w6.heap.size ≤ w2_.heap.size := Nat.le_trans Zb1 hb2.size
              refine hK.out _ _ ⟨Hb2, fD2⟩ fun _ => ?_
              clear hK K
              try simp only [List.getElem_toArray, List.getElem_cons_zero, List.getElem_cons_succ, Act.put, List.setIfInBounds_toArray, List.set_cons_zero, List.set_cons_succ]
              refine wpAnyH_ready (rs := [2]) (by kernel_rfl) (by simp) (AllReadyH.cons rfl (fun K hK => ?_) AllReadyH.nil)
              have ql := fS2.cellv (i := 2) rfl
              go_simp
              first | with_reducible rfl | skip
              refine hK.out _ _ ⟨Hb2, fD2⟩ fun _ => ?_
              clear hK K
              try simp only [List.getElem_toArray, List.getElem_cons_zero, List.getElem_cons_succ, Act.put, List.setIfInBounds_toArray, List.set_cons_zero, List.set_cons_succ]
              refine wpAnyH_ready (rs := [3]) (by kernel_rfl) (by simp) (AllReadyH.cons rfl (fun K hK => ?_) AllReadyH.nil)
              refine step_addDs (by rfl) (.tmp 77) (.tmp 79) (by rfl) (w6.heap.size) (.slice (some ⟨w1_.heap.size, 0, none⟩) 0 0) (0) (([] : List (List Nat))) fr2 (by rfl) Ac 64 cc cl Hcl.out HcL.out (fc2) (by rfl) (by omega) Zb2 ?_
              intro v3 w3_ fr3 hg3 st3
              have aprb3 := apart_sits st3 aprb2 fb2.lt
              have fD3 := fD2.grown hg3 (fun e => absurd (own_base fr2 _ e.symm) (Nat.not_le.2 oG))
              have fS3 := fS2.grown hg3 (fun e => absurd (own_base fr2 _ e.symm) (Nat.not_le.2 oX))
              have fo3 := fo2.grownB hg3 apo0.out fr2
              have fc3 := fc2.grownB hg3 apc0.out fr2
              have fp3 := fp2.grownB hg3 app0.out fr2
              have fb3 := fb2.grown hg3 (fun e => aprb2 e.symm)
              have Hb3 : Below w.heap.size w w3_ := below_grown Hb2 hg3 Hb2.size (fun k hk => Nat.le_trans HB6.out.size (own_base fr2 k hk))
              have Zb3 : w6.heap.size ≤ w3_.heap.size := Nat.le_trans Zb2 hg3.size
              obtain ⟨A3, c3, rfl, le3, lm3, -⟩ := own_form fr3
              rw [Nat.zero_add] at fr3 le3 aprb3
              simp only [Nat.zero_add]
              refine hK.out _ _ ⟨Hb3, fD3⟩ fun _ => ?_
              clear hK K
              try simp only [List.getElem_toArray, List.getElem_cons_zero, List.getElem_cons_succ, Act.put, List.setIfInBounds_toArray, List.set_cons_zero, List.set_cons_succ]
              refine wpAnyH_ready (rs := [6]) (by kernel_rfl) (by simp) (AllReadyH.cons rfl (fun K hK => ?_) AllReadyH.nil)
              refine step_pushDs (by rfl) (.tmp 80) (.tmp 82) (by rfl) (w6.heap.size) (.slice A3 (64) c3) (64) ((([] : List (List Nat)) ++ cl)) (D) fr3 (by rfl) (wd.heap.size) fb3 Dt.out (by rfl) (by omega) Zb3 ?_
              intro v4 w4_ fr4 hg4 st4
              have aprb4 := apart_sits st4 aprb3 fb3.lt
              have fD4 := fD3.grown hg4 (fun e => absurd (own_base fr3 _ e.symm) (Nat.not_le.2 oG))
              have fS4 := fS3.grown hg4 (fun e => absurd (own_base fr3 _ e.symm) (Nat.not_le.2 oX))
              have fo4 := fo3.grownB hg4 apo0.out fr3
              have fc4 := fc3.grownB hg4 apc0.out fr3
              have fp4 := fp3.grownB hg4 app0.out fr3
              have fb4 := fb3.grown hg4 (fun e => aprb3 e.symm)
              have Hb4 : Below w.heap.size w w4_ := below_grown Hb3 hg4 Hb3.size (fun k hk => Nat.le_trans HB6.out.size (own_base fr3 k hk))
              have Zb4 : w6.heap.size ≤ w4_.heap.size := Nat.le_trans Zb3 hg4.size
              obtain ⟨A4, c4, rfl, le4, lm4, -⟩ := own_form fr4
              refine hK.out _ _ ⟨Hb4, fD4⟩ fun _ => ?_
              clear hK K
              try simp only [List.getElem_toArray, List.getElem_cons_zero, List.getElem_cons_succ, Act.put, List.setIfInBounds_toArray, List.set_cons_zero, List.set_cons_succ]
              refine wpAnyH_take (i := 7) (v := ?_) rfl (by kernel_rfl) (by kernel_rfl) (by kernel_rfl) (fun _ _ _ h => h) (Or.inl ⟨by rfl, ?_⟩) ⟨Hb4, fD4⟩ ?_
              rotate_left
              · intro w hSw
                go_simp
                try with_reducible rfl
              try simp only [List.getElem_toArray, List.getElem_cons_zero, List.getElem_cons_succ, Act.put, List.setIfInBounds_toArray, List.set_cons_zero, List.set_cons_succ]
              refine wpAnyH_ready (rs := [8]) (by kernel_rfl) (by simp) (AllReadyH.cons rfl (fun K hK => ?_) AllReadyH.nil)
              refine step_put_cell (by rfl) _ _ _ (by rfl) (X + 1) 2 ((.slice A4 (64 + 1) c4)) (by rfl) (by rfl) _ _ fS4 (by simp) (by kernel_rfl) (by rfl) ?_
              intro w5_ fS5 hg5 hz5
              have neD5 := fD4.lt
              have fD5 := fD4.grown hg5 (by first | (simp; done) | (simp; omega))
              have fo5 := fo4.off8 hg5 fS4 (by first | exact no8_sig | exact no8_key)
              have fc5 := fc4.off8 hg5 fS4 (by first | exact no8_sig | exact no8_key)
              have fp5 := fp4.off8 hg5 fS4 (by first | exact no8_sig | exact no8_key)
              have neb5 := fb4.lt
              have fb5 := fb4.grown hg5 (by first | (simp; done) | (simp; omega))
              have fr5 := fr4.kept hg5 (.inr (fun e => absurd (own_base fr4 _ e) (Nat.not_le.2 oX)))
              have Hb5 : Below w.heap.size w w5_ := below_grown Hb4 hg5 Hb4.size (by first | (simp; done) | (simp; omega))
              have Zb5 : w6.heap.size ≤ w5_.heap.size := Nat.le_trans Zb4 hg5.size
              refine hK.out _ _ ⟨Hb5, fD5⟩ fun _ => ?_
              clear hK K
              try simp only [List.getElem_toArray, List.getElem_cons_zero, List.getElem_cons_succ, Act.put, List.setIfInBounds_toArray, List.set_cons_zero, List.set_cons_succ]
              refine wpAnyH_done (by kernel_rfl) ?_ _
              go_upto_region 26 with (fail)
              obtain ⟨w9, hw9⟩ : ∃ w9, w9 = w5_ := ⟨_, rfl⟩
              subst hw9
              have HD9 := Lib.hid fD5
              have HB9 := Lib.hid Hb5
              have HS9 := fS5
              have s0 := HS9.cellv (i := 0) rfl
              have s1 := HS9.cellv (i := 1) rfl
              have s2 := HS9.cellv (i := 2) rfl
              have s3 := HS9.cellv (i := 3) rfl
              have HCo9 := fo5
              have HCc9 := fc5
              have Hr9 := Lib.hid fr5
              have Hr9l := Lib.hid le4
              have Hr9m := Lib.hid lm4
              go_wp2_with (
                (refine wpList_load_blk rfl 37 (.tmp 9) rfl G rfl 37 (arrK .u8 D) (.array 32 5) HD9.out (by kernel_rfl) rfl (info32 Dt.out.1) ?_))
              refine (Verify_bad D _ _ B k d Ao A4 Ap _ co _ c4 q cp w9 (by omega)).mono ?_
              rintro e w10 ⟨rfl, hb10⟩
              have HB10 := Lib.hid (below_of HB9.out hb10 HB9.out.size)
              clear hb10
              go_wp2_with (fail)
              go_ret
              exact ⟨rfl, HB10.out⟩
            · have ql := fS1.cellv (i := 2) rfl
              go_simp
              first | with_reducible rfl | skip
              refine hK.out _ _ ⟨Hb1, fD1⟩ fun _ => ?_
              clear hK K
              try simp only [List.getElem_toArray, List.getElem_cons_zero, List.getElem_cons_succ, Act.put, List.setIfInBounds_toArray, List.set_cons_zero, List.set_cons_succ]
              refine wpAnyH_ready (rs := [0]) (by kernel_rfl) (by simp) (AllReadyH.cons rfl (fun K hK => ?_) AllReadyH.nil)
              go_simp
              generalize hge : World.alloc _ _ = w2_
              have fr2 : w2_.ownsRow (w6.heap.size) 37 32 (.slice (some ⟨w1_.heap.size, 0, none⟩) 0 0) 0 (bytesV ([] : List (List Nat)).flatten) := by subst hge; exact ownD_empty w1_ _ Zb1
              have hb2 : Below w1_.heap.size w1_ w2_ := by subst hge; exact (Below.refl _ _).alloc (Nat.le_refl _) _
              clear hge
              have fD2 := fD1.below hb2
              have fS2 := fS1.below hb2
              have fo2 := fo1.below hb2
              have fc2 := fc1.below hb2
              have fp2 := fp1.below hb2
              have fb2 := fb1.below hb2
              have aprb2 : Apart (.slice (some ⟨w1_.heap.size, 0, none⟩) 0 0) (wd.heap.size) := apart_lit fb1.lt
              have Hb2 : Below w.heap.size w w2_ := below_of Hb1 hb2 Hb1.size
              have Zb2 : w6.heap.size ≤ w2_.heap.size := Nat.le_trans Zb1 hb2.size
              refine hK.out _ _ ⟨Hb2, fD2⟩ fun _ => ?_
              clear hK K
              try simp only [List.getElem_toArray, List.getElem_cons_zero, List.getElem_cons_succ, Act.put, List.setIfInBounds_toArray, List.set_cons_zero, List.set_cons_succ]
              refine wpAnyH_ready (rs := [3]) (by kernel_rfl) (by simp) (AllReadyH.cons rfl (fun K hK => ?_) AllReadyH.nil)
              refine step_addDs (by rfl) (.tmp 77) (.tmp 79) (by rfl) (w6.heap.size) (.slice (some ⟨w1_.heap.size, 0, none⟩) 0 0) (0) (([] : List (List Nat))) fr2 (by rfl) Ac 64 cc cl Hcl.out HcL.out (fc2) (by rfl) (by omega) Zb2 ?_
              intro v3 w3_ fr3 hg3 st3
              have aprb3 := apart_sits st3 aprb2 fb2.lt
              have fD3 := fD2.grown hg3 (fun e => absurd (own_base fr2 _ e.symm) (Nat.not_le.2 oG))
              have fS3 := fS2.grown hg3 (fun e => absurd (own_base fr2 _ e.symm) (Nat.not_le.2 oX))
              have fo3 := fo2.grownB hg3 apo0.out fr2
              have fc3 := fc2.grownB hg3 apc0.out fr2
              have fp3 := fp2.grownB hg3 app0.out fr2
              have fb3 := fb2.grown hg3 (fun e => aprb2 e.symm)
              have Hb3 : Below w.heap.size w w3_ := below_grown Hb2 hg3 Hb2.size (fun k hk => Nat.le_trans HB6.out.size (own_base fr2 k hk))
              have Zb3 : w6.heap.size ≤ w3_.heap.size := Nat.le_trans Zb2 hg3.size
              obtain ⟨A3, c3, rfl, le3, lm3, -⟩ := own_form fr3
              rw [Nat.zero_add] at fr3 le3 aprb3
              simp only [Nat.zero_add]
              refine hK.out _ _ ⟨Hb3, fD3⟩ fun _ => ?_
              clear hK K
              try simp only [List.getElem_toArray, List.getElem_cons_zero, List.getElem_cons_succ, Act.put, List.setIfInBounds_toArray, List.set_cons_zero, List.set_cons_succ]
              refine wpAnyH_ready (rs := [6]) (by kernel_rfl) (by simp) (AllReadyH.cons rfl (fun K hK => ?_) AllReadyH.nil)
              refine step_pushDs (by rfl) (.tmp 80) (.tmp 82) (by rfl) (w6.heap.size) (.slice A3 (64) c3) (64) ((([] : List (List Nat)) ++ cl)) (D) fr3 (by rfl) (wd.heap.size) fb3 Dt.out (by rfl) (by omega) Zb3 ?_
              intro v4 w4_ fr4 hg4 st4
              have aprb4 := apart_sits st4 aprb3 fb3.lt
              have fD4 := fD3.grown hg4 (fun e => absurd (own_base fr3 _ e.symm) (Nat.not_le.2 oG))
              have fS4 := fS3.grown hg4 (fun e => absurd (own_base fr3 _ e.symm) (Nat.not_le.2 oX))
              have fo4 := fo3.grownB hg4 apo0.out fr3
              have fc4 := fc3.grownB hg4 apc0.out fr3
              have fp4 := fp3.grownB hg4 app0.out fr3
              have fb4 := fb3.grown hg4 (fun e => aprb3 e.symm)
              have Hb4 : Below w.heap.size w w4_ := below_grown Hb3 hg4 Hb3.size (fun k hk => Nat.le_trans HB6.out.size (own_base fr3 k hk))
              have Zb4 : w6.heap.size ≤ w4_.heap.size := Nat.le_trans Zb3 hg4.size
              obtain ⟨A4, c4, rfl, le4, lm4, -⟩ := own_form fr4
              refine hK.out _ _ ⟨Hb4, fD4⟩ fun _ => ?_
              clear hK K
              try simp only [List.getElem_toArray, List.getElem_cons_zero, List.getElem_cons_succ, Act.put, List.setIfInBounds_toArray, List.set_cons_zero, List.set_cons_succ]
              refine wpAnyH_take (i := 7) (v := ?_) rfl (by kernel_rfl) (by kernel_rfl) (by kernel_rfl) (fun _ _ _ h => h) (Or.inl ⟨by rfl, ?_⟩) ⟨Hb4, fD4⟩ ?_
              rotate_left
              · intro w hSw
                go_simp
                try with_reducible rfl
              try simp only [List.getElem_toArray, List.getElem_cons_zero, List.getElem_cons_succ, Act.put, List.setIfInBounds_toArray, List.set_cons_zero, List.set_cons_succ]
              refine wpAnyH_ready (rs := [8]) (by kernel_rfl) (by simp) (AllReadyH.cons rfl (fun K hK => ?_) AllReadyH.nil)
              refine step_put_cell (by rfl) _ _ _ (by rfl) (X + 1) 2 ((.slice A4 (64 + 1) c4)) (by rfl) (by rfl) _ _ fS4 (by simp) (by kernel_rfl) (by rfl) ?_
              intro w5_ fS5 hg5 hz5
              have neD5 := fD4.lt
              have fD5 := fD4.grown hg5 (by first | (simp; done) | (simp; omega))
              have fo5 := fo4.off8 hg5 fS4 (by first | exact no8_sig | exact no8_key)
              have fc5 := fc4.off8 hg5 fS4 (by first | exact no8_sig | exact no8_key)
              have fp5 := fp4.off8 hg5 fS4 (by first | exact no8_sig | exact no8_key)
              have neb5 := fb4.lt
              have fb5 := fb4.grown hg5 (by first | (simp; done) | (simp; omega))
              have fr5 := fr4.kept hg5 (.inr (fun e => absurd (own_base fr4 _ e) (Nat.not_le.2 oX)))
              have Hb5 : Below w.heap.size w w5_ := below_grown Hb4 hg5 Hb4.size (by first | (simp; done) | (simp; omega))
              have Zb5 : w6.heap.size ≤ w5_.heap.size := Nat.le_trans Zb4 hg5.size
              refine hK.out _ _ ⟨Hb5, fD5⟩ fun _ => ?_
              clear hK K
              try simp only [List.getElem_toArray, List.getElem_cons_zero, List.getElem_cons_succ, Act.put, List.setIfInBounds_toArray, List.set_cons_zero, List.set_cons_succ]
              refine wpAnyH_done (by kernel_rfl) ?_ _
              go_upto_region 26 with (fail)
              obtain ⟨w9, hw9⟩ : ∃ w9, w9 = w5_ := ⟨_, rfl⟩
              subst hw9
              have HD9 := Lib.hid fD5
              have HB9 := Lib.hid Hb5
              have HS9 := fS5
              have s0 := HS9.cellv (i := 0) rfl
              have s1 := HS9.cellv (i := 1) rfl
              have s2 := HS9.cellv (i := 2) rfl
              have s3 := HS9.cellv (i := 3) rfl
              have HCo9 := fo5
              have HCc9 := fc5
              have Hr9 := Lib.hid fr5
              have Hr9l := Lib.hid le4
              have Hr9m := Lib.hid lm4
              go_wp2_with (
                (refine wpList_load_blk rfl 37 (.tmp 9) rfl G rfl 37 (arrK .u8 D) (.array 32 5) HD9.out (by kernel_rfl) rfl (info32 Dt.out.1) ?_))
              refine (Verify_bad D _ _ B k d Ao A4 Ap _ co _ c4 q cp w9 (by omega)).mono ?_
              rintro e w10 ⟨rfl, hb10⟩
              have HB10 := Lib.hid (below_of HB9.out hb10 HB9.out.size)
              clear hb10
              go_wp2_with (fail)
              go_ret
              exact ⟨rfl, HB10.out⟩
        · have oG : G < w6.heap.size := HD6.out.lt
          have oX : X + 1 < w6.heap.size := HS6.out.lt
          have apo0 := Lib.hid (cells_lt HCo6.out (Nat.le_refl _))
          have apc0 := Lib.hid (cells_lt HCc6.out (Nat.le_refl _))
          have app0 := Lib.hid (cells_lt HCp6.out (Nat.le_refl _))
          clear s0 s1 s2 s3 g0 g1 q1
          go_upto_region 17 with (fail)
          refine wp_region_held_drew (S := fun W => Below w.heap.size w W ∧ Blk W G 37 (arrK .u8 D)) (by kernel_rfl) (⟨below_drewN HB6.out 1, HD6.out⟩) (fun Hd => ?_)
          have Hd : Below w.heap.size w w6.drew := below_drewN HB6.out 1
          have Zd : w6.heap.size ≤ w6.drew.heap.size := Nat.le_refl _
          have fD : Blk w6.drew G 37 (arrK .u8 D) := HD6.out
          have fS : Blk w6.drew (X + 1) 30 #[.int .i64 u, .slice Ao 64 co, .slice Ac 64 cc, .slice Ap q cp] := HS6.out
          have fo : Cells w6.drew Ao (bytesV ol.flatten) := HCo6.out
          have fc : Cells w6.drew Ac (bytesV cl.flatten) := HCc6.out
          have fp : Cells w6.drew Ap (bytesV pl.flatten) := HCp6.out
          generalize World.drew w6 = wd at *
          refine wpAnyH_take (i := 1) (v := ?_) rfl (by kernel_rfl) (by kernel_rfl) (by kernel_rfl) (fun _ _ _ h => h) (Or.inl ⟨by rfl, ?_⟩) ⟨Hd, fD⟩ ?_
          rotate_left
          · intro w hSw
            go_simp
            try with_reducible rfl
          try simp only [List.getElem_toArray, List.getElem_cons_zero, List.getElem_cons_succ, Act.put, List.setIfInBounds_toArray, List.set_cons_zero, List.set_cons_succ]
          refine wpAnyH_take (i := 4) (v := .agg (arrK .u8 D)) rfl (by kernel_rfl) (by kernel_rfl) (by kernel_rfl) (fun _ _ _ h => h) (yields_load_blk (by rfl) _ _ rfl (G) rfl 37 (arrK .u8 D) (.array 32 5) (fun W hW => hW.2) (by kernel_rfl) rfl (info32 Dt.out.1)) ⟨Hd, fD⟩ ?_
          try simp only [List.getElem_toArray, List.getElem_cons_zero, List.getElem_cons_succ, Act.put, List.setIfInBounds_toArray, List.set_cons_zero, List.set_cons_succ]
          refine wpAnyH_ready (rs := [0, 2, 5]) (by kernel_rfl) (by simp) (AllReadyH.cons rfl (fun K hK => ?_) (AllReadyH.cons rfl (fun K hK => ?_) (AllReadyH.cons rfl (fun K hK => ?_) AllReadyH.nil)))
          · go_simp
            generalize hge : World.alloc _ _ = w1_
            have fr1 : w1_.ownsRow (w6.heap.size) 37 32 (.slice (some ⟨wd.heap.size, 0, none⟩) 0 0) 0 (bytesV ([] : List (List Nat)).flatten) := by subst hge; exact ownD_empty wd _ Zd
            have hb1 : Below wd.heap.size wd w1_ := by subst hge; exact (Below.refl _ _).alloc (Nat.le_refl _) _
            clear hge
            have fD1 := fD.below hb1
            have fS1 := fS.below hb1
            have fo1 := fo.below hb1
            have fc1 := fc.below hb1
            have fp1 := fp.below hb1
            have Hb1 : Below w.heap.size w w1_ := below_of Hd hb1 Hd.size
            have Zb1 : w6.heap.size ≤ w1_.heap.size := Nat.le_trans Zd hb1.size
            refine hK.out _ _ ⟨Hb1, fD1⟩ fun _ => ?_
            clear hK K
            try simp only [List.getElem_toArray, List.getElem_cons_zero, List.getElem_cons_succ, Act.put, List.setIfInBounds_toArray, List.set_cons_zero, List.set_cons_succ]
            refine wpAnyH_ready (rs := [2, 5]) (by kernel_rfl) (by simp) (AllReadyH.cons rfl (fun K hK => ?_) (AllReadyH.cons rfl (fun K hK => ?_) AllReadyH.nil))
            · have ql := fS1.cellv (i := 3) rfl
              go_simp
              first | with_reducible rfl | skip
              refine hK.out _ _ ⟨Hb1, fD1⟩ fun _ => ?_
              clear hK K
              try simp only [List.getElem_toArray, List.getElem_cons_zero, List.getElem_cons_succ, Act.put, List.setIfInBounds_toArray, List.set_cons_zero, List.set_cons_succ]
              refine wpAnyH_ready (rs := [3, 5]) (by kernel_rfl) (by simp) (AllReadyH.cons rfl (fun K hK => ?_) (AllReadyH.cons rfl (fun K hK => ?_) AllReadyH.nil))
              · refine step_addDs (by rfl) (.tmp 87) (.tmp 89) (by rfl) (w6.heap.size) (.slice (some ⟨wd.heap.size, 0, none⟩) 0 0) (0) (([] : List (List Nat))) fr1 (by rfl) Ap q cp pl Hpq.out HpL.out (fp1) (by rfl) (by omega) Zb1 ?_
                intro v2 w2_ fr2 hg2 st2
                have fD2 := fD1.grown hg2 (fun e => absurd (own_base fr1 _ e.symm) (Nat.not_le.2 oG))
                have fS2 := fS1.grown hg2 (fun e => absurd (own_base fr1 _ e.symm) (Nat.not_le.2 oX))
                have fo2 := fo1.grownB hg2 apo0.out fr1
                have fc2 := fc1.grownB hg2 apc0.out fr1
                have fp2 := fp1.grownB hg2 app0.out fr1
                have Hb2 : Below w.heap.size w w2_ := below_grown Hb1 hg2 Hb1.size (fun k hk => Nat.le_trans HB6.out.size (own_base fr1 k hk))
                have Zb2 : w6.heap.size ≤ w2_.heap.size := Nat.le_trans Zb1 hg2.size
                obtain ⟨A2, c2, rfl, le2, lm2, -⟩ := own_form fr2
                rw [Nat.zero_add] at fr2 le2 
                simp only [Nat.zero_add]
                refine hK.out _ _ ⟨Hb2, fD2⟩ fun _ => ?_
                clear hK K
                try simp only [List.getElem_toArray, List.getElem_cons_zero, List.getElem_cons_succ, Act.put, List.setIfInBounds_toArray, List.set_cons_zero, List.set_cons_succ]
                refine wpAnyH_ready (rs := [5]) (by kernel_rfl) (by simp) (AllReadyH.cons rfl (fun K hK => ?_) AllReadyH.nil)
                refine step_oneD (by rfl) _ (by rfl) (D) Dt.out (by rfl) ?_
                generalize hge : World.alloc _ _ = w3_
                have fb3 : Blk w3_ w2_.heap.size 37 (arrK .u8 (D)) := by subst hge; exact Blk.new _ _ _
                have hb3 : Below w2_.heap.size w2_ w3_ := by subst hge; exact (Below.refl _ _).alloc (Nat.le_refl _) _
                clear hge
                have fD3 := fD2.below hb3
                have fS3 := fS2.below hb3
                have fo3 := fo2.below hb3
                have fc3 := fc2.below hb3
                have fp3 := fp2.below hb3
                have fr3 := own_below fr2 hb3
                have aprb3 := apart_new fr2
                have lob3 : w6.heap.size ≤ w2_.heap.size := Zb2
                have Hb3 : Below w.heap.size w w3_ := below_of Hb2 hb3 Hb2.size
                have Zb3 : w6.heap.size ≤ w3_.heap.size := Nat.le_trans Zb2 hb3.size
                refine hK.out _ _ ⟨Hb3, fD3⟩ fun _ => ?_
                clear hK K
                try simp only [List.getElem_toArray, List.getElem_cons_zero, List.getElem_cons_succ, Act.put, List.setIfInBounds_toArray, List.set_cons_zero, List.set_cons_succ]
                refine wpAnyH_ready (rs := [6]) (by kernel_rfl) (by simp) (AllReadyH.cons rfl (fun K hK => ?_) AllReadyH.nil)
                refine step_pushDs (by rfl) (.tmp 90) (.tmp 92) (by rfl) (w6.heap.size) (.slice A2 (q) c2) (q) ((([] : List (List Nat)) ++ pl)) (D) fr3 (by rfl) (w2_.heap.size) fb3 Dt.out (by rfl) (by omega) Zb3 ?_
                intro v4 w4_ fr4 hg4 st4
                have aprb4 := apart_sits st4 aprb3 fb3.lt
                have fD4 := fD3.grown hg4 (fun e => absurd (own_base fr3 _ e.symm) (Nat.not_le.2 oG))
                have fS4 := fS3.grown hg4 (fun e => absurd (own_base fr3 _ e.symm) (Nat.not_le.2 oX))
                have fo4 := fo3.grownB hg4 apo0.out fr3
                have fc4 := fc3.grownB hg4 apc0.out fr3
                have fp4 := fp3.grownB hg4 app0.out fr3
                have fb4 := fb3.grown hg4 (fun e => aprb3 e.symm)
                have Hb4 : Below w.heap.size w w4_ := below_grown Hb3 hg4 Hb3.size (fun k hk => Nat.le_trans HB6.out.size (own_base fr3 k hk))
                have Zb4 : w6.heap.size ≤ w4_.heap.size := Nat.le_trans Zb3 hg4.size
                obtain ⟨A4, c4, rfl, le4, lm4, -⟩ := own_form fr4
                refine hK.out _ _ ⟨Hb4, fD4⟩ fun _ => ?_
                clear hK K
                try simp only [List.getElem_toArray, List.getElem_cons_zero, List.getElem_cons_succ, Act.put, List.setIfInBounds_toArray, List.set_cons_zero, List.set_cons_succ]
                refine wpAnyH_take (i := 7) (v := ?_) rfl (by kernel_rfl) (by kernel_rfl) (by kernel_rfl) (fun _ _ _ h => h) (Or.inl ⟨by rfl, ?_⟩) ⟨Hb4, fD4⟩ ?_
                rotate_left
                · intro w hSw
                  go_simp
                  try with_reducible rfl
                try simp only [List.getElem_toArray, List.getElem_cons_zero, List.getElem_cons_succ, Act.put, List.setIfInBounds_toArray, List.set_cons_zero, List.set_cons_succ]
                refine wpAnyH_ready (rs := [8]) (by kernel_rfl) (by simp) (AllReadyH.cons rfl (fun K hK => ?_) AllReadyH.nil)
                refine step_put_cell (by rfl) _ _ _ (by rfl) (X + 1) 3 ((.slice A4 (q + 1) c4)) (by rfl) (by rfl) _ _ fS4 (by simp) (by kernel_rfl) (by rfl) ?_
                intro w5_ fS5 hg5 hz5
                have neD5 := fD4.lt
                have fD5 := fD4.grown hg5 (by first | (simp; done) | (simp; omega))
                have fo5 := fo4.off8 hg5 fS4 (by first | exact no8_sig | exact no8_key)
                have fc5 := fc4.off8 hg5 fS4 (by first | exact no8_sig | exact no8_key)
                have fp5 := fp4.off8 hg5 fS4 (by first | exact no8_sig | exact no8_key)
                have neb5 := fb4.lt
                have fb5 := fb4.grown hg5 (by first | (simp; done) | (simp; omega))
                have fr5 := fr4.kept hg5 (.inr (fun e => absurd (own_base fr4 _ e) (Nat.not_le.2 oX)))
                have Hb5 : Below w.heap.size w w5_ := below_grown Hb4 hg5 Hb4.size (by first | (simp; done) | (simp; omega))
                have Zb5 : w6.heap.size ≤ w5_.heap.size := Nat.le_trans Zb4 hg5.size
                refine hK.out _ _ ⟨Hb5, fD5⟩ fun _ => ?_
                clear hK K
                try simp only [List.getElem_toArray, List.getElem_cons_zero, List.getElem_cons_succ, Act.put, List.setIfInBounds_toArray, List.set_cons_zero, List.set_cons_succ]
                refine wpAnyH_done (by kernel_rfl) ?_ _
                go_upto_region 26 with (fail)
                obtain ⟨w9, hw9⟩ : ∃ w9, w9 = w5_ := ⟨_, rfl⟩
                subst hw9
                have HD9 := Lib.hid fD5
                have HB9 := Lib.hid Hb5
                have HS9 := fS5
                have s0 := HS9.cellv (i := 0) rfl
                have s1 := HS9.cellv (i := 1) rfl
                have s2 := HS9.cellv (i := 2) rfl
                have s3 := HS9.cellv (i := 3) rfl
                have HCo9 := fo5
                have HCc9 := fc5
                have Hr9 := Lib.hid fr5
                have Hr9l := Lib.hid le4
                have Hr9m := Lib.hid lm4
                go_wp2_with (
                  (refine wpList_load_blk rfl 37 (.tmp 9) rfl G rfl 37 (arrK .u8 D) (.array 32 5) HD9.out (by kernel_rfl) rfl (info32 Dt.out.1) ?_))
                refine (HVg.out D ol cl (pl ++ [D]) Ao Ac A4 co cc _ c4 w9 Dt.out (HM.out.below HB9.out) Hml.out (by omega) Hm8.out Hol.out Hcl.out (by rw [List.length_append, Hpq.out]; rfl) HoL.out HcL.out (HpL.out.snoc Dt.out) HCo9 HCc9 (by have := Cells.own Hr9.out; simpa using this) Hr9l.out Hr9m.out).mono ?_
                rintro e w10 ⟨he, hb10⟩
                rw [verS_long D Hver.out] at he
                subst he
                have HB10 := Lib.hid (below_of HB9.out hb10 HB9.out.size)
                clear hb10
                go_wp2_with (fail)
                go_ret
                exact ⟨rfl, HB10.out⟩
              · refine step_oneD (by rfl) _ (by rfl) (D) Dt.out (by rfl) ?_
                generalize hge : World.alloc _ _ = w2_
                have fb2 : Blk w2_ w1_.heap.size 37 (arrK .u8 (D)) := by subst hge; exact Blk.new _ _ _
                have hb2 : Below w1_.heap.size w1_ w2_ := by subst hge; exact (Below.refl _ _).alloc (Nat.le_refl _) _
                clear hge
                have fD2 := fD1.below hb2
                have fS2 := fS1.below hb2
                have fo2 := fo1.below hb2
                have fc2 := fc1.below hb2
                have fp2 := fp1.below hb2
                have fr2 := own_below fr1 hb2
                have aprb2 := apart_new fr1
                have lob2 : w6.heap.size ≤ w1_.heap.size := Zb1
                have Hb2 : Below w.heap.size w w2_ := below_of Hb1 hb2 Hb1.size
                have Zb2 : w6.heap.size ≤ w2_.heap.size := Nat.le_trans Zb1 hb2.size
                refine hK.out _ _ ⟨Hb2, fD2⟩ fun _ => ?_
                clear hK K
                try simp only [List.getElem_toArray, List.getElem_cons_zero, List.getElem_cons_succ, Act.put, List.setIfInBounds_toArray, List.set_cons_zero, List.set_cons_succ]
                refine wpAnyH_ready (rs := [3]) (by kernel_rfl) (by simp) (AllReadyH.cons rfl (fun K hK => ?_) AllReadyH.nil)
                refine step_addDs (by rfl) (.tmp 87) (.tmp 89) (by rfl) (w6.heap.size) (.slice (some ⟨wd.heap.size, 0, none⟩) 0 0) (0) (([] : List (List Nat))) fr2 (by rfl) Ap q cp pl Hpq.out HpL.out (fp2) (by rfl) (by omega) Zb2 ?_
                intro v3 w3_ fr3 hg3 st3
                have aprb3 := apart_sits st3 aprb2 fb2.lt
                have fD3 := fD2.grown hg3 (fun e => absurd (own_base fr2 _ e.symm) (Nat.not_le.2 oG))
                have fS3 := fS2.grown hg3 (fun e => absurd (own_base fr2 _ e.symm) (Nat.not_le.2 oX))
                have fo3 := fo2.grownB hg3 apo0.out fr2
                have fc3 := fc2.grownB hg3 apc0.out fr2
                have fp3 := fp2.grownB hg3 app0.out fr2
                have fb3 := fb2.grown hg3 (fun e => aprb2 e.symm)
                have Hb3 : Below w.heap.size w w3_ := below_grown Hb2 hg3 Hb2.size (fun k hk => Nat.le_trans HB6.out.size (own_base fr2 k hk))
                have Zb3 : w6.heap.size ≤ w3_.heap.size := Nat.le_trans Zb2 hg3.size
                obtain ⟨A3, c3, rfl, le3, lm3, -⟩ := own_form fr3
                rw [Nat.zero_add] at fr3 le3 aprb3
                simp only [Nat.zero_add]
                refine hK.out _ _ ⟨Hb3, fD3⟩ fun _ => ?_
                clear hK K
                try simp only [List.getElem_toArray, List.getElem_cons_zero, List.getElem_cons_succ, Act.put, List.setIfInBounds_toArray, List.set_cons_zero, List.set_cons_succ]
                refine wpAnyH_ready (rs := [6]) (by kernel_rfl) (by simp) (AllReadyH.cons rfl (fun K hK => ?_) AllReadyH.nil)
                refine step_pushDs (by rfl) (.tmp 90) (.tmp 92) (by rfl) (w6.heap.size) (.slice A3 (q) c3) (q) ((([] : List (List Nat)) ++ pl)) (D) fr3 (by rfl) (w1_.heap.size) fb3 Dt.out (by rfl) (by omega) Zb3 ?_
                intro v4 w4_ fr4 hg4 st4
                have aprb4 := apart_sits st4 aprb3 fb3.lt
                have fD4 := fD3.grown hg4 (fun e => absurd (own_base fr3 _ e.symm) (Nat.not_le.2 oG))
                have fS4 := fS3.grown hg4 (fun e => absurd (own_base fr3 _ e.symm) (Nat.not_le.2 oX))
                have fo4 := fo3.grownB hg4 apo0.out fr3
                have fc4 := fc3.grownB hg4 apc0.out fr3
                have fp4 := fp3.grownB hg4 app0.out fr3
                have fb4 := fb3.grown hg4 (fun e => aprb3 e.symm)
                have Hb4 : Below w.heap.size w w4_ := below_grown Hb3 hg4 Hb3.size (fun k hk => Nat.le_trans HB6.out.size (own_base fr3 k hk))
                have Zb4 : w6.heap.size ≤ w4_.heap.size := Nat.le_trans Zb3 hg4.size
                obtain ⟨A4, c4, rfl, le4, lm4, -⟩ := own_form fr4
                refine hK.out _ _ ⟨Hb4, fD4⟩ fun _ => ?_
                clear hK K
                try simp only [List.getElem_toArray, List.getElem_cons_zero, List.getElem_cons_succ, Act.put, List.setIfInBounds_toArray, List.set_cons_zero, List.set_cons_succ]
                refine wpAnyH_take (i := 7) (v := ?_) rfl (by kernel_rfl) (by kernel_rfl) (by kernel_rfl) (fun _ _ _ h => h) (Or.inl ⟨by rfl, ?_⟩) ⟨Hb4, fD4⟩ ?_
                rotate_left
                · intro w hSw
                  go_simp
                  try with_reducible rfl
                try simp only [List.getElem_toArray, List.getElem_cons_zero, List.getElem_cons_succ, Act.put, List.setIfInBounds_toArray, List.set_cons_zero, List.set_cons_succ]
                refine wpAnyH_ready (rs := [8]) (by kernel_rfl) (by simp) (AllReadyH.cons rfl (fun K hK => ?_) AllReadyH.nil)
                refine step_put_cell (by rfl) _ _ _ (by rfl) (X + 1) 3 ((.slice A4 (q + 1) c4)) (by rfl) (by rfl) _ _ fS4 (by simp) (by kernel_rfl) (by rfl) ?_
                intro w5_ fS5 hg5 hz5
                have neD5 := fD4.lt
                have fD5 := fD4.grown hg5 (by first | (simp; done) | (simp; omega))
                have fo5 := fo4.off8 hg5 fS4 (by first | exact no8_sig | exact no8_key)
                have fc5 := fc4.off8 hg5 fS4 (by first | exact no8_sig | exact no8_key)
                have fp5 := fp4.off8 hg5 fS4 (by first | exact no8_sig | exact no8_key)
                have neb5 := fb4.lt
                have fb5 := fb4.grown hg5 (by first | (simp; done) | (simp; omega))
                have fr5 := fr4.kept hg5 (.inr (fun e => absurd (own_base fr4 _ e) (Nat.not_le.2 oX)))
                have Hb5 : Below w.heap.size w w5_ := below_grown Hb4 hg5 Hb4.size (by first | (simp; done) | (simp; omega))
                have Zb5 : w6.heap.size ≤ w5_.heap.size := Nat.le_trans Zb4 hg5.size
                refine hK.out _ _ ⟨Hb5, fD5⟩ fun _ => ?_
                clear hK K
                try simp only [List.getElem_toArray, List.getElem_cons_zero, List.getElem_cons_succ, Act.put, List.setIfInBounds_toArray, List.set_cons_zero, List.set_cons_succ]
                refine wpAnyH_done (by kernel_rfl) ?_ _
                go_upto_region 26 with (fail)
                obtain ⟨w9, hw9⟩ : ∃ w9, w9 = w5_ := ⟨_, rfl⟩
                subst hw9
                have HD9 := Lib.hid fD5
                have HB9 := Lib.hid Hb5
                have HS9 := fS5
                have s0 := HS9.cellv (i := 0) rfl
                have s1 := HS9.cellv (i := 1) rfl
                have s2 := HS9.cellv (i := 2) rfl
                have s3 := HS9.cellv (i := 3) rfl
                have HCo9 := fo5
                have HCc9 := fc5
                have Hr9 := Lib.hid fr5
                have Hr9l := Lib.hid le4
                have Hr9m := Lib.hid lm4
                go_wp2_with (
                  (refine wpList_load_blk rfl 37 (.tmp 9) rfl G rfl 37 (arrK .u8 D) (.array 32 5) HD9.out (by kernel_rfl) rfl (info32 Dt.out.1) ?_))
                refine (HVg.out D ol cl (pl ++ [D]) Ao Ac A4 co cc _ c4 w9 Dt.out (HM.out.below HB9.out) Hml.out (by omega) Hm8.out Hol.out Hcl.out (by rw [List.length_append, Hpq.out]; rfl) HoL.out HcL.out (HpL.out.snoc Dt.out) HCo9 HCc9 (by have := Cells.own Hr9.out; simpa using this) Hr9l.out Hr9m.out).mono ?_
                rintro e w10 ⟨he, hb10⟩
                rw [verS_long D Hver.out] at he
                subst he
                have HB10 := Lib.hid (below_of HB9.out hb10 HB9.out.size)
                clear hb10
                go_wp2_with (fail)
                go_ret
                exact ⟨rfl, HB10.out⟩
            · refine step_oneD (by rfl) _ (by rfl) (D) Dt.out (by rfl) ?_
              generalize hge : World.alloc _ _ = w2_
              have fb2 : Blk w2_ w1_.heap.size 37 (arrK .u8 (D)) := by subst hge; exact Blk.new _ _ _
              have hb2 : Below w1_.heap.size w1_ w2_ := by subst hge; exact (Below.refl _ _).alloc (Nat.le_refl _) _
              clear hge
              have fD2 := fD1.below hb2
              have fS2 := fS1.below hb2
              have fo2 := fo1.below hb2
              have fc2 := fc1.below hb2
              have fp2 := fp1.below hb2
              have fr2 := own_below fr1 hb2
              have aprb2 := apart_new fr1
              have lob2 : w6.heap.size ≤ w1_.heap.size := Zb1
              have Hb2 : Below w.heap.size w w2_ := below_of Hb1 hb2 Hb1.size
              have Zb2 : w6.heap.size ≤ w2_.heap.size := Nat.le_trans Zb1 hb2.size
              refine hK.out _ _ ⟨Hb2, fD2⟩ fun _ => ?_
              clear hK K
              try simp only [List.getElem_toArray, List.getElem_cons_zero, List.getElem_cons_succ, Act.put, List.setIfInBounds_toArray, List.set_cons_zero, List.set_cons_succ]
              refine wpAnyH_ready (rs := [2]) (by kernel_rfl) (by simp) (AllReadyH.cons rfl (fun K hK => ?_) AllReadyH.nil)
              have ql := fS2.cellv (i := 3) rfl
              go_simp
              first | with_reducible rfl | skip
              refine hK.out _ _ ⟨Hb2, fD2⟩ fun _ => ?_
              clear hK K
              try simp only [List.getElem_toArray, List.getElem_cons_zero, List.getElem_cons_succ, Act.put, List.setIfInBounds_toArray, List.set_cons_zero, List.set_cons_succ]
              refine wpAnyH_ready (rs := [3]) (by kernel_rfl) (by simp) (AllReadyH.cons rfl (fun K hK => ?_) AllReadyH.nil)
              refine step_addDs (by rfl) (.tmp 87) (.tmp 89) (by rfl) (w6.heap.size) (.slice (some ⟨wd.heap.size, 0, none⟩) 0 0) (0) (([] : List (List Nat))) fr2 (by rfl) Ap q cp pl Hpq.out HpL.out (fp2) (by rfl) (by omega) Zb2 ?_
              intro v3 w3_ fr3 hg3 st3
              have aprb3 := apart_sits st3 aprb2 fb2.lt
              have fD3 := fD2.grown hg3 (fun e => absurd (own_base fr2 _ e.symm) (Nat.not_le.2 oG))
              have fS3 := fS2.grown hg3 (fun e => absurd (own_base fr2 _ e.symm) (Nat.not_le.2 oX))
              have fo3 := fo2.grownB hg3 apo0.out fr2
              have fc3 := fc2.grownB hg3 apc0.out fr2
              have fp3 := fp2.grownB hg3 app0.out fr2
              have fb3 := fb2.grown hg3 (fun e => aprb2 e.symm)
              have Hb3 : Below w.heap.size w w3_ := below_grown Hb2 hg3 Hb2.size (fun k hk => Nat.le_trans HB6.out.size (own_base fr2 k hk))
              have Zb3 : w6.heap.size ≤ w3_.heap.size := Nat.le_trans Zb2 hg3.size
              obtain ⟨A3, c3, rfl, le3, lm3, -⟩ := own_form fr3
              rw [Nat.zero_add] at fr3 le3 aprb3
              simp only [Nat.zero_add]
              refine hK.out _ _ ⟨Hb3, fD3⟩ fun _ => ?_
              clear hK K
              try simp only [List.getElem_toArray, List.getElem_cons_zero, List.getElem_cons_succ, Act.put, List.setIfInBounds_toArray, List.set_cons_zero, List.set_cons_succ]
              refine wpAnyH_ready (rs := [6]) (by kernel_rfl) (by simp) (AllReadyH.cons rfl (fun K hK => ?_) AllReadyH.nil)
              refine step_pushDs (by rfl) (.tmp 90) (.tmp 92) (by rfl) (w6.heap.size) (.slice A3 (q) c3) (q) ((([] : List (List Nat)) ++ pl)) (D) fr3 (by rfl) (w1_.heap.size) fb3 Dt.out (by rfl) (by omega) Zb3 ?_
              intro v4 w4_ fr4 hg4 st4
              have aprb4 := apart_sits st4 aprb3 fb3.lt
              have fD4 := fD3.grown hg4 (fun e => absurd (own_base fr3 _ e.symm) (Nat.not_le.2 oG))
              have fS4 := fS3.grown hg4 (fun e => absurd (own_base fr3 _ e.symm) (Nat.not_le.2 oX))
              have fo4 := fo3.grownB hg4 apo0.out fr3
              have fc4 := fc3.grownB hg4 apc0.out fr3
              have fp4 := fp3.grownB hg4 app0.out fr3
              have fb4 := fb3.grown hg4 (fun e => aprb3 e.symm)
              have Hb4 : Below w.heap.size w w4_ := below_grown Hb3 hg4 Hb3.size (fun k hk => Nat.le_trans HB6.out.size (own_base fr3 k hk))
              have Zb4 : w6.heap.size ≤ w4_.heap.size := Nat.le_trans Zb3 hg4.size
              obtain ⟨A4, c4, rfl, le4, lm4, -⟩ := own_form fr4
              refine hK.out _ _ ⟨Hb4, fD4⟩ fun _ => ?_
              clear hK K
              try simp only [List.getElem_toArray, List.getElem_cons_zero, List.getElem_cons_succ, Act.put, List.setIfInBounds_toArray, List.set_cons_zero, List.set_cons_succ]
              refine wpAnyH_take (i := 7) (v := ?_) rfl (by kernel_rfl) (by kernel_rfl) (by kernel_rfl) (fun _ _ _ h => h) (Or.inl ⟨by rfl, ?_⟩) ⟨Hb4, fD4⟩ ?_
              rotate_left
              · intro w hSw
                go_simp
                try with_reducible rfl
              try simp only [List.getElem_toArray, List.getElem_cons_zero, List.getElem_cons_succ, Act.put, List.setIfInBounds_toArray, List.set_cons_zero, List.set_cons_succ]
              refine wpAnyH_ready (rs := [8]) (by kernel_rfl) (by simp) (AllReadyH.cons rfl (fun K hK => ?_) AllReadyH.nil)
              refine step_put_cell (by rfl) _ _ _ (by rfl) (X + 1) 3 ((.slice A4 (q + 1) c4)) (by rfl) (by rfl) _ _ fS4 (by simp) (by kernel_rfl) (by rfl) ?_
              intro w5_ fS5 hg5 hz5
              have neD5 := fD4.lt
              have fD5 := fD4.grown hg5 (by first | (simp; done) | (simp; omega))
              have fo5 := fo4.off8 hg5 fS4 (by first | exact no8_sig | exact no8_key)
              have fc5 := fc4.off8 hg5 fS4 (by first | exact no8_sig | exact no8_key)
              have fp5 := fp4.off8 hg5 fS4 (by first | exact no8_sig | exact no8_key)
              have neb5 := fb4.lt
              have fb5 := fb4.grown hg5 (by first | (simp; done) | (simp; omega))
              have fr5 := fr4.kept hg5 (.inr (fun e => absurd (own_base fr4 _ e) (Nat.not_le.2 oX)))
              have Hb5 : Below w.heap.size w w5_ := below_grown Hb4 hg5 Hb4.size (by first | (simp; done) | (simp; omega))
              have Zb5 : w6.heap.size ≤ w5_.heap.size := Nat.le_trans Zb4 hg5.size
              refine hK.out _ _ ⟨Hb5, fD5⟩ fun _ => ?_
              clear hK K
              try simp only [List.getElem_toArray, List.getElem_cons_zero, List.getElem_cons_succ, Act.put, List.setIfInBounds_toArray, List.set_cons_zero, List.set_cons_succ]
              refine wpAnyH_done (by kernel_rfl) ?_ _
              go_upto_region 26 with (fail)
              obtain ⟨w9, hw9⟩ : ∃ w9, w9 = w5_ := ⟨_, rfl⟩
              subst hw9
              have HD9 := Lib.hid fD5
              have HB9 := Lib.hid Hb5
              have HS9 := fS5
              have s0 := HS9.cellv (i := 0) rfl
              have s1 := HS9.cellv (i := 1) rfl
              have s2 := HS9.cellv (i := 2) rfl
              have s3 := HS9.cellv (i := 3) rfl
              have HCo9 := fo5
              have HCc9 := fc5
              have Hr9 := Lib.hid fr5
              have Hr9l := Lib.hid le4
              have Hr9m := Lib.hid lm4
              go_wp2_with (
                (refine wpList_load_blk rfl 37 (.tmp 9) rfl G rfl 37 (arrK .u8 D) (.array 32 5) HD9.out (by kernel_rfl) rfl (info32 Dt.out.1) ?_))
              refine (HVg.out D ol cl (pl ++ [D]) Ao Ac A4 co cc _ c4 w9 Dt.out (HM.out.below HB9.out) Hml.out (by omega) Hm8.out Hol.out Hcl.out (by rw [List.length_append, Hpq.out]; rfl) HoL.out HcL.out (HpL.out.snoc Dt.out) HCo9 HCc9 (by have := Cells.own Hr9.out; simpa using this) Hr9l.out Hr9m.out).mono ?_
              rintro e w10 ⟨he, hb10⟩
              rw [verS_long D Hver.out] at he
              subst he
              have HB10 := Lib.hid (below_of HB9.out hb10 HB9.out.size)
              clear hb10
              go_wp2_with (fail)
              go_ret
              exact ⟨rfl, HB10.out⟩
          · have ql := fS.cellv (i := 3) rfl
            go_simp
            first | with_reducible rfl | skip
            refine hK.out _ _ ⟨Hd, fD⟩ fun _ => ?_
            clear hK K
            try simp only [List.getElem_toArray, List.getElem_cons_zero, List.getElem_cons_succ, Act.put, List.setIfInBounds_toArray, List.set_cons_zero, List.set_cons_succ]
            refine wpAnyH_ready (rs := [0, 5]) (by kernel_rfl) (by simp) (AllReadyH.cons rfl (fun K hK => ?_) (AllReadyH.cons rfl (fun K hK => ?_) AllReadyH.nil))
            · go_simp
              generalize hge : World.alloc _ _ = w1_
              have fr1 : w1_.ownsRow (w6.heap.size) 37 32 (.slice (some ⟨wd.heap.size, 0, none⟩) 0 0) 0 (bytesV ([] : List (List Nat)).flatten) := by subst hge; exact ownD_empty wd _ Zd
              have hb1 : Below wd.heap.size wd w1_ := by subst hge; exact (Below.refl _ _).alloc (Nat.le_refl _) _
              clear hge
              have fD1 := fD.below hb1
              have fS1 := fS.below hb1
              have fo1 := fo.below hb1
              have fc1 := fc.below hb1
              have fp1 := fp.below hb1
              have Hb1 : Below w.heap.size w w1_ := below_of Hd hb1 Hd.size
              have Zb1 : w6.heap.size ≤ w1_.heap.size := Nat.le_trans Zd hb1.size
              refine hK.out _ _ ⟨Hb1, fD1⟩ fun _ => ?_
              clear hK K
              try simp only [List.getElem_toArray, List.getElem_cons_zero, List.getElem_cons_succ, Act.put, List.setIfInBounds_toArray, List.set_cons_zero, List.set_cons_succ]
              refine wpAnyH_ready (rs := [3, 5]) (by kernel_rfl) (by simp) (AllReadyH.cons rfl (fun K hK => ?_) (AllReadyH.cons rfl (fun K hK => ?_) AllReadyH.nil))
              · refine step_addDs (by rfl) (.tmp 87) (.tmp 89) (by rfl) (w6.heap.size) (.slice (some ⟨wd.heap.size, 0, none⟩) 0 0) (0) (([] : List (List Nat))) fr1 (by rfl) Ap q cp pl Hpq.out HpL.out (fp1) (by rfl) (by omega) Zb1 ?_
                intro v2 w2_ fr2 hg2 st2
                have fD2 := fD1.grown hg2 (fun e => absurd (own_base fr1 _ e.symm) (Nat.not_le.2 oG))
                have fS2 := fS1.grown hg2 (fun e => absurd (own_base fr1 _ e.symm) (Nat.not_le.2 oX))
                have fo2 := fo1.grownB hg2 apo0.out fr1
                have fc2 := fc1.grownB hg2 apc0.out fr1
                have fp2 := fp1.grownB hg2 app0.out fr1
                have Hb2 : Below w.heap.size w w2_ := below_grown Hb1 hg2 Hb1.size (fun k hk => Nat.le_trans HB6.out.size (own_base fr1 k hk))
                have Zb2 : w6.heap.size ≤ w2_.heap.size := Nat.le_trans Zb1 hg2.size
                obtain ⟨A2, c2, rfl, le2, lm2, -⟩ := own_form fr2
                rw [Nat.zero_add] at fr2 le2 
                simp only [Nat.zero_add]
                refine hK.out _ _ ⟨Hb2, fD2⟩ fun _ => ?_
                clear hK K
                try simp only [List.getElem_toArray, List.getElem_cons_zero, List.getElem_cons_succ, Act.put, List.setIfInBounds_toArray, List.set_cons_zero, List.set_cons_succ]
                refine wpAnyH_ready (rs := [5]) (by kernel_rfl) (by simp) (AllReadyH.cons rfl (fun K hK => ?_) AllReadyH.nil)
                refine step_oneD (by rfl) _ (by rfl) (D) Dt.out (by rfl) ?_
                generalize hge : World.alloc _ _ = w3_
                have fb3 : Blk w3_ w2_.heap.size 37 (arrK .u8 (D)) := by subst hge; exact Blk.new _ _ _
                have hb3 : Below w2_.heap.size w2_ w3_ := by subst hge; exact (Below.refl _ _).alloc (Nat.le_refl _) _
                clear hge
                have fD3 := fD2.below hb3
                have fS3 := fS2.below hb3
                have fo3 := fo2.below hb3
                have fc3 := fc2.below hb3
                have fp3 := fp2.below hb3
                have fr3 := own_below fr2 hb3
                have aprb3 := apart_new fr2
                have lob3 : w6.heap.size ≤ w2_.heap.size := Zb2
                have Hb3 : Below w.heap.size w w3_ := below_of Hb2 hb3 Hb2.size
                have Zb3 : w6.heap.size ≤ w3_.heap.size := Nat.le_trans Zb2 hb3.size
                refine hK.out _ _ ⟨Hb3, fD3⟩ fun _ => ?_
                clear hK K
                try simp only [List.getElem_toArray, List.getElem_cons_zero, List.getElem_cons_succ, Act.put, List.setIfInBounds_toArray, List.set_cons_zero, List.set_cons_succ]
                refine wpAnyH_ready (rs := [6]) (by kernel_rfl) (by simp) (AllReadyH.cons rfl (fun K hK => ?_) AllReadyH.nil)
                refine step_pushDs (by rfl) (.tmp 90) (.tmp 92) (by rfl) (w6.heap.size) (.slice A2 (q) c2) (q) ((([] : List (List Nat)) ++ pl)) (D) fr3 (by rfl) (w2_.heap.size) fb3 Dt.out (by rfl) (by omega) Zb3 ?_
                intro v4 w4_ fr4 hg4 st4
                have aprb4 := apart_sits st4 aprb3 fb3.lt
                have fD4 := fD3.grown hg4 (fun e => absurd (own_base fr3 _ e.symm) (Nat.not_le.2 oG))
                have fS4 := fS3.grown hg4 (fun e => absurd (own_base fr3 _ e.symm) (Nat.not_le.2 oX))
                have fo4 := fo3.grownB hg4 apo0.out fr3
                have fc4 := fc3.grownB hg4 apc0.out fr3
                have fp4 := fp3.grownB hg4 app0.out fr3
                have fb4 := fb3.grown hg4 (fun e => aprb3 e.symm)
                have Hb4 : Below w.heap.size w w4_ := below_grown Hb3 hg4 Hb3.size (fun k hk => Nat.le_trans HB6.out.size (own_base fr3 k hk))
                have Zb4 : w6.heap.size ≤ w4_.heap.size := Nat.le_trans Zb3 hg4.size
                obtain ⟨A4, c4, rfl, le4, lm4, -⟩ := own_form fr4
                refine hK.out _ _ ⟨Hb4, fD4⟩ fun _ => ?_
                clear hK K
                try simp only [List.getElem_toArray, List.getElem_cons_zero, List.getElem_cons_succ, Act.put, List.setIfInBounds_toArray, List.set_cons_zero, List.set_cons_succ]
                refine wpAnyH_take (i := 7) (v := ?_) rfl (by kernel_rfl) (by kernel_rfl) (by kernel_rfl) (fun _ _ _ h => h) (Or.inl ⟨by rfl, ?_⟩) ⟨Hb4, fD4⟩ ?_
                rotate_left
                · intro w hSw
                  go_simp
                  try with_reducible rfl
                try simp only [List.getElem_toArray, List.getElem_cons_zero, List.getElem_cons_succ, Act.put, List.setIfInBounds_toArray, List.set_cons_zero, List.set_cons_succ]
                refine wpAnyH_ready (rs := [8]) (by kernel_rfl) (by simp) (AllReadyH.cons rfl (fun K hK => ?_) AllReadyH.nil)
                refine step_put_cell (by rfl) _ _ _ (by rfl) (X + 1) 3 ((.slice A4 (q + 1) c4)) (by rfl) (by rfl) _ _ fS4 (by simp) (by kernel_rfl) (by rfl) ?_
                intro w5_ fS5 hg5 hz5
                have neD5 := fD4.lt
                have fD5 := fD4.grown hg5 (by first | (simp; done) | (simp; omega))
                have fo5 := fo4.off8 hg5 fS4 (by first | exact no8_sig | exact no8_key)
                have fc5 := fc4.off8 hg5 fS4 (by first | exact no8_sig | exact no8_key)
                have fp5 := fp4.off8 hg5 fS4 (by first | exact no8_sig | exact no8_key)
                have neb5 := fb4.lt
                have fb5 := fb4.grown hg5 (by first | (simp; done) | (simp; omega))
                have fr5 := fr4.kept hg5 (.inr (fun e => absurd (own_base fr4 _ e) (Nat.not_le.2 oX)))
                have Hb5 : Below w.heap.size w w5_ := below_grown Hb4 hg5 Hb4.size (by first | (simp; done) | (simp; omega))
                have Zb5 : w6.heap.size ≤ w5_.heap.size := Nat.le_trans Zb4 hg5.size
                refine hK.out _ _ ⟨Hb5, fD5⟩ fun _ => ?_
                clear hK K
                try simp only [List.getElem_toArray, List.getElem_cons_zero, List.getElem_cons_succ, Act.put, List.setIfInBounds_toArray, List.set_cons_zero, List.set_cons_succ]
                refine wpAnyH_done (by kernel_rfl) ?_ _
                go_upto_region 26 with (fail)
                obtain ⟨w9, hw9⟩ : ∃ w9, w9 = w5_ := ⟨_, rfl⟩
                subst hw9
                have HD9 := Lib.hid fD5
                have HB9 := Lib.hid Hb5
                have HS9 := fS5
                have s0 := HS9.cellv (i := 0) rfl
                have s1 := HS9.cellv (i := 1) rfl
                have s2 := HS9.cellv (i := 2) rfl
                have s3 := HS9.cellv (i := 3) rfl
                have HCo9 := fo5
                have HCc9 := fc5
                have Hr9 := Lib.hid fr5
                have Hr9l := Lib.hid le4
                have Hr9m := Lib.hid lm4
                go_wp2_with (
                  (refine wpList_load_blk rfl 37 (.tmp 9) rfl G rfl 37 (arrK .u8 D) (.array 32 5) HD9.out (by kernel_rfl) rfl (info32 Dt.out.1) ?_))
                refine (HVg.out D ol cl (pl ++ [D]) Ao Ac A4 co cc _ c4 w9 Dt.out (HM.out.below HB9.out) Hml.out (by omega) Hm8.out Hol.out Hcl.out (by rw [List.length_append, Hpq.out]; rfl) HoL.out HcL.out (HpL.out.snoc Dt.out) HCo9 HCc9 (by have := Cells.own Hr9.out; simpa using this) Hr9l.out Hr9m.out).mono ?_
                rintro e w10 ⟨he, hb10⟩
                rw [verS_long D Hver.out] at he
                subst he
                have HB10 := Lib.hid (below_of HB9.out hb10 HB9.out.size)
                clear hb10
                go_wp2_with (fail)
                go_ret
                exact ⟨rfl, HB10.out⟩
              · refine step_oneD (by rfl) _ (by rfl) (D) Dt.out (by rfl) ?_
                generalize hge : World.alloc _ _ = w2_
                have fb2 : Blk w2_ w1_.heap.size 37 (arrK .u8 (D)) := by subst hge; exact Blk.new _ _ _
                have hb2 : Below w1_.heap.size w1_ w2_ := by subst hge; exact (Below.refl _ _).alloc (Nat.le_refl _) _
                clear hge
                have fD2 := fD1.below hb2
                have fS2 := fS1.below hb2
                have fo2 := fo1.below hb2
                have fc2 := fc1.below hb2
                have fp2 := fp1.below hb2
                have fr2 := own_below fr1 hb2
                have aprb2 := apart_new fr1
                have lob2 : w6.heap.size ≤ w1_.heap.size := Zb1
                have Hb2 : Below w.heap.size w w2_ := below_of Hb1 hb2 Hb1.size
                have Zb2 : w6.heap.size ≤ w2_.heap.size := Nat.le_trans Zb1 hb2.size
                refine hK.out _ _ ⟨Hb2, fD2⟩ fun _ => ?_
                clear hK K
                try simp only [List.getElem_toArray, List.getElem_cons_zero, List.getElem_cons_succ, Act.put, List.setIfInBounds_toArray, List.set_cons_zero, List.set_cons_succ]
                refine wpAnyH_ready (rs := [3]) (by kernel_rfl) (by simp) (AllReadyH.cons rfl (fun K hK => ?_) AllReadyH.nil)
                refine step_addDs (by rfl) (.tmp 87) (.tmp 89) (by rfl) (w6.heap.size) (.slice (some ⟨wd.heap.size, 0, none⟩) 0 0) (0) (([] : List (List Nat))) fr2 (by rfl) Ap q cp pl Hpq.out HpL.out (fp2) (by rfl) (by omega) Zb2 ?_
                intro v3 w3_ fr3 hg3 st3
                have aprb3 := apart_sits st3 aprb2 fb2.lt
                have fD3 := fD2.grown hg3 (fun e => absurd (own_base fr2 _ e.symm) (Nat.not_le.2 oG))
                have fS3 := fS2.grown hg3 (fun e => absurd (own_base fr2 _ e.symm) (Nat.not_le.2 oX))
                have fo3 := fo2.grownB hg3 apo0.out fr2
                have fc3 := fc2.grownB hg3 apc0.out fr2
                have fp3 := fp2.grownB hg3 app0.out fr2
                have fb3 := fb2.grown hg3 (fun e => aprb2 e.symm)
                have Hb3 : Below w.heap.size w w3_ := below_grown Hb2 hg3 Hb2.size (fun k hk => Nat.le_trans HB6.out.size (own_base fr2 k hk))
                have Zb3 : w6.heap.size ≤ w3_.heap.size := Nat.le_trans Zb2 hg3.size
                obtain ⟨A3, c3, rfl, le3, lm3, -⟩ := own_form fr3
                rw [Nat.zero_add] at fr3 le3 aprb3
                simp only [Nat.zero_add]
                refine hK.out _ _ ⟨Hb3, fD3⟩ fun _ => ?_
                clear hK K
                try simp only [List.getElem_toArray, List.getElem_cons_zero, List.getElem_cons_succ, Act.put, List.setIfInBounds_toArray, List.set_cons_zero, List.set_cons_succ]
                refine wpAnyH_ready (rs := [6]) (by kernel_rfl) (by simp) (AllReadyH.cons rfl (fun K hK => ?_) AllReadyH.nil)
                refine step_pushDs (by rfl) (.tmp 90) (.tmp 92) (by rfl) (w6.heap.size) (.slice A3 (q) c3) (q) ((([] : List (List Nat)) ++ pl)) (D) fr3 (by rfl) (w1_.heap.size) fb3 Dt.out (by rfl) (by omega) Zb3 ?_
                intro v4 w4_ fr4 hg4 st4
                have aprb4 := apart_sits st4 aprb3 fb3.lt
                have fD4 := fD3.grown hg4 (fun e => absurd (own_base fr3 _ e.symm) (Nat.not_le.2 oG))
                have fS4 := fS3.grown hg4 (fun e => absurd (own_base fr3 _ e.symm) (Nat.not_le.2 oX))
                have fo4 := fo3.grownB hg4 apo0.out fr3
                have fc4 := fc3.grownB hg4 apc0.out fr3
                have fp4 := fp3.grownB hg4 app0.out fr3
                have fb4 := fb3.grown hg4 (fun e => aprb3 e.symm)
                have Hb4 : Below w.heap.size w w4_ := below_grown Hb3 hg4 Hb3.size (fun k hk => Nat.le_trans HB6.out.size (own_base fr3 k hk))
                have Zb4 : w6.heap.size ≤ w4_.heap.size := Nat.le_trans Zb3 hg4.size
                obtain ⟨A4, c4, rfl, le4, lm4, -⟩ := own_form fr4
                refine hK.out _ _ ⟨Hb4, fD4⟩ fun _ => ?_
                clear hK K
                try simp only [List.getElem_toArray, List.getElem_cons_zero, List.getElem_cons_succ, Act.put, List.setIfInBounds_toArray, List.set_cons_zero, List.set_cons_succ]
                refine wpAnyH_take (i := 7) (v := ?_) rfl (by kernel_rfl) (by kernel_rfl) (by kernel_rfl) (fun _ _ _ h => h) (Or.inl ⟨by rfl, ?_⟩) ⟨Hb4, fD4⟩ ?_
                rotate_left
                · intro w hSw
                  go_simp
                  try with_reducible rfl
                try simp only [List.getElem_toArray, List.getElem_cons_zero, List.getElem_cons_succ, Act.put, List.setIfInBounds_toArray, List.set_cons_zero, List.set_cons_succ]
                refine wpAnyH_ready (rs := [8]) (by kernel_rfl) (by simp) (AllReadyH.cons rfl (fun K hK => ?_) AllReadyH.nil)
                refine step_put_cell (by rfl) _ _ _ (by rfl) (X + 1) 3 ((.slice A4 (q + 1) c4)) (by rfl) (by rfl) _ _ fS4 (by simp) (by kernel_rfl) (by rfl) ?_
                intro w5_ fS5 hg5 hz5
                have neD5 := fD4.lt
                have fD5 := fD4.grown hg5 (by first | (simp; done) | (simp; omega))
                have fo5 := fo4.off8 hg5 fS4 (by first | exact no8_sig | exact no8_key)
                have fc5 := fc4.off8 hg5 fS4 (by first | exact no8_sig | exact no8_key)
                have fp5 := fp4.off8 hg5 fS4 (by first | exact no8_sig | exact no8_key)
                have neb5 := fb4.lt
                have fb5 := fb4.grown hg5 (by first | (simp; done) | (simp; omega))
                have fr5 := fr4.kept hg5 (.inr (fun e => absurd (own_base fr4 _ e) (Nat.not_le.2 oX)))
                have Hb5 : Below w.heap.size w w5_ := below_grown Hb4 hg5 Hb4.size (by first | (simp; done) | (simp; omega))
                have Zb5 : w6.heap.size ≤ w5_.heap.size := Nat.le_trans Zb4 hg5.size
                refine hK.out _ _ ⟨Hb5, fD5⟩ fun _ => ?_
                clear hK K
                try simp only [List.getElem_toArray, List.getElem_cons_zero, List.getElem_cons_succ, Act.put, List.setIfInBounds_toArray, List.set_cons_zero, List.set_cons_succ]
                refine wpAnyH_done (by kernel_rfl) ?_ _
                go_upto_region 26 with (fail)
                obtain ⟨w9, hw9⟩ : ∃ w9, w9 = w5_ := ⟨_, rfl⟩
                subst hw9
                have HD9 := Lib.hid fD5
                have HB9 := Lib.hid Hb5
                have HS9 := fS5
                have s0 := HS9.cellv (i := 0) rfl
                have s1 := HS9.cellv (i := 1) rfl
                have s2 := HS9.cellv (i := 2) rfl
                have s3 := HS9.cellv (i := 3) rfl
                have HCo9 := fo5
                have HCc9 := fc5
                have Hr9 := Lib.hid fr5
                have Hr9l := Lib.hid le4
                have Hr9m := Lib.hid lm4
                go_wp2_with (
                  (refine wpList_load_blk rfl 37 (.tmp 9) rfl G rfl 37 (arrK .u8 D) (.array 32 5) HD9.out (by kernel_rfl) rfl (info32 Dt.out.1) ?_))
                refine (HVg.out D ol cl (pl ++ [D]) Ao Ac A4 co cc _ c4 w9 Dt.out (HM.out.below HB9.out) Hml.out (by omega) Hm8.out Hol.out Hcl.out (by rw [List.length_append, Hpq.out]; rfl) HoL.out HcL.out (HpL.out.snoc Dt.out) HCo9 HCc9 (by have := Cells.own Hr9.out; simpa using this) Hr9l.out Hr9m.out).mono ?_
                rintro e w10 ⟨he, hb10⟩
                rw [verS_long D Hver.out] at he
                subst he
                have HB10 := Lib.hid (below_of HB9.out hb10 HB9.out.size)
                clear hb10
                go_wp2_with (fail)
                go_ret
                exact ⟨rfl, HB10.out⟩
            · refine step_oneD (by rfl) _ (by rfl) (D) Dt.out (by rfl) ?_
              generalize hge : World.alloc _ _ = w1_
              have fb1 : Blk w1_ wd.heap.size 37 (arrK .u8 (D)) := by subst hge; exact Blk.new _ _ _
              have hb1 : Below wd.heap.size wd w1_ := by subst hge; exact (Below.refl _ _).alloc (Nat.le_refl _) _
              clear hge
              have fD1 := fD.below hb1
              have fS1 := fS.below hb1
              have fo1 := fo.below hb1
              have fc1 := fc.below hb1
              have fp1 := fp.below hb1
              have lob1 : w6.heap.size ≤ wd.heap.size := Zd
              have Hb1 : Below w.heap.size w w1_ := below_of Hd hb1 Hd.size
              have Zb1 : w6.heap.size ≤ w1_.heap.size := Nat.le_trans Zd hb1.size
              refine hK.out _ _ ⟨Hb1, fD1⟩ fun _ => ?_
              clear hK K
              try simp only [List.getElem_toArray, List.getElem_cons_zero, List.getElem_cons_succ, Act.put, List.setIfInBounds_toArray, List.set_cons_zero, List.set_cons_succ]
              refine wpAnyH_ready (rs := [0]) (by kernel_rfl) (by simp) (AllReadyH.cons rfl (fun K hK => ?_) AllReadyH.nil)
              go_simp
              generalize hge : World.alloc _ _ = w2_
              have fr2 : w2_.ownsRow (w6.heap.size) 37 32 (.slice (some ⟨w1_.heap.size, 0, none⟩) 0 0) 0 (bytesV ([] : List (List Nat)).flatten) := by subst hge; exact ownD_empty w1_ _ Zb1
              have hb2 : Below w1_.heap.size w1_ w2_ := by subst hge; exact (Below.refl _ _).alloc (Nat.le_refl _) _
              clear hge
              have fD2 := fD1.below hb2
              have fS2 := fS1.below hb2
              have fo2 := fo1.below hb2
              have fc2 := fc1.below hb2
              have fp2 := fp1.below hb2
              have fb2 := fb1.below hb2
              have aprb2 : Apart (.slice (some ⟨w1_.heap.size, 0, none⟩) 0 0) (wd.heap.size) := apart_lit fb1.lt
              have Hb2 : Below w.heap.size w w2_ := below_of Hb1 hb2 Hb1.size
              have Zb2 : w6.heap.size ≤ w2_.heap.size := Nat.le_trans Zb1 hb2.size
              refine hK.out _ _ ⟨Hb2, fD2⟩ fun _ => ?_
              clear hK K
              try simp only [List.getElem_toArray, List.getElem_cons_zero, List.getElem_cons_succ, Act.put, List.setIfInBounds_toArray, List.set_cons_zero, List.set_cons_succ]
              refine wpAnyH_ready (rs := [3]) (by kernel_rfl) (by simp) (AllReadyH.cons rfl (fun K hK => ?_) AllReadyH.nil)
              refine step_addDs (by rfl) (.tmp 87) (.tmp 89) (by rfl) (w6.heap.size) (.slice (some ⟨w1_.heap.size, 0, none⟩) 0 0) (0) (([] : List (List Nat))) fr2 (by rfl) Ap q cp pl Hpq.out HpL.out (fp2) (by rfl) (by omega) Zb2 ?_
              intro v3 w3_ fr3 hg3 st3
              have aprb3 := apart_sits st3 aprb2 fb2.lt
              have fD3 := fD2.grown hg3 (fun e => absurd (own_base fr2 _ e.symm) (Nat.not_le.2 oG))
              have fS3 := fS2.grown hg3 (fun e => absurd (own_base fr2 _ e.symm) (Nat.not_le.2 oX))
              have fo3 := fo2.grownB hg3 apo0.out fr2
              have fc3 := fc2.grownB hg3 apc0.out fr2
              have fp3 := fp2.grownB hg3 app0.out fr2
              have fb3 := fb2.grown hg3 (fun e => aprb2 e.symm)
              have Hb3 : Below w.heap.size w w3_ := below_grown Hb2 hg3 Hb2.size (fun k hk => Nat.le_trans HB6.out.size (own_base fr2 k hk))
              have Zb3 : w6.heap.size ≤ w3_.heap.size := Nat.le_trans Zb2 hg3.size
              obtain ⟨A3, c3, rfl, le3, lm3, -⟩ := own_form fr3
              rw [Nat.zero_add] at fr3 le3 aprb3
              simp only [Nat.zero_add]
              refine hK.out _ _ ⟨Hb3, fD3⟩ fun _ => ?_
              clear hK K
              try simp only [List.getElem_toArray, List.getElem_cons_zero, List.getElem_cons_succ, Act.put, List.setIfInBounds_toArray, List.set_cons_zero, List.set_cons_succ]
              refine wpAnyH_ready (rs := [6]) (by kernel_rfl) (by simp) (AllReadyH.cons rfl (fun K hK => ?_) AllReadyH.nil)
              refine step_pushDs (by rfl) (.tmp 90) (.tmp 92) (by rfl) (w6.heap.size) (.slice A3 (q) c3) (q) ((([] : List (List Nat)) ++ pl)) (D) fr3 (by rfl) (wd.heap.size) fb3 Dt.out (by rfl) (by omega) Zb3 ?_
              intro v4 w4_ fr4 hg4 st4
              have aprb4 := apart_sits st4 aprb3 fb3.lt
              have fD4 := fD3.grown hg4 (fun e => absurd (own_base fr3 _ e.symm) (Nat.not_le.2 oG))
              have fS4 := fS3.grown hg4 (fun e => absurd (own_base fr3 _ e.symm) (Nat.not_le.2 oX))
              have fo4 := fo3.grownB hg4 apo0.out fr3
              have fc4 := fc3.grownB hg4 apc0.out fr3
              have fp4 := fp3.grownB hg4 app0.out fr3
              have fb4 := fb3.grown hg4 (fun e => aprb3 e.symm)
              have Hb4 : Below w.heap.size w w4_ := below_grown Hb3 hg4 Hb3.size (fun k hk => Nat.le_trans HB6.out.size (own_base fr3 k hk))
              have Zb4 : w6.heap.size ≤ w4_.heap.size := Nat.le_trans Zb3 hg4.size
              obtain ⟨A4, c4, rfl, le4, lm4, -⟩ := own_form fr4
              refine hK.out _ _ ⟨Hb4, fD4⟩ fun _ => ?_
              clear hK K
              try simp only [List.getElem_toArray, List.getElem_cons_zero, List.getElem_cons_succ, Act.put, List.setIfInBounds_toArray, List.set_cons_zero, List.set_cons_succ]
              refine wpAnyH_take (i := 7) (v := ?_) rfl (by kernel_rfl) (by kernel_rfl) (by kernel_rfl) (fun _ _ _ h => h) (Or.inl ⟨by rfl, ?_⟩) ⟨Hb4, fD4⟩ ?_
              rotate_left
              · intro w hSw
                go_simp
                try with_reducible rfl
              try simp only [List.getElem_toArray, List.getElem_cons_zero, List.getElem_cons_succ, Act.put, List.setIfInBounds_toArray, List.set_cons_zero, List.set_cons_succ]
              refine wpAnyH_ready (rs := [8]) (by kernel_rfl) (by simp) (AllReadyH.cons rfl (fun K hK => ?_) AllReadyH.nil)
              refine step_put_cell (by rfl) _ _ _ (by rfl) (X + 1) 3 ((.slice A4 (q + 1) c4)) (by rfl) (by rfl) _ _ fS4 (by simp) (by kernel_rfl) (by rfl) ?_
              intro w5_ fS5 hg5 hz5
              have neD5 := fD4.lt
              have fD5 := fD4.grown hg5 (by first | (simp; done) | (simp; omega))
              have fo5 := fo4.off8 hg5 fS4 (by first | exact no8_sig | exact no8_key)
              have fc5 := fc4.off8 hg5 fS4 (by first | exact no8_sig | exact no8_key)
              have fp5 := fp4.off8 hg5 fS4 (by first | exact no8_sig | exact no8_key)
              have neb5 := fb4.lt
              have fb5 := fb4.grown hg5 (by first | (simp; done) | (simp; omega))
              have fr5 := fr4.kept hg5 (.inr (fun e => absurd (own_base fr4 _ e) (Nat.not_le.2 oX)))
              have Hb5 : Below w.heap.size w w5_ := below_grown Hb4 hg5 Hb4.size (by first | (simp; done) | (simp; omega))
              have Zb5 : w6.heap.size ≤ w5_.heap.size := Nat.le_trans Zb4 hg5.size
              refine hK.out _ _ ⟨Hb5, fD5⟩ fun _ => ?_
              clear hK K
              try simp only [List.getElem_toArray, List.getElem_cons_zero, List.getElem_cons_succ, Act.put, List.setIfInBounds_toArray, List.set_cons_zero, List.set_cons_succ]
              refine wpAnyH_done (by kernel_rfl) ?_ _
              go_upto_region 26 with (fail)
              obtain ⟨w9, hw9⟩ : ∃ w9, w9 = w5_ := ⟨_, rfl⟩
              subst hw9
              have HD9 := Lib.hid fD5
              have HB9 := Lib.hid Hb5
              have HS9 := fS5
              have s0 := HS9.cellv (i := 0) rfl
              have s1 := HS9.cellv (i := 1) rfl
              have s2 := HS9.cellv (i := 2) rfl
              have s3 := HS9.cellv (i := 3) rfl
              have HCo9 := fo5
              have HCc9 := fc5
              have Hr9 := Lib.hid fr5
              have Hr9l := Lib.hid le4
              have Hr9m := Lib.hid lm4
              go_wp2_with (
                (refine wpList_load_blk rfl 37 (.tmp 9) rfl G rfl 37 (arrK .u8 D) (.array 32 5) HD9.out (by kernel_rfl) rfl (info32 Dt.out.1) ?_))
              refine (HVg.out D ol cl (pl ++ [D]) Ao Ac A4 co cc _ c4 w9 Dt.out (HM.out.below HB9.out) Hml.out (by omega) Hm8.out Hol.out Hcl.out (by rw [List.length_append, Hpq.out]; rfl) HoL.out HcL.out (HpL.out.snoc Dt.out) HCo9 HCc9 (by have := Cells.own Hr9.out; simpa using this) Hr9l.out Hr9m.out).mono ?_
              rintro e w10 ⟨he, hb10⟩
              rw [verS_long D Hver.out] at he
              subst he
              have HB10 := Lib.hid (below_of HB9.out hb10 HB9.out.size)
              clear hb10
              go_wp2_with (fail)
              go_ret
              exact ⟨rfl, HB10.out⟩
          · refine step_oneD (by rfl) _ (by rfl) (D) Dt.out (by rfl) ?_
            generalize hge : World.alloc _ _ = w1_
            have fb1 : Blk w1_ wd.heap.size 37 (arrK .u8 (D)) := by subst hge; exact Blk.new _ _ _
            have hb1 : Below wd.heap.size wd w1_ := by subst hge; exact (Below.refl _ _).alloc (Nat.le_refl _) _
            clear hge
            have fD1 := fD.below hb1
            have fS1 := fS.below hb1
            have fo1 := fo.below hb1
            have fc1 := fc.below hb1
            have fp1 := fp.below hb1
            have lob1 : w6.heap.size ≤ wd.heap.size := Zd
            have Hb1 : Below w.heap.size w w1_ := below_of Hd hb1 Hd.size
            have Zb1 : w6.heap.size ≤ w1_.heap.size := Nat.le_trans Zd hb1.size
            refine hK.out _ _ ⟨Hb1, fD1⟩ fun _ => ?_
            clear hK K
            try simp only [List.getElem_toArray, List.getElem_cons_zero, List.getElem_cons_succ, Act.put, List.setIfInBounds_toArray, List.set_cons_zero, List.set_cons_succ]
            refine wpAnyH_ready (rs := [0, 2]) (by kernel_rfl) (by simp) (AllReadyH.cons rfl (fun K hK => ?_) (AllReadyH.cons rfl (fun K hK => ?_) AllReadyH.nil))
            · go_simp
              generalize hge : World.alloc _ _ = w2_
              have fr2 : w2_.ownsRow (w6.heap.size) 37 32 (.slice (some ⟨w1_.heap.size, 0, none⟩) 0 0) 0 (bytesV ([] : List (List Nat)).flatten) := by subst hge; exact ownD_empty w1_ _ Zb1
              have hb2 : Below w1_.heap.size w1_ w2_ := by subst hge; exact (Below.refl _ _).alloc (Nat.le_refl _) _
              clear hge
              have fD2 := fD1.below hb2
              have fS2 := fS1.below hb2
              have fo2 := fo1.below hb2
              have fc2 := fc1.below hb2
              have fp2 := fp1.below hb2
              have fb2 := fb1.below hb2
              have aprb2 : Apart (.slice (some ⟨w1_.heap.size, 0, none⟩) 0 0) (wd.heap.size) := apart_lit fb1.lt
              have Hb2 : Below w.heap.size w w2_ := below_of Hb1 hb2 Hb1.size
              have Zb2 : w6.heap.size ≤ w2_.heap.size := Nat.le_trans Zb1 hb2.size
              refine hK.out _ _ ⟨Hb2, fD2⟩ fun _ => ?_
              clear hK K
              try simp only [List.getElem_toArray, List.getElem_cons_zero, List.getElem_cons_succ, Act.put, List.setIfInBounds_toArray, List.set_cons_zero, List.set_cons_succ]
              refine wpAnyH_ready (rs := [2]) (by kernel_rfl) (by simp) (AllReadyH.cons rfl (fun K hK => ?_) AllReadyH.nil)
              have ql := fS2.cellv (i := 3) rfl
              go_simp
              first | with_reducible rfl | skip
              refine hK.out _ _ ⟨Hb2, fD2⟩ fun _ => ?_
              clear hK K
              try simp only [List.getElem_toArray, List.getElem_cons_zero, List.getElem_cons_succ, Act.put, List.setIfInBounds_toArray, List.set_cons_zero, List.set_cons_succ]
              refine wpAnyH_ready (rs := [3]) (by kernel_rfl) (by simp) (AllReadyH.cons rfl (fun K hK => ?_) AllReadyH.nil)
              refine step_addDs (by rfl) (.tmp 87) (.tmp 89) (by rfl) (w6.heap.size) (.slice (some ⟨w1_.heap.size, 0, none⟩) 0 0) (0) (([] : List (List Nat))) fr2 (by rfl) Ap q cp pl Hpq.out HpL.out (fp2) (by rfl) (by omega) Zb2 ?_
              intro v3 w3_ fr3 hg3 st3
              have aprb3 := apart_sits st3 aprb2 fb2.lt
              have fD3 := fD2.grown hg3 (fun e => absurd (own_base fr2 _ e.symm) (Nat.not_le.2 oG))
              have fS3 := fS2.grown hg3 (fun e => absurd (own_base fr2 _ e.symm) (Nat.not_le.2 oX))
              have fo3 := fo2.grownB hg3 apo0.out fr2
              have fc3 := fc2.grownB hg3 apc0.out fr2
              have fp3 := fp2.grownB hg3 app0.out fr2
              have fb3 := fb2.grown hg3 (fun e => aprb2 e.symm)
              have Hb3 : Below w.heap.size w w3_ := below_grown Hb2 hg3 Hb2.size (fun k hk => Nat.le_trans HB6.out.size (own_base fr2 k hk))
              have Zb3 : w6.heap.size ≤ w3_.heap.size := Nat.le_trans Zb2 hg3.size
              obtain ⟨A3, c3, rfl, le3, lm3, -⟩ := own_form fr3
              rw [Nat.zero_add] at fr3 le3 aprb3
              simp only [Nat.zero_add]
              refine hK.out _ _ ⟨Hb3, fD3⟩ fun _ => ?_
              clear hK K
              try simp only [List.getElem_toArray, List.getElem_cons_zero, List.getElem_cons_succ, Act.put, List.setIfInBounds_toArray, List.set_cons_zero, List.set_cons_succ]
              refine wpAnyH_ready (rs := [6]) (by kernel_rfl) (by simp) (AllReadyH.cons rfl (fun K hK => ?_) AllReadyH.nil)
              refine step_pushDs (by rfl) (.tmp 90) (.tmp 92) (by rfl) (w6.heap.size) (.slice A3 (q) c3) (q) ((([] : List (List Nat)) ++ pl)) (D) fr3 (by rfl) (wd.heap.size) fb3 Dt.out (by rfl) (by omega) Zb3 ?_
              intro v4 w4_ fr4 hg4 st4
              have aprb4 := apart_sits st4 aprb3 fb3.lt
              have fD4 := fD3.grown hg4 (fun e => absurd (own_base fr3 _ e.symm) (Nat.not_le.2 oG))
              have fS4 := fS3.grown hg4 (fun e => absurd (own_base fr3 _ e.symm) (Nat.not_le.2 oX))
              have fo4 := fo3.grownB hg4 apo0.out fr3
              have fc4 := fc3.grownB hg4 apc0.out fr3
              have fp4 := fp3.grownB hg4 app0.out fr3
              have fb4 := fb3.grown hg4 (fun e => aprb3 e.symm)
              have Hb4 : Below w.heap.size w w4_ := below_grown Hb3 hg4 Hb3.size (fun k hk => Nat.le_trans HB6.out.size (own_base fr3 k hk))
              have Zb4 : w6.heap.size ≤ w4_.heap.size := Nat.le_trans Zb3 hg4.size
              obtain ⟨A4, c4, rfl, le4, lm4, -⟩ := own_form fr4
              refine hK.out _ _ ⟨Hb4, fD4⟩ fun _ => ?_
              clear hK K
              try simp only [List.getElem_toArray, List.getElem_cons_zero, List.getElem_cons_succ, Act.put, List.setIfInBounds_toArray, List.set_cons_zero, List.set_cons_succ]
              refine wpAnyH_take (i := 7) (v := ?_) rfl (by kernel_rfl) (by kernel_rfl) (by kernel_rfl) (fun _ _ _ h => h) (Or.inl ⟨by rfl, ?_⟩) ⟨Hb4, fD4⟩ ?_
              rotate_left
              · intro w hSw
                go_simp
                try with_reducible rfl
              try simp only [List.getElem_toArray, List.getElem_cons_zero, List.getElem_cons_succ, Act.put, List.setIfInBounds_toArray, List.set_cons_zero, List.set_cons_succ]
              refine wpAnyH_ready (rs := [8]) (by kernel_rfl) (by simp) (AllReadyH.cons rfl (fun K hK => ?_) AllReadyH.nil)
              refine step_put_cell (by rfl) _ _ _ (by rfl) (X + 1) 3 ((.slice A4 (q + 1) c4)) (by rfl) (by rfl) _ _ fS4 (by simp) (by kernel_rfl) (by rfl) ?_
              intro w5_ fS5 hg5 hz5
              have neD5 := fD4.lt
              have fD5 := fD4.grown hg5 (by first | (simp; done) | (simp; omega))
              have fo5 := fo4.off8 hg5 fS4 (by first | exact no8_sig | exact no8_key)
              have fc5 := fc4.off8 hg5 fS4 (by first | exact no8_sig | exact no8_key)
              have fp5 := fp4.off8 hg5 fS4 (by first | exact no8_sig | exact no8_key)
              have neb5 := fb4.lt
              have fb5 := fb4.grown hg5 (by first | (simp; done) | (simp; omega))
              have fr5 := fr4.kept hg5 (.inr (fun e => absurd (own_base fr4 _ e) (Nat.not_le.2 oX)))
              have Hb5 : Below w.heap.size w w5_ := below_grown Hb4 hg5 Hb4.size (by first | (simp; done) | (simp; omega))
              have Zb5 : w6.heap.size ≤ w5_.heap.size := Nat.le_trans Zb4 hg5.size
              refine hK.out _ _ ⟨Hb5, fD5⟩ fun _ => ?_
              clear hK K
              try simp only [List.getElem_toArray, List.getElem_cons_zero, List.getElem_cons_succ, Act.put, List.setIfInBounds_toArray, List.set_cons_zero, List.set_cons_succ]
              refine wpAnyH_done (by kernel_rfl) ?_ _
              go_upto_region 26 with (fail)
              obtain ⟨w9, hw9⟩ : ∃ w9, w9 = w5_ := ⟨_, rfl⟩
              subst hw9
              have HD9 := Lib.hid fD5
              have HB9 := Lib.hid Hb5
              have HS9 := fS5
              have s0 := HS9.cellv (i := 0) rfl
              have s1 := HS9.cellv (i := 1) rfl
              have s2 := HS9.cellv (i := 2) rfl
              have s3 := HS9.cellv (i := 3) rfl
              have HCo9 := fo5
              have HCc9 := fc5
              have Hr9 := Lib.hid fr5
              have Hr9l := Lib.hid le4
              have Hr9m := Lib.hid lm4
              go_wp2_with (
                (refine wpList_load_blk rfl 37 (.tmp 9) rfl G rfl 37 (arrK .u8 D) (.array 32 5) HD9.out (by kernel_rfl) rfl (info32 Dt.out.1) ?_))
              refine (HVg.out D ol cl (pl ++ [D]) Ao Ac A4 co cc _ c4 w9 Dt.out (HM.out.below HB9.out) Hml.out (by omega) Hm8.out Hol.out Hcl.out (by rw [List.length_append, Hpq.out]; rfl) HoL.out HcL.out (HpL.out.snoc Dt.out) HCo9 HCc9 (by have := Cells.own Hr9.out; simpa using this) Hr9l.out Hr9m.out).mono ?_
              rintro e w10 ⟨he, hb10⟩
              rw [verS_long D Hver.out] at he
              subst he
              have HB10 := Lib.hid (below_of HB9.out hb10 HB9.out.size)
              clear hb10
              go_wp2_with (fail)
              go_ret
              exact ⟨rfl, HB10.out⟩
            · have ql := fS1.cellv (i := 3) rfl
              go_simp
              first | with_reducible rfl | skip
              refine hK.out _ _ ⟨Hb1, fD1⟩ fun _ => ?_
              clear hK K
              try simp only [List.getElem_toArray, List.getElem_cons_zero, List.getElem_cons_succ, Act.put, List.setIfInBounds_toArray, List.set_cons_zero, List.set_cons_succ]
              refine wpAnyH_ready (rs := [0]) (by kernel_rfl) (by simp) (AllReadyH.cons rfl (fun K hK => ?_) AllReadyH.nil)
              go_simp
              generalize hge : World.alloc _ _ = w2_
              have fr2 : w2_.ownsRow (w6.heap.size) 37 32 (.slice (some ⟨w1_.heap.size, 0, none⟩) 0 0) 0 (bytesV ([] : List (List Nat)).flatten) := by subst hge; exact ownD_empty w1_ _ Zb1
              have hb2 : Below w1_.heap.size w1_ w2_ := by subst hge; exact (Below.refl _ _).alloc (Nat.le_refl _) _
              clear hge
              have fD2 := fD1.below hb2
              have fS2 := fS1.below hb2
              have fo2 := fo1.below hb2
              have fc2 := fc1.below hb2
              have fp2 := fp1.below hb2
              have fb2 := fb1.below hb2
              have aprb2 : Apart (.slice (some ⟨w1_.heap.size, 0, none⟩) 0 0) (wd.heap.size) := apart_lit fb1.lt
              have Hb2 : Below w.heap.size w w2_ := below_of Hb1 hb2 Hb1.size
              have Zb2 : w6.heap.size ≤ w2_.heap.size := Nat.le_trans Zb1 hb2.size
              refine hK.out _ _ ⟨Hb2, fD2⟩ fun _ => ?_
              clear hK K
              try simp only [List.getElem_toArray, List.getElem_cons_zero, List.getElem_cons_succ, Act.put, List.setIfInBounds_toArray, List.set_cons_zero, List.set_cons_succ]
              refine wpAnyH_ready (rs := [3]) (by kernel_rfl) (by simp) (AllReadyH.cons rfl (fun K hK => ?_) AllReadyH.nil)
              refine step_addDs (by rfl) (.tmp 87) (.tmp 89) (by rfl) (w6.heap.size) (.slice (some ⟨w1_.heap.size, 0, none⟩) 0 0) (0) (([] : List (List Nat))) fr2 (by rfl) Ap q cp pl Hpq.out HpL.out (fp2) (by rfl) (by omega) Zb2 ?_
              intro v3 w3_ fr3 hg3 st3
              have aprb3 := apart_sits st3 aprb2 fb2.lt
              have fD3 := fD2.grown hg3 (fun e => absurd (own_base fr2 _ e.symm) (Nat.not_le.2 oG))
              have fS3 := fS2.grown hg3 (fun e => absurd (own_base fr2 _ e.symm) (Nat.not_le.2 oX))
              have fo3 := fo2.grownB hg3 apo0.out fr2
              have fc3 := fc2.grownB hg3 apc0.out fr2
              have fp3 := fp2.grownB hg3 app0.out fr2
              have fb3 := fb2.grown hg3 (fun e => aprb2 e.symm)
              have Hb3 : Below w.heap.size w w3_ := below_grown Hb2 hg3 Hb2.size (fun k hk => Nat.le_trans HB6.out.size (own_base fr2 k hk))
              have Zb3 : w6.heap.size ≤ w3_.heap.size := Nat.le_trans Zb2 hg3.size
              obtain ⟨A3, c3, rfl, le3, lm3, -⟩ := own_form fr3
              rw [Nat.zero_add] at fr3 le3 aprb3
              simp only [Nat.zero_add]
              refine hK.out _ _ ⟨Hb3, fD3⟩ fun _ => ?_
              clear hK K
              try simp only [List.getElem_toArray, List.getElem_cons_zero, List.getElem_cons_succ, Act.put, List.setIfInBounds_toArray, List.set_cons_zero, List.set_cons_succ]
              refine wpAnyH_ready (rs := [6]) (by kernel_rfl) (by simp) (AllReadyH.cons rfl (fun K hK => ?_) AllReadyH.nil)
              refine step_pushDs (by rfl) (.tmp 90) (.tmp 92) (by rfl) (w6.heap.size) (.slice A3 (q) c3) (q) ((([] : List (List Nat)) ++ pl)) (D) fr3 (by rfl) (wd.heap.size) fb3 Dt.out (by rfl) (by omega) Zb3 ?_
              intro v4 w4_ fr4 hg4 st4
              have aprb4 := apart_sits st4 aprb3 fb3.lt
              have fD4 := fD3.grown hg4 (fun e => absurd (own_base fr3 _ e.symm) (Nat.not_le.2 oG))
              have fS4 := fS3.grown hg4 (fun e => absurd (own_base fr3 _ e.symm) (Nat.not_le.2 oX))
              have fo4 := fo3.grownB hg4 apo0.out fr3
              have fc4 := fc3.grownB hg4 apc0.out fr3
              have fp4 := fp3.grownB hg4 app0.out fr3
              have fb4 := fb3.grown hg4 (fun e => aprb3 e.symm)
              have Hb4 : Below w.heap.size w w4_ := below_grown Hb3 hg4 Hb3.size (fun k hk => Nat.le_trans HB6.out.size (own_base fr3 k hk))
              have Zb4 : w6.heap.size ≤ w4_.heap.size := Nat.le_trans Zb3 hg4.size
              obtain ⟨A4, c4, rfl, le4, lm4, -⟩ := own_form fr4
              refine hK.out _ _ ⟨Hb4, fD4⟩ fun _ => ?_
              clear hK K
              try simp only [List.getElem_toArray, List.getElem_cons_zero, List.getElem_cons_succ, Act.put, List.setIfInBounds_toArray, List.set_cons_zero, List.set_cons_succ]
              refine wpAnyH_take (i := 7) (v := ?_) rfl (by kernel_rfl) (by kernel_rfl) (by kernel_rfl) (fun _ _ _ h => h) (Or.inl ⟨by rfl, ?_⟩) ⟨Hb4, fD4⟩ ?_
              rotate_left
              · intro w hSw
                go_simp
                try with_reducible rfl
              try simp only [List.getElem_toArray, List.getElem_cons_zero, List.getElem_cons_succ, Act.put, List.setIfInBounds_toArray, List.set_cons_zero, List.set_cons_succ]
              refine wpAnyH_ready (rs := [8]) (by kernel_rfl) (by simp) (AllReadyH.cons rfl (fun K hK => ?_) AllReadyH.nil)
              refine step_put_cell (by rfl) _ _ _ (by rfl) (X + 1) 3 ((.slice A4 (q + 1) c4)) (by rfl) (by rfl) _ _ fS4 (by simp) (by kernel_rfl) (by rfl) ?_
              intro w5_ fS5 hg5 hz5
              have neD5 := fD4.lt
              have fD5 := fD4.grown hg5 (by first | (simp; done) | (simp; omega))
              have fo5 := fo4.off8 hg5 fS4 (by first | exact no8_sig | exact no8_key)
              have fc5 := fc4.off8 hg5 fS4 (by first | exact no8_sig | exact no8_key)
              have fp5 := fp4.off8 hg5 fS4 (by first | exact no8_sig | exact no8_key)
              have neb5 := fb4.lt
              have fb5 := fb4.grown hg5 (by first | (simp; done) | (simp; omega))
              have fr5 := fr4.kept hg5 (.inr (fun e => absurd (own_base fr4 _ e) (Nat.not_le.2 oX)))
              have Hb5 : Below w.heap.size w w5_ := below_grown Hb4 hg5 Hb4.size (by first | (simp; done) | (simp; omega))
              have Zb5 : w6.heap.size ≤ w5_.heap.size := Nat.le_trans Zb4 hg5.size
              refine hK.out _ _ ⟨Hb5, fD5⟩ fun _ => ?_
              clear hK K
              try simp only [List.getElem_toArray, List.getElem_cons_zero, List.getElem_cons_succ, Act.put, List.setIfInBounds_toArray, List.set_cons_zero, List.set_cons_succ]
              refine wpAnyH_done (by kernel_rfl) ?_ _
              go_upto_region 26 with (fail)
              obtain ⟨w9, hw9⟩ : ∃ w9, w9 = w5_ := ⟨_, rfl⟩
              subst hw9
              have HD9 := Lib.hid fD5
              have HB9 := Lib.hid Hb5
              have HS9 := fS5
              have s0 := HS9.cellv (i := 0) rfl
              have s1 := HS9.cellv (i := 1) rfl
              have s2 := HS9.cellv (i := 2) rfl
              have s3 := HS9.cellv (i := 3) rfl
              have HCo9 := fo5
              have HCc9 := fc5
              have Hr9 := Lib.hid fr5
              have Hr9l := Lib.hid le4
              have Hr9m := Lib.hid lm4
              go_wp2_with (
                (refine wpList_load_blk rfl 37 (.tmp 9) rfl G rfl 37 (arrK .u8 D) (.array 32 5) HD9.out (by kernel_rfl) rfl (info32 Dt.out.1) ?_))
              refine (HVg.out D ol cl (pl ++ [D]) Ao Ac A4 co cc _ c4 w9 Dt.out (HM.out.below HB9.out) Hml.out (by omega) Hm8.out Hol.out Hcl.out (by rw [List.length_append, Hpq.out]; rfl) HoL.out HcL.out (HpL.out.snoc Dt.out) HCo9 HCc9 (by have := Cells.own Hr9.out; simpa using this) Hr9l.out Hr9m.out).mono ?_
              rintro e w10 ⟨he, hb10⟩
              rw [verS_long D Hver.out] at he
              subst he
              have HB10 := Lib.hid (below_of HB9.out hb10 HB9.out.size)
              clear hb10
              go_wp2_with (fail)
              go_ret
              exact ⟨rfl, HB10.out⟩
        · go_wp2_with (
            (refine wpList_load_blk rfl 37 (.tmp 9) rfl G rfl 37 (arrK .u8 D) (.array 32 5) (HD6.out.far (by simp; omega) _) (by kernel_rfl) rfl (info32 Dt.out.1) ?_))
          generalize hge : World.setCell _ _ _ = w7
          have hg7 : w6.grownBy w7 (some (X + 1)) := by subst hge; exact grown_setOne _
          have HB7 := Lib.hid (below_grown HB6.out hg7 HB6.out.size (by simp; omega))
          clear hge hg7
          refine (Verify_bad D _ _ B k d Ao Ac Ap _ co 64 cc q cp w7 (by omega)).mono ?_
          rintro e w8 ⟨rfl, hb8⟩
          have HB8 := Lib.hid (below_of HB7.out hb8 HB7.out.size)
          clear hb8
          go_wp2_with (fail)
          go_ret
          exact ⟨rfl, HB8.out⟩
        · go_wp2_with (
            (refine wpList_load_blk rfl 37 (.tmp 9) rfl G rfl 37 (arrK .u8 D) (.array 32 5) (HD6.out.far (by simp; omega) _) (by kernel_rfl) rfl (info32 Dt.out.1) ?_))
          generalize hge : World.setCell _ _ _ = w7
          have hg7 : w6.grownBy w7 (some (X + 1)) := by subst hge; exact grown_setOne _
          have HB7 := Lib.hid (below_grown HB6.out hg7 HB6.out.size (by simp; omega))
          clear hge hg7
          refine (Verify_bad D _ _ B k d Ao Ac Ap _ co 64 cc q cp w7 (by omega)).mono ?_
          rintro e w8 ⟨rfl, hb8⟩
          have HB8 := Lib.hid (below_of HB7.out hb8 HB7.out.size)
          clear hb8
          go_wp2_with (fail)
          go_ret
          exact ⟨rfl, HB8.out⟩
        · go_wp2_with (
            (refine wpList_load_blk rfl 37 (.tmp 9) rfl G rfl 37 (arrK .u8 D) (.array 32 5) HD6.out (by kernel_rfl) rfl (info32 Dt.out.1) ?_))
          refine (Verify_bad D _ _ B k d Ao Ac Ap _ co 64 cc q cp w6 (by omega)).mono ?_
          rintro e w8 ⟨rfl, hb8⟩
          have HB8 := Lib.hid (below_of HB6.out hb8 HB6.out.size)
          clear hb8
          go_wp2_with (fail)
          go_ret
          exact ⟨rfl, HB8.out⟩
        · go_wp2_with (
            (refine wpList_load_blk rfl 37 (.tmp 9) rfl G rfl 37 (arrK .u8 D) (.array 32 5) HD6.out (by kernel_rfl) rfl (info32 Dt.out.1) ?_))
          refine (Verify_bad D _ _ B k d Ao Ac Ap _ co 64 cc q cp w6 (by omega)).mono ?_
          rintro e w8 ⟨rfl, hb8⟩
          have HB8 := Lib.hid (below_of HB6.out hb8 HB6.out.size)
          clear hb8
          go_wp2_with (fail)
          go_ret
          exact ⟨rfl, HB8.out⟩
        · have e0 : (how == 0) = false := by simpa using n0
          have e1 : (how == 1) = false := by simpa using n1
          have e2 : (how == 2) = false := by simpa using n2
          have e3 : (how == 3) = false := by simpa using n3
          have e4 : (how == 4) = false := by simpa using n4
          have e5 : (how == 5) = false := by simpa using n5
          have e6 : (how == 6) = false := by simpa using n6
          clear n0 n1 n2 n3 n4 n5 n6
          go_wp2_with (
            (refine wpList_load_blk rfl 37 (.tmp 9) rfl G rfl 37 (arrK .u8 D) (.array 32 5) HD6.out (by kernel_rfl) rfl (info32 Dt.out.1) ?_))
          refine (HVg.out D ol cl pl Ao Ac Ap co cc q cp w6 Dt.out (HM.out.below HB6.out) Hml.out (by omega) Hm8.out Hol.out Hcl.out Hpq.out HoL.out HcL.out HpL.out HCo6.out HCc6.out HCp6.out Hqc.out Hcp.out).mono ?_
          rintro e w8 ⟨he, hb8⟩
          rw [Hver.out] at he
          subst he
          have HB8 := Lib.hid (below_of HB6.out hb8 HB6.out.size)
          clear hb8
          go_wp2_with (fail)
          go_ret
          exact ⟨rfl, HB8.out⟩
-- the row
theorem signingShape_own : ownKnob Try.prog.godebug = none := by kernel_rfl
theorem signingShape_laidOut : laidOutB Try.prog = true := by kernel_rfl
theorem signingShape_readable : (Try.f10.params.toList.all fun t => Try.prog.readableRec t && decide (t < Try.prog.types.size)) = true := by kernel_rfl
set_option maxRecDepth 100000 in
theorem signingShape_lifted (os : Os) (started : os.Started) (H : Type) (enc : TypeId × Value → H) :
    ReturnsInHanded {} Try.checked os 10 .any (Rows.signingShapeSpec.pre6 enc Try.prog Try.f10 Rows.signingShapeRow.domain false) (Rows.signingShapeSpec.post enc Try.prog Try.f10 false true false false) := by
  refine returnsInHanded_of_change (C := Try.checked) signingShape_own started (by kernel_rfl) Try.func10
    (ChangeSpec.witness6 (enc := enc) (C := Try.checked) false ⟨#[], #[.agg #[.slice none 0 0, .int .i64 0, .int .i64 0], .slice none 0 0, .int .i64 0, .int .i64 0], []⟩ 8 (by kernel_rfl) (by kernel_rfl) (by kernel_rfl) (by kernel_rfl)) ?_
  intro W base args ds gs before hval0 hW hcnd _
  have hval : ∀ (j : Nat) t v, Try.f10.params[j]? = some t → args[j]? = some v → Value.okWide Try.prog W .any base t v := hval0
  have hW' := hW
  obtain ⟨p, q, hA0, hV, rfl, hfz, hnd⟩ := hW
  have hA : DataW.TrodAll enc Try.prog W 0 (fun _ => true) true Try.f10.params.toList args.toList ds p := hA0
  rw [Try.params10] at hA hval
  obtain ⟨v0, vs0, d0, ds0, p0, q0, hargs, rfl, rfl, h0, r0⟩ := trodAll_cons hA
  obtain ⟨v1, vs1, d1, ds1, p1, q1, rfl, rfl, rfl, h1, r1⟩ := trodAll_cons r0
  obtain ⟨v2, vs2, d2, ds2, p2, q2, rfl, rfl, rfl, h2, r2⟩ := trodAll_cons r1
  obtain ⟨v3, vs3, d3, ds3, p3, q3, rfl, rfl, rfl, h3, r3⟩ := trodAll_cons r2
  obtain ⟨rfl, rfl, rfl⟩ := trodAll_nil r3
  obtain rfl : args = #[v0, v1, v2, v3] := by cases args; simp_all
  obtain ⟨rfl, rfl⟩ := trodVars_none hV
  obtain ⟨A0, n0, c0, m0, u0, s0, rfl, l0, nc0, cm0, g0, b0, wm0, wu0⟩ := open_key (hval 0 24 v0 rfl rfl) h0
  obtain ⟨A1, n1, c1, xs1, rfl, l1, nc1, cm1, g1, w1⟩ := open_intslice Try.underlying22 Try.underlying5 (by kernel_rfl) (hval 1 22 v1 rfl rfl) h1
  obtain ⟨a2, rfl, rfl, rfl, w2⟩ := open_int Try.underlying3 (hval 2 3 v2 rfl rfl) h2
  obtain ⟨a3, rfl, rfl, rfl, w3⟩ := open_int Try.underlying3 (hval 3 3 v3 rfl rfl) h3
  refine (SigningShape_walk W A0 n0 c0 m0 u0 s0 l0 nc0 cm0 g0 b0 wm0 wu0 A1 n1 c1 xs1 l1 nc1 cm1 g1 w1 a2 w2 a3 w3).mono fun e W' ⟨he, hb⟩ => ?_
  subst he
  simp only [List.append_nil] at hW'
  refine ⟨_, rfl, law_post signingShape_laidOut ?_ (by kernel_rfl) Try.underlying4 rfl hW' rfl rfl rfl hb⟩
  intro t ht
  have hr := List.all_eq_true.1 signingShape_readable t ht
  rw [Bool.and_eq_true] at hr
  exact ⟨hr.1, of_decide_eq_true hr.2⟩
theorem signingShape_over : Rows.signingShapeRow.holds Try.pinned (OpenSpec.ofChange Rows.signingShapeSpec) :=
  OpenClaim.holds_of_wide 10 Try.f10 rfl rfl rfl rfl rfl rfl rfl ⟨rfl, rfl, rfl, rfl, rfl⟩ rfl rfl rfl rfl rfl (by kernel_rfl) Try.func10 (by kernel_rfl)
    (of_decide_eq_true (by kernel_rfl)) (by unfold Func.isWrapper; rw [if_neg (of_decide_eq_false (by kernel_rfl))]; exact ⟨rfl, rfl⟩)
    (fun os started H enc _ => signingShape_lifted os started H enc)
theorem signingShape_proved : Rows.SigningShapeSaid := signingShape_over
#print axioms signingShape_proved
end Go.Proofs.Ytcijhakofoklcaa
