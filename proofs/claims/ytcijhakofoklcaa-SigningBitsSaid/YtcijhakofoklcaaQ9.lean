/- The statement SigningBitsSaid: for every key, message and other message, the signature verifies for the other message whenever both have the same bits; no condition beside the row's own. -/
import Derived.Test.YtcijhakofoklcaaSig10
import Derived.Test.YtcijhakofoklcaaRow3
import Derived.ChangeMaps5
namespace Go.Proofs.Ytcijhakofoklcaa
open Go.RowKit Go.WideShapes Go.ChangeShapes Go.ChangeAt
theorem fewK_true {n : Nat} {m : Int} {k : Nat} (h : fewK n m k = true) : m ≤ 2 ∧ n ≤ 100 ∧ k ≤ 300 := by unfold fewK at h; exact of_decide_eq_true h
theorem okKey_next {n m u : Nat} (h : okKey n m u = true) (hu : u < m) : okKey n m ((u : Int) + 1) = true := by
  obtain ⟨h1, h2, h3, h4, h5, h6⟩ := okKey_true h
  unfold okKey
  exact decide_eq_true ⟨h1, h2, h3, h4, by omega, by omega⟩
theorem pubR_ok {n m : Nat} {u : Int} {s : List Nat} (h : okKey n m u = true) : pubR n m u s = treeS (pubL s m) := by unfold pubR; rw [h]; simp
theorem pubR_no {n : Nat} {m u : Int} {s : List Nat} (h : okKey n m u = false) : pubR n m u s = z32 := by unfold pubR; rw [h]; rfl
theorem errKey_true : errKey true = 0 := rfl
theorem errKey_false : errKey false = 40 := rfl
set_option linter.unusedSimpArgs false in
set_option maxRecDepth 100000 in
set_option maxHeartbeats 4000000 in
theorem SigningBits_walk (w : World) (A : Option Addr) (n c : Nat) (m u : Int) (s : List Nat) (hl : s.length = n) (_hnc : n ≤ c) (_hcm : c ≤ maxLen) (hA0 : Cells w A (bytesV s)) (h80 : ByteL s) (_wm : (Lit.int .i64 m).wf = true) (_wu : (Lit.int .i64 u).wf = true) (Bm : Option Addr) (km dm : Nat) (xsm : List Int) (hlm : xsm.length = km) (_hnm : km ≤ dm) (_hmm : dm ≤ maxLen) (hBm : Cells w Bm (xsm.map (Value.int .u8))) (hwm : ∀ x ∈ xsm, (Lit.int .u8 x).wf = true) (Bo : Option Addr) (ko dO : Nat) (xso : List Int) (hlo : xso.length = ko) (_hno : ko ≤ dO) (_hmo : dO ≤ maxLen) (hBo : Cells w Bo (xso.map (Value.int .u8))) (hwo : ∀ x ∈ xso, (Lit.int .u8 x).wf = true) :
    Calls Try.prog 9 #[.agg #[.slice A n c, .int .i64 m, .int .i64 u], .slice Bm km dm, .slice Bo ko dO] w (Fine w) := by
  obtain ⟨msgm, hmlm, hm8m, hMm⟩ := open_bytes hBm hwm
  have HMm := Lib.hid hMm
  have Hmlm := Lib.hid (hmlm.trans hlm)
  have Hm8m := Lib.hid hm8m
  clear hMm hmlm hlm hm8m hBm hwm
  obtain ⟨msgo, hmlo, hm8o, hMo⟩ := open_bytes hBo hwo
  have HMo := Lib.hid hMo
  have Hmlo := Lib.hid (hmlo.trans hlo)
  have Hm8o := Lib.hid hm8o
  clear hMo hmlo hlo hm8o hBo hwo
  have HA := Lib.hid hA0
  have Hs := Lib.hid hl
  have Hs8 := Lib.hid h80
  clear hA0 hl h80
  have HFw := Lib.hid (fun W => few_any A n c m u Bm km dm W)
  have HFw2 := Lib.hid (fun W => few_any A n c m u Bo ko dO W)
  cases hfw : fewK n m km with
  | false =>
    rw [hfw] at HFw
    clear hfw
    go_enter Try.func9, Try.ntmps9
    go_wp2_with (fail)
    generalize hge : World.alloc _ _ = w0
    have HK0 := Lib.hid (show Blk w0 w.heap.size 24 #[.slice A n c, .int .i64 m, .int .i64 u] by subst hge; exact Blk.new w _ _)
    have HB0 := Lib.hid (show Below w.heap.size w w0 by subst hge; exact (Below.refl _ _).alloc (Nat.le_refl _) _)
    clear hge
    refine (ssane_any w0).mono ?_
    rintro e w1 ⟨rfl, hb1⟩
    have HK1 := Lib.hid (HK0.out.below hb1)
    have HB1 := Lib.hid (below_of HB0.out hb1 HB0.out.size)
    clear hb1
    have q0 := HK1.out.cellv (i := 0) rfl
    have q1 := HK1.out.cellv (i := 1) rfl
    have q2 := HK1.out.cellv (i := 2) rfl
    go_wp2_with (fail)
    refine (HFw.out w1).mono ?_
    rintro e w1b ⟨rfl, hb1b⟩
    have HK1b := Lib.hid (HK1.out.below hb1b)
    have HB1b := Lib.hid (below_of HB1.out hb1b HB1.out.size)
    clear hb1b q0 q1 q2
    go_wp2_with (fail)
    go_ret
    exact ⟨rfl, HB1b.out⟩
  | true =>
   cases hfw2 : fewK n m ko with
   | false =>
    rw [hfw] at HFw
    rw [hfw2] at HFw2
    clear hfw hfw2
    go_enter Try.func9, Try.ntmps9
    go_wp2_with (fail)
    generalize hge : World.alloc _ _ = w0
    have HK0 := Lib.hid (show Blk w0 w.heap.size 24 #[.slice A n c, .int .i64 m, .int .i64 u] by subst hge; exact Blk.new w _ _)
    have HB0 := Lib.hid (show Below w.heap.size w w0 by subst hge; exact (Below.refl _ _).alloc (Nat.le_refl _) _)
    clear hge
    refine (ssane_any w0).mono ?_
    rintro e w1 ⟨rfl, hb1⟩
    have HK1 := Lib.hid (HK0.out.below hb1)
    have HB1 := Lib.hid (below_of HB0.out hb1 HB0.out.size)
    clear hb1
    have q0 := HK1.out.cellv (i := 0) rfl
    have q1 := HK1.out.cellv (i := 1) rfl
    have q2 := HK1.out.cellv (i := 2) rfl
    go_wp2_with (fail)
    refine (HFw.out w1).mono ?_
    rintro e w1b ⟨rfl, hb1b⟩
    have HK1b := Lib.hid (HK1.out.below hb1b)
    have HB1b := Lib.hid (below_of HB1.out hb1b HB1.out.size)
    clear hb1b q0 q1 q2
    have q0 := HK1b.out.cellv (i := 0) rfl
    have q1 := HK1b.out.cellv (i := 1) rfl
    have q2 := HK1b.out.cellv (i := 2) rfl
    go_wp2_with (fail)
    refine (HFw2.out w1b).mono ?_
    rintro e w2 ⟨rfl, hb2⟩
    have HK2 := Lib.hid (HK1b.out.below hb2)
    have HB2 := Lib.hid (below_of HB1b.out hb2 HB1b.out.size)
    clear hb2 q0 q1 q2
    go_wp2_with (fail)
    go_ret
    exact ⟨rfl, HB2.out⟩
   | true =>
    rw [hfw] at HFw
    rw [hfw2] at HFw2
    obtain ⟨hf1, hf2, hf3⟩ := fewK_true hfw
    obtain ⟨-, -, hf4⟩ := fewK_true hfw2
    clear hfw hfw2
    cases hok : okKey n m u with
    | false =>
      have HPu := Lib.hid (fun W h => Public_any A n c m u s W h Hs.out Hs8.out)
      rw [hok, pubR_no hok, errKey_false] at HPu
      have HSb := Lib.hid (fun W => Sign_bad A n c m u Bm km dm W (.inl hok))
      have dD := Lib.hid z32_isD
      go_enter Try.func9, Try.ntmps9
      go_wp2_with (fail)
      generalize hge : World.alloc _ _ = w0
      have HK0 := Lib.hid (show Blk w0 w.heap.size 24 #[.slice A n c, .int .i64 m, .int .i64 u] by subst hge; exact Blk.new w _ _)
      have HB0 := Lib.hid (show Below w.heap.size w w0 by subst hge; exact (Below.refl _ _).alloc (Nat.le_refl _) _)
      clear hge
      refine (ssane_any w0).mono ?_
      rintro e w1 ⟨rfl, hb1⟩
      have HK1 := Lib.hid (HK0.out.below hb1)
      have HB1 := Lib.hid (below_of HB0.out hb1 HB0.out.size)
      clear hb1
      have q0 := HK1.out.cellv (i := 0) rfl
      have q1 := HK1.out.cellv (i := 1) rfl
      have q2 := HK1.out.cellv (i := 2) rfl
      go_wp2_with (fail)
      refine (HFw.out w1).mono ?_
      rintro e w1b ⟨rfl, hb1b⟩
      have HK1b := Lib.hid (HK1.out.below hb1b)
      have HB1b := Lib.hid (below_of HB1.out hb1b HB1.out.size)
      clear hb1b q0 q1 q2
      have q0 := HK1b.out.cellv (i := 0) rfl
      have q1 := HK1b.out.cellv (i := 1) rfl
      have q2 := HK1b.out.cellv (i := 2) rfl
      go_wp2_with (fail)
      refine (HFw2.out w1b).mono ?_
      rintro e w2 ⟨rfl, hb2⟩
      have HK2 := Lib.hid (HK1b.out.below hb2)
      have HB2 := Lib.hid (below_of HB1b.out hb2 HB1b.out.size)
      clear hb2 q0 q1 q2
      have q0 := HK2.out.cellv (i := 0) rfl
      have q1 := HK2.out.cellv (i := 1) rfl
      have q2 := HK2.out.cellv (i := 2) rfl
      go_wp2_with (fail)
      refine (HPu.out w2 (HA.out.below HB2.out)).mono ?_
      rintro e w3 ⟨rfl, hb3⟩
      have HK3 := Lib.hid (HK2.out.below hb3)
      have HB3 := Lib.hid (below_of HB2.out hb3 HB2.out.size)
      clear hb3 q0 q1 q2
      go_upto_region 6 with (
        (refine wpList_put_blk rfl 37 (.tmp 7) (.tmp 27) rfl w3.heap.size (arrK .u8 z32) rfl rfl 37 (arrK .u8 z32) (Blk.new w3 37 (arrK .u8 z32)) (info32 dD.out.1) (by rw [len32 dD.out.1]; try rw [len32 z32_length]) (arrK_all _ _) ?_
         intro w4 HD4 hg4 hz4
         have hb4 : Below w3.heap.size w3 w4 := below_grown ((Below.refl w3.heap.size w3).alloc (Nat.le_refl _) (.cells (arrK .u8 z32) 37)) hg4 (by simp) (by simp)
         have HD4 := Lib.hid HD4
         have HK4 := Lib.hid (HK3.out.below hb4)
         have HB4 := Lib.hid (below_of HB3.out hb4 HB3.out.size)
         clear hg4 hz4 hb4))
      have q0 := HK4.out.cellv (i := 0) rfl
      have q1 := HK4.out.cellv (i := 1) rfl
      have q2 := HK4.out.cellv (i := 2) rfl
      go_wp2_with (fail)
      refine (HSb.out w4).mono ?_
      rintro e w5 ⟨rfl, hb5⟩
      have HB5 := Lib.hid (below_of HB4.out hb5 HB4.out.size)
      clear hb5 q0 q1 q2
      go_wp2_with (fail)
      go_ret
      exact ⟨rfl, below_two HB5.out HB5.out.size _ _⟩
    | true =>
      obtain ⟨h1, h2, h3, h4, h5, h6⟩ := okKey_true hok
      obtain ⟨m, rfl⟩ := Int.eq_ofNat_of_zero_le (show 0 ≤ m by omega)
      obtain ⟨u, rfl⟩ := Int.eq_ofNat_of_zero_le h5
      have HPu := Lib.hid (fun W h => Public_any A n c m u s W h Hs.out Hs8.out)
      rw [hok, pubR_ok hok, errKey_true] at HPu
      by_cases hum : u = m
      · subst hum
        have HSb := Lib.hid (fun W => Sign_bad A n c u u Bm km dm W (.inr ⟨hok, by omega, rfl⟩))
        have dD := Lib.hid (treeS_isD (pubL s u))
        go_enter Try.func9, Try.ntmps9
        go_wp2_with (fail)
        generalize hge : World.alloc _ _ = w0
        have HK0 := Lib.hid (show Blk w0 w.heap.size 24 #[.slice A n c, .int .i64 u, .int .i64 u] by subst hge; exact Blk.new w _ _)
        have HB0 := Lib.hid (show Below w.heap.size w w0 by subst hge; exact (Below.refl _ _).alloc (Nat.le_refl _) _)
        clear hge
        refine (ssane_any w0).mono ?_
        rintro e w1 ⟨rfl, hb1⟩
        have HK1 := Lib.hid (HK0.out.below hb1)
        have HB1 := Lib.hid (below_of HB0.out hb1 HB0.out.size)
        clear hb1
        have q0 := HK1.out.cellv (i := 0) rfl
        have q1 := HK1.out.cellv (i := 1) rfl
        have q2 := HK1.out.cellv (i := 2) rfl
        go_wp2_with (fail)
        refine (HFw.out w1).mono ?_
        rintro e w1b ⟨rfl, hb1b⟩
        have HK1b := Lib.hid (HK1.out.below hb1b)
        have HB1b := Lib.hid (below_of HB1.out hb1b HB1.out.size)
        clear hb1b q0 q1 q2
        have q0 := HK1b.out.cellv (i := 0) rfl
        have q1 := HK1b.out.cellv (i := 1) rfl
        have q2 := HK1b.out.cellv (i := 2) rfl
        go_wp2_with (fail)
        refine (HFw2.out w1b).mono ?_
        rintro e w2 ⟨rfl, hb2⟩
        have HK2 := Lib.hid (HK1b.out.below hb2)
        have HB2 := Lib.hid (below_of HB1b.out hb2 HB1b.out.size)
        clear hb2 q0 q1 q2
        have q0 := HK2.out.cellv (i := 0) rfl
        have q1 := HK2.out.cellv (i := 1) rfl
        have q2 := HK2.out.cellv (i := 2) rfl
        go_wp2_with (fail)
        refine (HPu.out w2 (HA.out.below HB2.out)).mono ?_
        rintro e w3 ⟨rfl, hb3⟩
        have HK3 := Lib.hid (HK2.out.below hb3)
        have HB3 := Lib.hid (below_of HB2.out hb3 HB2.out.size)
        clear hb3 q0 q1 q2
        go_upto_region 6 with (
          (refine wpList_put_blk rfl 37 (.tmp 7) (.tmp 27) rfl w3.heap.size (arrK .u8 (treeS (pubL s u))) rfl rfl 37 (arrK .u8 z32) (Blk.new w3 37 (arrK .u8 z32)) (info32 dD.out.1) (by rw [len32 dD.out.1]; try rw [len32 z32_length]) (arrK_all _ _) ?_
           intro w4 HD4 hg4 hz4
           have hb4 : Below w3.heap.size w3 w4 := below_grown ((Below.refl w3.heap.size w3).alloc (Nat.le_refl _) (.cells (arrK .u8 z32) 37)) hg4 (by simp) (by simp)
           have HD4 := Lib.hid HD4
           have HK4 := Lib.hid (HK3.out.below hb4)
           have HB4 := Lib.hid (below_of HB3.out hb4 HB3.out.size)
           clear hg4 hz4 hb4))
        have q0 := HK4.out.cellv (i := 0) rfl
        have q1 := HK4.out.cellv (i := 1) rfl
        have q2 := HK4.out.cellv (i := 2) rfl
        go_wp2_with (fail)
        refine (HSb.out w4).mono ?_
        rintro e w5 ⟨rfl, hb5⟩
        have HB5 := Lib.hid (below_of HB4.out hb5 HB4.out.size)
        clear hb5 q0 q1 q2
        go_wp2_with (fail)
        go_ret
        exact ⟨rfl, below_two HB5.out HB5.out.size _ _⟩
      · have hu : u < m := by omega
        have HSi := Lib.hid (fun W h h' => Sign_good A n c m u s Bm km dm msgm W h Hs.out Hs8.out hok hu h' Hmlm.out (by omega) Hm8m.out)
        obtain ⟨x, hx⟩ : ∃ x, bitL (msgS (treeS (pubL s m)) u msgm) 64 = x := ⟨_, rfl⟩
        obtain ⟨y, hy⟩ : ∃ y, bitL (msgS (treeS (pubL s m)) u msgo) 64 = y := ⟨_, rfl⟩
        have Hlx := Lib.hid (show x.length = 64 by rw [← hx, bitL_length])
        have Hly := Lib.hid (show y.length = 64 by rw [← hy, bitL_length])
        have HBi := Lib.hid (fun W h => Bits_good (treeS (pubL s m)) u msgm Bm km dm W (treeS_isD _) (by omega) h Hmlm.out (by omega) Hm8m.out)
        have HBo := Lib.hid (fun W h => Bits_good (treeS (pubL s m)) u msgo Bo ko dO W (treeS_isD _) (by omega) h Hmlo.out (by omega) Hm8o.out)
        rw [hx] at HBi
        rw [hy] at HBo
        rw [hx] at HSi
        have Hver := Lib.hid (fun (he : y = x) => ver_sign s m u msgo x hu (by omega) (by rw [Hmlo.out]; omega) (fun j _ => by rw [hy, he]))
        have Dt := Lib.hid (treeS_isD (pubL s m))
        have HVg := Lib.hid (fun D o cl p Ao Ac Ap co cc q cp W (hD : IsD D) => Verify_good D m u msgo Bo ko dO o cl p Ao Ac Ap co cc q cp W hD (by omega) (by omega) hu)
        have Hol := Lib.hid (openL_length s u x 64)
        have Hcl := Lib.hid (closL_length s u x 64)
        have HoL := Lib.hid (openL_isL s u x 64)
        have HcL := Lib.hid (closL_isL s u x 64)
        have HpL := Lib.hid (pathR_isL (pubL s m) (u : Int))
        clear hx hy hok h5 h6 h3
        generalize treeS (pubL s m) = D at *
        generalize openL s u x 64 = ol at *
        generalize closL s u x 64 = cl at *
        generalize pathR (pubL s m) (u : Int) = pl at *
        go_enter Try.func9, Try.ntmps9
        go_wp2_with (fail)
        generalize hge : World.alloc _ _ = w0
        have HK0 := Lib.hid (show Blk w0 w.heap.size 24 #[.slice A n c, .int .i64 m, .int .i64 u] by subst hge; exact Blk.new w _ _)
        have HB0 := Lib.hid (show Below w.heap.size w w0 by subst hge; exact (Below.refl _ _).alloc (Nat.le_refl _) _)
        clear hge
        refine (ssane_any w0).mono ?_
        rintro e w1 ⟨rfl, hb1⟩
        have HK1 := Lib.hid (HK0.out.below hb1)
        have HB1 := Lib.hid (below_of HB0.out hb1 HB0.out.size)
        clear hb1
        have q0 := HK1.out.cellv (i := 0) rfl
        have q1 := HK1.out.cellv (i := 1) rfl
        have q2 := HK1.out.cellv (i := 2) rfl
        go_wp2_with (fail)
        refine (HFw.out w1).mono ?_
        rintro e w1b ⟨rfl, hb1b⟩
        have HK1b := Lib.hid (HK1.out.below hb1b)
        have HB1b := Lib.hid (below_of HB1.out hb1b HB1.out.size)
        clear hb1b q0 q1 q2
        have q0 := HK1b.out.cellv (i := 0) rfl
        have q1 := HK1b.out.cellv (i := 1) rfl
        have q2 := HK1b.out.cellv (i := 2) rfl
        go_wp2_with (fail)
        refine (HFw2.out w1b).mono ?_
        rintro e w2 ⟨rfl, hb2⟩
        have HK2 := Lib.hid (HK1b.out.below hb2)
        have HB2 := Lib.hid (below_of HB1b.out hb2 HB1b.out.size)
        clear hb2 q0 q1 q2
        have q0 := HK2.out.cellv (i := 0) rfl
        have q1 := HK2.out.cellv (i := 1) rfl
        have q2 := HK2.out.cellv (i := 2) rfl
        go_wp2_with (fail)
        refine (HPu.out w2 (HA.out.below HB2.out)).mono ?_
        rintro e w3 ⟨rfl, hb3⟩
        have HK3 := Lib.hid (HK2.out.below hb3)
        have HB3 := Lib.hid (below_of HB2.out hb3 HB2.out.size)
        clear hb3 q0 q1 q2
        go_upto_region 6 with (
          (refine wpList_put_blk rfl 37 (.tmp 7) (.tmp 27) rfl w3.heap.size (arrK .u8 D) rfl rfl 37 (arrK .u8 z32) (Blk.new w3 37 (arrK .u8 z32)) (info32 Dt.out.1) (by rw [len32 Dt.out.1]; try rw [len32 z32_length]) (arrK_all _ _) ?_
           intro w4 HD4 hg4 hz4
           have hb4 : Below w3.heap.size w3 w4 := below_grown ((Below.refl w3.heap.size w3).alloc (Nat.le_refl _) (.cells (arrK .u8 z32) 37)) hg4 (by simp) (by simp)
           have HD4 := Lib.hid HD4
           have HK4 := Lib.hid (HK3.out.below hb4)
           have HB4 := Lib.hid (below_of HB3.out hb4 HB3.out.size)
           clear hg4 hz4 hb4))
        obtain ⟨G, hG⟩ : ∃ G, w3.heap.size = G := ⟨_, rfl⟩
        rw [hG] at HD4 ⊢
        clear hG
        have q0 := HK4.out.cellv (i := 0) rfl
        have q1 := HK4.out.cellv (i := 1) rfl
        have q2 := HK4.out.cellv (i := 2) rfl
        go_wp2_with (fail)
        refine (HSi.out w4 (HA.out.below HB4.out) (HMm.out.below HB4.out)).mono ?_
        rintro e w5 ⟨Ao, co, Ac, cc, Ap, q, cp, rfl, hpq, hqc, hcp, -, -, -, -, hCo, hCc, hCp, hb5⟩
        have HK5 := Lib.hid (HK4.out.below hb5)
        have HD5 := Lib.hid (HD4.out.below hb5)
        have HB5 := Lib.hid (below_of HB4.out hb5 HB4.out.size)
        have Hpq := Lib.hid hpq
        have Hqc := Lib.hid hqc
        have Hcp := Lib.hid hcp
        have HCo := Lib.hid hCo
        have HCc := Lib.hid hCc
        have HCp := Lib.hid hCp
        clear hb5 q0 q1 q2 hpq hqc hcp hCo hCc hCp
        go_upto_region 9 with (fail)
        generalize hge : World.alloc _ _ = w6
        have HS6 := Lib.hid (show Blk w6 (w5.heap.size + 1) 30 #[.int .i64 u, .slice Ao 64 co, .slice Ac 64 cc, .slice Ap q cp] by subst hge; exact (blk_two w5 _ _ 24 30).2)
        have hb6 : Below w5.heap.size w5 w6 := by subst hge; exact below_two (Below.refl _ _) (Nat.le_refl _) _ _
        have HK6 := Lib.hid (HK5.out.below hb6)
        have HD6 := Lib.hid (HD5.out.below hb6)
        have HCo6 := Lib.hid (HCo.out.below hb6)
        have HCc6 := Lib.hid (HCc.out.below hb6)
        have HCp6 := Lib.hid (HCp.out.below hb6)
        have HB6 := Lib.hid (below_of HB5.out hb6 HB5.out.size)
        clear hge hb6
        obtain ⟨X, hX⟩ : ∃ X, w5.heap.size = X := ⟨_, rfl⟩
        rw [hX] at HS6 ⊢
        clear hX
        refine wp_region_held_drew (S := fun W => Below w.heap.size w W ∧ Blk W G 37 (arrK .u8 D) ∧ Blk W (X + 1) 30 #[.int .i64 u, .slice Ao 64 co, .slice Ac 64 cc, .slice Ap q cp]) (by kernel_rfl) (⟨below_drewN HB6.out 1, HD6.out, HS6.out⟩) (fun Hd => ?_)
        have Hd : Below w.heap.size w w6.drew := below_drewN HB6.out 1
        have Zd : w6.heap.size ≤ w6.drew.heap.size := Nat.le_refl _
        have fK : Blk w6.drew w.heap.size 24 #[.slice A n c, .int .i64 m, .int .i64 u] := HK6.out
        have fD : Blk w6.drew G 37 (arrK .u8 D) := HD6.out
        have fS : Blk w6.drew (X + 1) 30 #[.int .i64 u, .slice Ao 64 co, .slice Ac 64 cc, .slice Ap q cp] := HS6.out
        have fo : Cells w6.drew Ao (bytesV ol.flatten) := HCo6.out
        have fc : Cells w6.drew Ac (bytesV cl.flatten) := HCc6.out
        have fp : Cells w6.drew Ap (bytesV pl.flatten) := HCp6.out
        generalize World.drew w6 = wd at *
        refine wpAnyH_take (i := 0) (v := .agg (arrK .u8 D)) rfl (by kernel_rfl) (by kernel_rfl) (by kernel_rfl) (fun _ _ _ h => h) (yields_load_blk (by rfl) _ _ rfl (G) rfl 37 (arrK .u8 D) (.array 32 5) (fun W hW => hW.2.1) (by kernel_rfl) rfl (info32 Dt.out.1)) ⟨Hd, fD, fS⟩ ?_
        try simp only [List.getElem_toArray, List.getElem_cons_zero, List.getElem_cons_succ, Act.put, List.setIfInBounds_toArray, List.set_cons_zero, List.set_cons_succ]
        refine wpAnyH_take (i := 1) (v := ?_) rfl (by kernel_rfl) (by kernel_rfl) (by kernel_rfl) (fun _ _ _ h => h) (Or.inl ⟨by rfl, ?_⟩) ⟨Hd, fD, fS⟩ ?_
        rotate_left
        · intro w hSw
          go_simp
          try with_reducible rfl
        try simp only [List.getElem_toArray, List.getElem_cons_zero, List.getElem_cons_succ, Act.put, List.setIfInBounds_toArray, List.set_cons_zero, List.set_cons_succ]
        refine wpAnyH_take (i := 2) (v := ?_) rfl (by kernel_rfl) (by kernel_rfl) (by kernel_rfl) (fun _ _ _ h => h) (Or.inl ⟨by rfl, ?_⟩) ⟨Hd, fD, fS⟩ ?_
        rotate_left
        · intro w hSw
          have q0 := Blk.cellv hSw.2.2 (i := 0) rfl
          go_simp
          try with_reducible rfl
        try simp only [List.getElem_toArray, List.getElem_cons_zero, List.getElem_cons_succ, Act.put, List.setIfInBounds_toArray, List.set_cons_zero, List.set_cons_succ]
        refine wpAnyH_take (i := 3) (v := ?_) rfl (by kernel_rfl) (by kernel_rfl) (by kernel_rfl) (fun _ _ _ h => h) (Or.inl ⟨by rfl, ?_⟩) ⟨Hd, fD, fS⟩ ?_
        rotate_left
        · intro w hSw
          go_simp
          try with_reducible rfl
        try simp only [List.getElem_toArray, List.getElem_cons_zero, List.getElem_cons_succ, Act.put, List.setIfInBounds_toArray, List.set_cons_zero, List.set_cons_succ]
        refine wpAnyH_take (i := 5) (v := .agg (arrK .u8 D)) rfl (by kernel_rfl) (by kernel_rfl) (by kernel_rfl) (fun _ _ _ h => h) (yields_load_blk (by rfl) _ _ rfl (G) rfl 37 (arrK .u8 D) (.array 32 5) (fun W hW => hW.2.1) (by kernel_rfl) rfl (info32 Dt.out.1)) ⟨Hd, fD, fS⟩ ?_
        try simp only [List.getElem_toArray, List.getElem_cons_zero, List.getElem_cons_succ, Act.put, List.setIfInBounds_toArray, List.set_cons_zero, List.set_cons_succ]
        refine wpAnyH_take (i := 6) (v := ?_) rfl (by kernel_rfl) (by kernel_rfl) (by kernel_rfl) (fun _ _ _ h => h) (Or.inl ⟨by rfl, ?_⟩) ⟨Hd, fD, fS⟩ ?_
        rotate_left
        · intro w hSw
          go_simp
          try with_reducible rfl
        try simp only [List.getElem_toArray, List.getElem_cons_zero, List.getElem_cons_succ, Act.put, List.setIfInBounds_toArray, List.set_cons_zero, List.set_cons_succ]
        refine wpAnyH_take (i := 7) (v := ?_) rfl (by kernel_rfl) (by kernel_rfl) (by kernel_rfl) (fun _ _ _ h => h) (Or.inl ⟨by rfl, ?_⟩) ⟨Hd, fD, fS⟩ ?_
        rotate_left
        · intro w hSw
          have q0 := Blk.cellv hSw.2.2 (i := 0) rfl
          go_simp
          try with_reducible rfl
        try simp only [List.getElem_toArray, List.getElem_cons_zero, List.getElem_cons_succ, Act.put, List.setIfInBounds_toArray, List.set_cons_zero, List.set_cons_succ]
        refine wpAnyH_take (i := 8) (v := ?_) rfl (by kernel_rfl) (by kernel_rfl) (by kernel_rfl) (fun _ _ _ h => h) (Or.inl ⟨by rfl, ?_⟩) ⟨Hd, fD, fS⟩ ?_
        rotate_left
        · intro w hSw
          go_simp
          try with_reducible rfl
        try simp only [List.getElem_toArray, List.getElem_cons_zero, List.getElem_cons_succ, Act.put, List.setIfInBounds_toArray, List.set_cons_zero, List.set_cons_succ]
        refine wpAnyH_ready (rs := [4]) (by kernel_rfl) (by simp) (AllReadyH.cons rfl (fun K hK => ?_) AllReadyH.nil)
        go_simp
        refine (HBi.out _ (HMm.out.below Hd)).mono ?_
        rintro e w1_ ⟨I1, rfl, fi1, hb1⟩
        have fK1 := fK.below hb1
        have fD1 := fD.below hb1
        have fS1 := fS.below hb1
        have fo1 := fo.below hb1
        have fc1 := fc.below hb1
        have fp1 := fp.below hb1
        have Hb1 : Below w.heap.size w w1_ := below_of Hd hb1 Hd.size
        have Zb1 : w6.heap.size ≤ w1_.heap.size := Nat.le_trans Zd hb1.size
        go_wp2_with (fail)
        refine hK.out _ _ ⟨Hb1, fD1, fS1⟩ fun _ => ?_
        clear hK K
        try simp only [List.getElem_toArray, List.getElem_cons_zero, List.getElem_cons_succ, Act.put, List.setIfInBounds_toArray, List.set_cons_zero, List.set_cons_succ]
        refine wpAnyH_ready (rs := [9]) (by kernel_rfl) (by simp) (AllReadyH.cons rfl (fun K hK => ?_) AllReadyH.nil)
        go_simp
        refine (HBo.out _ (HMo.out.below Hb1)).mono ?_
        rintro e w2_ ⟨I2, rfl, fj2, hb2⟩
        have fK2 := fK1.below hb2
        have fD2 := fD1.below hb2
        have fS2 := fS1.below hb2
        have fo2 := fo1.below hb2
        have fc2 := fc1.below hb2
        have fp2 := fp1.below hb2
        have fi2 := fi1.below hb2
        have Hb2 : Below w.heap.size w w2_ := below_of Hb1 hb2 Hb1.size
        have Zb2 : w6.heap.size ≤ w2_.heap.size := Nat.le_trans Zb1 hb2.size
        go_wp2_with (fail)
        refine hK.out _ _ ⟨Hb2, fD2, fS2⟩ fun _ => ?_
        clear hK K
        try simp only [List.getElem_toArray, List.getElem_cons_zero, List.getElem_cons_succ, Act.put, List.setIfInBounds_toArray, List.set_cons_zero, List.set_cons_succ]
        refine wpAnyH_ready (rs := [10]) (by kernel_rfl) (by simp) (AllReadyH.cons rfl (fun K hK => ?_) AllReadyH.nil)
        go_simp
        refine (bsame_any I1 I2 x y _ fi2 fj2 Hlx.out Hly.out).mono ?_
        rintro e w3_ ⟨rfl, hb3⟩
        have fK3 := fK2.below hb3
        have fD3 := fD2.below hb3
        have fS3 := fS2.below hb3
        have fo3 := fo2.below hb3
        have fc3 := fc2.below hb3
        have fp3 := fp2.below hb3
        have fi3 := fi2.below hb3
        have fj3 := fj2.below hb3
        have Hb3 : Below w.heap.size w w3_ := below_of Hb2 hb3 Hb2.size
        have Zb3 : w6.heap.size ≤ w3_.heap.size := Nat.le_trans Zb2 hb3.size
        go_wp2_with (fail)
        refine hK.out _ _ ⟨Hb3, fD3, fS3⟩ fun _ => ?_
        clear hK K
        try simp only [List.getElem_toArray, List.getElem_cons_zero, List.getElem_cons_succ, Act.put, List.setIfInBounds_toArray, List.set_cons_zero, List.set_cons_succ]
        refine wpAnyH_take (i := 11) (v := ?_) rfl (by kernel_rfl) (by kernel_rfl) (by kernel_rfl) (fun _ _ _ h => h) (Or.inl ⟨by rfl, ?_⟩) ⟨Hb3, fD3, fS3⟩ ?_
        rotate_left
        · intro w hSw
          go_simp
          try with_reducible rfl
        try simp only [List.getElem_toArray, List.getElem_cons_zero, List.getElem_cons_succ, Act.put, List.setIfInBounds_toArray, List.set_cons_zero, List.set_cons_succ]
        refine wpAnyH_done (by kernel_rfl) ?_ _
        obtain ⟨w9, hw9⟩ : ∃ w9, w9 = w3_ := ⟨_, rfl⟩
        subst hw9
        have HK9 := Lib.hid fK3
        have HD9 := Lib.hid fD3
        have HS9 := Lib.hid fS3
        have HB9 := Lib.hid Hb3
        have HCo9 := Lib.hid fo3
        have HCc9 := Lib.hid fc3
        have HCp9 := Lib.hid fp3
        by_cases hyx : x = y
        · have hd : decide (x = y) = true := by simpa using hyx
          have q1 := HK9.out.cellv (i := 1) rfl
          have s0 := HS9.out.cellv (i := 0) rfl
          have s1 := HS9.out.cellv (i := 1) rfl
          have s2 := HS9.out.cellv (i := 2) rfl
          have s3 := HS9.out.cellv (i := 3) rfl
          rw [hd]
          have Hyx := Lib.hid hyx.symm
          clear hd hyx
          go_wp2_with (
            (refine wpList_load_blk rfl 37 (.tmp 7) rfl G rfl 37 (arrK .u8 D) (.array 32 5) HD9.out (by kernel_rfl) rfl (info32 Dt.out.1) ?_))
          refine (HVg.out D ol cl pl Ao Ac Ap co cc q cp w9 Dt.out (HMo.out.below HB9.out) Hmlo.out (by omega) Hm8o.out Hol.out Hcl.out Hpq.out HoL.out HcL.out HpL.out HCo9.out HCc9.out HCp9.out Hqc.out Hcp.out).mono ?_
          rintro e w10 ⟨he, hb10⟩
          rw [Hver.out Hyx.out] at he
          subst he
          have HB10 := Lib.hid (below_of HB9.out hb10 HB9.out.size)
          clear hb10
          go_wp2_with (fail)
          go_ret
          exact ⟨rfl, HB10.out⟩
        · have hd : decide (x = y) = false := by simpa using hyx
          rw [hd]
          clear hd hyx
          go_wp2_with (fail)
          go_ret
          exact ⟨rfl, HB9.out⟩
-- the row
theorem signingBits_own : ownKnob Try.prog.godebug = none := by kernel_rfl
theorem signingBits_laidOut : laidOutB Try.prog = true := by kernel_rfl
theorem signingBits_readable : (Try.f9.params.toList.all fun t => Try.prog.readableRec t && decide (t < Try.prog.types.size)) = true := by kernel_rfl
set_option maxRecDepth 100000 in
theorem signingBits_lifted (os : Os) (started : os.Started) (H : Type) (enc : TypeId × Value → H) :
    ReturnsInHanded {} Try.checked os 9 .any (Rows.signingBitsSpec.pre6 enc Try.prog Try.f9 Rows.signingBitsRow.domain false) (Rows.signingBitsSpec.post enc Try.prog Try.f9 false true false false) := by
  refine returnsInHanded_of_change (C := Try.checked) signingBits_own started (by kernel_rfl) Try.func9
    (ChangeSpec.witness6 (enc := enc) (C := Try.checked) false ⟨#[], #[.agg #[.slice none 0 0, .int .i64 0, .int .i64 0], .slice none 0 0, .slice none 0 0], []⟩ 8 (by kernel_rfl) (by kernel_rfl) (by kernel_rfl) (by kernel_rfl)) ?_
  intro W base args ds gs before hval0 hW hcnd _
  have hval : ∀ (j : Nat) t v, Try.f9.params[j]? = some t → args[j]? = some v → Value.okWide Try.prog W .any base t v := hval0
  have hW' := hW
  obtain ⟨p, q, hA0, hV, rfl, hfz, hnd⟩ := hW
  have hA : DataW.TrodAll enc Try.prog W 0 (fun _ => true) true Try.f9.params.toList args.toList ds p := hA0
  rw [Try.params9] at hA hval
  obtain ⟨v0, vs0, d0, ds0, p0, q0, hargs, rfl, rfl, h0, r0⟩ := trodAll_cons hA
  obtain ⟨v1, vs1, d1, ds1, p1, q1, rfl, rfl, rfl, h1, r1⟩ := trodAll_cons r0
  obtain ⟨v2, vs2, d2, ds2, p2, q2, rfl, rfl, rfl, h2, r2⟩ := trodAll_cons r1
  obtain ⟨rfl, rfl, rfl⟩ := trodAll_nil r2
  obtain rfl : args = #[v0, v1, v2] := by cases args; simp_all
  obtain ⟨rfl, rfl⟩ := trodVars_none hV
  obtain ⟨A0, n0, c0, m0, u0, s0, rfl, l0, nc0, cm0, g0, b0, wm0, wu0⟩ := open_key (hval 0 24 v0 rfl rfl) h0
  obtain ⟨A1, n1, c1, xs1, rfl, l1, nc1, cm1, g1, w1⟩ := open_intslice Try.underlying22 Try.underlying5 (by kernel_rfl) (hval 1 22 v1 rfl rfl) h1
  obtain ⟨A2, n2, c2, xs2, rfl, l2, nc2, cm2, g2, w2⟩ := open_intslice Try.underlying22 Try.underlying5 (by kernel_rfl) (hval 2 22 v2 rfl rfl) h2
  refine (SigningBits_walk W A0 n0 c0 m0 u0 s0 l0 nc0 cm0 g0 b0 wm0 wu0 A1 n1 c1 xs1 l1 nc1 cm1 g1 w1 A2 n2 c2 xs2 l2 nc2 cm2 g2 w2).mono fun e W' ⟨he, hb⟩ => ?_
  subst he
  simp only [List.append_nil] at hW'
  refine ⟨_, rfl, law_post signingBits_laidOut ?_ (by kernel_rfl) Try.underlying4 rfl hW' rfl rfl rfl hb⟩
  intro t ht
  have hr := List.all_eq_true.1 signingBits_readable t ht
  rw [Bool.and_eq_true] at hr
  exact ⟨hr.1, of_decide_eq_true hr.2⟩
theorem signingBits_over : Rows.signingBitsRow.holds Try.pinned (OpenSpec.ofChange Rows.signingBitsSpec) :=
  OpenClaim.holds_of_wide 9 Try.f9 rfl rfl rfl rfl rfl rfl rfl ⟨rfl, rfl, rfl, rfl, rfl⟩ rfl rfl rfl rfl rfl (by kernel_rfl) Try.func9 (by kernel_rfl)
    (of_decide_eq_true (by kernel_rfl)) (by unfold Func.isWrapper; rw [if_neg (of_decide_eq_false (by kernel_rfl))]; exact ⟨rfl, rfl⟩)
    (fun os started H enc _ => signingBits_lifted os started H enc)
theorem signingBits_proved : Rows.SigningBitsSaid := signingBits_over
#print axioms signingBits_proved
end Go.Proofs.Ytcijhakofoklcaa
