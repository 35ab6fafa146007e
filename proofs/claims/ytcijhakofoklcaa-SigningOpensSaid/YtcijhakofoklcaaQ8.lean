/- The statement SigningOpensSaid: for every key and two messages that are signed with the same one-time key, the hash of each opened secret is what the other signature closes, if the bits differ, and otherwise both open the same secret and close the same hash; no condition beside the row's own. -/
import Derived.Test.YtcijhakofoklcaaSig12
import Derived.Test.YtcijhakofoklcaaRow3
import Derived.ChangeMaps5
namespace Go.Proofs.Ytcijhakofoklcaa
open Go.RowKit Go.WideShapes Go.ChangeShapes Go.ChangeAt
theorem elem_cells {w : World} {b off : Nat} {l : List (List Nat)} (hL : IsL l) (h : Cells w (some ⟨b, off, none⟩) (bytesV l.flatten)) {k : Nat} {d : List Nat} (hk : l[k]? = some d) : Cells w (some ⟨b, off + k * 32, none⟩) (bytesV d) := by
  have h1 := h.cut (k * 32) 32
  have e : ((bytesV l.flatten).drop (k * 32)).take 32 = bytesV d := by
    rw [← bytesV_drop, ← hL.flat_get hk]
    unfold bytesV
    rw [List.map_take]
  rwa [e] at h1
theorem fewK_true {n : Nat} {m : Int} {k : Nat} (h : fewK n m k = true) : m ≤ 2 ∧ n ≤ 100 ∧ k ≤ 300 := by unfold fewK at h; exact of_decide_eq_true h
theorem okKey_next {n m u : Nat} (h : okKey n m u = true) (hu : u < m) : okKey n m ((u : Int) + 1) = true := by
  obtain ⟨h1, h2, h3, h4, h5, h6⟩ := okKey_true h
  unfold okKey
  exact decide_eq_true ⟨h1, h2, h3, h4, by omega, by omega⟩
theorem pubR_ok {n m : Nat} {u : Int} {s : List Nat} (h : okKey n m u = true) : pubR n m u s = treeS (pubL s m) := by unfold pubR; rw [h]; simp
theorem pubR_no {n : Nat} {m u : Int} {s : List Nat} (h : okKey n m u = false) : pubR n m u s = z32 := by unfold pubR; rw [h]; rfl
theorem errKey_true : errKey true = 0 := rfl
theorem errKey_false : errKey false = 40 := rfl
set_option linter.unusedSimpArgs false in
set_option maxRecDepth 100000 in
set_option maxHeartbeats 4000000 in
theorem SigningOpens_walk (w : World) (A : Option Addr) (n c : Nat) (m u : Int) (s : List Nat) (hl : s.length = n) (_hnc : n ≤ c) (_hcm : c ≤ maxLen) (hA0 : Cells w A (bytesV s)) (h80 : ByteL s) (_wm : (Lit.int .i64 m).wf = true) (_wu : (Lit.int .i64 u).wf = true) (Bm : Option Addr) (km dm : Nat) (xsm : List Int) (hlm : xsm.length = km) (_hnm : km ≤ dm) (_hmm : dm ≤ maxLen) (hBm : Cells w Bm (xsm.map (Value.int .u8))) (hwm : ∀ x ∈ xsm, (Lit.int .u8 x).wf = true) (Bo : Option Addr) (ko dO : Nat) (xso : List Int) (hlo : xso.length = ko) (_hno : ko ≤ dO) (_hmo : dO ≤ maxLen) (hBo : Cells w Bo (xso.map (Value.int .u8))) (hwo : ∀ x ∈ xso, (Lit.int .u8 x).wf = true) :
    Calls Try.prog 8 #[.agg #[.slice A n c, .int .i64 m, .int .i64 u], .slice Bm km dm, .slice Bo ko dO] w (Fine w) := by
  obtain ⟨msgm, hmlm, hm8m, hMm⟩ := open_bytes hBm hwm
  have HMm := Lib.hid hMm
  have Hmlm := Lib.hid (hmlm.trans hlm)
  have Hm8m := Lib.hid hm8m
  clear hMm hmlm hlm hm8m hBm hwm
  obtain ⟨msgo, hmlo, hm8o, hMo⟩ := open_bytes hBo hwo
  have HMo := Lib.hid hMo
  have Hmlo := Lib.hid (hmlo.trans hlo)
  have Hm8o := Lib.hid hm8o
  clear hMo hmlo hlo hm8o hBo hwo
  have HA := Lib.hid hA0
  have Hs := Lib.hid hl
  have Hs8 := Lib.hid h80
  clear hA0 hl h80
  have HFw := Lib.hid (fun W => few_any A n c m u Bm km dm W)
  have HFw2 := Lib.hid (fun W => few_any A n c m u Bo ko dO W)
  cases hfw : fewK n m km with
  | false =>
    rw [hfw] at HFw
    clear hfw
    go_enter Try.func8, Try.ntmps8
    go_wp2_with (fail)
    generalize hge : World.alloc _ _ = w0
    have HK0 := Lib.hid (show Blk w0 w.heap.size 24 #[.slice A n c, .int .i64 m, .int .i64 u] by subst hge; exact Blk.new w _ _)
    have HB0 := Lib.hid (show Below w.heap.size w w0 by subst hge; exact (Below.refl _ _).alloc (Nat.le_refl _) _)
    clear hge
    refine (ssane_any w0).mono ?_
    rintro e w1 ⟨rfl, hb1⟩
    have HK1 := Lib.hid (HK0.out.below hb1)
    have HB1 := Lib.hid (below_of HB0.out hb1 HB0.out.size)
    clear hb1
    have q0 := HK1.out.cellv (i := 0) rfl
    have q1 := HK1.out.cellv (i := 1) rfl
    have q2 := HK1.out.cellv (i := 2) rfl
    go_wp2_with (fail)
    refine (HFw.out w1).mono ?_
    rintro e w1b ⟨rfl, hb1b⟩
    have HK1b := Lib.hid (HK1.out.below hb1b)
    have HB1b := Lib.hid (below_of HB1.out hb1b HB1.out.size)
    clear hb1b q0 q1 q2
    go_wp2_with (fail)
    go_ret
    exact ⟨rfl, HB1b.out⟩
  | true =>
   cases hfw2 : fewK n m ko with
   | false =>
    rw [hfw] at HFw
    rw [hfw2] at HFw2
    clear hfw hfw2
    go_enter Try.func8, Try.ntmps8
    go_wp2_with (fail)
    generalize hge : World.alloc _ _ = w0
    have HK0 := Lib.hid (show Blk w0 w.heap.size 24 #[.slice A n c, .int .i64 m, .int .i64 u] by subst hge; exact Blk.new w _ _)
    have HB0 := Lib.hid (show Below w.heap.size w w0 by subst hge; exact (Below.refl _ _).alloc (Nat.le_refl _) _)
    clear hge
    refine (ssane_any w0).mono ?_
    rintro e w1 ⟨rfl, hb1⟩
    have HK1 := Lib.hid (HK0.out.below hb1)
    have HB1 := Lib.hid (below_of HB0.out hb1 HB0.out.size)
    clear hb1
    have q0 := HK1.out.cellv (i := 0) rfl
    have q1 := HK1.out.cellv (i := 1) rfl
    have q2 := HK1.out.cellv (i := 2) rfl
    go_wp2_with (fail)
    refine (HFw.out w1).mono ?_
    rintro e w1b ⟨rfl, hb1b⟩
    have HK1b := Lib.hid (HK1.out.below hb1b)
    have HB1b := Lib.hid (below_of HB1.out hb1b HB1.out.size)
    clear hb1b q0 q1 q2
    have q0 := HK1b.out.cellv (i := 0) rfl
    have q1 := HK1b.out.cellv (i := 1) rfl
    have q2 := HK1b.out.cellv (i := 2) rfl
    go_wp2_with (fail)
    refine (HFw2.out w1b).mono ?_
    rintro e w2 ⟨rfl, hb2⟩
    have HK2 := Lib.hid (HK1b.out.below hb2)
    have HB2 := Lib.hid (below_of HB1b.out hb2 HB1b.out.size)
    clear hb2 q0 q1 q2
    go_wp2_with (fail)
    go_ret
    exact ⟨rfl, HB2.out⟩
   | true =>
    rw [hfw] at HFw
    rw [hfw2] at HFw2
    obtain ⟨hf1, hf2, hf3⟩ := fewK_true hfw
    obtain ⟨-, -, hf4⟩ := fewK_true hfw2
    clear hfw hfw2
    cases hok : okKey n m u with
    | false =>
      have HPu := Lib.hid (fun W h => Public_any A n c m u s W h Hs.out Hs8.out)
      rw [hok, pubR_no hok, errKey_false] at HPu
      have HSb := Lib.hid (fun B k d W (_ : k ≤ 65536) => Sign_bad A n c m u B k d W (.inl hok))
      have dD := Lib.hid z32_isD
      go_enter Try.func8, Try.ntmps8
      go_wp2_with (fail)
      generalize hge : World.alloc _ _ = w0
      have HK0 := Lib.hid (show Blk w0 w.heap.size 24 #[.slice A n c, .int .i64 m, .int .i64 u] by subst hge; exact Blk.new w _ _)
      have HB0 := Lib.hid (show Below w.heap.size w w0 by subst hge; exact (Below.refl _ _).alloc (Nat.le_refl _) _)
      clear hge
      refine (ssane_any w0).mono ?_
      rintro e w1 ⟨rfl, hb1⟩
      have HK1 := Lib.hid (HK0.out.below hb1)
      have HB1 := Lib.hid (below_of HB0.out hb1 HB0.out.size)
      clear hb1
      have q0 := HK1.out.cellv (i := 0) rfl
      have q1 := HK1.out.cellv (i := 1) rfl
      have q2 := HK1.out.cellv (i := 2) rfl
      go_wp2_with (fail)
      refine (HFw.out w1).mono ?_
      rintro e w1b ⟨rfl, hb1b⟩
      have HK1b := Lib.hid (HK1.out.below hb1b)
      have HB1b := Lib.hid (below_of HB1.out hb1b HB1.out.size)
      clear hb1b q0 q1 q2
      have q0 := HK1b.out.cellv (i := 0) rfl
      have q1 := HK1b.out.cellv (i := 1) rfl
      have q2 := HK1b.out.cellv (i := 2) rfl
      go_wp2_with (fail)
      refine (HFw2.out w1b).mono ?_
      rintro e w2 ⟨rfl, hb2⟩
      have HK2 := Lib.hid (HK1b.out.below hb2)
      have HB2 := Lib.hid (below_of HB1b.out hb2 HB1b.out.size)
      clear hb2 q0 q1 q2
      have q0 := HK2.out.cellv (i := 0) rfl
      have q1 := HK2.out.cellv (i := 1) rfl
      have q2 := HK2.out.cellv (i := 2) rfl
      go_wp2_with (fail)
      refine (HPu.out w2 (HA.out.below HB2.out)).mono ?_
      rintro e w3 ⟨rfl, hb3⟩
      have HK3 := Lib.hid (HK2.out.below hb3)
      have HB3 := Lib.hid (below_of HB2.out hb3 HB2.out.size)
      clear hb3 q0 q1 q2
      go_upto_region 6 with (
        (refine wpList_put_blk rfl 37 (.tmp 7) (.tmp 33) rfl w3.heap.size (arrK .u8 z32) rfl rfl 37 (arrK .u8 z32) (Blk.new w3 37 (arrK .u8 z32)) (info32 dD.out.1) (by rw [len32 dD.out.1]; try rw [len32 z32_length]) (arrK_all _ _) ?_
         intro w4 HD4 hg4 hz4
         have hb4 : Below w3.heap.size w3 w4 := below_grown ((Below.refl w3.heap.size w3).alloc (Nat.le_refl _) (.cells (arrK .u8 z32) 37)) hg4 (by simp) (by simp)
         have HD4 := Lib.hid HD4
         have HK4 := Lib.hid (HK3.out.below hb4)
         have HB4 := Lib.hid (below_of HB3.out hb4 HB3.out.size)
         clear hg4 hz4 hb4))
      have q0 := HK4.out.cellv (i := 0) rfl
      have q1 := HK4.out.cellv (i := 1) rfl
      have q2 := HK4.out.cellv (i := 2) rfl
      go_wp2_with (fail)
      refine (HSb.out Bm km dm w4 (by omega)).mono ?_
      rintro e w5 ⟨rfl, hb5⟩
      have HK5 := Lib.hid (HK4.out.below hb5)
      have HB5 := Lib.hid (below_of HB4.out hb5 HB4.out.size)
      clear hb5 q0 q1 q2
      have q0 : ∀ o o2 : Obj, ((w5.alloc o).alloc o2).cell? ⟨w.heap.size, 0, none⟩ = some (.slice A n c) := fun o o2 => ((HK5.out.alloc o).alloc o2).cellv (i := 0) rfl
      have q1 : ∀ o o2 : Obj, ((w5.alloc o).alloc o2).cell? ⟨w.heap.size, 1, none⟩ = some (.int .i64 m) := fun o o2 => ((HK5.out.alloc o).alloc o2).cellv (i := 1) rfl
      have q2 : ∀ o o2 : Obj, ((w5.alloc o).alloc o2).cell? ⟨w.heap.size, 2, none⟩ = some (.int .i64 u) := fun o o2 => ((HK5.out.alloc o).alloc o2).cellv (i := 2) rfl
      go_wp2_with (fail)
      refine (HSb.out Bo ko dO _ (by omega)).mono ?_
      rintro e w6 ⟨rfl, hb6⟩
      have HB6 := Lib.hid (below_of (below_two HB5.out HB5.out.size _ _) hb6 (below_two HB5.out HB5.out.size _ _).size)
      clear hb6 q0 q1 q2
      go_wp2_with (fail)
      go_ret
      exact ⟨rfl, below_two HB6.out HB6.out.size _ _⟩
    | true =>
      obtain ⟨h1, h2, h3, h4, h5, h6⟩ := okKey_true hok
      obtain ⟨m, rfl⟩ := Int.eq_ofNat_of_zero_le (show 0 ≤ m by omega)
      obtain ⟨u, rfl⟩ := Int.eq_ofNat_of_zero_le h5
      have HPu := Lib.hid (fun W h => Public_any A n c m u s W h Hs.out Hs8.out)
      rw [hok, pubR_ok hok, errKey_true] at HPu
      by_cases hum : u = m
      · subst hum
        have HSb := Lib.hid (fun B k d W (h : k ≤ 65536) => Sign_bad A n c u u B k d W (.inr ⟨hok, h, rfl⟩))
        have dD := Lib.hid (treeS_isD (pubL s u))
        go_enter Try.func8, Try.ntmps8
        go_wp2_with (fail)
        generalize hge : World.alloc _ _ = w0
        have HK0 := Lib.hid (show Blk w0 w.heap.size 24 #[.slice A n c, .int .i64 u, .int .i64 u] by subst hge; exact Blk.new w _ _)
        have HB0 := Lib.hid (show Below w.heap.size w w0 by subst hge; exact (Below.refl _ _).alloc (Nat.le_refl _) _)
        clear hge
        refine (ssane_any w0).mono ?_
        rintro e w1 ⟨rfl, hb1⟩
        have HK1 := Lib.hid (HK0.out.below hb1)
        have HB1 := Lib.hid (below_of HB0.out hb1 HB0.out.size)
        clear hb1
        have q0 := HK1.out.cellv (i := 0) rfl
        have q1 := HK1.out.cellv (i := 1) rfl
        have q2 := HK1.out.cellv (i := 2) rfl
        go_wp2_with (fail)
        refine (HFw.out w1).mono ?_
        rintro e w1b ⟨rfl, hb1b⟩
        have HK1b := Lib.hid (HK1.out.below hb1b)
        have HB1b := Lib.hid (below_of HB1.out hb1b HB1.out.size)
        clear hb1b q0 q1 q2
        have q0 := HK1b.out.cellv (i := 0) rfl
        have q1 := HK1b.out.cellv (i := 1) rfl
        have q2 := HK1b.out.cellv (i := 2) rfl
        go_wp2_with (fail)
        refine (HFw2.out w1b).mono ?_
        rintro e w2 ⟨rfl, hb2⟩
        have HK2 := Lib.hid (HK1b.out.below hb2)
        have HB2 := Lib.hid (below_of HB1b.out hb2 HB1b.out.size)
        clear hb2 q0 q1 q2
        have q0 := HK2.out.cellv (i := 0) rfl
        have q1 := HK2.out.cellv (i := 1) rfl
        have q2 := HK2.out.cellv (i := 2) rfl
        go_wp2_with (fail)
        refine (HPu.out w2 (HA.out.below HB2.out)).mono ?_
        rintro e w3 ⟨rfl, hb3⟩
        have HK3 := Lib.hid (HK2.out.below hb3)
        have HB3 := Lib.hid (below_of HB2.out hb3 HB2.out.size)
        clear hb3 q0 q1 q2
        go_upto_region 6 with (
          (refine wpList_put_blk rfl 37 (.tmp 7) (.tmp 33) rfl w3.heap.size (arrK .u8 (treeS (pubL s u))) rfl rfl 37 (arrK .u8 z32) (Blk.new w3 37 (arrK .u8 z32)) (info32 dD.out.1) (by rw [len32 dD.out.1]; try rw [len32 z32_length]) (arrK_all _ _) ?_
           intro w4 HD4 hg4 hz4
           have hb4 : Below w3.heap.size w3 w4 := below_grown ((Below.refl w3.heap.size w3).alloc (Nat.le_refl _) (.cells (arrK .u8 z32) 37)) hg4 (by simp) (by simp)
           have HD4 := Lib.hid HD4
           have HK4 := Lib.hid (HK3.out.below hb4)
           have HB4 := Lib.hid (below_of HB3.out hb4 HB3.out.size)
           clear hg4 hz4 hb4))
        have q0 := HK4.out.cellv (i := 0) rfl
        have q1 := HK4.out.cellv (i := 1) rfl
        have q2 := HK4.out.cellv (i := 2) rfl
        go_wp2_with (fail)
        refine (HSb.out Bm km dm w4 (by omega)).mono ?_
        rintro e w5 ⟨rfl, hb5⟩
        have HK5 := Lib.hid (HK4.out.below hb5)
        have HB5 := Lib.hid (below_of HB4.out hb5 HB4.out.size)
        clear hb5 q0 q1 q2
        have q0 : ∀ o o2 : Obj, ((w5.alloc o).alloc o2).cell? ⟨w.heap.size, 0, none⟩ = some (.slice A n c) := fun o o2 => ((HK5.out.alloc o).alloc o2).cellv (i := 0) rfl
        have q1 : ∀ o o2 : Obj, ((w5.alloc o).alloc o2).cell? ⟨w.heap.size, 1, none⟩ = some (.int .i64 u) := fun o o2 => ((HK5.out.alloc o).alloc o2).cellv (i := 1) rfl
        have q2 : ∀ o o2 : Obj, ((w5.alloc o).alloc o2).cell? ⟨w.heap.size, 2, none⟩ = some (.int .i64 u) := fun o o2 => ((HK5.out.alloc o).alloc o2).cellv (i := 2) rfl
        go_wp2_with (fail)
        refine (HSb.out Bo ko dO _ (by omega)).mono ?_
        rintro e w6 ⟨rfl, hb6⟩
        have HB6 := Lib.hid (below_of (below_two HB5.out HB5.out.size _ _) hb6 (below_two HB5.out HB5.out.size _ _).size)
        clear hb6 q0 q1 q2
        go_wp2_with (fail)
        go_ret
        exact ⟨rfl, below_two HB6.out HB6.out.size _ _⟩
      · have hu : u < m := by omega
        have HSi := Lib.hid (fun W h h' => Sign_good A n c m u s Bm km dm msgm W h Hs.out Hs8.out hok hu h' Hmlm.out (by omega) Hm8m.out)
        have HSj := Lib.hid (fun W h h' => Sign_good A n c m u s Bo ko dO msgo W h Hs.out Hs8.out hok hu h' Hmlo.out (by omega) Hm8o.out)
        obtain ⟨x, hx⟩ : ∃ x, bitL (msgS (treeS (pubL s m)) u msgm) 64 = x := ⟨_, rfl⟩
        obtain ⟨y, hy⟩ : ∃ y, bitL (msgS (treeS (pubL s m)) u msgo) 64 = y := ⟨_, rfl⟩
        have Hlx := Lib.hid (show x.length = 64 by rw [← hx, bitL_length])
        have Hly := Lib.hid (show y.length = 64 by rw [← hy, bitL_length])
        have HBi := Lib.hid (fun W h => Bits_good (treeS (pubL s m)) u msgm Bm km dm W (treeS_isD _) (by omega) h Hmlm.out (by omega) Hm8m.out)
        have HBo := Lib.hid (fun W h => Bits_good (treeS (pubL s m)) u msgo Bo ko dO W (treeS_isD _) (by omega) h Hmlo.out (by omega) Hm8o.out)
        rw [hx] at HBi HSi
        rw [hy] at HBo HSj
        have Dt := Lib.hid (treeS_isD (pubL s m))
        have Hol := Lib.hid (openL_length s u x 64)
        have Hcl := Lib.hid (closL_length s u x 64)
        have Hol1 := Lib.hid (openL_length s u y 64)
        have Hcl1 := Lib.hid (closL_length s u y 64)
        have HoL := Lib.hid (openL_isL s u x 64)
        have HcL := Lib.hid (closL_isL s u x 64)
        have HoL1 := Lib.hid (openL_isL s u y 64)
        have HcL1 := Lib.hid (closL_isL s u y 64)
        have Go := Lib.hid (fun j (h : j < 64) => openL_get s u x h)
        have Gc := Lib.hid (fun j (h : j < 64) => closL_get s u x h)
        have Go1 := Lib.hid (fun j (h : j < 64) => openL_get s u y h)
        have Gc1 := Lib.hid (fun j (h : j < 64) => closL_get s u y h)
        have HpL := Lib.hid (pathR_isL (pubL s m) (u : Int))
        have hplen : (pathR (pubL s m) (u : Int)).length ≤ 100 := by
          rw [pathR_nat (by rw [pubL_length]; exact hu), pathS_length m _ _ (pubL_length s m)]
          have := dirsS_lt m u (by omega)
          omega
        clear hx hy hok h5 h6 h3
        generalize treeS (pubL s m) = D at *
        generalize openL s u x 64 = ol at *
        generalize closL s u x 64 = cl at *
        generalize openL s u y 64 = ol1 at *
        generalize closL s u y 64 = cl1 at *
        generalize pathR (pubL s m) (u : Int) = pl at *
        go_enter Try.func8, Try.ntmps8
        go_wp2_with (fail)
        generalize hge : World.alloc _ _ = w0
        have HK0 := Lib.hid (show Blk w0 w.heap.size 24 #[.slice A n c, .int .i64 m, .int .i64 u] by subst hge; exact Blk.new w _ _)
        have HB0 := Lib.hid (show Below w.heap.size w w0 by subst hge; exact (Below.refl _ _).alloc (Nat.le_refl _) _)
        clear hge
        refine (ssane_any w0).mono ?_
        rintro e w1 ⟨rfl, hb1⟩
        have HK1 := Lib.hid (HK0.out.below hb1)
        have HB1 := Lib.hid (below_of HB0.out hb1 HB0.out.size)
        clear hb1
        have q0 := HK1.out.cellv (i := 0) rfl
        have q1 := HK1.out.cellv (i := 1) rfl
        have q2 := HK1.out.cellv (i := 2) rfl
        go_wp2_with (fail)
        refine (HFw.out w1).mono ?_
        rintro e w1b ⟨rfl, hb1b⟩
        have HK1b := Lib.hid (HK1.out.below hb1b)
        have HB1b := Lib.hid (below_of HB1.out hb1b HB1.out.size)
        clear hb1b q0 q1 q2
        have q0 := HK1b.out.cellv (i := 0) rfl
        have q1 := HK1b.out.cellv (i := 1) rfl
        have q2 := HK1b.out.cellv (i := 2) rfl
        go_wp2_with (fail)
        refine (HFw2.out w1b).mono ?_
        rintro e w2 ⟨rfl, hb2⟩
        have HK2 := Lib.hid (HK1b.out.below hb2)
        have HB2 := Lib.hid (below_of HB1b.out hb2 HB1b.out.size)
        clear hb2 q0 q1 q2
        have q0 := HK2.out.cellv (i := 0) rfl
        have q1 := HK2.out.cellv (i := 1) rfl
        have q2 := HK2.out.cellv (i := 2) rfl
        go_wp2_with (fail)
        refine (HPu.out w2 (HA.out.below HB2.out)).mono ?_
        rintro e w3 ⟨rfl, hb3⟩
        have HK3 := Lib.hid (HK2.out.below hb3)
        have HB3 := Lib.hid (below_of HB2.out hb3 HB2.out.size)
        clear hb3 q0 q1 q2
        go_upto_region 6 with (
          (refine wpList_put_blk rfl 37 (.tmp 7) (.tmp 33) rfl w3.heap.size (arrK .u8 D) rfl rfl 37 (arrK .u8 z32) (Blk.new w3 37 (arrK .u8 z32)) (info32 Dt.out.1) (by rw [len32 Dt.out.1]; try rw [len32 z32_length]) (arrK_all _ _) ?_
           intro w4 HD4 hg4 hz4
           have hb4 : Below w3.heap.size w3 w4 := below_grown ((Below.refl w3.heap.size w3).alloc (Nat.le_refl _) (.cells (arrK .u8 z32) 37)) hg4 (by simp) (by simp)
           have HD4 := Lib.hid HD4
           have HK4 := Lib.hid (HK3.out.below hb4)
           have HB4 := Lib.hid (below_of HB3.out hb4 HB3.out.size)
           clear hg4 hz4 hb4))
        obtain ⟨G, hG⟩ : ∃ G, w3.heap.size = G := ⟨_, rfl⟩
        rw [hG] at HD4 ⊢
        clear hG
        have q0 := HK4.out.cellv (i := 0) rfl
        have q1 := HK4.out.cellv (i := 1) rfl
        have q2 := HK4.out.cellv (i := 2) rfl
        go_wp2_with (fail)
        refine (HSi.out w4 (HA.out.below HB4.out) (HMm.out.below HB4.out)).mono ?_
        rintro e w5 ⟨Ao, co, Ac, cc, Ap, q, cp, rfl, hpq, hqc, hcp, hco, hco2, hcc, hcc2, hCo, hCc, hCp, hb5⟩
        have HK5 := Lib.hid (HK4.out.below hb5)
        have HD5 := Lib.hid (HD4.out.below hb5)
        have HB5 := Lib.hid (below_of HB4.out hb5 HB4.out.size)
        rw [hpq] at hplen
        have Hpq := Lib.hid hpq
        have Hqc := Lib.hid hqc
        have Hcp := Lib.hid hcp
        clear hb5 q0 q1 q2 hpq hqc hcp hco hco2 hcc hcc2
        have q0 : ∀ o o2 : Obj, ((w5.alloc o).alloc o2).cell? ⟨w.heap.size, 0, none⟩ = some (.slice A n c) := fun o o2 => ((HK5.out.alloc o).alloc o2).cellv (i := 0) rfl
        have q1 : ∀ o o2 : Obj, ((w5.alloc o).alloc o2).cell? ⟨w.heap.size, 1, none⟩ = some (.int .i64 m) := fun o o2 => ((HK5.out.alloc o).alloc o2).cellv (i := 1) rfl
        have q2 : ∀ o o2 : Obj, ((w5.alloc o).alloc o2).cell? ⟨w.heap.size, 2, none⟩ = some (.int .i64 u) := fun o o2 => ((HK5.out.alloc o).alloc o2).cellv (i := 2) rfl
        go_wp2_with (fail)
        clear q0 q1 q2
        generalize hge : World.alloc _ _ = w6
        have HS6 := Lib.hid (show Blk w6 (w5.heap.size + 1) 30 #[.int .i64 u, .slice Ao 64 co, .slice Ac 64 cc, .slice Ap q cp] by subst hge; exact (blk_two w5 _ _ 24 30).2)
        have hb6 : Below w5.heap.size w5 w6 := by subst hge; exact below_two (Below.refl _ _) (Nat.le_refl _) _ _
        have HD6 := Lib.hid (HD5.out.below hb6)
        have HCo6 := Lib.hid (hCo.below hb6)
        have HCc6 := Lib.hid (hCc.below hb6)
        have HCp6 := Lib.hid (hCp.below hb6)
        have HB6 := Lib.hid (below_of HB5.out hb6 HB5.out.size)
        clear hge hb6 hCo hCc hCp
        refine (HSj.out w6 (HA.out.below HB6.out) (HMo.out.below HB6.out)).mono ?_
        rintro e w7 ⟨Ao1, co1, Ac1, cc1, Ap1, q', cp1, rfl, hpq, hqc, hcp, hco, hco2, hcc, hcc2, hCo, hCc, hCp, hb7⟩
        rw [Hpq.out] at hpq
        subst hpq
        have HS7 := Lib.hid (HS6.out.below hb7)
        have HD7 := Lib.hid (HD6.out.below hb7)
        have HCo7 := Lib.hid (HCo6.out.below hb7)
        have HCc7 := Lib.hid (HCc6.out.below hb7)
        have HCp7 := Lib.hid (HCp6.out.below hb7)
        have HB7 := Lib.hid (below_of HB6.out hb7 HB6.out.size)
        clear hb7 hqc hcp hco hco2 hcc hcc2
        go_upto_region 10 with (fail)
        generalize hge : World.alloc _ _ = w8
        have HT8 := Lib.hid (show Blk w8 (w7.heap.size + 1) 30 #[.int .i64 u, .slice Ao1 64 co1, .slice Ac1 64 cc1, .slice Ap1 q cp1] by subst hge; exact (blk_two w7 _ _ 24 30).2)
        have hb8 : Below w7.heap.size w7 w8 := by subst hge; exact below_two (Below.refl _ _) (Nat.le_refl _) _ _
        have HS8 := Lib.hid (HS7.out.below hb8)
        have HD8 := Lib.hid (HD7.out.below hb8)
        have HCo8 := Lib.hid (HCo7.out.below hb8)
        have HCc8 := Lib.hid (HCc7.out.below hb8)
        have HCp8 := Lib.hid (HCp7.out.below hb8)
        have HCo18 := Lib.hid (hCo.below hb8)
        have HCc18 := Lib.hid (hCc.below hb8)
        have HCp18 := Lib.hid (hCp.below hb8)
        have HB8 := Lib.hid (below_of HB7.out hb8 HB7.out.size)
        clear hge hb8 hCo hCc hCp
        obtain ⟨X, hX⟩ : ∃ X, w5.heap.size + 1 = X := ⟨_, rfl⟩
        rw [hX] at HS8 ⊢
        obtain ⟨Y, hY⟩ : ∃ Y, w7.heap.size + 1 = Y := ⟨_, rfl⟩
        rw [hY] at HT8 ⊢
        clear hX hY
        refine wp_region_held_drew (S := fun W => Below w.heap.size w W ∧ Blk W G 37 (arrK .u8 D) ∧ Blk W X 30 #[.int .i64 u, .slice Ao 64 co, .slice Ac 64 cc, .slice Ap q cp] ∧ Blk W Y 30 #[.int .i64 u, .slice Ao1 64 co1, .slice Ac1 64 cc1, .slice Ap1 q cp1]) (by kernel_rfl) (⟨below_drewN HB8.out 1, HD8.out, HS8.out, HT8.out⟩) (fun Hd => ?_)
        have Hd : Below w.heap.size w w8.drew := below_drewN HB8.out 1
        have Zd : w8.heap.size ≤ w8.drew.heap.size := Nat.le_refl _
        have fD : Blk w8.drew G 37 (arrK .u8 D) := HD8.out
        have fS : Blk w8.drew X 30 #[.int .i64 u, .slice Ao 64 co, .slice Ac 64 cc, .slice Ap q cp] := HS8.out
        have fT : Blk w8.drew Y 30 #[.int .i64 u, .slice Ao1 64 co1, .slice Ac1 64 cc1, .slice Ap1 q cp1] := HT8.out
        have fo : Cells w8.drew Ao (bytesV ol.flatten) := HCo8.out
        have fc : Cells w8.drew Ac (bytesV cl.flatten) := HCc8.out
        have fp : Cells w8.drew Ap (bytesV pl.flatten) := HCp8.out
        have fo1_ : Cells w8.drew Ao1 (bytesV ol1.flatten) := HCo18.out
        have fc1_ : Cells w8.drew Ac1 (bytesV cl1.flatten) := HCc18.out
        have fp1_ : Cells w8.drew Ap1 (bytesV pl.flatten) := HCp18.out
        generalize World.drew w8 = wd at *
        refine wpAnyH_take (i := 0) (v := .agg (arrK .u8 D)) rfl (by kernel_rfl) (by kernel_rfl) (by kernel_rfl) (fun _ _ _ h => h) (yields_load_blk (by rfl) _ _ rfl (G) rfl 37 (arrK .u8 D) (.array 32 5) (fun W hW => hW.2.1) (by kernel_rfl) rfl (info32 Dt.out.1)) ⟨Hd, fD, fS, fT⟩ ?_
        try simp only [List.getElem_toArray, List.getElem_cons_zero, List.getElem_cons_succ, Act.put, List.setIfInBounds_toArray, List.set_cons_zero, List.set_cons_succ]
        refine wpAnyH_take (i := 1) (v := ?_) rfl (by kernel_rfl) (by kernel_rfl) (by kernel_rfl) (fun _ _ _ h => h) (Or.inl ⟨by rfl, ?_⟩) ⟨Hd, fD, fS, fT⟩ ?_
        rotate_left
        · intro w hSw
          go_simp
          try with_reducible rfl
        try simp only [List.getElem_toArray, List.getElem_cons_zero, List.getElem_cons_succ, Act.put, List.setIfInBounds_toArray, List.set_cons_zero, List.set_cons_succ]
        refine wpAnyH_take (i := 2) (v := ?_) rfl (by kernel_rfl) (by kernel_rfl) (by kernel_rfl) (fun _ _ _ h => h) (Or.inl ⟨by rfl, ?_⟩) ⟨Hd, fD, fS, fT⟩ ?_
        rotate_left
        · intro w hSw
          have q0 := Blk.cellv hSw.2.2.1 (i := 0) rfl
          go_simp
          try with_reducible rfl
        try simp only [List.getElem_toArray, List.getElem_cons_zero, List.getElem_cons_succ, Act.put, List.setIfInBounds_toArray, List.set_cons_zero, List.set_cons_succ]
        refine wpAnyH_take (i := 3) (v := ?_) rfl (by kernel_rfl) (by kernel_rfl) (by kernel_rfl) (fun _ _ _ h => h) (Or.inl ⟨by rfl, ?_⟩) ⟨Hd, fD, fS, fT⟩ ?_
        rotate_left
        · intro w hSw
          go_simp
          try with_reducible rfl
        try simp only [List.getElem_toArray, List.getElem_cons_zero, List.getElem_cons_succ, Act.put, List.setIfInBounds_toArray, List.set_cons_zero, List.set_cons_succ]
        refine wpAnyH_take (i := 5) (v := .agg (arrK .u8 D)) rfl (by kernel_rfl) (by kernel_rfl) (by kernel_rfl) (fun _ _ _ h => h) (yields_load_blk (by rfl) _ _ rfl (G) rfl 37 (arrK .u8 D) (.array 32 5) (fun W hW => hW.2.1) (by kernel_rfl) rfl (info32 Dt.out.1)) ⟨Hd, fD, fS, fT⟩ ?_
        try simp only [List.getElem_toArray, List.getElem_cons_zero, List.getElem_cons_succ, Act.put, List.setIfInBounds_toArray, List.set_cons_zero, List.set_cons_succ]
        refine wpAnyH_take (i := 6) (v := ?_) rfl (by kernel_rfl) (by kernel_rfl) (by kernel_rfl) (fun _ _ _ h => h) (Or.inl ⟨by rfl, ?_⟩) ⟨Hd, fD, fS, fT⟩ ?_
        rotate_left
        · intro w hSw
          go_simp
          try with_reducible rfl
        try simp only [List.getElem_toArray, List.getElem_cons_zero, List.getElem_cons_succ, Act.put, List.setIfInBounds_toArray, List.set_cons_zero, List.set_cons_succ]
        refine wpAnyH_take (i := 7) (v := ?_) rfl (by kernel_rfl) (by kernel_rfl) (by kernel_rfl) (fun _ _ _ h => h) (Or.inl ⟨by rfl, ?_⟩) ⟨Hd, fD, fS, fT⟩ ?_
        rotate_left
        · intro w hSw
          have q0 := Blk.cellv hSw.2.2.2 (i := 0) rfl
          go_simp
          try with_reducible rfl
        try simp only [List.getElem_toArray, List.getElem_cons_zero, List.getElem_cons_succ, Act.put, List.setIfInBounds_toArray, List.set_cons_zero, List.set_cons_succ]
        refine wpAnyH_take (i := 8) (v := ?_) rfl (by kernel_rfl) (by kernel_rfl) (by kernel_rfl) (fun _ _ _ h => h) (Or.inl ⟨by rfl, ?_⟩) ⟨Hd, fD, fS, fT⟩ ?_
        rotate_left
        · intro w hSw
          go_simp
          try with_reducible rfl
        try simp only [List.getElem_toArray, List.getElem_cons_zero, List.getElem_cons_succ, Act.put, List.setIfInBounds_toArray, List.set_cons_zero, List.set_cons_succ]
        refine wpAnyH_ready (rs := [4]) (by kernel_rfl) (by simp) (AllReadyH.cons rfl (fun K hK => ?_) AllReadyH.nil)
        go_simp
        refine (HBi.out _ (HMm.out.below Hd)).mono ?_
        rintro e w1_ ⟨I1, rfl, fi1, hb1⟩
        have fD1 := fD.below hb1
        have fS1 := fS.below hb1
        have fT1 := fT.below hb1
        have fo1 := fo.below hb1
        have fc1 := fc.below hb1
        have fp1 := fp.below hb1
        have fo11 := fo1_.below hb1
        have fc11 := fc1_.below hb1
        have fp11 := fp1_.below hb1
        have Hb1 : Below w.heap.size w w1_ := below_of Hd hb1 Hd.size
        have Zb1 : w8.heap.size ≤ w1_.heap.size := Nat.le_trans Zd hb1.size
        go_wp2_with (fail)
        refine hK.out _ _ ⟨Hb1, fD1, fS1, fT1⟩ fun _ => ?_
        clear hK K
        try simp only [List.getElem_toArray, List.getElem_cons_zero, List.getElem_cons_succ, Act.put, List.setIfInBounds_toArray, List.set_cons_zero, List.set_cons_succ]
        refine wpAnyH_ready (rs := [9]) (by kernel_rfl) (by simp) (AllReadyH.cons rfl (fun K hK => ?_) AllReadyH.nil)
        go_simp
        refine (HBo.out _ (HMo.out.below Hb1)).mono ?_
        rintro e w2_ ⟨I2, rfl, fj2, hb2⟩
        have fD2 := fD1.below hb2
        have fS2 := fS1.below hb2
        have fT2 := fT1.below hb2
        have fo2 := fo1.below hb2
        have fc2 := fc1.below hb2
        have fp2 := fp1.below hb2
        have fo12 := fo11.below hb2
        have fc12 := fc11.below hb2
        have fp12 := fp11.below hb2
        have fi2 := fi1.below hb2
        have Hb2 : Below w.heap.size w w2_ := below_of Hb1 hb2 Hb1.size
        have Zb2 : w8.heap.size ≤ w2_.heap.size := Nat.le_trans Zb1 hb2.size
        go_wp2_with (fail)
        refine hK.out _ _ ⟨Hb2, fD2, fS2, fT2⟩ fun _ => ?_
        clear hK K
        try simp only [List.getElem_toArray, List.getElem_cons_zero, List.getElem_cons_succ, Act.put, List.setIfInBounds_toArray, List.set_cons_zero, List.set_cons_succ]
        refine wpAnyH_take (i := 10) (v := ?_) rfl (by kernel_rfl) (by kernel_rfl) (by kernel_rfl) (fun _ _ _ h => h) (Or.inl ⟨by rfl, ?_⟩) ⟨Hb2, fD2, fS2, fT2⟩ ?_
        rotate_left
        · intro w hSw
          go_simp
          try with_reducible rfl
        try simp only [List.getElem_toArray, List.getElem_cons_zero, List.getElem_cons_succ, Act.put, List.setIfInBounds_toArray, List.set_cons_zero, List.set_cons_succ]
        refine wpAnyH_take (i := 11) (v := ?_) rfl (by kernel_rfl) (by kernel_rfl) (by kernel_rfl) (fun _ _ _ h => h) (Or.inl ⟨by rfl, ?_⟩) ⟨Hb2, fD2, fS2, fT2⟩ ?_
        rotate_left
        · intro w hSw
          go_simp
          try with_reducible rfl
        try simp only [List.getElem_toArray, List.getElem_cons_zero, List.getElem_cons_succ, Act.put, List.setIfInBounds_toArray, List.set_cons_zero, List.set_cons_succ]
        refine wpAnyH_done (by kernel_rfl) ?_ _
        obtain ⟨w9, hw9⟩ : ∃ w9, w9 = w2_ := ⟨_, rfl⟩
        subst hw9
        have HS9 := Lib.hid fS2
        have HT9 := Lib.hid fT2
        have HB9 := Lib.hid Hb2
        have HI9 := Lib.hid fi2
        have HJ9 := Lib.hid fj2
        have HCo9 := Lib.hid fo2
        have HCc9 := Lib.hid fc2
        have HCp9 := Lib.hid fp2
        have HCo19 := Lib.hid fo12
        have HCc19 := Lib.hid fc12
        have HCp19 := Lib.hid fp12
        have s0 := HS9.out.cellv (i := 0) rfl
        have s1 := HS9.out.cellv (i := 1) rfl
        have s2 := HS9.out.cellv (i := 2) rfl
        have s3 := HS9.out.cellv (i := 3) rfl
        have t0 := HT9.out.cellv (i := 0) rfl
        have t1 := HT9.out.cellv (i := 1) rfl
        have t2 := HT9.out.cellv (i := 2) rfl
        have t3 := HT9.out.cellv (i := 3) rfl
        have uu : ((u : Int) != (u : Int)) = false := by simp
        have ltX := HS9.out.lt
        have ltY := HT9.out.lt
        have ltI1 := HI9.out.lt
        have ltI2 := HJ9.out.lt
        go_wp2_with (fail)
        refine (sameD_any pl q Ap Ap1 cp cp1 w9 Hpq.out HpL.out (by omega) HCp9.out HCp19.out).mono ?_
        rintro e w10 ⟨rfl, hb10⟩
        have HbA := Lib.hid hb10
        clear hb10 s0 s3 t0 t3 uu
        obtain ⟨ob, oo, rfl, -, -⟩ := Cells.addr HCo9.out (by rw [bytesV_length, HoL.out.flat_length, Hol.out]; omega)
        obtain ⟨cb, cO, rfl, -, -⟩ := Cells.addr HCc9.out (by rw [bytesV_length, HcL.out.flat_length, Hcl.out]; omega)
        obtain ⟨ob1, oo1, rfl, -, -⟩ := Cells.addr HCo19.out (by rw [bytesV_length, HoL1.out.flat_length, Hol1.out]; omega)
        obtain ⟨cb1, cO1, rfl, -, -⟩ := Cells.addr HCc19.out (by rw [bytesV_length, HcL1.out.flat_length, Hcl1.out]; omega)
        go_wp2_with (fail)
        go_loopw [17] (fun i wr => ∃ j : Nat, j ≤ 64 ∧ i = .int .i64 j ∧ Hid (Below w9.heap.size w9 wr)) (fun i _ => 64 - (intOf i).toNat)
        case atStart => exact ⟨0, by omega, rfl, HbA.out⟩
        case round =>
          obtain ⟨j, hj64, rfl, hw9r⟩ := hrel
          by_cases hj : j < 64
          · have hjI : (j : Int) < 64 := by omega
            have e1 := HI9.out.cellv (i := j) (arrB_get (by rw [Hlx.out]; exact hj))
            have e2 := HJ9.out.cellv (i := j) (arrB_get (by rw [Hly.out]; exact hj))
            have go1 := Go.out j hj
            have gc1 := Gc.out j hj
            have go2 := Go1.out j hj
            have gc2 := Gc1.out j hj
            generalize x.getD j false = a at *
            generalize y.getD j false = b at *
            by_cases hab : a = b
            · subst hab
              have eqA : (a == a) = true := by simp
              have neA : (a != a) = false := by simp
              obtain ⟨P, hP⟩ : ∃ P, secS s u j (bn a) = P := ⟨_, rfl⟩
              obtain ⟨C, hC⟩ : ∃ C, keyF s u j (!a) = C := ⟨_, rfl⟩
              have dP := Lib.hid (show IsD P by rw [← hP]; exact secS_isD _ _ _ _)
              have dC := Lib.hid (show IsD C by rw [← hC]; exact keyF_isD _ _ _ _)
              rw [hP] at go1 go2
              rw [hC] at gc1 gc2
              have hEP : ∀ W, (Op.equalIn 10000 37 (.agg (arrK .u8 P)) (.agg (arrK .u8 P))).run Try.prog W = .ok true W := fun W => by
                have := run_eqD dP.out dP.out W
                simpa using this
              have hEC : ∀ W, (Op.equalIn 10000 37 (.agg (arrK .u8 C)) (.agg (arrK .u8 C))).run Try.prog W = .ok true W := fun W => by
                have := run_eqD dC.out dC.out W
                simpa using this
              have Q1 := Lib.hid go1; have Q2 := Lib.hid go2; have Q3 := Lib.hid gc1; have Q4 := Lib.hid gc2
              clear hP hC go1 go2 gc1 gc2
              go_upto_region 16 with (fail)
              refine wp_region_held_drew (S := fun W => Below w9.heap.size w9 W) (by kernel_rfl) (below_drewN hw9r.out 1) (fun Hd => ?_)
              have Hd : Below w9.heap.size w9 wr.drew := below_drewN hw9r.out 1
              have Zd : w9.heap.size ≤ wr.drew.heap.size := hw9r.out.size
              generalize World.drew wr = wd at *
              refine wpAnyH_take (i := 0) (v := ?_) rfl (by kernel_rfl) (by kernel_rfl) (by kernel_rfl) (fun _ _ _ h => h) (Or.inl ⟨by rfl, ?_⟩) Hd ?_
              rotate_left
              · intro w hSw
                go_simp
                try with_reducible rfl
              try simp only [List.getElem_toArray, List.getElem_cons_zero, List.getElem_cons_succ, Act.put, List.setIfInBounds_toArray, List.set_cons_zero, List.set_cons_succ]
              refine wpAnyH_take (i := 1) (v := ?_) rfl (by kernel_rfl) (by kernel_rfl) (by kernel_rfl) (fun _ _ _ h => h) (Or.inl ⟨by rfl, ?_⟩) Hd ?_
              rotate_left
              · intro w hSw
                go_simp
                try with_reducible rfl
              try simp only [List.getElem_toArray, List.getElem_cons_zero, List.getElem_cons_succ, Act.put, List.setIfInBounds_toArray, List.set_cons_zero, List.set_cons_succ]
              refine wpAnyH_take (i := 2) (v := ?_) rfl (by kernel_rfl) (by kernel_rfl) (by kernel_rfl) (fun _ _ _ h => h) (Or.inl ⟨by rfl, ?_⟩) Hd ?_
              rotate_left
              · intro w hSw
                go_simp
                try with_reducible rfl
              try simp only [List.getElem_toArray, List.getElem_cons_zero, List.getElem_cons_succ, Act.put, List.setIfInBounds_toArray, List.set_cons_zero, List.set_cons_succ]
              refine wpAnyH_take (i := 3) (v := ?_) rfl (by kernel_rfl) (by kernel_rfl) (by kernel_rfl) (fun _ _ _ h => h) (Or.inl ⟨by rfl, ?_⟩) Hd ?_
              rotate_left
              · intro w hSw
                have c0 := (hSw.cell (p := ⟨I1, j, none⟩) ltI1).trans e1
                go_simp
                try with_reducible rfl
              try simp only [List.getElem_toArray, List.getElem_cons_zero, List.getElem_cons_succ, Act.put, List.setIfInBounds_toArray, List.set_cons_zero, List.set_cons_succ]
              refine wpAnyH_take (i := 4) (v := ?_) rfl (by kernel_rfl) (by kernel_rfl) (by kernel_rfl) (fun _ _ _ h => h) (Or.inl ⟨by rfl, ?_⟩) Hd ?_
              rotate_left
              · intro w hSw
                go_simp
                try with_reducible rfl
              try simp only [List.getElem_toArray, List.getElem_cons_zero, List.getElem_cons_succ, Act.put, List.setIfInBounds_toArray, List.set_cons_zero, List.set_cons_succ]
              refine wpAnyH_take (i := 5) (v := ?_) rfl (by kernel_rfl) (by kernel_rfl) (by kernel_rfl) (fun _ _ _ h => h) (Or.inl ⟨by rfl, ?_⟩) Hd ?_
              rotate_left
              · intro w hSw
                go_simp
                try with_reducible rfl
              try simp only [List.getElem_toArray, List.getElem_cons_zero, List.getElem_cons_succ, Act.put, List.setIfInBounds_toArray, List.set_cons_zero, List.set_cons_succ]
              refine wpAnyH_take (i := 6) (v := ?_) rfl (by kernel_rfl) (by kernel_rfl) (by kernel_rfl) (fun _ _ _ h => h) (Or.inl ⟨by rfl, ?_⟩) Hd ?_
              rotate_left
              · intro w hSw
                go_simp
                try with_reducible rfl
              try simp only [List.getElem_toArray, List.getElem_cons_zero, List.getElem_cons_succ, Act.put, List.setIfInBounds_toArray, List.set_cons_zero, List.set_cons_succ]
              refine wpAnyH_take (i := 7) (v := ?_) rfl (by kernel_rfl) (by kernel_rfl) (by kernel_rfl) (fun _ _ _ h => h) (Or.inl ⟨by rfl, ?_⟩) Hd ?_
              rotate_left
              · intro w hSw
                have c0 := (hSw.cell (p := ⟨I2, j, none⟩) ltI2).trans e2
                go_simp
                try with_reducible rfl
              try simp only [List.getElem_toArray, List.getElem_cons_zero, List.getElem_cons_succ, Act.put, List.setIfInBounds_toArray, List.set_cons_zero, List.set_cons_succ]
              refine wpAnyH_take (i := 8) (v := ?_) rfl (by kernel_rfl) (by kernel_rfl) (by kernel_rfl) (fun _ _ _ h => h) (Or.inl ⟨by rfl, ?_⟩) Hd ?_
              rotate_left
              · intro w hSw
                go_simp
                try with_reducible rfl
              try simp only [List.getElem_toArray, List.getElem_cons_zero, List.getElem_cons_succ, Act.put, List.setIfInBounds_toArray, List.set_cons_zero, List.set_cons_succ]
              refine wpAnyH_take (i := 9) (v := ?_) rfl (by kernel_rfl) (by kernel_rfl) (by kernel_rfl) (fun _ _ _ h => h) (Or.inl ⟨by rfl, ?_⟩) Hd ?_
              rotate_left
              · intro w hSw
                go_simp
                try with_reducible rfl
              try simp only [List.getElem_toArray, List.getElem_cons_zero, List.getElem_cons_succ, Act.put, List.setIfInBounds_toArray, List.set_cons_zero, List.set_cons_succ]
              refine wpAnyH_take (i := 10) (v := ?_) rfl (by kernel_rfl) (by kernel_rfl) (by kernel_rfl) (fun _ _ _ h => h) (Or.inl ⟨by rfl, ?_⟩) Hd ?_
              rotate_left
              · intro w hSw
                go_simp
                try with_reducible rfl
              try simp only [List.getElem_toArray, List.getElem_cons_zero, List.getElem_cons_succ, Act.put, List.setIfInBounds_toArray, List.set_cons_zero, List.set_cons_succ]
              refine wpAnyH_take (i := 11) (v := ?_) rfl (by kernel_rfl) (by kernel_rfl) (by kernel_rfl) (fun _ _ _ h => h) (Or.inl ⟨by rfl, ?_⟩) Hd ?_
              rotate_left
              · intro w hSw
                have c0 := (hSw.cell (p := ⟨X, 1, none⟩) ltX).trans s1
                go_simp
                try with_reducible rfl
              try simp only [List.getElem_toArray, List.getElem_cons_zero, List.getElem_cons_succ, Act.put, List.setIfInBounds_toArray, List.set_cons_zero, List.set_cons_succ]
              refine wpAnyH_take (i := 12) (v := ?_) rfl (by kernel_rfl) (by kernel_rfl) (by kernel_rfl) (fun _ _ _ h => h) (Or.inl ⟨by rfl, ?_⟩) Hd ?_
              rotate_left
              · intro w hSw
                go_simp
                try with_reducible rfl
              try simp only [List.getElem_toArray, List.getElem_cons_zero, List.getElem_cons_succ, Act.put, List.setIfInBounds_toArray, List.set_cons_zero, List.set_cons_succ]
              refine wpAnyH_take (i := 13) (v := ?_) rfl (by kernel_rfl) (by kernel_rfl) (by kernel_rfl) (fun _ _ _ h => h) (Or.inl ⟨by rfl, ?_⟩) Hd ?_
              rotate_left
              · intro w hSw
                go_simp
                try with_reducible rfl
              try simp only [List.getElem_toArray, List.getElem_cons_zero, List.getElem_cons_succ, Act.put, List.setIfInBounds_toArray, List.set_cons_zero, List.set_cons_succ]
              refine wpAnyH_take (i := 14) (v := .agg (arrK .u8 (P))) rfl (by kernel_rfl) (by kernel_rfl) (by kernel_rfl) (fun _ _ _ h => h) (yieldsIf_load_mid (by rfl) _ _ rfl _ _ rfl ((P).map fun (n : Nat) => Value.int .u8 (n : Int)) (.array 32 5) (fun W hW => range_at HoL.out (HCo9.out.below hW) Q1.out) (by kernel_rfl) rfl (dV_info dP.out.1)) Hd ?_
              try simp only [List.getElem_toArray, List.getElem_cons_zero, List.getElem_cons_succ, Act.put, List.setIfInBounds_toArray, List.set_cons_zero, List.set_cons_succ]
              refine wpAnyH_take (i := 15) (v := ?_) rfl (by kernel_rfl) (by kernel_rfl) (by kernel_rfl) (fun _ _ _ h => h) (Or.inl ⟨by rfl, ?_⟩) Hd ?_
              rotate_left
              · intro w hSw
                go_simp
                try with_reducible rfl
              try simp only [List.getElem_toArray, List.getElem_cons_zero, List.getElem_cons_succ, Act.put, List.setIfInBounds_toArray, List.set_cons_zero, List.set_cons_succ]
              refine wpAnyH_take (i := 16) (v := ?_) rfl (by kernel_rfl) (by kernel_rfl) (by kernel_rfl) (fun _ _ _ h => h) (Or.inl ⟨by rfl, ?_⟩) Hd ?_
              rotate_left
              · intro w hSw
                have c0 := (hSw.cell (p := ⟨Y, 1, none⟩) ltY).trans t1
                go_simp
                try with_reducible rfl
              try simp only [List.getElem_toArray, List.getElem_cons_zero, List.getElem_cons_succ, Act.put, List.setIfInBounds_toArray, List.set_cons_zero, List.set_cons_succ]
              refine wpAnyH_take (i := 17) (v := ?_) rfl (by kernel_rfl) (by kernel_rfl) (by kernel_rfl) (fun _ _ _ h => h) (Or.inl ⟨by rfl, ?_⟩) Hd ?_
              rotate_left
              · intro w hSw
                go_simp
                try with_reducible rfl
              try simp only [List.getElem_toArray, List.getElem_cons_zero, List.getElem_cons_succ, Act.put, List.setIfInBounds_toArray, List.set_cons_zero, List.set_cons_succ]
              refine wpAnyH_take (i := 18) (v := ?_) rfl (by kernel_rfl) (by kernel_rfl) (by kernel_rfl) (fun _ _ _ h => h) (Or.inl ⟨by rfl, ?_⟩) Hd ?_
              rotate_left
              · intro w hSw
                go_simp
                try with_reducible rfl
              try simp only [List.getElem_toArray, List.getElem_cons_zero, List.getElem_cons_succ, Act.put, List.setIfInBounds_toArray, List.set_cons_zero, List.set_cons_succ]
              refine wpAnyH_take (i := 19) (v := .agg (arrK .u8 (P))) rfl (by kernel_rfl) (by kernel_rfl) (by kernel_rfl) (fun _ _ _ h => h) (yieldsIf_load_mid (by rfl) _ _ rfl _ _ rfl ((P).map fun (n : Nat) => Value.int .u8 (n : Int)) (.array 32 5) (fun W hW => range_at HoL1.out (HCo19.out.below hW) Q2.out) (by kernel_rfl) rfl (dV_info dP.out.1)) Hd ?_
              try simp only [List.getElem_toArray, List.getElem_cons_zero, List.getElem_cons_succ, Act.put, List.setIfInBounds_toArray, List.set_cons_zero, List.set_cons_succ]
              refine wpAnyH_take (i := 20) (v := ?_) rfl (by kernel_rfl) (by kernel_rfl) (by kernel_rfl) (fun _ _ _ h => h) (Or.inl ⟨by rfl, ?_⟩) Hd ?_
              rotate_left
              · intro w hSw
                go_simp
                try with_reducible rfl
              try simp only [List.getElem_toArray, List.getElem_cons_zero, List.getElem_cons_succ, Act.put, List.setIfInBounds_toArray, List.set_cons_zero, List.set_cons_succ]
              refine wpAnyH_take (i := 21) (v := ?_) rfl (by kernel_rfl) (by kernel_rfl) (by kernel_rfl) (fun _ _ _ h => h) (Or.inl ⟨by rfl, ?_⟩) Hd ?_
              rotate_left
              · intro w hSw
                go_simp
                try with_reducible rfl
              try simp only [List.getElem_toArray, List.getElem_cons_zero, List.getElem_cons_succ, Act.put, List.setIfInBounds_toArray, List.set_cons_zero, List.set_cons_succ]
              refine wpAnyH_take (i := 22) (v := ?_) rfl (by kernel_rfl) (by kernel_rfl) (by kernel_rfl) (fun _ _ _ h => h) (Or.inl ⟨by rfl, ?_⟩) Hd ?_
              rotate_left
              · intro w hSw
                go_simp
                try with_reducible rfl
              try simp only [List.getElem_toArray, List.getElem_cons_zero, List.getElem_cons_succ, Act.put, List.setIfInBounds_toArray, List.set_cons_zero, List.set_cons_succ]
              refine wpAnyH_take (i := 23) (v := ?_) rfl (by kernel_rfl) (by kernel_rfl) (by kernel_rfl) (fun _ _ _ h => h) (Or.inl ⟨by rfl, ?_⟩) Hd ?_
              rotate_left
              · intro w hSw
                have c0 := (hSw.cell (p := ⟨X, 2, none⟩) ltX).trans s2
                go_simp
                try with_reducible rfl
              try simp only [List.getElem_toArray, List.getElem_cons_zero, List.getElem_cons_succ, Act.put, List.setIfInBounds_toArray, List.set_cons_zero, List.set_cons_succ]
              refine wpAnyH_take (i := 24) (v := ?_) rfl (by kernel_rfl) (by kernel_rfl) (by kernel_rfl) (fun _ _ _ h => h) (Or.inl ⟨by rfl, ?_⟩) Hd ?_
              rotate_left
              · intro w hSw
                go_simp
                try with_reducible rfl
              try simp only [List.getElem_toArray, List.getElem_cons_zero, List.getElem_cons_succ, Act.put, List.setIfInBounds_toArray, List.set_cons_zero, List.set_cons_succ]
              refine wpAnyH_take (i := 25) (v := ?_) rfl (by kernel_rfl) (by kernel_rfl) (by kernel_rfl) (fun _ _ _ h => h) (Or.inl ⟨by rfl, ?_⟩) Hd ?_
              rotate_left
              · intro w hSw
                go_simp
                try with_reducible rfl
              try simp only [List.getElem_toArray, List.getElem_cons_zero, List.getElem_cons_succ, Act.put, List.setIfInBounds_toArray, List.set_cons_zero, List.set_cons_succ]
              refine wpAnyH_take (i := 26) (v := .agg (arrK .u8 (C))) rfl (by kernel_rfl) (by kernel_rfl) (by kernel_rfl) (fun _ _ _ h => h) (yieldsIf_load_mid (by rfl) _ _ rfl _ _ rfl ((C).map fun (n : Nat) => Value.int .u8 (n : Int)) (.array 32 5) (fun W hW => range_at HcL.out (HCc9.out.below hW) Q3.out) (by kernel_rfl) rfl (dV_info dC.out.1)) Hd ?_
              try simp only [List.getElem_toArray, List.getElem_cons_zero, List.getElem_cons_succ, Act.put, List.setIfInBounds_toArray, List.set_cons_zero, List.set_cons_succ]
              refine wpAnyH_take (i := 27) (v := ?_) rfl (by kernel_rfl) (by kernel_rfl) (by kernel_rfl) (fun _ _ _ h => h) (Or.inl ⟨by rfl, ?_⟩) Hd ?_
              rotate_left
              · intro w hSw
                go_simp
                try with_reducible rfl
              try simp only [List.getElem_toArray, List.getElem_cons_zero, List.getElem_cons_succ, Act.put, List.setIfInBounds_toArray, List.set_cons_zero, List.set_cons_succ]
              refine wpAnyH_take (i := 28) (v := ?_) rfl (by kernel_rfl) (by kernel_rfl) (by kernel_rfl) (fun _ _ _ h => h) (Or.inl ⟨by rfl, ?_⟩) Hd ?_
              rotate_left
              · intro w hSw
                have c0 := (hSw.cell (p := ⟨Y, 2, none⟩) ltY).trans t2
                go_simp
                try with_reducible rfl
              try simp only [List.getElem_toArray, List.getElem_cons_zero, List.getElem_cons_succ, Act.put, List.setIfInBounds_toArray, List.set_cons_zero, List.set_cons_succ]
              refine wpAnyH_take (i := 29) (v := ?_) rfl (by kernel_rfl) (by kernel_rfl) (by kernel_rfl) (fun _ _ _ h => h) (Or.inl ⟨by rfl, ?_⟩) Hd ?_
              rotate_left
              · intro w hSw
                go_simp
                try with_reducible rfl
              try simp only [List.getElem_toArray, List.getElem_cons_zero, List.getElem_cons_succ, Act.put, List.setIfInBounds_toArray, List.set_cons_zero, List.set_cons_succ]
              refine wpAnyH_take (i := 30) (v := ?_) rfl (by kernel_rfl) (by kernel_rfl) (by kernel_rfl) (fun _ _ _ h => h) (Or.inl ⟨by rfl, ?_⟩) Hd ?_
              rotate_left
              · intro w hSw
                go_simp
                try with_reducible rfl
              try simp only [List.getElem_toArray, List.getElem_cons_zero, List.getElem_cons_succ, Act.put, List.setIfInBounds_toArray, List.set_cons_zero, List.set_cons_succ]
              refine wpAnyH_take (i := 31) (v := .agg (arrK .u8 (C))) rfl (by kernel_rfl) (by kernel_rfl) (by kernel_rfl) (fun _ _ _ h => h) (yieldsIf_load_mid (by rfl) _ _ rfl _ _ rfl ((C).map fun (n : Nat) => Value.int .u8 (n : Int)) (.array 32 5) (fun W hW => range_at HcL1.out (HCc19.out.below hW) Q4.out) (by kernel_rfl) rfl (dV_info dC.out.1)) Hd ?_
              try simp only [List.getElem_toArray, List.getElem_cons_zero, List.getElem_cons_succ, Act.put, List.setIfInBounds_toArray, List.set_cons_zero, List.set_cons_succ]
              refine wpAnyH_take (i := 32) (v := ?_) rfl (by kernel_rfl) (by kernel_rfl) (by kernel_rfl) (fun _ _ _ h => h) (Or.inl ⟨by rfl, ?_⟩) Hd ?_
              rotate_left
              · intro w hSw
                go_simp
                try with_reducible rfl
              try simp only [List.getElem_toArray, List.getElem_cons_zero, List.getElem_cons_succ, Act.put, List.setIfInBounds_toArray, List.set_cons_zero, List.set_cons_succ]
              refine wpAnyH_take (i := 33) (v := ?_) rfl (by kernel_rfl) (by kernel_rfl) (by kernel_rfl) (fun _ _ _ h => h) (Or.inl ⟨by rfl, ?_⟩) Hd ?_
              rotate_left
              · intro w hSw
                go_simp
                try with_reducible rfl
              try simp only [List.getElem_toArray, List.getElem_cons_zero, List.getElem_cons_succ, Act.put, List.setIfInBounds_toArray, List.set_cons_zero, List.set_cons_succ]
              refine wpAnyH_take (i := 34) (v := ?_) rfl (by kernel_rfl) (by kernel_rfl) (by kernel_rfl) (fun _ _ _ h => h) (Or.inl ⟨by rfl, ?_⟩) Hd ?_
              rotate_left
              · intro w hSw
                go_simp
                try with_reducible rfl
              try simp only [List.getElem_toArray, List.getElem_cons_zero, List.getElem_cons_succ, Act.put, List.setIfInBounds_toArray, List.set_cons_zero, List.set_cons_succ]
              refine wpAnyH_done (by kernel_rfl) ?_ _
              obtain ⟨wz, hwz⟩ : ∃ wz, wz = wd := ⟨_, rfl⟩
              subst hwz
              have hz1 := Hd
              go_upto_region 18 with (fail)
              refine wp_region_held_drew (S := fun W => Below w9.heap.size w9 W) (by kernel_rfl) (below_drewN hz1 1) (fun Hd => ?_)
              have Hd : Below w9.heap.size w9 wz.drew := below_drewN hz1 1
              have Zd : w9.heap.size ≤ wz.drew.heap.size := hz1.size
              generalize World.drew wz = wd at *
              refine wpAnyH_take (i := 0) (v := ?_) rfl (by kernel_rfl) (by kernel_rfl) (by kernel_rfl) (fun _ _ _ h => h) (Or.inl ⟨by rfl, ?_⟩) Hd ?_
              rotate_left
              · intro w hSw
                go_simp
                try with_reducible rfl
              try simp only [List.getElem_toArray, List.getElem_cons_zero, List.getElem_cons_succ, Act.put, List.setIfInBounds_toArray, List.set_cons_zero, List.set_cons_succ]
              refine wpAnyH_take (i := 1) (v := ?_) rfl (by kernel_rfl) (by kernel_rfl) (by kernel_rfl) (fun _ _ _ h => h) (Or.inl ⟨by rfl, ?_⟩) Hd ?_
              rotate_left
              · intro w hSw
                go_simp
                try with_reducible rfl
              try simp only [List.getElem_toArray, List.getElem_cons_zero, List.getElem_cons_succ, Act.put, List.setIfInBounds_toArray, List.set_cons_zero, List.set_cons_succ]
              refine wpAnyH_take (i := 2) (v := ?_) rfl (by kernel_rfl) (by kernel_rfl) (by kernel_rfl) (fun _ _ _ h => h) (Or.inl ⟨by rfl, ?_⟩) Hd ?_
              rotate_left
              · intro w hSw
                go_simp
                try with_reducible rfl
              try simp only [List.getElem_toArray, List.getElem_cons_zero, List.getElem_cons_succ, Act.put, List.setIfInBounds_toArray, List.set_cons_zero, List.set_cons_succ]
              refine wpAnyH_take (i := 3) (v := ?_) rfl (by kernel_rfl) (by kernel_rfl) (by kernel_rfl) (fun _ _ _ h => h) (Or.inl ⟨by rfl, ?_⟩) Hd ?_
              rotate_left
              · intro w hSw
                have c0 := (hSw.cell (p := ⟨I1, j, none⟩) ltI1).trans e1
                go_simp
                try with_reducible rfl
              try simp only [List.getElem_toArray, List.getElem_cons_zero, List.getElem_cons_succ, Act.put, List.setIfInBounds_toArray, List.set_cons_zero, List.set_cons_succ]
              refine wpAnyH_take (i := 4) (v := ?_) rfl (by kernel_rfl) (by kernel_rfl) (by kernel_rfl) (fun _ _ _ h => h) (Or.inl ⟨by rfl, ?_⟩) Hd ?_
              rotate_left
              · intro w hSw
                go_simp
                try with_reducible rfl
              try simp only [List.getElem_toArray, List.getElem_cons_zero, List.getElem_cons_succ, Act.put, List.setIfInBounds_toArray, List.set_cons_zero, List.set_cons_succ]
              refine wpAnyH_take (i := 5) (v := ?_) rfl (by kernel_rfl) (by kernel_rfl) (by kernel_rfl) (fun _ _ _ h => h) (Or.inl ⟨by rfl, ?_⟩) Hd ?_
              rotate_left
              · intro w hSw
                go_simp
                try with_reducible rfl
              try simp only [List.getElem_toArray, List.getElem_cons_zero, List.getElem_cons_succ, Act.put, List.setIfInBounds_toArray, List.set_cons_zero, List.set_cons_succ]
              refine wpAnyH_take (i := 6) (v := ?_) rfl (by kernel_rfl) (by kernel_rfl) (by kernel_rfl) (fun _ _ _ h => h) (Or.inl ⟨by rfl, ?_⟩) Hd ?_
              rotate_left
              · intro w hSw
                go_simp
                try with_reducible rfl
              try simp only [List.getElem_toArray, List.getElem_cons_zero, List.getElem_cons_succ, Act.put, List.setIfInBounds_toArray, List.set_cons_zero, List.set_cons_succ]
              refine wpAnyH_take (i := 7) (v := ?_) rfl (by kernel_rfl) (by kernel_rfl) (by kernel_rfl) (fun _ _ _ h => h) (Or.inl ⟨by rfl, ?_⟩) Hd ?_
              rotate_left
              · intro w hSw
                have c0 := (hSw.cell (p := ⟨I2, j, none⟩) ltI2).trans e2
                go_simp
                try with_reducible rfl
              try simp only [List.getElem_toArray, List.getElem_cons_zero, List.getElem_cons_succ, Act.put, List.setIfInBounds_toArray, List.set_cons_zero, List.set_cons_succ]
              refine wpAnyH_take (i := 8) (v := ?_) rfl (by kernel_rfl) (by kernel_rfl) (by kernel_rfl) (fun _ _ _ h => h) (Or.inl ⟨by rfl, ?_⟩) Hd ?_
              rotate_left
              · intro w hSw
                go_simp
                try with_reducible rfl
              try simp only [List.getElem_toArray, List.getElem_cons_zero, List.getElem_cons_succ, Act.put, List.setIfInBounds_toArray, List.set_cons_zero, List.set_cons_succ]
              refine wpAnyH_take (i := 9) (v := ?_) rfl (by kernel_rfl) (by kernel_rfl) (by kernel_rfl) (fun _ _ _ h => h) (Or.inl ⟨by rfl, ?_⟩) Hd ?_
              rotate_left
              · intro w hSw
                go_simp
                try with_reducible rfl
              try simp only [List.getElem_toArray, List.getElem_cons_zero, List.getElem_cons_succ, Act.put, List.setIfInBounds_toArray, List.set_cons_zero, List.set_cons_succ]
              refine wpAnyH_take (i := 10) (v := undef) rfl (by kernel_rfl) (by kernel_rfl) (by kernel_rfl) (fun _ _ _ h => h) (Or.inr ⟨by rfl, rfl⟩) Hd ?_
              try simp only [List.getElem_toArray, List.getElem_cons_zero, List.getElem_cons_succ, Act.put, List.setIfInBounds_toArray, List.set_cons_zero, List.set_cons_succ]
              refine wpAnyH_take (i := 11) (v := undef) rfl (by kernel_rfl) (by kernel_rfl) (by kernel_rfl) (fun _ _ _ h => h) (Or.inr ⟨by rfl, rfl⟩) Hd ?_
              try simp only [List.getElem_toArray, List.getElem_cons_zero, List.getElem_cons_succ, Act.put, List.setIfInBounds_toArray, List.set_cons_zero, List.set_cons_succ]
              refine wpAnyH_take (i := 12) (v := undef) rfl (by kernel_rfl) (by kernel_rfl) (by kernel_rfl) (fun _ _ _ h => h) (Or.inr ⟨by rfl, rfl⟩) Hd ?_
              try simp only [List.getElem_toArray, List.getElem_cons_zero, List.getElem_cons_succ, Act.put, List.setIfInBounds_toArray, List.set_cons_zero, List.set_cons_succ]
              refine wpAnyH_take (i := 13) (v := undef) rfl (by kernel_rfl) (by kernel_rfl) (by kernel_rfl) (fun _ _ _ h => h) (Or.inr ⟨by rfl, rfl⟩) Hd ?_
              try simp only [List.getElem_toArray, List.getElem_cons_zero, List.getElem_cons_succ, Act.put, List.setIfInBounds_toArray, List.set_cons_zero, List.set_cons_succ]
              refine wpAnyH_take (i := 14) (v := undef) rfl (by kernel_rfl) (by kernel_rfl) (by kernel_rfl) (fun _ _ _ h => h) (Or.inr ⟨by rfl, rfl⟩) Hd ?_
              try simp only [List.getElem_toArray, List.getElem_cons_zero, List.getElem_cons_succ, Act.put, List.setIfInBounds_toArray, List.set_cons_zero, List.set_cons_succ]
              refine wpAnyH_take (i := 15) (v := undef) rfl (by kernel_rfl) (by kernel_rfl) (by kernel_rfl) (fun _ _ _ h => h) (Or.inr ⟨by rfl, rfl⟩) Hd ?_
              try simp only [List.getElem_toArray, List.getElem_cons_zero, List.getElem_cons_succ, Act.put, List.setIfInBounds_toArray, List.set_cons_zero, List.set_cons_succ]
              refine wpAnyH_take (i := 16) (v := undef) rfl (by kernel_rfl) (by kernel_rfl) (by kernel_rfl) (fun _ _ _ h => h) (Or.inr ⟨by rfl, rfl⟩) Hd ?_
              try simp only [List.getElem_toArray, List.getElem_cons_zero, List.getElem_cons_succ, Act.put, List.setIfInBounds_toArray, List.set_cons_zero, List.set_cons_succ]
              refine wpAnyH_take (i := 17) (v := undef) rfl (by kernel_rfl) (by kernel_rfl) (by kernel_rfl) (fun _ _ _ h => h) (Or.inr ⟨by rfl, rfl⟩) Hd ?_
              try simp only [List.getElem_toArray, List.getElem_cons_zero, List.getElem_cons_succ, Act.put, List.setIfInBounds_toArray, List.set_cons_zero, List.set_cons_succ]
              refine wpAnyH_take (i := 18) (v := undef) rfl (by kernel_rfl) (by kernel_rfl) (by kernel_rfl) (fun _ _ _ h => h) (Or.inr ⟨by rfl, rfl⟩) Hd ?_
              try simp only [List.getElem_toArray, List.getElem_cons_zero, List.getElem_cons_succ, Act.put, List.setIfInBounds_toArray, List.set_cons_zero, List.set_cons_succ]
              refine wpAnyH_take (i := 19) (v := undef) rfl (by kernel_rfl) (by kernel_rfl) (by kernel_rfl) (fun _ _ _ h => h) (Or.inr ⟨by rfl, rfl⟩) Hd ?_
              try simp only [List.getElem_toArray, List.getElem_cons_zero, List.getElem_cons_succ, Act.put, List.setIfInBounds_toArray, List.set_cons_zero, List.set_cons_succ]
              refine wpAnyH_take (i := 20) (v := undef) rfl (by kernel_rfl) (by kernel_rfl) (by kernel_rfl) (fun _ _ _ h => h) (Or.inr ⟨by rfl, rfl⟩) Hd ?_
              try simp only [List.getElem_toArray, List.getElem_cons_zero, List.getElem_cons_succ, Act.put, List.setIfInBounds_toArray, List.set_cons_zero, List.set_cons_succ]
              refine wpAnyH_take (i := 21) (v := undef) rfl (by kernel_rfl) (by kernel_rfl) (by kernel_rfl) (fun _ _ _ h => h) (Or.inr ⟨by rfl, rfl⟩) Hd ?_
              try simp only [List.getElem_toArray, List.getElem_cons_zero, List.getElem_cons_succ, Act.put, List.setIfInBounds_toArray, List.set_cons_zero, List.set_cons_succ]
              refine wpAnyH_take (i := 22) (v := undef) rfl (by kernel_rfl) (by kernel_rfl) (by kernel_rfl) (fun _ _ _ h => h) (Or.inr ⟨by rfl, rfl⟩) Hd ?_
              try simp only [List.getElem_toArray, List.getElem_cons_zero, List.getElem_cons_succ, Act.put, List.setIfInBounds_toArray, List.set_cons_zero, List.set_cons_succ]
              refine wpAnyH_take (i := 23) (v := undef) rfl (by kernel_rfl) (by kernel_rfl) (by kernel_rfl) (fun _ _ _ h => h) (Or.inr ⟨by rfl, rfl⟩) Hd ?_
              try simp only [List.getElem_toArray, List.getElem_cons_zero, List.getElem_cons_succ, Act.put, List.setIfInBounds_toArray, List.set_cons_zero, List.set_cons_succ]
              refine wpAnyH_take (i := 24) (v := undef) rfl (by kernel_rfl) (by kernel_rfl) (by kernel_rfl) (fun _ _ _ h => h) (Or.inr ⟨by rfl, rfl⟩) Hd ?_
              try simp only [List.getElem_toArray, List.getElem_cons_zero, List.getElem_cons_succ, Act.put, List.setIfInBounds_toArray, List.set_cons_zero, List.set_cons_succ]
              refine wpAnyH_take (i := 25) (v := undef) rfl (by kernel_rfl) (by kernel_rfl) (by kernel_rfl) (fun _ _ _ h => h) (Or.inr ⟨by rfl, rfl⟩) Hd ?_
              try simp only [List.getElem_toArray, List.getElem_cons_zero, List.getElem_cons_succ, Act.put, List.setIfInBounds_toArray, List.set_cons_zero, List.set_cons_succ]
              refine wpAnyH_take (i := 26) (v := undef) rfl (by kernel_rfl) (by kernel_rfl) (by kernel_rfl) (fun _ _ _ h => h) (Or.inr ⟨by rfl, rfl⟩) Hd ?_
              try simp only [List.getElem_toArray, List.getElem_cons_zero, List.getElem_cons_succ, Act.put, List.setIfInBounds_toArray, List.set_cons_zero, List.set_cons_succ]
              refine wpAnyH_take (i := 27) (v := undef) rfl (by kernel_rfl) (by kernel_rfl) (by kernel_rfl) (fun _ _ _ h => h) (Or.inr ⟨by rfl, rfl⟩) Hd ?_
              try simp only [List.getElem_toArray, List.getElem_cons_zero, List.getElem_cons_succ, Act.put, List.setIfInBounds_toArray, List.set_cons_zero, List.set_cons_succ]
              refine wpAnyH_take (i := 28) (v := undef) rfl (by kernel_rfl) (by kernel_rfl) (by kernel_rfl) (fun _ _ _ h => h) (Or.inr ⟨by rfl, rfl⟩) Hd ?_
              try simp only [List.getElem_toArray, List.getElem_cons_zero, List.getElem_cons_succ, Act.put, List.setIfInBounds_toArray, List.set_cons_zero, List.set_cons_succ]
              refine wpAnyH_take (i := 29) (v := undef) rfl (by kernel_rfl) (by kernel_rfl) (by kernel_rfl) (fun _ _ _ h => h) (Or.inr ⟨by rfl, rfl⟩) Hd ?_
              try simp only [List.getElem_toArray, List.getElem_cons_zero, List.getElem_cons_succ, Act.put, List.setIfInBounds_toArray, List.set_cons_zero, List.set_cons_succ]
              refine wpAnyH_take (i := 30) (v := undef) rfl (by kernel_rfl) (by kernel_rfl) (by kernel_rfl) (fun _ _ _ h => h) (Or.inr ⟨by rfl, rfl⟩) Hd ?_
              try simp only [List.getElem_toArray, List.getElem_cons_zero, List.getElem_cons_succ, Act.put, List.setIfInBounds_toArray, List.set_cons_zero, List.set_cons_succ]
              refine wpAnyH_take (i := 31) (v := undef) rfl (by kernel_rfl) (by kernel_rfl) (by kernel_rfl) (fun _ _ _ h => h) (Or.inr ⟨by rfl, rfl⟩) Hd ?_
              try simp only [List.getElem_toArray, List.getElem_cons_zero, List.getElem_cons_succ, Act.put, List.setIfInBounds_toArray, List.set_cons_zero, List.set_cons_succ]
              refine wpAnyH_take (i := 32) (v := undef) rfl (by kernel_rfl) (by kernel_rfl) (by kernel_rfl) (fun _ _ _ h => h) (Or.inr ⟨by rfl, rfl⟩) Hd ?_
              try simp only [List.getElem_toArray, List.getElem_cons_zero, List.getElem_cons_succ, Act.put, List.setIfInBounds_toArray, List.set_cons_zero, List.set_cons_succ]
              refine wpAnyH_take (i := 33) (v := undef) rfl (by kernel_rfl) (by kernel_rfl) (by kernel_rfl) (fun _ _ _ h => h) (Or.inr ⟨by rfl, rfl⟩) Hd ?_
              try simp only [List.getElem_toArray, List.getElem_cons_zero, List.getElem_cons_succ, Act.put, List.setIfInBounds_toArray, List.set_cons_zero, List.set_cons_succ]
              refine wpAnyH_take (i := 34) (v := undef) rfl (by kernel_rfl) (by kernel_rfl) (by kernel_rfl) (fun _ _ _ h => h) (Or.inr ⟨by rfl, rfl⟩) Hd ?_
              try simp only [List.getElem_toArray, List.getElem_cons_zero, List.getElem_cons_succ, Act.put, List.setIfInBounds_toArray, List.set_cons_zero, List.set_cons_succ]
              refine wpAnyH_take (i := 35) (v := undef) rfl (by kernel_rfl) (by kernel_rfl) (by kernel_rfl) (fun _ _ _ h => h) (Or.inr ⟨by rfl, rfl⟩) Hd ?_
              try simp only [List.getElem_toArray, List.getElem_cons_zero, List.getElem_cons_succ, Act.put, List.setIfInBounds_toArray, List.set_cons_zero, List.set_cons_succ]
              refine wpAnyH_take (i := 36) (v := ?_) rfl (by kernel_rfl) (by kernel_rfl) (by kernel_rfl) (fun _ _ _ h => h) (Or.inl ⟨by rfl, ?_⟩) Hd ?_
              rotate_left
              · intro w hSw
                go_simp
                try with_reducible rfl
              try simp only [List.getElem_toArray, List.getElem_cons_zero, List.getElem_cons_succ, Act.put, List.setIfInBounds_toArray, List.set_cons_zero, List.set_cons_succ]
              refine wpAnyH_done (by kernel_rfl) ?_ _
              go_wp2_with (fail)
              go_roundw
              case rel => exact ⟨j + 1, by omega, by go_num, Hd⟩
              case measure => simp [intOf]; omega
            · have hb : (!b) = a := by revert hab; cases a <;> cases b <;> simp
              have ha : (!a) = b := by rw [← hb]; simp
              have eqA : (a == b) = false := by simpa using hab
              have neA : (a != b) = true := by simpa using hab
              rw [ha, keyF_eq] at gc1
              rw [hb, keyF_eq] at gc2
              obtain ⟨P1, hP1⟩ : ∃ P, secS s u j (bn a) = P := ⟨_, rfl⟩
              obtain ⟨P2, hP2⟩ : ∃ P, secS s u j (bn b) = P := ⟨_, rfl⟩
              have dP1 := Lib.hid (show IsD P1 by rw [← hP1]; exact secS_isD _ _ _ _)
              have dP2 := Lib.hid (show IsD P2 by rw [← hP2]; exact secS_isD _ _ _ _)
              rw [hP1] at go1 gc2
              rw [hP2] at go2 gc1
              have hE1 : ∀ W, (Op.equalIn 10000 37 (.agg (arrK .u8 (hashS P1))) (.agg (arrK .u8 (hashS P1)))).run Try.prog W = .ok true W := fun W => by
                have := run_eqD (hashS_isD P1) (hashS_isD P1) W
                simpa using this
              have hE2 : ∀ W, (Op.equalIn 10000 37 (.agg (arrK .u8 (hashS P2))) (.agg (arrK .u8 (hashS P2)))).run Try.prog W = .ok true W := fun W => by
                have := run_eqD (hashS_isD P2) (hashS_isD P2) W
                simpa using this
              have Q1 := Lib.hid go1; have Q2 := Lib.hid go2; have Q3 := Lib.hid gc1; have Q4 := Lib.hid gc2
              clear hP1 hP2 go1 go2 gc1 gc2 hab ha hb
              go_upto_region 16 with (fail)
              refine wp_region_held_drew (S := fun W => Below w9.heap.size w9 W) (by kernel_rfl) (below_drewN hw9r.out 1) (fun Hd => ?_)
              have Hd : Below w9.heap.size w9 wr.drew := below_drewN hw9r.out 1
              have Zd : w9.heap.size ≤ wr.drew.heap.size := hw9r.out.size
              generalize World.drew wr = wd at *
              refine wpAnyH_take (i := 0) (v := ?_) rfl (by kernel_rfl) (by kernel_rfl) (by kernel_rfl) (fun _ _ _ h => h) (Or.inl ⟨by rfl, ?_⟩) Hd ?_
              rotate_left
              · intro w hSw
                go_simp
                try with_reducible rfl
              try simp only [List.getElem_toArray, List.getElem_cons_zero, List.getElem_cons_succ, Act.put, List.setIfInBounds_toArray, List.set_cons_zero, List.set_cons_succ]
              refine wpAnyH_take (i := 1) (v := ?_) rfl (by kernel_rfl) (by kernel_rfl) (by kernel_rfl) (fun _ _ _ h => h) (Or.inl ⟨by rfl, ?_⟩) Hd ?_
              rotate_left
              · intro w hSw
                go_simp
                try with_reducible rfl
              try simp only [List.getElem_toArray, List.getElem_cons_zero, List.getElem_cons_succ, Act.put, List.setIfInBounds_toArray, List.set_cons_zero, List.set_cons_succ]
              refine wpAnyH_take (i := 2) (v := ?_) rfl (by kernel_rfl) (by kernel_rfl) (by kernel_rfl) (fun _ _ _ h => h) (Or.inl ⟨by rfl, ?_⟩) Hd ?_
              rotate_left
              · intro w hSw
                go_simp
                try with_reducible rfl
              try simp only [List.getElem_toArray, List.getElem_cons_zero, List.getElem_cons_succ, Act.put, List.setIfInBounds_toArray, List.set_cons_zero, List.set_cons_succ]
              refine wpAnyH_take (i := 3) (v := ?_) rfl (by kernel_rfl) (by kernel_rfl) (by kernel_rfl) (fun _ _ _ h => h) (Or.inl ⟨by rfl, ?_⟩) Hd ?_
              rotate_left
              · intro w hSw
                have c0 := (hSw.cell (p := ⟨I1, j, none⟩) ltI1).trans e1
                go_simp
                try with_reducible rfl
              try simp only [List.getElem_toArray, List.getElem_cons_zero, List.getElem_cons_succ, Act.put, List.setIfInBounds_toArray, List.set_cons_zero, List.set_cons_succ]
              refine wpAnyH_take (i := 4) (v := ?_) rfl (by kernel_rfl) (by kernel_rfl) (by kernel_rfl) (fun _ _ _ h => h) (Or.inl ⟨by rfl, ?_⟩) Hd ?_
              rotate_left
              · intro w hSw
                go_simp
                try with_reducible rfl
              try simp only [List.getElem_toArray, List.getElem_cons_zero, List.getElem_cons_succ, Act.put, List.setIfInBounds_toArray, List.set_cons_zero, List.set_cons_succ]
              refine wpAnyH_take (i := 5) (v := ?_) rfl (by kernel_rfl) (by kernel_rfl) (by kernel_rfl) (fun _ _ _ h => h) (Or.inl ⟨by rfl, ?_⟩) Hd ?_
              rotate_left
              · intro w hSw
                go_simp
                try with_reducible rfl
              try simp only [List.getElem_toArray, List.getElem_cons_zero, List.getElem_cons_succ, Act.put, List.setIfInBounds_toArray, List.set_cons_zero, List.set_cons_succ]
              refine wpAnyH_take (i := 6) (v := ?_) rfl (by kernel_rfl) (by kernel_rfl) (by kernel_rfl) (fun _ _ _ h => h) (Or.inl ⟨by rfl, ?_⟩) Hd ?_
              rotate_left
              · intro w hSw
                go_simp
                try with_reducible rfl
              try simp only [List.getElem_toArray, List.getElem_cons_zero, List.getElem_cons_succ, Act.put, List.setIfInBounds_toArray, List.set_cons_zero, List.set_cons_succ]
              refine wpAnyH_take (i := 7) (v := ?_) rfl (by kernel_rfl) (by kernel_rfl) (by kernel_rfl) (fun _ _ _ h => h) (Or.inl ⟨by rfl, ?_⟩) Hd ?_
              rotate_left
              · intro w hSw
                have c0 := (hSw.cell (p := ⟨I2, j, none⟩) ltI2).trans e2
                go_simp
                try with_reducible rfl
              try simp only [List.getElem_toArray, List.getElem_cons_zero, List.getElem_cons_succ, Act.put, List.setIfInBounds_toArray, List.set_cons_zero, List.set_cons_succ]
              refine wpAnyH_take (i := 8) (v := ?_) rfl (by kernel_rfl) (by kernel_rfl) (by kernel_rfl) (fun _ _ _ h => h) (Or.inl ⟨by rfl, ?_⟩) Hd ?_
              rotate_left
              · intro w hSw
                go_simp
                try with_reducible rfl
              try simp only [List.getElem_toArray, List.getElem_cons_zero, List.getElem_cons_succ, Act.put, List.setIfInBounds_toArray, List.set_cons_zero, List.set_cons_succ]
              refine wpAnyH_take (i := 9) (v := ?_) rfl (by kernel_rfl) (by kernel_rfl) (by kernel_rfl) (fun _ _ _ h => h) (Or.inl ⟨by rfl, ?_⟩) Hd ?_
              rotate_left
              · intro w hSw
                go_simp
                try with_reducible rfl
              try simp only [List.getElem_toArray, List.getElem_cons_zero, List.getElem_cons_succ, Act.put, List.setIfInBounds_toArray, List.set_cons_zero, List.set_cons_succ]
              refine wpAnyH_take (i := 10) (v := undef) rfl (by kernel_rfl) (by kernel_rfl) (by kernel_rfl) (fun _ _ _ h => h) (Or.inr ⟨by rfl, rfl⟩) Hd ?_
              try simp only [List.getElem_toArray, List.getElem_cons_zero, List.getElem_cons_succ, Act.put, List.setIfInBounds_toArray, List.set_cons_zero, List.set_cons_succ]
              refine wpAnyH_take (i := 11) (v := undef) rfl (by kernel_rfl) (by kernel_rfl) (by kernel_rfl) (fun _ _ _ h => h) (Or.inr ⟨by rfl, rfl⟩) Hd ?_
              try simp only [List.getElem_toArray, List.getElem_cons_zero, List.getElem_cons_succ, Act.put, List.setIfInBounds_toArray, List.set_cons_zero, List.set_cons_succ]
              refine wpAnyH_take (i := 12) (v := undef) rfl (by kernel_rfl) (by kernel_rfl) (by kernel_rfl) (fun _ _ _ h => h) (Or.inr ⟨by rfl, rfl⟩) Hd ?_
              try simp only [List.getElem_toArray, List.getElem_cons_zero, List.getElem_cons_succ, Act.put, List.setIfInBounds_toArray, List.set_cons_zero, List.set_cons_succ]
              refine wpAnyH_take (i := 13) (v := undef) rfl (by kernel_rfl) (by kernel_rfl) (by kernel_rfl) (fun _ _ _ h => h) (Or.inr ⟨by rfl, rfl⟩) Hd ?_
              try simp only [List.getElem_toArray, List.getElem_cons_zero, List.getElem_cons_succ, Act.put, List.setIfInBounds_toArray, List.set_cons_zero, List.set_cons_succ]
              refine wpAnyH_take (i := 14) (v := undef) rfl (by kernel_rfl) (by kernel_rfl) (by kernel_rfl) (fun _ _ _ h => h) (Or.inr ⟨by rfl, rfl⟩) Hd ?_
              try simp only [List.getElem_toArray, List.getElem_cons_zero, List.getElem_cons_succ, Act.put, List.setIfInBounds_toArray, List.set_cons_zero, List.set_cons_succ]
              refine wpAnyH_take (i := 15) (v := undef) rfl (by kernel_rfl) (by kernel_rfl) (by kernel_rfl) (fun _ _ _ h => h) (Or.inr ⟨by rfl, rfl⟩) Hd ?_
              try simp only [List.getElem_toArray, List.getElem_cons_zero, List.getElem_cons_succ, Act.put, List.setIfInBounds_toArray, List.set_cons_zero, List.set_cons_succ]
              refine wpAnyH_take (i := 16) (v := undef) rfl (by kernel_rfl) (by kernel_rfl) (by kernel_rfl) (fun _ _ _ h => h) (Or.inr ⟨by rfl, rfl⟩) Hd ?_
              try simp only [List.getElem_toArray, List.getElem_cons_zero, List.getElem_cons_succ, Act.put, List.setIfInBounds_toArray, List.set_cons_zero, List.set_cons_succ]
              refine wpAnyH_take (i := 17) (v := undef) rfl (by kernel_rfl) (by kernel_rfl) (by kernel_rfl) (fun _ _ _ h => h) (Or.inr ⟨by rfl, rfl⟩) Hd ?_
              try simp only [List.getElem_toArray, List.getElem_cons_zero, List.getElem_cons_succ, Act.put, List.setIfInBounds_toArray, List.set_cons_zero, List.set_cons_succ]
              refine wpAnyH_take (i := 18) (v := undef) rfl (by kernel_rfl) (by kernel_rfl) (by kernel_rfl) (fun _ _ _ h => h) (Or.inr ⟨by rfl, rfl⟩) Hd ?_
              try simp only [List.getElem_toArray, List.getElem_cons_zero, List.getElem_cons_succ, Act.put, List.setIfInBounds_toArray, List.set_cons_zero, List.set_cons_succ]
              refine wpAnyH_take (i := 19) (v := undef) rfl (by kernel_rfl) (by kernel_rfl) (by kernel_rfl) (fun _ _ _ h => h) (Or.inr ⟨by rfl, rfl⟩) Hd ?_
              try simp only [List.getElem_toArray, List.getElem_cons_zero, List.getElem_cons_succ, Act.put, List.setIfInBounds_toArray, List.set_cons_zero, List.set_cons_succ]
              refine wpAnyH_take (i := 20) (v := undef) rfl (by kernel_rfl) (by kernel_rfl) (by kernel_rfl) (fun _ _ _ h => h) (Or.inr ⟨by rfl, rfl⟩) Hd ?_
              try simp only [List.getElem_toArray, List.getElem_cons_zero, List.getElem_cons_succ, Act.put, List.setIfInBounds_toArray, List.set_cons_zero, List.set_cons_succ]
              refine wpAnyH_take (i := 21) (v := undef) rfl (by kernel_rfl) (by kernel_rfl) (by kernel_rfl) (fun _ _ _ h => h) (Or.inr ⟨by rfl, rfl⟩) Hd ?_
              try simp only [List.getElem_toArray, List.getElem_cons_zero, List.getElem_cons_succ, Act.put, List.setIfInBounds_toArray, List.set_cons_zero, List.set_cons_succ]
              refine wpAnyH_take (i := 22) (v := undef) rfl (by kernel_rfl) (by kernel_rfl) (by kernel_rfl) (fun _ _ _ h => h) (Or.inr ⟨by rfl, rfl⟩) Hd ?_
              try simp only [List.getElem_toArray, List.getElem_cons_zero, List.getElem_cons_succ, Act.put, List.setIfInBounds_toArray, List.set_cons_zero, List.set_cons_succ]
              refine wpAnyH_take (i := 23) (v := undef) rfl (by kernel_rfl) (by kernel_rfl) (by kernel_rfl) (fun _ _ _ h => h) (Or.inr ⟨by rfl, rfl⟩) Hd ?_
              try simp only [List.getElem_toArray, List.getElem_cons_zero, List.getElem_cons_succ, Act.put, List.setIfInBounds_toArray, List.set_cons_zero, List.set_cons_succ]
              refine wpAnyH_take (i := 24) (v := undef) rfl (by kernel_rfl) (by kernel_rfl) (by kernel_rfl) (fun _ _ _ h => h) (Or.inr ⟨by rfl, rfl⟩) Hd ?_
              try simp only [List.getElem_toArray, List.getElem_cons_zero, List.getElem_cons_succ, Act.put, List.setIfInBounds_toArray, List.set_cons_zero, List.set_cons_succ]
              refine wpAnyH_take (i := 25) (v := undef) rfl (by kernel_rfl) (by kernel_rfl) (by kernel_rfl) (fun _ _ _ h => h) (Or.inr ⟨by rfl, rfl⟩) Hd ?_
              try simp only [List.getElem_toArray, List.getElem_cons_zero, List.getElem_cons_succ, Act.put, List.setIfInBounds_toArray, List.set_cons_zero, List.set_cons_succ]
              refine wpAnyH_take (i := 26) (v := undef) rfl (by kernel_rfl) (by kernel_rfl) (by kernel_rfl) (fun _ _ _ h => h) (Or.inr ⟨by rfl, rfl⟩) Hd ?_
              try simp only [List.getElem_toArray, List.getElem_cons_zero, List.getElem_cons_succ, Act.put, List.setIfInBounds_toArray, List.set_cons_zero, List.set_cons_succ]
              refine wpAnyH_take (i := 27) (v := undef) rfl (by kernel_rfl) (by kernel_rfl) (by kernel_rfl) (fun _ _ _ h => h) (Or.inr ⟨by rfl, rfl⟩) Hd ?_
              try simp only [List.getElem_toArray, List.getElem_cons_zero, List.getElem_cons_succ, Act.put, List.setIfInBounds_toArray, List.set_cons_zero, List.set_cons_succ]
              refine wpAnyH_take (i := 28) (v := undef) rfl (by kernel_rfl) (by kernel_rfl) (by kernel_rfl) (fun _ _ _ h => h) (Or.inr ⟨by rfl, rfl⟩) Hd ?_
              try simp only [List.getElem_toArray, List.getElem_cons_zero, List.getElem_cons_succ, Act.put, List.setIfInBounds_toArray, List.set_cons_zero, List.set_cons_succ]
              refine wpAnyH_take (i := 29) (v := undef) rfl (by kernel_rfl) (by kernel_rfl) (by kernel_rfl) (fun _ _ _ h => h) (Or.inr ⟨by rfl, rfl⟩) Hd ?_
              try simp only [List.getElem_toArray, List.getElem_cons_zero, List.getElem_cons_succ, Act.put, List.setIfInBounds_toArray, List.set_cons_zero, List.set_cons_succ]
              refine wpAnyH_take (i := 30) (v := undef) rfl (by kernel_rfl) (by kernel_rfl) (by kernel_rfl) (fun _ _ _ h => h) (Or.inr ⟨by rfl, rfl⟩) Hd ?_
              try simp only [List.getElem_toArray, List.getElem_cons_zero, List.getElem_cons_succ, Act.put, List.setIfInBounds_toArray, List.set_cons_zero, List.set_cons_succ]
              refine wpAnyH_take (i := 31) (v := undef) rfl (by kernel_rfl) (by kernel_rfl) (by kernel_rfl) (fun _ _ _ h => h) (Or.inr ⟨by rfl, rfl⟩) Hd ?_
              try simp only [List.getElem_toArray, List.getElem_cons_zero, List.getElem_cons_succ, Act.put, List.setIfInBounds_toArray, List.set_cons_zero, List.set_cons_succ]
              refine wpAnyH_take (i := 32) (v := undef) rfl (by kernel_rfl) (by kernel_rfl) (by kernel_rfl) (fun _ _ _ h => h) (Or.inr ⟨by rfl, rfl⟩) Hd ?_
              try simp only [List.getElem_toArray, List.getElem_cons_zero, List.getElem_cons_succ, Act.put, List.setIfInBounds_toArray, List.set_cons_zero, List.set_cons_succ]
              refine wpAnyH_take (i := 33) (v := undef) rfl (by kernel_rfl) (by kernel_rfl) (by kernel_rfl) (fun _ _ _ h => h) (Or.inr ⟨by rfl, rfl⟩) Hd ?_
              try simp only [List.getElem_toArray, List.getElem_cons_zero, List.getElem_cons_succ, Act.put, List.setIfInBounds_toArray, List.set_cons_zero, List.set_cons_succ]
              refine wpAnyH_take (i := 34) (v := ?_) rfl (by kernel_rfl) (by kernel_rfl) (by kernel_rfl) (fun _ _ _ h => h) (Or.inl ⟨by rfl, ?_⟩) Hd ?_
              rotate_left
              · intro w hSw
                go_simp
                try with_reducible rfl
              try simp only [List.getElem_toArray, List.getElem_cons_zero, List.getElem_cons_succ, Act.put, List.setIfInBounds_toArray, List.set_cons_zero, List.set_cons_succ]
              refine wpAnyH_done (by kernel_rfl) ?_ _
              obtain ⟨wz, hwz⟩ : ∃ wz, wz = wd := ⟨_, rfl⟩
              subst hwz
              have hz1 := Hd
              go_upto_region 18 with (fail)
              refine wp_region_held_drew (S := fun W => Below w9.heap.size w9 W) (by kernel_rfl) (below_drewN hz1 1) (fun Hd => ?_)
              have Hd : Below w9.heap.size w9 wz.drew := below_drewN hz1 1
              have Zd : w9.heap.size ≤ wz.drew.heap.size := hz1.size
              generalize World.drew wz = wd at *
              refine wpAnyH_take (i := 0) (v := ?_) rfl (by kernel_rfl) (by kernel_rfl) (by kernel_rfl) (fun _ _ _ h => h) (Or.inl ⟨by rfl, ?_⟩) Hd ?_
              rotate_left
              · intro w hSw
                go_simp
                try with_reducible rfl
              try simp only [List.getElem_toArray, List.getElem_cons_zero, List.getElem_cons_succ, Act.put, List.setIfInBounds_toArray, List.set_cons_zero, List.set_cons_succ]
              refine wpAnyH_take (i := 1) (v := ?_) rfl (by kernel_rfl) (by kernel_rfl) (by kernel_rfl) (fun _ _ _ h => h) (Or.inl ⟨by rfl, ?_⟩) Hd ?_
              rotate_left
              · intro w hSw
                go_simp
                try with_reducible rfl
              try simp only [List.getElem_toArray, List.getElem_cons_zero, List.getElem_cons_succ, Act.put, List.setIfInBounds_toArray, List.set_cons_zero, List.set_cons_succ]
              refine wpAnyH_take (i := 2) (v := ?_) rfl (by kernel_rfl) (by kernel_rfl) (by kernel_rfl) (fun _ _ _ h => h) (Or.inl ⟨by rfl, ?_⟩) Hd ?_
              rotate_left
              · intro w hSw
                go_simp
                try with_reducible rfl
              try simp only [List.getElem_toArray, List.getElem_cons_zero, List.getElem_cons_succ, Act.put, List.setIfInBounds_toArray, List.set_cons_zero, List.set_cons_succ]
              refine wpAnyH_take (i := 3) (v := ?_) rfl (by kernel_rfl) (by kernel_rfl) (by kernel_rfl) (fun _ _ _ h => h) (Or.inl ⟨by rfl, ?_⟩) Hd ?_
              rotate_left
              · intro w hSw
                have c0 := (hSw.cell (p := ⟨I1, j, none⟩) ltI1).trans e1
                go_simp
                try with_reducible rfl
              try simp only [List.getElem_toArray, List.getElem_cons_zero, List.getElem_cons_succ, Act.put, List.setIfInBounds_toArray, List.set_cons_zero, List.set_cons_succ]
              refine wpAnyH_take (i := 4) (v := ?_) rfl (by kernel_rfl) (by kernel_rfl) (by kernel_rfl) (fun _ _ _ h => h) (Or.inl ⟨by rfl, ?_⟩) Hd ?_
              rotate_left
              · intro w hSw
                go_simp
                try with_reducible rfl
              try simp only [List.getElem_toArray, List.getElem_cons_zero, List.getElem_cons_succ, Act.put, List.setIfInBounds_toArray, List.set_cons_zero, List.set_cons_succ]
              refine wpAnyH_take (i := 5) (v := ?_) rfl (by kernel_rfl) (by kernel_rfl) (by kernel_rfl) (fun _ _ _ h => h) (Or.inl ⟨by rfl, ?_⟩) Hd ?_
              rotate_left
              · intro w hSw
                go_simp
                try with_reducible rfl
              try simp only [List.getElem_toArray, List.getElem_cons_zero, List.getElem_cons_succ, Act.put, List.setIfInBounds_toArray, List.set_cons_zero, List.set_cons_succ]
              refine wpAnyH_take (i := 6) (v := ?_) rfl (by kernel_rfl) (by kernel_rfl) (by kernel_rfl) (fun _ _ _ h => h) (Or.inl ⟨by rfl, ?_⟩) Hd ?_
              rotate_left
              · intro w hSw
                go_simp
                try with_reducible rfl
              try simp only [List.getElem_toArray, List.getElem_cons_zero, List.getElem_cons_succ, Act.put, List.setIfInBounds_toArray, List.set_cons_zero, List.set_cons_succ]
              refine wpAnyH_take (i := 7) (v := ?_) rfl (by kernel_rfl) (by kernel_rfl) (by kernel_rfl) (fun _ _ _ h => h) (Or.inl ⟨by rfl, ?_⟩) Hd ?_
              rotate_left
              · intro w hSw
                have c0 := (hSw.cell (p := ⟨I2, j, none⟩) ltI2).trans e2
                go_simp
                try with_reducible rfl
              try simp only [List.getElem_toArray, List.getElem_cons_zero, List.getElem_cons_succ, Act.put, List.setIfInBounds_toArray, List.set_cons_zero, List.set_cons_succ]
              refine wpAnyH_take (i := 8) (v := ?_) rfl (by kernel_rfl) (by kernel_rfl) (by kernel_rfl) (fun _ _ _ h => h) (Or.inl ⟨by rfl, ?_⟩) Hd ?_
              rotate_left
              · intro w hSw
                go_simp
                try with_reducible rfl
              try simp only [List.getElem_toArray, List.getElem_cons_zero, List.getElem_cons_succ, Act.put, List.setIfInBounds_toArray, List.set_cons_zero, List.set_cons_succ]
              refine wpAnyH_take (i := 9) (v := ?_) rfl (by kernel_rfl) (by kernel_rfl) (by kernel_rfl) (fun _ _ _ h => h) (Or.inl ⟨by rfl, ?_⟩) Hd ?_
              rotate_left
              · intro w hSw
                go_simp
                try with_reducible rfl
              try simp only [List.getElem_toArray, List.getElem_cons_zero, List.getElem_cons_succ, Act.put, List.setIfInBounds_toArray, List.set_cons_zero, List.set_cons_succ]
              refine wpAnyH_take (i := 10) (v := ?_) rfl (by kernel_rfl) (by kernel_rfl) (by kernel_rfl) (fun _ _ _ h => h) (Or.inl ⟨by rfl, ?_⟩) Hd ?_
              rotate_left
              · intro w hSw
                go_simp
                try with_reducible rfl
              try simp only [List.getElem_toArray, List.getElem_cons_zero, List.getElem_cons_succ, Act.put, List.setIfInBounds_toArray, List.set_cons_zero, List.set_cons_succ]
              refine wpAnyH_take (i := 11) (v := ?_) rfl (by kernel_rfl) (by kernel_rfl) (by kernel_rfl) (fun _ _ _ h => h) (Or.inl ⟨by rfl, ?_⟩) Hd ?_
              rotate_left
              · intro w hSw
                have c0 := (hSw.cell (p := ⟨X, 1, none⟩) ltX).trans s1
                go_simp
                try with_reducible rfl
              try simp only [List.getElem_toArray, List.getElem_cons_zero, List.getElem_cons_succ, Act.put, List.setIfInBounds_toArray, List.set_cons_zero, List.set_cons_succ]
              refine wpAnyH_take (i := 12) (v := ?_) rfl (by kernel_rfl) (by kernel_rfl) (by kernel_rfl) (fun _ _ _ h => h) (Or.inl ⟨by rfl, ?_⟩) Hd ?_
              rotate_left
              · intro w hSw
                go_simp
                try with_reducible rfl
              try simp only [List.getElem_toArray, List.getElem_cons_zero, List.getElem_cons_succ, Act.put, List.setIfInBounds_toArray, List.set_cons_zero, List.set_cons_succ]
              refine wpAnyH_take (i := 13) (v := ?_) rfl (by kernel_rfl) (by kernel_rfl) (by kernel_rfl) (fun _ _ _ h => h) (Or.inl ⟨by rfl, ?_⟩) Hd ?_
              rotate_left
              · intro w hSw
                go_simp
                try with_reducible rfl
              try simp only [List.getElem_toArray, List.getElem_cons_zero, List.getElem_cons_succ, Act.put, List.setIfInBounds_toArray, List.set_cons_zero, List.set_cons_succ]
              refine wpAnyH_take (i := 14) (v := ?_) rfl (by kernel_rfl) (by kernel_rfl) (by kernel_rfl) (fun _ _ _ h => h) (Or.inl ⟨by rfl, ?_⟩) Hd ?_
              rotate_left
              · intro w hSw
                go_simp
                try with_reducible rfl
              try simp only [List.getElem_toArray, List.getElem_cons_zero, List.getElem_cons_succ, Act.put, List.setIfInBounds_toArray, List.set_cons_zero, List.set_cons_succ]
              refine wpAnyH_take (i := 16) (v := ?_) rfl (by kernel_rfl) (by kernel_rfl) (by kernel_rfl) (fun _ _ _ h => h) (Or.inl ⟨by rfl, ?_⟩) Hd ?_
              rotate_left
              · intro w hSw
                go_simp
                try with_reducible rfl
              try simp only [List.getElem_toArray, List.getElem_cons_zero, List.getElem_cons_succ, Act.put, List.setIfInBounds_toArray, List.set_cons_zero, List.set_cons_succ]
              refine wpAnyH_take (i := 17) (v := ?_) rfl (by kernel_rfl) (by kernel_rfl) (by kernel_rfl) (fun _ _ _ h => h) (Or.inl ⟨by rfl, ?_⟩) Hd ?_
              rotate_left
              · intro w hSw
                have c0 := (hSw.cell (p := ⟨Y, 2, none⟩) ltY).trans t2
                go_simp
                try with_reducible rfl
              try simp only [List.getElem_toArray, List.getElem_cons_zero, List.getElem_cons_succ, Act.put, List.setIfInBounds_toArray, List.set_cons_zero, List.set_cons_succ]
              refine wpAnyH_take (i := 18) (v := ?_) rfl (by kernel_rfl) (by kernel_rfl) (by kernel_rfl) (fun _ _ _ h => h) (Or.inl ⟨by rfl, ?_⟩) Hd ?_
              rotate_left
              · intro w hSw
                go_simp
                try with_reducible rfl
              try simp only [List.getElem_toArray, List.getElem_cons_zero, List.getElem_cons_succ, Act.put, List.setIfInBounds_toArray, List.set_cons_zero, List.set_cons_succ]
              refine wpAnyH_take (i := 19) (v := ?_) rfl (by kernel_rfl) (by kernel_rfl) (by kernel_rfl) (fun _ _ _ h => h) (Or.inl ⟨by rfl, ?_⟩) Hd ?_
              rotate_left
              · intro w hSw
                go_simp
                try with_reducible rfl
              try simp only [List.getElem_toArray, List.getElem_cons_zero, List.getElem_cons_succ, Act.put, List.setIfInBounds_toArray, List.set_cons_zero, List.set_cons_succ]
              refine wpAnyH_take (i := 20) (v := .agg (arrK .u8 (hashS P1))) rfl (by kernel_rfl) (by kernel_rfl) (by kernel_rfl) (fun _ _ _ h => h) (yieldsIf_load_mid (by rfl) _ _ rfl _ _ rfl ((hashS P1).map fun (n : Nat) => Value.int .u8 (n : Int)) (.array 32 5) (fun W hW => range_at HcL1.out (HCc19.out.below hW) Q4.out) (by kernel_rfl) rfl (dV_info (hashS_isD P1).1)) Hd ?_
              try simp only [List.getElem_toArray, List.getElem_cons_zero, List.getElem_cons_succ, Act.put, List.setIfInBounds_toArray, List.set_cons_zero, List.set_cons_succ]
              refine wpAnyH_ready (rs := [15]) (by kernel_rfl) (by simp) (AllReadyH.cons rfl (fun K hK => ?_) AllReadyH.nil)
              go_simp
              refine (tagged_any ⟨#[111, 112, 101, 110]⟩ _ 32 32 (P1) _ (elem_cells HoL.out (HCo9.out.below Hd) Q1.out) (dP1.out.1) (by omega) (dP1.out.2) (by decide)).mono ?_
              rintro e w1_ ⟨he, hb1⟩
              have he : e = .returned (.agg (arrK .u8 (hashS (P1)))) := by rw [hashS_eq]; exact he
              subst he
              have Hb1 : Below w9.heap.size w9 w1_ := below_of Hd hb1 Hd.size
              have Zb1 : w9.heap.size ≤ w1_.heap.size := Nat.le_trans Zd hb1.size
              go_wp2_with (fail)
              refine hK.out _ _ Hb1 fun _ => ?_
              clear hK K
              try simp only [List.getElem_toArray, List.getElem_cons_zero, List.getElem_cons_succ, Act.put, List.setIfInBounds_toArray, List.set_cons_zero, List.set_cons_succ]
              refine wpAnyH_take (i := 21) (v := ?_) rfl (by kernel_rfl) (by kernel_rfl) (by kernel_rfl) (fun _ _ _ h => h) (Or.inl ⟨by rfl, ?_⟩) Hb1 ?_
              rotate_left
              · intro w hSw
                go_simp
                try with_reducible rfl
              try simp only [List.getElem_toArray, List.getElem_cons_zero, List.getElem_cons_succ, Act.put, List.setIfInBounds_toArray, List.set_cons_zero, List.set_cons_succ]
              refine wpAnyH_take (i := 22) (v := ?_) rfl (by kernel_rfl) (by kernel_rfl) (by kernel_rfl) (fun _ _ _ h => h) (Or.inl ⟨by rfl, ?_⟩) Hb1 ?_
              rotate_left
              · intro w hSw
                go_simp
                try with_reducible rfl
              try simp only [List.getElem_toArray, List.getElem_cons_zero, List.getElem_cons_succ, Act.put, List.setIfInBounds_toArray, List.set_cons_zero, List.set_cons_succ]
              refine wpAnyH_take (i := 23) (v := ?_) rfl (by kernel_rfl) (by kernel_rfl) (by kernel_rfl) (fun _ _ _ h => h) (Or.inl ⟨by rfl, ?_⟩) Hb1 ?_
              rotate_left
              · intro w hSw
                go_simp
                try with_reducible rfl
              try simp only [List.getElem_toArray, List.getElem_cons_zero, List.getElem_cons_succ, Act.put, List.setIfInBounds_toArray, List.set_cons_zero, List.set_cons_succ]
              refine wpAnyH_take (i := 24) (v := ?_) rfl (by kernel_rfl) (by kernel_rfl) (by kernel_rfl) (fun _ _ _ h => h) (Or.inl ⟨by rfl, ?_⟩) Hb1 ?_
              rotate_left
              · intro w hSw
                have c0 := (hSw.cell (p := ⟨Y, 1, none⟩) ltY).trans t1
                go_simp
                try with_reducible rfl
              try simp only [List.getElem_toArray, List.getElem_cons_zero, List.getElem_cons_succ, Act.put, List.setIfInBounds_toArray, List.set_cons_zero, List.set_cons_succ]
              refine wpAnyH_take (i := 25) (v := ?_) rfl (by kernel_rfl) (by kernel_rfl) (by kernel_rfl) (fun _ _ _ h => h) (Or.inl ⟨by rfl, ?_⟩) Hb1 ?_
              rotate_left
              · intro w hSw
                go_simp
                try with_reducible rfl
              try simp only [List.getElem_toArray, List.getElem_cons_zero, List.getElem_cons_succ, Act.put, List.setIfInBounds_toArray, List.set_cons_zero, List.set_cons_succ]
              refine wpAnyH_take (i := 26) (v := ?_) rfl (by kernel_rfl) (by kernel_rfl) (by kernel_rfl) (fun _ _ _ h => h) (Or.inl ⟨by rfl, ?_⟩) Hb1 ?_
              rotate_left
              · intro w hSw
                go_simp
                try with_reducible rfl
              try simp only [List.getElem_toArray, List.getElem_cons_zero, List.getElem_cons_succ, Act.put, List.setIfInBounds_toArray, List.set_cons_zero, List.set_cons_succ]
              refine wpAnyH_take (i := 27) (v := ?_) rfl (by kernel_rfl) (by kernel_rfl) (by kernel_rfl) (fun _ _ _ h => h) (Or.inl ⟨by rfl, ?_⟩) Hb1 ?_
              rotate_left
              · intro w hSw
                go_simp
                try with_reducible rfl
              try simp only [List.getElem_toArray, List.getElem_cons_zero, List.getElem_cons_succ, Act.put, List.setIfInBounds_toArray, List.set_cons_zero, List.set_cons_succ]
              refine wpAnyH_take (i := 29) (v := ?_) rfl (by kernel_rfl) (by kernel_rfl) (by kernel_rfl) (fun _ _ _ h => h) (Or.inl ⟨by rfl, ?_⟩) Hb1 ?_
              rotate_left
              · intro w hSw
                go_simp
                try with_reducible rfl
              try simp only [List.getElem_toArray, List.getElem_cons_zero, List.getElem_cons_succ, Act.put, List.setIfInBounds_toArray, List.set_cons_zero, List.set_cons_succ]
              refine wpAnyH_take (i := 30) (v := ?_) rfl (by kernel_rfl) (by kernel_rfl) (by kernel_rfl) (fun _ _ _ h => h) (Or.inl ⟨by rfl, ?_⟩) Hb1 ?_
              rotate_left
              · intro w hSw
                have c0 := (hSw.cell (p := ⟨X, 2, none⟩) ltX).trans s2
                go_simp
                try with_reducible rfl
              try simp only [List.getElem_toArray, List.getElem_cons_zero, List.getElem_cons_succ, Act.put, List.setIfInBounds_toArray, List.set_cons_zero, List.set_cons_succ]
              refine wpAnyH_take (i := 31) (v := ?_) rfl (by kernel_rfl) (by kernel_rfl) (by kernel_rfl) (fun _ _ _ h => h) (Or.inl ⟨by rfl, ?_⟩) Hb1 ?_
              rotate_left
              · intro w hSw
                go_simp
                try with_reducible rfl
              try simp only [List.getElem_toArray, List.getElem_cons_zero, List.getElem_cons_succ, Act.put, List.setIfInBounds_toArray, List.set_cons_zero, List.set_cons_succ]
              refine wpAnyH_take (i := 32) (v := ?_) rfl (by kernel_rfl) (by kernel_rfl) (by kernel_rfl) (fun _ _ _ h => h) (Or.inl ⟨by rfl, ?_⟩) Hb1 ?_
              rotate_left
              · intro w hSw
                go_simp
                try with_reducible rfl
              try simp only [List.getElem_toArray, List.getElem_cons_zero, List.getElem_cons_succ, Act.put, List.setIfInBounds_toArray, List.set_cons_zero, List.set_cons_succ]
              refine wpAnyH_take (i := 33) (v := .agg (arrK .u8 (hashS P2))) rfl (by kernel_rfl) (by kernel_rfl) (by kernel_rfl) (fun _ _ _ h => h) (yieldsIf_load_mid (by rfl) _ _ rfl _ _ rfl ((hashS P2).map fun (n : Nat) => Value.int .u8 (n : Int)) (.array 32 5) (fun W hW => range_at HcL.out (HCc9.out.below hW) Q3.out) (by kernel_rfl) rfl (dV_info (hashS_isD P2).1)) Hb1 ?_
              try simp only [List.getElem_toArray, List.getElem_cons_zero, List.getElem_cons_succ, Act.put, List.setIfInBounds_toArray, List.set_cons_zero, List.set_cons_succ]
              refine wpAnyH_ready (rs := [28]) (by kernel_rfl) (by simp) (AllReadyH.cons rfl (fun K hK => ?_) AllReadyH.nil)
              go_simp
              refine (tagged_any ⟨#[111, 112, 101, 110]⟩ _ 32 32 (P2) _ (elem_cells HoL1.out (HCo19.out.below Hb1) Q2.out) (dP2.out.1) (by omega) (dP2.out.2) (by decide)).mono ?_
              rintro e w2_ ⟨he, hb2⟩
              have he : e = .returned (.agg (arrK .u8 (hashS (P2)))) := by rw [hashS_eq]; exact he
              subst he
              have Hb2 : Below w9.heap.size w9 w2_ := below_of Hb1 hb2 Hb1.size
              have Zb2 : w9.heap.size ≤ w2_.heap.size := Nat.le_trans Zb1 hb2.size
              go_wp2_with (fail)
              refine hK.out _ _ Hb2 fun _ => ?_
              clear hK K
              try simp only [List.getElem_toArray, List.getElem_cons_zero, List.getElem_cons_succ, Act.put, List.setIfInBounds_toArray, List.set_cons_zero, List.set_cons_succ]
              refine wpAnyH_take (i := 34) (v := ?_) rfl (by kernel_rfl) (by kernel_rfl) (by kernel_rfl) (fun _ _ _ h => h) (Or.inl ⟨by rfl, ?_⟩) Hb2 ?_
              rotate_left
              · intro w hSw
                go_simp
                try with_reducible rfl
              try simp only [List.getElem_toArray, List.getElem_cons_zero, List.getElem_cons_succ, Act.put, List.setIfInBounds_toArray, List.set_cons_zero, List.set_cons_succ]
              refine wpAnyH_take (i := 35) (v := ?_) rfl (by kernel_rfl) (by kernel_rfl) (by kernel_rfl) (fun _ _ _ h => h) (Or.inl ⟨by rfl, ?_⟩) Hb2 ?_
              rotate_left
              · intro w hSw
                go_simp
                try with_reducible rfl
              try simp only [List.getElem_toArray, List.getElem_cons_zero, List.getElem_cons_succ, Act.put, List.setIfInBounds_toArray, List.set_cons_zero, List.set_cons_succ]
              refine wpAnyH_take (i := 36) (v := ?_) rfl (by kernel_rfl) (by kernel_rfl) (by kernel_rfl) (fun _ _ _ h => h) (Or.inl ⟨by rfl, ?_⟩) Hb2 ?_
              rotate_left
              · intro w hSw
                go_simp
                try with_reducible rfl
              try simp only [List.getElem_toArray, List.getElem_cons_zero, List.getElem_cons_succ, Act.put, List.setIfInBounds_toArray, List.set_cons_zero, List.set_cons_succ]
              refine wpAnyH_done (by kernel_rfl) ?_ _
              go_wp2_with (fail)
              go_roundw
              case rel => exact ⟨j + 1, by omega, by go_num, Hb2⟩
              case measure => simp [intOf]; omega
          · obtain rfl : j = 64 := by omega
            go_wp2_with (fail)
            go_ret
            exact ⟨rfl, below_of HB9.out hw9r.out HB9.out.size⟩
-- the row
theorem signingOpens_own : ownKnob Try.prog.godebug = none := by kernel_rfl
theorem signingOpens_laidOut : laidOutB Try.prog = true := by kernel_rfl
theorem signingOpens_readable : (Try.f8.params.toList.all fun t => Try.prog.readableRec t && decide (t < Try.prog.types.size)) = true := by kernel_rfl
set_option maxRecDepth 100000 in
theorem signingOpens_lifted (os : Os) (started : os.Started) (H : Type) (enc : TypeId × Value → H) :
    ReturnsInHanded {} Try.checked os 8 .any (Rows.signingOpensSpec.pre6 enc Try.prog Try.f8 Rows.signingOpensRow.domain false) (Rows.signingOpensSpec.post enc Try.prog Try.f8 false true false false) := by
  refine returnsInHanded_of_change (C := Try.checked) signingOpens_own started (by kernel_rfl) Try.func8
    (ChangeSpec.witness6 (enc := enc) (C := Try.checked) false ⟨#[], #[.agg #[.slice none 0 0, .int .i64 0, .int .i64 0], .slice none 0 0, .slice none 0 0], []⟩ 8 (by kernel_rfl) (by kernel_rfl) (by kernel_rfl) (by kernel_rfl)) ?_
  intro W base args ds gs before hval0 hW hcnd _
  have hval : ∀ (j : Nat) t v, Try.f8.params[j]? = some t → args[j]? = some v → Value.okWide Try.prog W .any base t v := hval0
  have hW' := hW
  obtain ⟨p, q, hA0, hV, rfl, hfz, hnd⟩ := hW
  have hA : DataW.TrodAll enc Try.prog W 0 (fun _ => true) true Try.f8.params.toList args.toList ds p := hA0
  rw [Try.params8] at hA hval
  obtain ⟨v0, vs0, d0, ds0, p0, q0, hargs, rfl, rfl, h0, r0⟩ := trodAll_cons hA
  obtain ⟨v1, vs1, d1, ds1, p1, q1, rfl, rfl, rfl, h1, r1⟩ := trodAll_cons r0
  obtain ⟨v2, vs2, d2, ds2, p2, q2, rfl, rfl, rfl, h2, r2⟩ := trodAll_cons r1
  obtain ⟨rfl, rfl, rfl⟩ := trodAll_nil r2
  obtain rfl : args = #[v0, v1, v2] := by cases args; simp_all
  obtain ⟨rfl, rfl⟩ := trodVars_none hV
  obtain ⟨A0, n0, c0, m0, u0, s0, rfl, l0, nc0, cm0, g0, b0, wm0, wu0⟩ := open_key (hval 0 24 v0 rfl rfl) h0
  obtain ⟨A1, n1, c1, xs1, rfl, l1, nc1, cm1, g1, w1⟩ := open_intslice Try.underlying22 Try.underlying5 (by kernel_rfl) (hval 1 22 v1 rfl rfl) h1
  obtain ⟨A2, n2, c2, xs2, rfl, l2, nc2, cm2, g2, w2⟩ := open_intslice Try.underlying22 Try.underlying5 (by kernel_rfl) (hval 2 22 v2 rfl rfl) h2
  refine (SigningOpens_walk W A0 n0 c0 m0 u0 s0 l0 nc0 cm0 g0 b0 wm0 wu0 A1 n1 c1 xs1 l1 nc1 cm1 g1 w1 A2 n2 c2 xs2 l2 nc2 cm2 g2 w2).mono fun e W' ⟨he, hb⟩ => ?_
  subst he
  simp only [List.append_nil] at hW'
  refine ⟨_, rfl, law_post signingOpens_laidOut ?_ (by kernel_rfl) Try.underlying4 rfl hW' rfl rfl rfl hb⟩
  intro t ht
  have hr := List.all_eq_true.1 signingOpens_readable t ht
  rw [Bool.and_eq_true] at hr
  exact ⟨hr.1, of_decide_eq_true hr.2⟩
theorem signingOpens_over : Rows.signingOpensRow.holds Try.pinned (OpenSpec.ofChange Rows.signingOpensSpec) :=
  OpenClaim.holds_of_wide 8 Try.f8 rfl rfl rfl rfl rfl rfl rfl ⟨rfl, rfl, rfl, rfl, rfl⟩ rfl rfl rfl rfl rfl (by kernel_rfl) Try.func8 (by kernel_rfl)
    (of_decide_eq_true (by kernel_rfl)) (by unfold Func.isWrapper; rw [if_neg (of_decide_eq_false (by kernel_rfl))]; exact ⟨rfl, rfl⟩)
    (fun os started H enc _ => signingOpens_lifted os started H enc)
theorem signingOpens_proved : Rows.SigningOpensSaid := signingOpens_over
#print axioms signingOpens_proved
end Go.Proofs.Ytcijhakofoklcaa
