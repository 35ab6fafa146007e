/- The statement SigningOrderSaid: for every seed and two messages, a key with two one-time keys signs both, with different indices, both signatures verify, and it signs no third one; no condition beside the row's own. -/
import Derived.Test.YtcijhakofoklcaaSig11
import Derived.Test.YtcijhakofoklcaaRow3
import Derived.ChangeMaps5
import Derived.Test.YtcijhakofoklcaaRow4
namespace Go.Proofs.Ytcijhakofoklcaa
open Go.RowKit Go.WideShapes Go.ChangeShapes Go.ChangeAt
theorem fewK_true {n : Nat} {m : Int} {k : Nat} (h : fewK n m k = true) : m ≤ 2 ∧ n ≤ 100 ∧ k ≤ 300 := by unfold fewK at h; exact of_decide_eq_true h
theorem okKey_next {n m u : Nat} (h : okKey n m u = true) (hu : u < m) : okKey n m ((u : Int) + 1) = true := by
  obtain ⟨h1, h2, h3, h4, h5, h6⟩ := okKey_true h
  unfold okKey
  exact decide_eq_true ⟨h1, h2, h3, h4, by omega, by omega⟩
theorem pubR_ok {n m : Nat} {u : Int} {s : List Nat} (h : okKey n m u = true) : pubR n m u s = treeS (pubL s m) := by unfold pubR; rw [h]; simp
theorem pubR_no {n : Nat} {m u : Int} {s : List Nat} (h : okKey n m u = false) : pubR n m u s = z32 := by unfold pubR; rw [h]; rfl
theorem errKey_true : errKey true = 0 := rfl
theorem errKey_false : errKey false = 40 := rfl
theorem okKey_two {n : Nat} (h : okKey n 2 0 = true) : okKey n 2 1 = true ∧ okKey n 2 2 = true ∧ n ≤ 64 := by
  obtain ⟨h1, h2, -⟩ := okKey_true h
  exact ⟨by unfold okKey; exact decide_eq_true ⟨h1, h2, by omega, by omega, by omega, by omega⟩, by unfold okKey; exact decide_eq_true ⟨h1, h2, by omega, by omega, by omega, by omega⟩, h2⟩
set_option linter.unusedSimpArgs false in
set_option maxRecDepth 100000 in
set_option maxHeartbeats 4000000 in
theorem SigningOrder_walk (w : World) (A : Option Addr) (n c : Nat) (xs : List Int) (hl : xs.length = n) (hnc : n ≤ c) (hcm : c ≤ maxLen) (hA0 : Cells w A (xs.map (Value.int .u8))) (hw0 : ∀ x ∈ xs, (Lit.int .u8 x).wf = true) (hreach : n ≤ reachN) (Ba : Option Addr) (ka da : Nat) (xsa : List Int) (hla : xsa.length = ka) (_hna : ka ≤ da) (_hma : da ≤ maxLen) (hBa : Cells w Ba (xsa.map (Value.int .u8))) (hwa : ∀ x ∈ xsa, (Lit.int .u8 x).wf = true) (Bb : Option Addr) (kb db : Nat) (xsb : List Int) (hlb : xsb.length = kb) (_hnb : kb ≤ db) (_hmb : db ≤ maxLen) (hBb : Cells w Bb (xsb.map (Value.int .u8))) (hwb : ∀ x ∈ xsb, (Lit.int .u8 x).wf = true) :
    Calls Try.prog 7 #[.slice A n c, .slice Ba ka da, .slice Bb kb db] w (Fine w) := by
  obtain ⟨s, hsl, hs8, hC⟩ := open_bytes hA0 hw0
  have HA := Lib.hid hC
  have Hs := Lib.hid (hsl.trans hl)
  have Hs8 := Lib.hid hs8
  clear hC hsl hl hs8 hA0 hw0
  obtain ⟨msga, hmla, hm8a, hMa⟩ := open_bytes hBa hwa
  have HMa := Lib.hid hMa
  have Hmla := Lib.hid (hmla.trans hla)
  have Hm8a := Lib.hid hm8a
  clear hMa hmla hla hm8a hBa hwa
  obtain ⟨msgb, hmlb, hm8b, hMb⟩ := open_bytes hBb hwb
  have HMb := Lib.hid hMb
  have Hmlb := Lib.hid (hmlb.trans hlb)
  have Hm8b := Lib.hid hm8b
  clear hMb hmlb hlb hm8b hBb hwb
  cases hok : okKey n 2 0 with
  | false =>
    have HN := Lib.hid (fun W h => New_big A n c 2 s W h Hs.out hreach hnc hcm hok)
    clear hok hreach hnc hcm
    go_enter Try.func7, Try.ntmps7
    go_wp2_with (fail)
    refine (ssane_any w).mono ?_
    rintro e w1 ⟨rfl, hb1⟩
    have HB1 := Lib.hid hb1
    clear hb1
    go_wp2_with (fail)
    refine (HN.out w1 (HA.out.below HB1.out)).mono ?_
    rintro e w2 ⟨rfl, hb2⟩
    have HB2 := Lib.hid (below_of HB1.out hb2 HB1.out.size)
    clear hb2
    go_wp2_with (fail)
    go_ret
    exact ⟨rfl, HB2.out.alloc HB2.out.size _⟩
  | true =>
    obtain ⟨ok1, ok2, hn64⟩ := okKey_two hok
    have HN := Lib.hid (fun W h => New_good A n c 2 s W h Hs.out (by omega) hnc hcm hok)
    by_cases hka : ka ≤ 300
    · by_cases hkb : kb ≤ 300
      · have hkaI : (ka : Int) ≤ 300 := by omega
        have hkbI : (kb : Int) ≤ 300 := by omega
        have HPu := Lib.hid (fun A2 c2 W h => Public_any A2 n c2 2 0 s W h Hs.out Hs8.out)
        rw [hok, show pubR n 2 0 s = treeS (pubL s 2) from pubR_ok (m := 2) hok, errKey_true] at HPu
        have HS0 : Hid (∀ A2 c2 W, Cells W A2 (bytesV s) → Cells W Ba (bytesV msga) → Calls Try.prog 16 #[.agg #[.slice A2 n c2, .int .i64 2, .int .i64 0], .slice Ba ka da] W fun e w' => ∃ (Ao : Option Addr) (co : Nat) (Ac : Option Addr) (cc : Nat) (Ap : Option Addr) (q cp : Nat), e = .returned (.tuple #[.agg #[.slice A2 n c2, .int .i64 2, .int .i64 1], .agg #[.int .i64 0, .slice Ao 64 co, .slice Ac 64 cc, .slice Ap q cp], .int .i64 0]) ∧ (pathR (pubL s 2) 0).length = q ∧ q ≤ cp ∧ cp ≤ maxLen ∧ 64 ≤ co ∧ co ≤ maxLen ∧ 64 ≤ cc ∧ cc ≤ maxLen ∧ Cells w' Ao (bytesV (openL s 0 (bitL (msgS (treeS (pubL s 2)) 0 msga) 64) 64).flatten) ∧ Cells w' Ac (bytesV (closL s 0 (bitL (msgS (treeS (pubL s 2)) 0 msga) 64) 64).flatten) ∧ Cells w' Ap (bytesV (pathR (pubL s 2) 0).flatten) ∧ Below W.heap.size W w') := fun A2 c2 W h h' => Sign_good A2 n c2 2 0 s Ba ka da msga W h Hs.out Hs8.out hok (by omega) h' Hmla.out (by omega) Hm8a.out
        have HS1 : Hid (∀ A2 c2 W, Cells W A2 (bytesV s) → Cells W Bb (bytesV msgb) → Calls Try.prog 16 #[.agg #[.slice A2 n c2, .int .i64 2, .int .i64 1], .slice Bb kb db] W fun e w' => ∃ (Ao : Option Addr) (co : Nat) (Ac : Option Addr) (cc : Nat) (Ap : Option Addr) (q cp : Nat), e = .returned (.tuple #[.agg #[.slice A2 n c2, .int .i64 2, .int .i64 2], .agg #[.int .i64 1, .slice Ao 64 co, .slice Ac 64 cc, .slice Ap q cp], .int .i64 0]) ∧ (pathR (pubL s 2) 1).length = q ∧ q ≤ cp ∧ cp ≤ maxLen ∧ 64 ≤ co ∧ co ≤ maxLen ∧ 64 ≤ cc ∧ cc ≤ maxLen ∧ Cells w' Ao (bytesV (openL s 1 (bitL (msgS (treeS (pubL s 2)) 1 msgb) 64) 64).flatten) ∧ Cells w' Ac (bytesV (closL s 1 (bitL (msgS (treeS (pubL s 2)) 1 msgb) 64) 64).flatten) ∧ Cells w' Ap (bytesV (pathR (pubL s 2) 1).flatten) ∧ Below W.heap.size W w') := fun A2 c2 W h h' => Sign_good A2 n c2 2 1 s Bb kb db msgb W h Hs.out Hs8.out ok1 (by omega) h' Hmlb.out (by omega) Hm8b.out
        have HS2 := Lib.hid (fun A2 c2 W => Sign_bad A2 n c2 2 2 Ba ka da W (.inr ⟨ok2, by omega, rfl⟩))
        obtain ⟨x, hx⟩ : ∃ x, bitL (msgS (treeS (pubL s 2)) 0 msga) 64 = x := ⟨_, rfl⟩
        obtain ⟨y, hy⟩ : ∃ y, bitL (msgS (treeS (pubL s 2)) 1 msgb) 64 = y := ⟨_, rfl⟩
        rw [hx] at HS0
        rw [hy] at HS1
        have Hv0 : Hid (verS (treeS (pubL s 2)) 2 0 msga (openL s 0 x 64) (closL s 0 x 64) (pathR (pubL s 2) 0) = true) := ver_sign s 2 0 msga x (by omega) (by omega) (by rw [Hmla.out]; omega) (fun j _ => by rw [hx])
        have Hv1 : Hid (verS (treeS (pubL s 2)) 2 1 msgb (openL s 1 y 64) (closL s 1 y 64) (pathR (pubL s 2) 1) = true) := ver_sign s 2 1 msgb y (by omega) (by omega) (by rw [Hmlb.out]; omega) (fun j _ => by rw [hy])
        have Dt := Lib.hid (treeS_isD (pubL s 2))
        have HV0 : Hid (∀ D o cl p Ao Ac Ap co cc q cp W, IsD D → Cells W Ba (bytesV msga) → o.length = 64 → cl.length = 64 → p.length = q → IsL o → IsL cl → IsL p → Cells W Ao (bytesV o.flatten) → Cells W Ac (bytesV cl.flatten) → Cells W Ap (bytesV p.flatten) → q ≤ cp → cp ≤ maxLen →
            Calls Try.prog 21 #[.agg (arrK .u8 D), .int .i64 2, .slice Ba ka da, .agg #[.int .i64 0, .slice Ao 64 co, .slice Ac 64 cc, .slice Ap q cp]] W fun e w' => e = .returned (.bool (verS D 2 0 msga o cl p)) ∧ Below W.heap.size W w') := fun D o cl p Ao Ac Ap co cc q cp W hD hM h1 h2 h3 h4 h5 h6 h7 h8 h9 h10 h11 => Verify_good D 2 0 msga Ba ka da o cl p Ao Ac Ap co cc q cp W hD (by omega) (by omega) (by omega) hM Hmla.out (by omega) Hm8a.out h1 h2 h3 h4 h5 h6 h7 h8 h9 h10 h11
        have HV1 : Hid (∀ D o cl p Ao Ac Ap co cc q cp W, IsD D → Cells W Bb (bytesV msgb) → o.length = 64 → cl.length = 64 → p.length = q → IsL o → IsL cl → IsL p → Cells W Ao (bytesV o.flatten) → Cells W Ac (bytesV cl.flatten) → Cells W Ap (bytesV p.flatten) → q ≤ cp → cp ≤ maxLen →
            Calls Try.prog 21 #[.agg (arrK .u8 D), .int .i64 2, .slice Bb kb db, .agg #[.int .i64 1, .slice Ao 64 co, .slice Ac 64 cc, .slice Ap q cp]] W fun e w' => e = .returned (.bool (verS D 2 1 msgb o cl p)) ∧ Below W.heap.size W w') := fun D o cl p Ao Ac Ap co cc q cp W hD hM h1 h2 h3 h4 h5 h6 h7 h8 h9 h10 h11 => Verify_good D 2 1 msgb Bb kb db o cl p Ao Ac Ap co cc q cp W hD (by omega) (by omega) (by omega) hM Hmlb.out (by omega) Hm8b.out h1 h2 h3 h4 h5 h6 h7 h8 h9 h10 h11
        have Ho0 := Lib.hid (openL_length s 0 x 64)
        have Hc0 := Lib.hid (closL_length s 0 x 64)
        have Lo0 := Lib.hid (openL_isL s 0 x 64)
        have Lc0 := Lib.hid (closL_isL s 0 x 64)
        have Lp0 := Lib.hid (pathR_isL (pubL s 2) 0)
        have Ho1 := Lib.hid (openL_length s 1 y 64)
        have Hc1 := Lib.hid (closL_length s 1 y 64)
        have Lo1 := Lib.hid (openL_isL s 1 y 64)
        have Lc1 := Lib.hid (closL_isL s 1 y 64)
        have Lp1 := Lib.hid (pathR_isL (pubL s 2) 1)
        clear hx hy hok ok1 ok2
        generalize treeS (pubL s 2) = D at *
        generalize openL s 0 x 64 = o0 at *
        generalize closL s 0 x 64 = c0 at *
        generalize pathR (pubL s 2) 0 = p0 at *
        generalize openL s 1 y 64 = o1 at *
        generalize closL s 1 y 64 = c1 at *
        generalize pathR (pubL s 2) 1 = p1 at *
        go_enter Try.func7, Try.ntmps7
        go_wp2_with (fail)
        refine (ssane_any w).mono ?_
        rintro e w1 ⟨rfl, hb1⟩
        have HB1 := Lib.hid hb1
        clear hb1
        go_wp2_with (fail)
        refine (HN.out w1 (HA.out.below HB1.out)).mono ?_
        rintro e w2 ⟨A2, c2, rfl, hc2, hm2, hC2, hb2⟩
        have HB2 := Lib.hid (below_of HB1.out hb2 HB1.out.size)
        have C2 := Lib.hid hC2
        clear hb2 hC2
        go_wp2_with (fail)
        generalize hge : World.alloc _ _ = w3
        have hb3 : Below w2.heap.size w2 w3 := by subst hge; exact (Below.refl _ _).alloc (Nat.le_refl _) _
        have HK3 := Lib.hid (show Blk w3 w2.heap.size 24 #[.slice A2 n c2, .int .i64 2, .int .i64 0] by subst hge; exact Blk.new w2 _ _)
        have C3 := Lib.hid (C2.out.below hb3)
        have HB3 := Lib.hid (below_of HB2.out hb3 HB2.out.size)
        clear hge hb3
        refine (HPu.out A2 c2 w3 C3.out).mono ?_
        rintro e w4 ⟨rfl, hb4⟩
        have HK4 := Lib.hid (HK3.out.below hb4)
        have C4 := Lib.hid (C3.out.below hb4)
        have HB4 := Lib.hid (below_of HB3.out hb4 HB3.out.size)
        clear hb4
        go_upto_region 7 with (
          (refine wpList_put_blk rfl 37 (.tmp 9) (.tmp 48) rfl w4.heap.size (arrK .u8 D) rfl rfl 37 (arrK .u8 z32) (Blk.new w4 37 (arrK .u8 z32)) (info32 Dt.out.1) (by rw [len32 Dt.out.1, len32 z32_length]) (arrK_all _ _) ?_
           intro w5 HD5 hg5 hz5
           have hb5 : Below w4.heap.size w4 w5 := below_grown ((Below.refl w4.heap.size w4).alloc (Nat.le_refl _) (.cells (arrK .u8 z32) 37)) hg5 (by simp) (by simp)
           have HD5 := Lib.hid HD5
           have HK5 := Lib.hid (HK4.out.below hb5)
           have C5 := Lib.hid (C4.out.below hb5)
           have HB5 := Lib.hid (below_of HB4.out hb5 HB4.out.size)
           clear hg5 hz5 hb5))
        obtain ⟨G, hG⟩ : ∃ G, w4.heap.size = G := ⟨_, rfl⟩
        rw [hG] at HD5 ⊢
        obtain ⟨K, hK⟩ : ∃ K, w2.heap.size = K := ⟨_, rfl⟩
        rw [hK] at HK5 ⊢
        clear hG hK
        have q0 := HK5.out.cellv (i := 0) rfl
        have q1 := HK5.out.cellv (i := 1) rfl
        have q2 := HK5.out.cellv (i := 2) rfl
        go_wp2_with (fail)
        refine (HS0.out A2 c2 w5 C5.out (HMa.out.below HB5.out)).mono ?_
        rintro e w6 ⟨Ao, co, Ac, cc, Ap, q, cp, rfl, hpq, hqc, hcp, -, -, -, -, hCo, hCc, hCp, hb6⟩
        have HD6 := Lib.hid (HD5.out.below hb6)
        have C6 := Lib.hid (C5.out.below hb6)
        have HB6 := Lib.hid (below_of HB5.out hb6 HB5.out.size)
        have Hpq := Lib.hid hpq
        have Hqc := Lib.hid hqc
        have Hcp := Lib.hid hcp
        clear q0 q1 q2 hpq hqc hcp hb6
        go_wp2_with (fail)
        generalize hge : World.alloc _ _ = w7
        have hb7 : Below w6.heap.size w6 w7 := by subst hge; exact below_two (Below.refl _ _) (Nat.le_refl _) _ _
        have HX7 := Lib.hid (show Blk w7 w6.heap.size 24 #[.slice A2 n c2, .int .i64 2, .int .i64 1] by subst hge; exact (blk_two w6 _ _ 24 30).1)
        have HT7 := Lib.hid (show Blk w7 (w6.heap.size + 1) 30 #[.int .i64 0, .slice Ao 64 co, .slice Ac 64 cc, .slice Ap q cp] by subst hge; exact (blk_two w6 _ _ 24 30).2)
        have HD7 := Lib.hid (HD6.out.below hb7)
        have C7 := Lib.hid (C6.out.below hb7)
        have HCo7 := Lib.hid (hCo.below hb7)
        have HCc7 := Lib.hid (hCc.below hb7)
        have HCp7 := Lib.hid (hCp.below hb7)
        have HB7 := Lib.hid (below_of HB6.out hb7 HB6.out.size)
        clear hge hb7 hCo hCc hCp
        refine (HS1.out A2 c2 w7 C7.out (HMb.out.below HB7.out)).mono ?_
        rintro e w8 ⟨Ao1, co1, Ac1, cc1, Ap1, q', cp1, rfl, hpq, hqc, hcp, -, -, -, -, hCo, hCc, hCp, hb8⟩
        have HT8 := Lib.hid (HT7.out.below hb8)
        have HD8 := Lib.hid (HD7.out.below hb8)
        have C8 := Lib.hid (C7.out.below hb8)
        have HCo8 := Lib.hid (HCo7.out.below hb8)
        have HCc8 := Lib.hid (HCc7.out.below hb8)
        have HCp8 := Lib.hid (HCp7.out.below hb8)
        have HB8 := Lib.hid (below_of HB7.out hb8 HB7.out.size)
        have Hpq1 := Lib.hid hpq
        have Hqc1 := Lib.hid hqc
        have Hcp1 := Lib.hid hcp
        clear hpq hqc hcp hb8
        go_wp2_with (fail)
        generalize hge : World.alloc _ _ = w9
        have hb9 : Below w8.heap.size w8 w9 := by subst hge; exact below_two (Below.refl _ _) (Nat.le_refl _) _ _
        have HU9 := Lib.hid (show Blk w9 (w8.heap.size + 1) 30 #[.int .i64 1, .slice Ao1 64 co1, .slice Ac1 64 cc1, .slice Ap1 q' cp1] by subst hge; exact (blk_two w8 _ _ 24 30).2)
        have HT9 := Lib.hid (HT8.out.below hb9)
        have HD9 := Lib.hid (HD8.out.below hb9)
        have HCo9 := Lib.hid (HCo8.out.below hb9)
        have HCc9 := Lib.hid (HCc8.out.below hb9)
        have HCp9 := Lib.hid (HCp8.out.below hb9)
        have HCo19 := Lib.hid (hCo.below hb9)
        have HCc19 := Lib.hid (hCc.below hb9)
        have HCp19 := Lib.hid (hCp.below hb9)
        have HB9 := Lib.hid (below_of HB8.out hb9 HB8.out.size)
        clear hge hb9 hCo hCc hCp
        refine (HS2.out A2 c2 w9).mono ?_
        rintro e w10 ⟨rfl, hb10⟩
        have HU10 := Lib.hid (HU9.out.below hb10)
        have HT10 := Lib.hid (HT9.out.below hb10)
        have HD10 := Lib.hid (HD9.out.below hb10)
        have HCo10 := Lib.hid (HCo9.out.below hb10)
        have HCc10 := Lib.hid (HCc9.out.below hb10)
        have HCp10 := Lib.hid (HCp9.out.below hb10)
        have HCo110 := Lib.hid (HCo19.out.below hb10)
        have HCc110 := Lib.hid (HCc19.out.below hb10)
        have HCp110 := Lib.hid (HCp19.out.below hb10)
        have HB10 := Lib.hid (below_of HB9.out hb10 HB9.out.size)
        clear hb10
        go_upto_region 10 with (fail)
        generalize hge : World.alloc _ _ = w11
        have hb11 : Below w10.heap.size w10 w11 := by subst hge; exact below_two (Below.refl _ _) (Nat.le_refl _) _ _
        have HU11 := Lib.hid (HU10.out.below hb11)
        have HT11 := Lib.hid (HT10.out.below hb11)
        have HD11 := Lib.hid (HD10.out.below hb11)
        have HCo11 := Lib.hid (HCo10.out.below hb11)
        have HCc11 := Lib.hid (HCc10.out.below hb11)
        have HCp11 := Lib.hid (HCp10.out.below hb11)
        have HCo111 := Lib.hid (HCo110.out.below hb11)
        have HCc111 := Lib.hid (HCc110.out.below hb11)
        have HCp111 := Lib.hid (HCp110.out.below hb11)
        have HB11 := Lib.hid (below_of HB10.out hb11 HB10.out.size)
        clear hge hb11
        obtain ⟨X, hX⟩ : ∃ X, w6.heap.size = X := ⟨_, rfl⟩
        rw [hX] at HT11 ⊢
        obtain ⟨Y, hY⟩ : ∃ Y, w8.heap.size = Y := ⟨_, rfl⟩
        rw [hY] at HU11 ⊢
        clear hX hY
        have t0 := HT11.out.cellv (i := 0) rfl
        have t1 := HT11.out.cellv (i := 1) rfl
        have t2 := HT11.out.cellv (i := 2) rfl
        have t3 := HT11.out.cellv (i := 3) rfl
        have u0 := HU11.out.cellv (i := 0) rfl
        go_wp2_with (
          (refine wpList_load_blk_g 37 (.tmp 9) (by rfl) (by kernel_rfl) G rfl 37 (arrK .u8 D) (.array 32 5) HD11.out (by kernel_rfl) rfl (info32 Dt.out.1) ?_))
        refine (HV0.out D o0 c0 p0 Ao Ac Ap co cc q cp w11 Dt.out (HMa.out.below HB11.out) Ho0.out Hc0.out Hpq.out Lo0.out Lc0.out Lp0.out HCo11.out HCc11.out HCp11.out Hqc.out Hcp.out).mono ?_
        rintro e w12 ⟨he, hb12⟩
        rw [Hv0.out] at he
        subst he
        have HU12 := Lib.hid (HU11.out.below hb12)
        have HD12 := Lib.hid (HD11.out.below hb12)
        have HCo112 := Lib.hid (HCo111.out.below hb12)
        have HCc112 := Lib.hid (HCc111.out.below hb12)
        have HCp112 := Lib.hid (HCp111.out.below hb12)
        have HB12 := Lib.hid (below_of HB11.out hb12 HB11.out.size)
        clear hb12 t0 t1 t2 t3 u0
        have u0 := HU12.out.cellv (i := 0) rfl
        have u1 := HU12.out.cellv (i := 1) rfl
        have u2 := HU12.out.cellv (i := 2) rfl
        have u3 := HU12.out.cellv (i := 3) rfl
        go_wp2_with (
          (refine wpList_load_blk_g 37 (.tmp 9) (by rfl) (by kernel_rfl) G rfl 37 (arrK .u8 D) (.array 32 5) HD12.out (by kernel_rfl) rfl (info32 Dt.out.1) ?_))
        refine (HV1.out D o1 c1 p1 Ao1 Ac1 Ap1 co1 cc1 q' cp1 w12 Dt.out (HMb.out.below HB12.out) Ho1.out Hc1.out Hpq1.out Lo1.out Lc1.out Lp1.out HCo112.out HCc112.out HCp112.out Hqc1.out Hcp1.out).mono ?_
        rintro e w13 ⟨he, hb13⟩
        rw [Hv1.out] at he
        subst he
        have HB13 := Lib.hid (below_of HB12.out hb13 HB12.out.size)
        clear hb13
        go_wp2_with (fail)
        go_ret
        exact ⟨rfl, HB13.out⟩
      · have hkaI : (ka : Int) ≤ 300 := by omega
        have hkbI : 300 < (kb : Int) := by omega
        clear hok ok1 ok2
        go_enter Try.func7, Try.ntmps7
        go_wp2_with (fail)
        refine (ssane_any w).mono ?_
        rintro e w1 ⟨rfl, hb1⟩
        have HB1 := Lib.hid hb1
        clear hb1
        go_wp2_with (fail)
        refine (HN.out w1 (HA.out.below HB1.out)).mono ?_
        rintro e w2 ⟨A2, c2, rfl, hc2, hm2, hC2, hb2⟩
        have HB2 := Lib.hid (below_of HB1.out hb2 HB1.out.size)
        have C2 := Lib.hid hC2
        clear hb2 hC2
        go_wp2_with (fail)
        all_goals
          go_ret
          exact ⟨rfl, HB2.out.alloc HB2.out.size _⟩
    · have hkaI : 300 < (ka : Int) := by omega
      clear hok ok1 ok2
      go_enter Try.func7, Try.ntmps7
      go_wp2_with (fail)
      refine (ssane_any w).mono ?_
      rintro e w1 ⟨rfl, hb1⟩
      have HB1 := Lib.hid hb1
      clear hb1
      go_wp2_with (fail)
      refine (HN.out w1 (HA.out.below HB1.out)).mono ?_
      rintro e w2 ⟨A2, c2, rfl, hc2, hm2, hC2, hb2⟩
      have HB2 := Lib.hid (below_of HB1.out hb2 HB1.out.size)
      have C2 := Lib.hid hC2
      clear hb2 hC2
      go_wp2_with (fail)
      all_goals
        go_ret
        exact ⟨rfl, HB2.out.alloc HB2.out.size _⟩
-- the row
theorem signingOrder_own : ownKnob Try.prog.godebug = none := by kernel_rfl
theorem signingOrder_laidOut : laidOutB Try.prog = true := by kernel_rfl
theorem signingOrder_readable : (Try.f7.params.toList.all fun t => Try.prog.readableRec t && decide (t < Try.prog.types.size)) = true := by kernel_rfl
set_option maxRecDepth 100000 in
theorem signingOrder_lifted (os : Os) (started : os.Started) (H : Type) (enc : TypeId × Value → H) :
    ReturnsInHanded {} Try.checked os 7 .any (Rows.signingOrderSpec.pre6 enc Try.prog Try.f7 Rows.signingOrderRow.domain false) (Rows.signingOrderSpec.post enc Try.prog Try.f7 false true false false) := by
  refine returnsInHanded_of_change_sized (C := Try.checked) signingOrder_own started (by kernel_rfl) Try.func7
    (ChangeSpec.witness6 (enc := enc) (C := Try.checked) false ⟨#[], #[.slice none 0 0, .slice none 0 0, .slice none 0 0], []⟩ 8 (by kernel_rfl) (by kernel_rfl) (by kernel_rfl) (by kernel_rfl)) ?_
  intro W base args ds gs before hval0 hW hcnd hsz _
  have hval : ∀ (j : Nat) t v, Try.f7.params[j]? = some t → args[j]? = some v → Value.okWide Try.prog W .any base t v := hval0
  have hW' := hW
  obtain ⟨p, q, hA0, hV, rfl, hfz, hnd⟩ := hW
  have hA : DataW.TrodAll enc Try.prog W 0 (fun _ => true) true Try.f7.params.toList args.toList ds p := hA0
  rw [Try.params7] at hA hval
  obtain ⟨v0, vs0, d0, ds0, p0, q0, hargs, rfl, rfl, h0, r0⟩ := trodAll_cons hA
  obtain ⟨v1, vs1, d1, ds1, p1, q1, rfl, rfl, rfl, h1, r1⟩ := trodAll_cons r0
  obtain ⟨v2, vs2, d2, ds2, p2, q2, rfl, rfl, rfl, h2, r2⟩ := trodAll_cons r1
  obtain ⟨rfl, rfl, rfl⟩ := trodAll_nil r2
  obtain rfl : args = #[v0, v1, v2] := by cases args; simp_all
  obtain ⟨rfl, rfl⟩ := trodVars_none hV
  obtain ⟨A0, n0, c0, xs0, rfl, l0, nc0, cm0, g0, w0, z0⟩ := open_intslice_len Try.underlying22 Try.underlying5 (by kernel_rfl) (hval 0 22 v0 rfl rfl) h0
  have r0z : n0 ≤ reachN := reach_of hsz (j := 0) rfl rfl Try.underlying22 (by kernel_rfl) z0
  obtain ⟨A1, n1, c1, xs1, rfl, l1, nc1, cm1, g1, w1⟩ := open_intslice Try.underlying22 Try.underlying5 (by kernel_rfl) (hval 1 22 v1 rfl rfl) h1
  obtain ⟨A2, n2, c2, xs2, rfl, l2, nc2, cm2, g2, w2⟩ := open_intslice Try.underlying22 Try.underlying5 (by kernel_rfl) (hval 2 22 v2 rfl rfl) h2
  refine (SigningOrder_walk W A0 n0 c0 xs0 l0 nc0 cm0 g0 w0 r0z A1 n1 c1 xs1 l1 nc1 cm1 g1 w1 A2 n2 c2 xs2 l2 nc2 cm2 g2 w2).mono fun e W' ⟨he, hb⟩ => ?_
  subst he
  simp only [List.append_nil] at hW'
  refine ⟨_, rfl, law_post signingOrder_laidOut ?_ (by kernel_rfl) Try.underlying4 rfl hW' rfl rfl rfl hb⟩
  intro t ht
  have hr := List.all_eq_true.1 signingOrder_readable t ht
  rw [Bool.and_eq_true] at hr
  exact ⟨hr.1, of_decide_eq_true hr.2⟩
theorem signingOrder_over : Rows.signingOrderRow.holds Try.pinned (OpenSpec.ofChange Rows.signingOrderSpec) :=
  OpenClaim.holds_of_wide 7 Try.f7 rfl rfl rfl rfl rfl rfl rfl ⟨rfl, rfl, rfl, rfl, rfl⟩ rfl rfl rfl rfl rfl (by kernel_rfl) Try.func7 (by kernel_rfl)
    (of_decide_eq_true (by kernel_rfl)) (by unfold Func.isWrapper; rw [if_neg (of_decide_eq_false (by kernel_rfl))]; exact ⟨rfl, rfl⟩)
    (fun os started H enc _ => signingOrder_lifted os started H enc)
theorem signingOrder_proved : Rows.SigningOrderSaid := signingOrder_over
#print axioms signingOrder_proved
end Go.Proofs.Ytcijhakofoklcaa
