/- The reference's Public, Bits, New, SameKey (signing). -/
import Derived.Test.YtcijhakofoklcaaSigR2
namespace Go.Proofs.Ytcijhakofoklcaa
open Go.RowKit
set_option linter.unusedSimpArgs false in
set_option maxRecDepth 100000 in
set_option maxHeartbeats 4000000 in
theorem rPublic_any (A : Option Addr) (n c : Nat) (m u : Int) (s : List Nat) (w : World) (hA : Cells w A (bytesV s)) (hs : s.length = n) (h8 : ByteL s) :
    Calls Try.prog 29 #[.agg #[.slice A n c, .int .i64 m, .int .i64 u]] w fun e w' => e = .returned (.tuple #[.agg (arrK .u8 (pubR n m u s)), .int .i64 (errKey (okKey n m u))]) ∧ Below w.heap.size w w' := by
  have HA := Lib.hid hA
  have Hs := Lib.hid hs
  have Hs8 := Lib.hid h8
  clear hA hs h8
  cases hv : okKey n m u with
  | false =>
    have HV := Lib.hid (fun W => rvalid_any A n c m u W)
    rw [hv] at HV
    have er : pubR n m u s = z32 := by unfold pubR; rw [hv]; rfl
    have ee : errKey false = 40 := rfl
    rw [er, ee]
    clear er ee hv
    go_enter Try.func29, Try.ntmps29
    go_wp2_with (fail)
    generalize hge : World.alloc _ _ = w1
    have HR := Lib.hid (show Blk w1 (w.heap.size + 1) 37 (arrK .u8 z32) by subst hge; exact (blk_two w _ (arrK .u8 z32) 24 37).2)
    have HB := Lib.hid (show Below w.heap.size w w1 by subst hge; exact ((Below.refl _ _).alloc (Nat.le_refl _) _).alloc (by simp) _)
    clear hge
    refine (HV.out w1).mono ?_
    rintro e w2 ⟨rfl, hb2⟩
    have HR2 := Lib.hid (HR.out.below hb2)
    have HB2 := Lib.hid (below_of HB.out hb2 HB.out.size)
    clear hb2
    go_wp2_with (
        (refine wpList_store_same rfl 37 (.tmp 2) (.tmp 7) rfl (w.heap.size + 1) (arrK .u8 z32) rfl rfl 37 HR2.out (by kernel_rfl) (arrK_all _ _) ?_))
    exact ret_row2 rfl (w.heap.size + 1) 37 (arrK .u8 z32) (.array 32 5) rfl rfl HR2.out (by kernel_rfl) rfl (by kernel_rfl) rfl ⟨rfl, HB2.out⟩
  | true =>
    obtain ⟨h1, h2, h3, h4, h5, h6⟩ := okKey_true hv
    obtain ⟨k, rfl⟩ := Int.eq_ofNat_of_zero_le (show 0 ≤ m by omega)
    have HV := Lib.hid (fun W => rvalid_any A n c k u W)
    rw [hv] at HV
    have er : pubR n k u s = treeS (pubL s k) := by unfold pubR; rw [hv]; rfl
    have ee : errKey true = 0 := rfl
    rw [er, ee]
    clear er ee hv
    have lt := Lib.hid (treeS_isD (pubL s k)).1
    go_enter Try.func29, Try.ntmps29
    go_wp2_with (fail)
    generalize hge : World.alloc _ _ = w1
    have H1 := Lib.hid (show Blk w1 w.heap.size 24 #[.slice A n c, .int .i64 k, .int .i64 u] by subst hge; exact (blk_two w _ (arrK .u8 z32) 24 37).1)
    have HR := Lib.hid (show Blk w1 (w.heap.size + 1) 37 (arrK .u8 z32) by subst hge; exact (blk_two w _ (arrK .u8 z32) 24 37).2)
    have HB := Lib.hid (show Below w.heap.size w w1 by subst hge; exact ((Below.refl _ _).alloc (Nat.le_refl _) _).alloc (by simp) _)
    clear hge
    refine (HV.out w1).mono ?_
    rintro e w2 ⟨rfl, hb2⟩
    have HK2 := Lib.hid (H1.out.below hb2)
    have HR2 := Lib.hid (HR.out.below hb2)
    have HB2 := Lib.hid (below_of HB.out hb2 HB.out.size)
    have q0 := Blk.cellv HK2.out (i := 0) rfl
    have q1 := Blk.cellv HK2.out (i := 1) rfl
    have q2 := Blk.cellv HK2.out (i := 2) rfl
    clear hb2
    go_wp2_with (fail)
    refine (rkeys_any A n c k u s w2 (HA.out.below HB2.out) Hs.out (by omega) Hs8.out (by omega)).mono ?_
    rintro e w3 ⟨A3, c3, rfl, hc3, hm3, hC3, hb3⟩
    have HR3 := Lib.hid (HR2.out.below hb3)
    have HB3 := Lib.hid (below_of HB2.out hb3 HB2.out.size)
    clear hb3 q0 q1 q2
    go_wp2_with (fail)
    refine (rtree_any k (pubL s k) A3 c3 w3 (pubL_length s k) (pubL_isL s k) hc3 (by omega) hC3).mono ?_
    rintro e w4 ⟨rfl, hb4⟩
    have HR4 := Lib.hid (HR3.out.below hb4)
    have HB4 := Lib.hid (below_of HB3.out hb4 HB3.out.size)
    clear hb4 hC3
    go_wp2_with (
      (refine wpList_put_blk rfl 37 (.tmp 2) (.tmp 10) rfl (w.heap.size + 1) (arrK .u8 (treeS (pubL s k))) rfl rfl 37 (arrK .u8 z32) HR4.out (info32 lt.out) (by rw [len32 lt.out, len32 z32_length]) (arrK_all _ _) ?_
       intro w6 HD6 hg6 hz6
       have HD6 := Lib.hid HD6
       have HB6 := below_grown HB4.out hg6 HB4.out.size (by simp)
       clear hg6 hz6))
    exact ret_row2 rfl (w.heap.size + 1) 37 (arrK .u8 (treeS (pubL s k))) (.array 32 5) rfl rfl HD6.out (by kernel_rfl) rfl (info32 lt.out) rfl ⟨rfl, HB6⟩
set_option linter.unusedSimpArgs false in
set_option maxRecDepth 100000 in
set_option maxHeartbeats 4000000 in
theorem rBits_bad (root : List Nat) (i : Int) (A : Option Addr) (n c : Nat) (w : World) (hi : i < 0 ∨ 4096 ≤ i) :
    Calls Try.prog 27 #[.agg (arrK .u8 root), .int .i64 i, .slice A n c] w fun e w' => e = .returned (.slice none 0 0) ∧ Below w.heap.size w w' := by
  have h : i < 0 ∨ (0 ≤ i ∧ 4096 ≤ i) := by omega
  clear hi
  rcases h with h | ⟨h1, h2⟩
  all_goals
    go_enter Try.func27, Try.ntmps27
    go_wp2_with (fail)
    go_ret
    exact ⟨rfl, (Below.refl _ _).alloc (Nat.le_refl _) _⟩
set_option linter.unusedSimpArgs false in
set_option maxRecDepth 100000 in
set_option maxHeartbeats 4000000 in
theorem rBits_good (root : List Nat) (i : Nat) (msg : List Nat) (A : Option Addr) (n c : Nat) (w : World) (hr : IsD root) (hi : i < 4096) (hA : Cells w A (bytesV msg)) (hm : msg.length = n) (hn : n ≤ 70000) (h8 : ByteL msg) :
    Calls Try.prog 27 #[.agg (arrK .u8 root), .int .i64 i, .slice A n c] w fun e w' => ∃ A' c', e = .returned (.slice A' 64 c') ∧ Cells w' A' ((bitL (msgS root i msg) 64).map Value.bool) ∧ Below w.heap.size w w' := by
  have HA := Lib.hid hA
  have Hr := Lib.hid hr
  have Hm := Lib.hid hm
  have Hm8 := Lib.hid h8
  have hiI : (i : Int) < 4096 := by omega
  have Ta3 := Lib.hid (show 0 + 32 ≤ maxLen by unfold maxLen; omega)
  have Tb3 := Lib.hid (show (0 + 32) * 1 ≤ 140737488355328 by omega)
  have Ta5 := Lib.hid (show 32 + 2 ≤ maxLen by unfold maxLen; omega)
  have Tb5 := Lib.hid (show (32 + 2) * 1 ≤ 140737488355328 by omega)
  have Ta6 := Lib.hid (show 34 + n ≤ maxLen by unfold maxLen; omega)
  have Tb6 := Lib.hid (show (34 + n) * 1 ≤ 140737488355328 by omega)
  obtain ⟨d, hd⟩ : ∃ d, msgS root i msg = d := ⟨_, rfl⟩
  have lt := Lib.hid (show d.length = 32 by rw [← hd]; exact (msgS_isD root i msg).1)
  have l8 := Lib.hid (show ByteL d by rw [← hd]; exact (msgS_isD root i msg).2)
  rw [hd]
  have Hdd := Lib.hid hd
  clear hA hr hm h8 hd
  go_enter Try.func27, Try.ntmps27
  go_upto_region 3 with (fail)
  generalize hge : World.alloc _ _ = w1
  have HK1 := Lib.hid (show Blk w1 w.heap.size 37 (arrK .u8 root) by subst hge; exact Blk.new w _ _)
  have HB1 := Lib.hid (show Below w.heap.size w w1 by subst hge; exact (Below.refl _ _).alloc (Nat.le_refl _) _)
  have hw1 : w.heap.size ≤ w1.heap.size := HB1.out.size
  have lK := HK1.out.lt
  have nK := Lib.hid (show ¬ w1.heap.size ≤ w.heap.size by omega)
  have nR := nK
  clear hge
  have Own0 := Lib.hid (show (w1.alloc (.cells #[] 5)).ownsRow w1.heap.size 5 1 (.slice (some ⟨w1.heap.size, 0, none⟩) 0 0) 0 (bytesV []) by rw [bytesV_nil]; exact World.ownsRow_lit (size := 1) w1 #[] 0 (Nat.le_refl _) (Nat.zero_le _) rfl)
  go_wp2_with (
    (at_builtin; refine wpList_append_cells rfl (.tmp 17) (.tmp 18) 22 rfl w1.heap.size 5 (.int .u8 0) 1 1 (by kernel_rfl) (by kernel_rfl) rfl (by decide) (.slice (some ⟨w1.heap.size, 0, none⟩) 0 0) 0 (bytesV ([])) Own0.out rfl (some ⟨w.heap.size, 0, none⟩) 32 32 (bytesV (root)) rfl (by rw [bytesV_length, Hr.out.1]) ((cells_dig HK1.out).alloc _) (bytesV_one _) (Ta3.out) (Tb3.out) ((show w1.heap.size ≤ (w1.alloc (.cells #[] 5)).heap.size by simp)) ?_; intro v3 w3 hown3 hg3 _; have Z3 := Nat.le_trans ((show w1.heap.size ≤ (w1.alloc (.cells #[] 5)).heap.size by simp)) hg3.size; have HK3 := Lib.hid ((HK1.out.alloc _).grown hg3 (fun e => absurd (own_base Own0.out _ e.symm) nK.out)); have HR3 := Lib.hid ((HK1.out.alloc _).grown hg3 (fun e => absurd (own_base Own0.out _ e.symm) nR.out)); rw [Nat.zero_add] at hown3; have HB3 := Lib.hid (below_grown (HB1.out.alloc HB1.out.size _) hg3 (HB1.out.alloc HB1.out.size _).size (fun k hk => Nat.le_trans hw1 (own_base Own0.out k hk))); rw [← bytesV_append] at hown3; obtain ⟨A3, c3, rfl, -, -, -⟩ := own_form hown3; have Hown3 := Lib.hid hown3; clear hown3 hg3))
  refine (rtwo_any i w3 (by omega)).mono ?_
  rintro e w4 ⟨rfl, ht4, hb4⟩
  have HK4 := Lib.hid (HK3.out.below hb4)
  have HB4 := Lib.hid (below_of HB3.out hb4 HB3.out.size)
  have Z4 := Nat.le_trans Z3 hb4.size
  have Hown4 := Lib.hid (own_below Hown3.out hb4)
  have Ht4 := Lib.hid (cells_dig ht4)
  clear ht4 hb4
  go_wp2_with (first
    | ((at_builtin; refine wpList_append_cells rfl (.tmp 23) (.tmp 24) 22 rfl w1.heap.size 5 (.int .u8 0) 1 1 (by kernel_rfl) (by kernel_rfl) rfl (by decide) (.slice A5 34 c5) 34 (bytesV ([] ++ root ++ twoL i)) Hown5.out rfl A n c (bytesV (msg)) rfl (by rw [bytesV_length, Hm.out, Nat.mul_one]) (HA.out.below HB5.out) (bytesV_one _) (Ta6.out) (Tb6.out) (Z5) ?_; intro v6 w6 hown6 hg6 _; have Z6 := Nat.le_trans (Z5) hg6.size; have HK6 := Lib.hid (HK5.out.grown hg6 (fun e => absurd (own_base Hown5.out _ e.symm) nK.out)); have HR6 := Lib.hid (HK5.out.grown hg6 (fun e => absurd (own_base Hown5.out _ e.symm) nR.out)); have HB6 := Lib.hid (below_grown HB5.out hg6 HB5.out.size (fun k hk => Nat.le_trans hw1 (own_base Hown5.out k hk))); rw [← bytesV_append] at hown6; obtain ⟨A6, c6, rfl, -, -, -⟩ := own_form hown6; have Hown6 := Lib.hid hown6; clear hown6 hg6))
    | ((at_builtin; refine wpList_append_cells rfl (.tmp 19) (.tmp 21) 22 rfl w1.heap.size 5 (.int .u8 0) 1 1 (by kernel_rfl) (by kernel_rfl) rfl (by decide) (.slice A3 32 c3) 32 (bytesV ([] ++ root)) Hown4.out rfl (some ⟨w3.heap.size, 0, none⟩) 2 2 (bytesV (twoL i)) rfl (by rw [bytesV_length]; rfl) (Ht4.out) (bytesV_one _) (Ta5.out) (Tb5.out) (Z4) ?_; intro v5 w5 hown5 hg5 _; have Z5 := Nat.le_trans (Z4) hg5.size; have HK5 := Lib.hid (HK4.out.grown hg5 (fun e => absurd (own_base Hown4.out _ e.symm) nK.out)); have HR5 := Lib.hid (HK4.out.grown hg5 (fun e => absurd (own_base Hown4.out _ e.symm) nR.out)); rw [show 32 + 2 = 34 from rfl] at hown5; have HB5 := Lib.hid (below_grown HB4.out hg5 HB4.out.size (fun k hk => Nat.le_trans hw1 (own_base Hown4.out k hk))); rw [← bytesV_append] at hown5; obtain ⟨A5, c5, rfl, -, -, -⟩ := own_form hown5; have Hown5 := Lib.hid hown5; clear hown5 hg5)))
  have C6 := Lib.hid (Cells.own Hown6.out)
  refine (rtagged_any ⟨#[109, 101, 115, 115, 97, 103, 101]⟩ _ _ _ (root ++ twoL i ++ msg) w6 (by simpa using C6.out) (by simp [Hr.out.1, Hm.out, twoL_length]; try omega) (by omega) ((Hr.out.2.append (twoL_byte i)).append Hm8.out) (by decide)).mono ?_
  rintro e w7 ⟨he, hb7⟩
  have he : e = .returned (.agg (arrK .u8 d)) := by rw [← Hdd.out, msgS_eq]; exact he
  subst he
  have HB7 := Lib.hid (below_of HB6.out hb7 HB6.out.size)
  clear hb7
  go_wp2_with (
    (refine wpList_put_blk rfl 37 (.tmp 8) (.tmp 26) rfl w7.heap.size (arrK .u8 d) rfl rfl 37 (arrK .u8 z32) (Blk.new w7 37 (arrK .u8 z32)) (info32 lt.out) (by rw [len32 lt.out, len32 z32_length]) (arrK_all _ _) ?_
     intro w8 HD8 hg8 hz8
     have hb8 : Below w7.heap.size w7 w8 := below_grown ((Below.refl w7.heap.size w7).alloc (Nat.le_refl _) (.cells (arrK .u8 z32) 37)) hg8 (by simp) (by simp)
     have HD8 := Lib.hid HD8
     have HB8 := Lib.hid (below_of HB7.out hb8 HB7.out.size)
     have lD := HD8.out.lt
     clear hg8 hz8 hb8))
  obtain ⟨G, hG⟩ : ∃ G, w7.heap.size = G := ⟨_, rfl⟩
  rw [hG] at HD8 lD ⊢
  clear hG
  go_loopw [9, 10] (fun v kv wr => ∃ (k : Nat) (A' : Option Addr) (c' : Nat), k ≤ 64 ∧ kv = .int .i64 k ∧ v = .slice A' k c' ∧ Hid (wr.ownsRow w8.heap.size 4 1 (.slice A' k c') k ((bitL d k).map Value.bool)) ∧ Hid (Below w8.heap.size w8 wr)) (fun _ kv _ => 64 - (intOf kv).toNat)
  case atStart => exact ⟨0, _, 0, by omega, rfl, rfl, (show World.ownsRow _ _ _ _ _ _ _ by rw [bitL_zero]; exact World.ownsRow_lit (size := 1) w8 #[] 0 (Nat.le_refl _) (Nat.zero_le _) rfl), (Below.refl _ _).alloc (Nat.le_refl _) _⟩
  case round =>
    obtain ⟨k, A', c', hk64, rfl, rfl, hown, hB⟩ := hrel
    by_cases hk : k < 64
    · have hdk : decide ((k : Int) < 64) = true := by simp; omega
      have e1 := (hB.out.cell (p := ⟨G, k / 8, none⟩) lD).trans (HD8.out.cellv (i := k / 8) (arrK_get (l := d) (by rw [lt.out]; omega)))
      have hk8 : k / 8 < 32 := by omega
      have hkI : (k : Int) / 8 < 32 := by omega
      have hkI2 : (k : Int) < 64 := by omega
      obtain ⟨x, hx⟩ : ∃ x, d.getD (k / 8) 0 = x := ⟨_, rfl⟩
      rw [hx] at e1
      have hbit := Lib.hid (bit_walk l8.out k x hx)
      have hx8 : x < 256 := by rw [← hx]; exact l8.out _
      clear hx
      go_wp2_with (
        (at_builtin
         refine push1 rfl (.tmp 32) (.tmp 43) 43 rfl w8.heap.size 4 (.bool false) 1 Try.underlying43 (by kernel_rfl) rfl (.slice A' k c') k ((bitL d k).map Value.bool) _ hown.out rfl rfl rfl (by unfold maxLen; omega) (by omega) hB.out.size ?_
         intro v2 w2 hown2 hg2 _
         rw [hbit.out] at hown2
         have HB2 := Lib.hid (below_grown hB.out hg2 hB.out.size (own_base hown.out))
         obtain ⟨A2, c2, rfl, -, -, -⟩ := own_form hown2
         have Hown2 := Lib.hid hown2
         clear hown2 hg2))
      go_roundw
      case rel => exact ⟨k + 1, A2, c2, by omega, by go_num, rfl, (show World.ownsRow _ _ _ _ _ _ _ by rw [bitL_succ, List.map_append]; exact Hown2.out), HB2.out⟩
      case measure => simp [intOf]; omega
    · obtain rfl : k = 64 := by omega
      go_wp2_with (fail)
      go_ret
      exact ⟨A', c', rfl, Cells.own hown.out, below_of HB8.out hB.out HB8.out.size⟩
set_option linter.unusedSimpArgs false in
set_option maxRecDepth 100000 in
set_option maxHeartbeats 4000000 in
theorem rNew_bad (A : Option Addr) (n c : Nat) (m : Int) (s : List Nat) (w : World) (hA : Cells w A (bytesV s)) (hs : s.length = n) (hn : n ≤ 200) (_hnc : n ≤ c) (hcm : c ≤ maxLen) (hk : okKey n m 0 = false) :
    Calls Try.prog 24 #[.slice A n c, .int .i64 m] w fun e w' => e = .returned (.tuple #[.agg #[.slice none 0 0, .int .i64 0, .int .i64 0], .int .i64 40]) ∧ Below w.heap.size w w' := by
  have HA := Lib.hid hA
  have Hs := Lib.hid hs
  have Hcm := Lib.hid hcm
  have HV := Lib.hid (fun A c W => rvalid_any A n c m 0 W)
  rw [hk] at HV
  clear hA hs hcm hk
  go_enter Try.func24, Try.ntmps24
  go_upto_region 1 with (fail)
  generalize hge : World.alloc _ _ = w1
  have HR := Lib.hid (show Blk w1 w.heap.size 24 #[.slice none 0 0, .int .i64 0, .int .i64 0] by subst hge; exact Blk.new w _ _)
  have HB := Lib.hid (show Below w.heap.size w w1 by subst hge; exact (Below.refl _ _).alloc (Nat.le_refl _) _)
  clear hge
  have HA1 := Lib.hid (HA.out.below HB.out)
  go_upto_region 2 with (
    (at_builtin
     refine wpList_append_cells rfl (.tmp 7) (.tmp 8) 22 rfl w1.heap.size 5 (.int .u8 0) 1 1 (by kernel_rfl) (by kernel_rfl) rfl (by omega) (.slice (some ⟨w1.heap.size, 0, none⟩) 0 0) 0 [] (World.ownsRow_lit (size := 1) w1 #[] 0 (Nat.le_refl _) (Nat.zero_le _) rfl) rfl A n c (bytesV s) rfl (by rw [bytesV_length, Hs.out, Nat.mul_one]) (HA1.out.alloc _) (bytesV_one _) (by unfold maxLen; omega) (by omega) (by simp) ?_
     intro v2 w2 hown2 hg2 _
     have hb2 := Lib.hid (below_grown ((Below.refl w1.heap.size w1).alloc (Nat.le_refl _) (.cells #[] 5)) hg2 (by simp) (by intro k hk; simp [Value.ownBlock] at hk; omega))
     obtain ⟨A2, c2, rfl, le2, lm2, -⟩ := own_form hown2
     rw [List.nil_append] at hown2
     have Hown2 := Lib.hid hown2
     have Le2 := Lib.hid le2
     have Hm2 := Lib.hid lm2
     clear hown2 hg2 le2 lm2))
  have HR2 := Lib.hid (HR.out.below hb2.out)
  have HB2 := Lib.hid (below_of HB.out hb2.out HB.out.size)
  have C2 := Lib.hid (Cells.own Hown2.out)
  have hne2 : Hid (∀ b off, A2 = some ⟨b, off, none⟩ → w1.heap.size ≤ b) := fun b off hb => own_base Hown2.out b (by rw [hb]; rfl)
  have hc2 : n ≤ c2 := by have := Le2.out; omega
  generalize hge : World.alloc _ _ = w3
  have HT3 := Lib.hid (show Blk w3 w2.heap.size 24 #[.slice A2 n c2, .int .i64 m, .int .i64 0] by subst hge; exact Blk.new w2 _ _)
  have hb3 : Below w2.heap.size w2 w3 := by subst hge; exact (Below.refl _ _).alloc (Nat.le_refl _) _
  have HR3 := Lib.hid (HR2.out.below hb3)
  have HB3 := Lib.hid (below_of HB2.out hb3 HB2.out.size)
  have C3 := Lib.hid (C2.out.below hb3)
  clear hge hb3
  have p0 := HT3.out.cellv (i := 0) rfl
  have p1 := HT3.out.cellv (i := 1) rfl
  have p2 := HT3.out.cellv (i := 2) rfl
  go_wp2_with (fail)
  clear p0 p1 p2
  refine (HV.out A2 c2 w3).mono ?_
  rintro e w4 ⟨rfl, hb4⟩
  have HT4 := Lib.hid (HT3.out.below hb4)
  have HR4 := Lib.hid (HR3.out.below hb4)
  have HB4 := Lib.hid (below_of HB3.out hb4 HB3.out.size)
  have C4 := Lib.hid (C3.out.below hb4)
  clear hb4
  have q0 := HR4.out.cellv (i := 0) rfl
  have q1 := HR4.out.cellv (i := 1) rfl
  have q2 := HR4.out.cellv (i := 2) rfl
  have g0 := HR4.out.frozen 0
  have g1 := HR4.out.frozen 1
  have g2 := HR4.out.frozen 2
  go_wp2_with (fail)
  have hp := put3 HR4.out (.slice none 0 0) (.int .i64 0) (.int .i64 0)
  exact ret_row2 rfl w.heap.size 24 #[.slice none 0 0, .int .i64 0, .int .i64 0] _ rfl rfl hp.1 Try.underlying24 rfl (by kernel_rfl) rfl ⟨rfl, below_grown HB4.out hp.2 HB4.out.size (by simp)⟩
set_option linter.unusedSimpArgs false in
set_option maxRecDepth 100000 in
set_option maxHeartbeats 4000000 in
theorem rNew_good (A : Option Addr) (n c : Nat) (m : Int) (s : List Nat) (w : World) (hA : Cells w A (bytesV s)) (hs : s.length = n) (hn : n ≤ 200) (_hnc : n ≤ c) (hcm : c ≤ maxLen) (hk : okKey n m 0 = true) :
    Calls Try.prog 24 #[.slice A n c, .int .i64 m] w fun e w' => ∃ A2 c2, e = .returned (.tuple #[.agg #[.slice A2 n c2, .int .i64 m, .int .i64 0], .int .i64 0]) ∧ n ≤ c2 ∧ c2 ≤ maxLen ∧ Cells w' A2 (bytesV s) ∧ Below w.heap.size w w' := by
  have HA := Lib.hid hA
  have Hs := Lib.hid hs
  have Hcm := Lib.hid hcm
  have HV := Lib.hid (fun A c W => rvalid_any A n c m 0 W)
  rw [hk] at HV
  clear hA hs hcm hk
  go_enter Try.func24, Try.ntmps24
  go_upto_region 1 with (fail)
  generalize hge : World.alloc _ _ = w1
  have HR := Lib.hid (show Blk w1 w.heap.size 24 #[.slice none 0 0, .int .i64 0, .int .i64 0] by subst hge; exact Blk.new w _ _)
  have HB := Lib.hid (show Below w.heap.size w w1 by subst hge; exact (Below.refl _ _).alloc (Nat.le_refl _) _)
  clear hge
  have HA1 := Lib.hid (HA.out.below HB.out)
  go_upto_region 2 with (
    (at_builtin
     refine wpList_append_cells rfl (.tmp 7) (.tmp 8) 22 rfl w1.heap.size 5 (.int .u8 0) 1 1 (by kernel_rfl) (by kernel_rfl) rfl (by omega) (.slice (some ⟨w1.heap.size, 0, none⟩) 0 0) 0 [] (World.ownsRow_lit (size := 1) w1 #[] 0 (Nat.le_refl _) (Nat.zero_le _) rfl) rfl A n c (bytesV s) rfl (by rw [bytesV_length, Hs.out, Nat.mul_one]) (HA1.out.alloc _) (bytesV_one _) (by unfold maxLen; omega) (by omega) (by simp) ?_
     intro v2 w2 hown2 hg2 _
     have hb2 := Lib.hid (below_grown ((Below.refl w1.heap.size w1).alloc (Nat.le_refl _) (.cells #[] 5)) hg2 (by simp) (by intro k hk; simp [Value.ownBlock] at hk; omega))
     obtain ⟨A2, c2, rfl, le2, lm2, -⟩ := own_form hown2
     rw [List.nil_append] at hown2
     have Hown2 := Lib.hid hown2
     have Le2 := Lib.hid le2
     have Hm2 := Lib.hid lm2
     clear hown2 hg2 le2 lm2))
  have HR2 := Lib.hid (HR.out.below hb2.out)
  have HB2 := Lib.hid (below_of HB.out hb2.out HB.out.size)
  have C2 := Lib.hid (Cells.own Hown2.out)
  have hne2 : Hid (∀ b off, A2 = some ⟨b, off, none⟩ → w1.heap.size ≤ b) := fun b off hb => own_base Hown2.out b (by rw [hb]; rfl)
  have hc2 : n ≤ c2 := by have := Le2.out; omega
  generalize hge : World.alloc _ _ = w3
  have HT3 := Lib.hid (show Blk w3 w2.heap.size 24 #[.slice A2 n c2, .int .i64 m, .int .i64 0] by subst hge; exact Blk.new w2 _ _)
  have hb3 : Below w2.heap.size w2 w3 := by subst hge; exact (Below.refl _ _).alloc (Nat.le_refl _) _
  have HR3 := Lib.hid (HR2.out.below hb3)
  have HB3 := Lib.hid (below_of HB2.out hb3 HB2.out.size)
  have C3 := Lib.hid (C2.out.below hb3)
  clear hge hb3
  have p0 := HT3.out.cellv (i := 0) rfl
  have p1 := HT3.out.cellv (i := 1) rfl
  have p2 := HT3.out.cellv (i := 2) rfl
  go_wp2_with (fail)
  clear p0 p1 p2
  refine (HV.out A2 c2 w3).mono ?_
  rintro e w4 ⟨rfl, hb4⟩
  have HT4 := Lib.hid (HT3.out.below hb4)
  have HR4 := Lib.hid (HR3.out.below hb4)
  have HB4 := Lib.hid (below_of HB3.out hb4 HB3.out.size)
  have C4 := Lib.hid (C3.out.below hb4)
  clear hb4
  have q0 := HR4.out.cellv (i := 0) rfl
  have q1 := HR4.out.cellv (i := 1) rfl
  have q2 := HR4.out.cellv (i := 2) rfl
  have g0 := HR4.out.frozen 0
  have g1 := HR4.out.frozen 1
  have g2 := HR4.out.frozen 2
  have p0 := HT4.out.cellv (i := 0) rfl
  have p1 := HT4.out.cellv (i := 1) rfl
  have p2 := HT4.out.cellv (i := 2) rfl
  go_wp2_with (fail)
  have hp := put3 HR4.out (.slice A2 n c2) (.int .i64 m) (.int .i64 0)
  exact ret_row2 rfl w.heap.size 24 #[.slice A2 n c2, .int .i64 m, .int .i64 0] _ rfl rfl hp.1 Try.underlying24 rfl (by kernel_rfl) rfl ⟨A2, c2, rfl, hc2, Hm2.out, C4.out.grown hp.2 (fun b off hA e => by have := hne2.out b off hA; have := HR.out.lt; injection e with e; omega), below_grown HB4.out hp.2 HB4.out.size (by simp)⟩
theorem run_str (A : Option Addr) (n c : Nat) (s : List Nat) (W : World) (hC : Cells W A (bytesV s)) (hs : s.length = n) (h8 : ByteL s) : (convert 22 9 (.slice A n c)).run Try.prog W = .ok (.string ⟨(s.map UInt8.ofNat).toArray⟩) W := by
  subst hs
  cases A with
  | none =>
    have : s = [] := by
      rcases hC with h | ⟨b, off, h, _⟩
      · exact List.eq_nil_of_length_eq_zero (by rw [← bytesV_length, h]; rfl)
      · cases h
    subst this
    show (convert 22 9 (.slice none 0 c)).run Try.prog W = _
    rw [run_convert_bytes_string W 22 9 5 none 0 c Try.underlying22 Try.underlying5 Try.underlying9]
    simp [Conv.bytesToString]
    rfl
  | some a =>
    have h := run_convert_bytes_back (P := Try.prog) W 22 9 5 a c (s.map UInt8.ofNat) Try.underlying22 Try.underlying5 Try.underlying9 (fun j hj => by
      have hj' : j < s.length := by simpa using hj
      obtain ⟨b, off, he, -, hc⟩ := hC.addr (by rw [bytesV_length]; omega)
      injection he with he
      subst he
      have h1 := hc j _ (bytesV_get hj')
      rw [Addr.add_lit, h1]
      have h2 := h8 j
      rw [List.getD_eq_getElem?_getD, List.getElem?_eq_getElem hj'] at h2 ⊢
      simp at h2 ⊢
      omega)
    rwa [List.length_map] at h
set_option linter.unusedSimpArgs false in
set_option maxRecDepth 100000 in
set_option maxHeartbeats 4000000 in
theorem samekey_any (A B : Option Addr) (n c d : Nat) (m u : Int) (s : List Nat) (w : World) (hA : Cells w A (bytesV s)) (hB : Cells w B (bytesV s)) (hs : s.length = n) (h8 : ByteL s) :
    Calls Try.prog 18 #[.agg #[.slice A n c, .int .i64 m, .int .i64 u], .agg #[.slice B n d, .int .i64 m, .int .i64 u]] w fun e w' => e = .returned (.bool true) ∧ Below w.heap.size w w' := by
  have g1 : (m == m) = true := by simp
  have g2 : (u == u) = true := by simp
  have hb : ∀ o o2 : Obj, Below w.heap.size w ((w.alloc o).alloc o2) := fun o o2 => below_two (Below.refl _ _) (Nat.le_refl _) o o2
  have r1 : ∀ o o2 : Obj, Sem.run Try.prog (convert 22 9 (.slice A n c)) ((w.alloc o).alloc o2) = .ok (.string ⟨(s.map UInt8.ofNat).toArray⟩) ((w.alloc o).alloc o2) := fun o o2 => run_str A n c s _ (hA.below (hb o o2)) hs h8
  have r2 : ∀ o o2 : Obj, Sem.run Try.prog (convert 22 9 (.slice B n d)) ((w.alloc o).alloc o2) = .ok (.string ⟨(s.map UInt8.ofNat).toArray⟩) ((w.alloc o).alloc o2) := fun o o2 => run_str B n d s _ (hB.below (hb o o2)) hs h8
  generalize (⟨(s.map UInt8.ofNat).toArray⟩ : ByteArray) = S at *
  clear hA hB hs h8
  go_enter Try.func18, Try.ntmps18
  go_wp2_with (fail)
  go_ret
  exact ⟨rfl, hb _ _⟩
end Go.Proofs.Ytcijhakofoklcaa
