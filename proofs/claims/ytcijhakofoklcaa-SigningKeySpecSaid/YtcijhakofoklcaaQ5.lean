/- The statement SigningKeySpecSaid: for every seed, number, key, digest and message, New, Public and Bits agree with the reference; no condition beside the row's own. -/
import Derived.Test.YtcijhakofoklcaaSigR4
import Derived.Test.YtcijhakofoklcaaRow3
import Derived.ChangeMaps5
import Derived.BigGuardPart
import Derived.Test.YtcijhakofoklcaaRow2
namespace Go.Proofs.Ytcijhakofoklcaa
open Go.RowKit Go.WideShapes Go.ChangeShapes Go.ChangeAt
set_option linter.unusedSimpArgs false in
set_option maxRecDepth 100000 in
set_option maxHeartbeats 4000000 in
theorem SigningKeySpec_walk (w : World) (Bs : Option Addr) (ks ds : Nat) (xss : List Int) (hls : xss.length = ks) (_hns : ks ≤ ds) (_hms : ds ≤ maxLen) (hBs : Cells w Bs (xss.map (Value.int .u8))) (hws : ∀ x ∈ xss, (Lit.int .u8 x).wf = true) (M : Int) (_wM : (Lit.int .i64 M).wf = true) (A : Option Addr) (n c : Nat) (m u : Int) (s : List Nat) (hl : s.length = n) (_hnc : n ≤ c) (_hcm : c ≤ maxLen) (hA0 : Cells w A (bytesV s)) (h80 : ByteL s) (_wm : (Lit.int .i64 m).wf = true) (_wu : (Lit.int .i64 u).wf = true) (D : List Nat) (kD : IsD D) (ix : Int) (_wix : (Lit.int .i64 ix).wf = true) (Bm : Option Addr) (km dm : Nat) (xsm : List Int) (hlm : xsm.length = km) (_hnm : km ≤ dm) (_hmm : dm ≤ maxLen) (hBm : Cells w Bm (xsm.map (Value.int .u8))) (hwm : ∀ x ∈ xsm, (Lit.int .u8 x).wf = true) :
    Calls Try.prog 5 #[.slice Bs ks ds, .int .i64 M, .agg #[.slice A n c, .int .i64 m, .int .i64 u], .agg (arrK .u8 D), .int .i64 ix, .slice Bm km dm] w (Fine w) := by
  obtain ⟨msgs, hmls, hm8s, hMs⟩ := open_bytes hBs hws
  have HMs := Lib.hid hMs
  have Hmls := Lib.hid (hmls.trans hls)
  have Hm8s := Lib.hid hm8s
  clear hMs hmls hls hm8s hBs hws
  obtain ⟨msgm, hmlm, hm8m, hMm⟩ := open_bytes hBm hwm
  have HMm := Lib.hid hMm
  have Hmlm := Lib.hid (hmlm.trans hlm)
  have Hm8m := Lib.hid hm8m
  clear hMm hmlm hlm hm8m hBm hwm
  have HA := Lib.hid hA0
  have Hs := Lib.hid hl
  have Hs8 := Lib.hid h80
  clear hA0 hl h80
  have DD := Lib.hid kD
  clear kD
  have Hnm := Lib.hid _hnm
  have Hmm := Lib.hid _hmm
  by_cases hbig : ks ≤ 200 ∧ km ≤ 300
  case neg =>
    go_enter Try.func5, Try.ntmps5
    go_wp2_with (fail)
    generalize hge : World.alloc _ _ = w0
    have HK0 := Lib.hid (show Blk w0 w.heap.size 24 #[.slice A n c, .int .i64 m, .int .i64 u] by subst hge; exact (blk_two w _ _ 24 37).1)
    have HD0 := Lib.hid (show Blk w0 (w.heap.size + 1) 37 (arrK .u8 D) by subst hge; exact (blk_two w _ _ 24 37).2)
    have HB0 := Lib.hid (show Below w.heap.size w w0 by subst hge; exact below_two (Below.refl _ _) (Nat.le_refl _) _ _)
    clear hge
    refine (ssane_any w0).mono ?_
    rintro e w1 ⟨rfl, hb1⟩
    have HK1 := Lib.hid (HK0.out.below hb1)
    have HD1 := Lib.hid (HD0.out.below hb1)
    have HB1 := Lib.hid (below_of HB0.out hb1 HB0.out.size)
    clear hb1
    obtain ⟨G, hG⟩ : ∃ G, w.heap.size + 1 = G := ⟨_, rfl⟩
    rw [hG] at HD1 ⊢
    clear hG HD0 HK0 HB0
    go_wp2_with (fail)
    all_goals first
      | (go_ret; exact ⟨rfl, HB1.out⟩)
      | (exfalso; omega)
  case pos =>
    obtain ⟨hk2, hm3⟩ := hbig
    have HNe := Lib.hid (fun W h => New_any Bs ks ds M msgs W h Hmls.out hk2 _hns _hms)
    have HNr := Lib.hid (fun W h => rNew_any Bs ks ds M msgs W h Hmls.out hk2 _hns _hms)
    have H8n := Lib.hid (show ByteL (newS ks M msgs) by unfold newS; split; exact Hm8s.out; exact fun j => by simp)
    generalize newS ks M msgs = ns at *
    generalize newM ks M = nm at *
    generalize errKey (okKey ks M 0) = ne at *
    have HBi := Lib.hid (fun W h => Bits_any D ix msgm Bm km dm W DD.out h Hmlm.out (by omega) Hm8m.out)
    have HBr := Lib.hid (fun W h => rBits_any D ix msgm Bm km dm W DD.out h Hmlm.out (by omega) Hm8m.out)
    have Hbl := Lib.hid (bitsI_le D ix msgm)
    generalize bitsI D ix msgm = bl at *
    have HFw := Lib.hid (fun W => few_any A n c m u none 0 0 W)
    have HVa := Lib.hid (fun W => rvalid_any A n c m u W)
    have HPu := Lib.hid (fun W h => Public_any A n c m u s W h Hs.out Hs8.out)
    have HPr := Lib.hid (fun W h => rPublic_any A n c m u s W h Hs.out Hs8.out)
    have DP := Lib.hid (pubR_isD n m u s)
    generalize pubR n m u s = pl at *
    generalize errKey (okKey n m u) = pe at *
    generalize okKey n m u = ok at *
    generalize fewK n m 0 = fw at *
    go_enter Try.func5, Try.ntmps5
    go_wp2_with (fail)
    generalize hge : World.alloc _ _ = w0
    have HK0 := Lib.hid (show Blk w0 w.heap.size 24 #[.slice A n c, .int .i64 m, .int .i64 u] by subst hge; exact (blk_two w _ _ 24 37).1)
    have HD0 := Lib.hid (show Blk w0 (w.heap.size + 1) 37 (arrK .u8 D) by subst hge; exact (blk_two w _ _ 24 37).2)
    have HB0 := Lib.hid (show Below w.heap.size w w0 by subst hge; exact below_two (Below.refl _ _) (Nat.le_refl _) _ _)
    clear hge
    refine (ssane_any w0).mono ?_
    rintro e w1 ⟨rfl, hb1⟩
    have HK1 := Lib.hid (HK0.out.below hb1)
    have HD1 := Lib.hid (HD0.out.below hb1)
    have HB1 := Lib.hid (below_of HB0.out hb1 HB0.out.size)
    clear hb1
    obtain ⟨G, hG⟩ : ∃ G, w.heap.size + 1 = G := ⟨_, rfl⟩
    rw [hG] at HD1 ⊢
    clear hG HD0 HK0 HB0
    go_wp2_with (fail)
    refine (HNe.out w1 (HMs.out.below HB1.out)).mono ?_
    rintro e w2 ⟨A2, c2, rfl, hC2, hb2⟩
    have HK2 := Lib.hid (HK1.out.below hb2)
    have HD2 := Lib.hid (HD1.out.below hb2)
    have HC2 := Lib.hid hC2
    have HB2 := Lib.hid (below_of HB1.out hb2 HB1.out.size)
    clear hb2 hC2
    go_wp2_with (fail)
    generalize hge : World.alloc _ _ = w3
    have HX3 := Lib.hid (show Blk w3 w2.heap.size 24 #[.slice A2 ns.length c2, .int .i64 nm, .int .i64 0] by subst hge; exact Blk.new w2 _ _)
    have hb3 : Below w2.heap.size w2 w3 := by subst hge; exact (Below.refl _ _).alloc (Nat.le_refl _) _
    have HK3 := Lib.hid (HK2.out.below hb3)
    have HD3 := Lib.hid (HD2.out.below hb3)
    have HC3 := Lib.hid (HC2.out.below hb3)
    have HB3 := Lib.hid (below_of HB2.out hb3 HB2.out.size)
    clear hge hb3
    obtain ⟨X, hX⟩ : ∃ X, w2.heap.size = X := ⟨_, rfl⟩
    rw [hX] at HX3 ⊢
    clear hX
    refine (HNr.out w3 (HMs.out.below HB3.out)).mono ?_
    rintro e w4 ⟨A4, c4, rfl, hC4, hb4⟩
    have HK4 := Lib.hid (HK3.out.below hb4)
    have HD4 := Lib.hid (HD3.out.below hb4)
    have HX4 := Lib.hid (HX3.out.below hb4)
    have HC4 := Lib.hid (HC3.out.below hb4)
    have HE4 := Lib.hid hC4
    have HB4 := Lib.hid (below_of HB3.out hb4 HB3.out.size)
    clear hb4 hC4
    go_upto_region 7 with (fail)
    generalize hge : World.alloc _ _ = w5
    have HY5 := Lib.hid (show Blk w5 w4.heap.size 24 #[.slice A4 ns.length c4, .int .i64 nm, .int .i64 0] by subst hge; exact Blk.new w4 _ _)
    have hb5 : Below w4.heap.size w4 w5 := by subst hge; exact (Below.refl _ _).alloc (Nat.le_refl _) _
    have HK5 := Lib.hid (HK4.out.below hb5)
    have HD5 := Lib.hid (HD4.out.below hb5)
    have HX5 := Lib.hid (HX4.out.below hb5)
    have HC5 := Lib.hid (HC4.out.below hb5)
    have HE5 := Lib.hid (HE4.out.below hb5)
    have HB5 := Lib.hid (below_of HB4.out hb5 HB4.out.size)
    clear hge hb5
    obtain ⟨Y, hY⟩ : ∃ Y, w4.heap.size = Y := ⟨_, rfl⟩
    rw [hY] at HY5 ⊢
    clear hY
    refine wp_region_held_drew (S := fun W => Below w.heap.size w W ∧ Blk W G 37 (arrK .u8 D) ∧ Blk W X 24 #[.slice A2 ns.length c2, .int .i64 nm, .int .i64 0] ∧ Blk W Y 24 #[.slice A4 ns.length c4, .int .i64 nm, .int .i64 0]) (by kernel_rfl) (⟨below_drewN HB5.out 1, HD5.out, HX5.out, HY5.out⟩) (fun Hd => ?_)
    have Hd : Below w.heap.size w w5.drew := below_drewN HB5.out 1
    have Zd : w5.heap.size ≤ w5.drew.heap.size := Nat.le_refl _
    have fK : Blk w5.drew w.heap.size 24 #[.slice A n c, .int .i64 m, .int .i64 u] := HK5.out
    have fD : Blk w5.drew G 37 (arrK .u8 D) := HD5.out
    have fX : Blk w5.drew X 24 #[.slice A2 ns.length c2, .int .i64 nm, .int .i64 0] := HX5.out
    have fY : Blk w5.drew Y 24 #[.slice A4 ns.length c4, .int .i64 nm, .int .i64 0] := HY5.out
    have fx : Cells w5.drew A2 (bytesV ns) := HC5.out
    have fy : Cells w5.drew A4 (bytesV ns) := HE5.out
    generalize World.drew w5 = wd at *
    refine wpAnyH_take (i := 0) (v := ?_) rfl (by kernel_rfl) (by kernel_rfl) (by kernel_rfl) (fun _ _ _ h => h) (Or.inl ⟨by rfl, ?_⟩) ⟨Hd, fD, fX, fY⟩ ?_
    rotate_left
    · intro wS hSw
      go_simp
      try with_reducible rfl
    try simp only [List.getElem_toArray, List.getElem_cons_zero, List.getElem_cons_succ, Act.put, List.setIfInBounds_toArray, List.set_cons_zero, List.set_cons_succ]
    refine wpAnyH_take (i := 1) (v := ?_) rfl (by kernel_rfl) (by kernel_rfl) (by kernel_rfl) (fun _ _ _ h => h) (Or.inl ⟨by rfl, ?_⟩) ⟨Hd, fD, fX, fY⟩ ?_
    rotate_left
    · intro wS hSw
      go_simp
      try with_reducible rfl
    try simp only [List.getElem_toArray, List.getElem_cons_zero, List.getElem_cons_succ, Act.put, List.setIfInBounds_toArray, List.set_cons_zero, List.set_cons_succ]
    refine wpAnyH_take (i := 2) (v := ?_) rfl (by kernel_rfl) (by kernel_rfl) (by kernel_rfl) (fun _ _ _ h => h) (Or.inl ⟨by rfl, ?_⟩) ⟨Hd, fD, fX, fY⟩ ?_
    rotate_left
    · intro wS hSw
      go_simp
      try with_reducible rfl
    try simp only [List.getElem_toArray, List.getElem_cons_zero, List.getElem_cons_succ, Act.put, List.setIfInBounds_toArray, List.set_cons_zero, List.set_cons_succ]
    refine wpAnyH_take (i := 3) (v := ?_) rfl (by kernel_rfl) (by kernel_rfl) (by kernel_rfl) (fun _ _ _ h => h) (Or.inl ⟨by rfl, ?_⟩) ⟨Hd, fD, fX, fY⟩ ?_
    rotate_left
    · intro wS hSw
      go_simp
      try with_reducible rfl
    try simp only [List.getElem_toArray, List.getElem_cons_zero, List.getElem_cons_succ, Act.put, List.setIfInBounds_toArray, List.set_cons_zero, List.set_cons_succ]
    refine wpAnyH_take (i := 4) (v := ?_) rfl (by kernel_rfl) (by kernel_rfl) (by kernel_rfl) (fun _ _ _ h => h) (Or.inl ⟨by rfl, ?_⟩) ⟨Hd, fD, fX, fY⟩ ?_
    rotate_left
    · intro wS hSw
      have q0 := Blk.cellv hSw.2.2.1 (i := 0) rfl
      have q1 := Blk.cellv hSw.2.2.1 (i := 1) rfl
      have q2 := Blk.cellv hSw.2.2.1 (i := 2) rfl
      go_simp
      try with_reducible rfl
    try simp only [List.getElem_toArray, List.getElem_cons_zero, List.getElem_cons_succ, Act.put, List.setIfInBounds_toArray, List.set_cons_zero, List.set_cons_succ]
    refine wpAnyH_take (i := 5) (v := ?_) rfl (by kernel_rfl) (by kernel_rfl) (by kernel_rfl) (fun _ _ _ h => h) (Or.inl ⟨by rfl, ?_⟩) ⟨Hd, fD, fX, fY⟩ ?_
    rotate_left
    · intro wS hSw
      have q0 := Blk.cellv hSw.2.2.2 (i := 0) rfl
      have q1 := Blk.cellv hSw.2.2.2 (i := 1) rfl
      have q2 := Blk.cellv hSw.2.2.2 (i := 2) rfl
      go_simp
      try with_reducible rfl
    try simp only [List.getElem_toArray, List.getElem_cons_zero, List.getElem_cons_succ, Act.put, List.setIfInBounds_toArray, List.set_cons_zero, List.set_cons_succ]
    refine wpAnyH_ready (rs := [6]) (by kernel_rfl) (by simp) (AllReadyH.cons rfl (fun K hK => ?_) AllReadyH.nil)
    go_simp
    refine (samekey_any A2 A4 ns.length c2 c4 nm 0 ns _ fx fy rfl H8n.out).mono ?_
    rintro e w1_ ⟨rfl, hb1⟩
    have fK1 := fK.below hb1
    have fD1 := fD.below hb1
    have fX1 := fX.below hb1
    have fY1 := fY.below hb1
    have fx1 := fx.below hb1
    have fy1 := fy.below hb1
    have Hb1 : Below w.heap.size w w1_ := below_of Hd hb1 Hd.size
    have Zb1 : w5.heap.size ≤ w1_.heap.size := Nat.le_trans Zd hb1.size
    go_wp2_with (fail)
    refine hK.out _ _ ⟨Hb1, fD1, fX1, fY1⟩ fun _ => ?_
    clear hK K
    try simp only [List.getElem_toArray, List.getElem_cons_zero, List.getElem_cons_succ, Act.put, List.setIfInBounds_toArray, List.set_cons_zero, List.set_cons_succ]
    refine wpAnyH_take (i := 7) (v := ?_) rfl (by kernel_rfl) (by kernel_rfl) (by kernel_rfl) (fun _ _ _ h => h) (Or.inl ⟨by rfl, ?_⟩) ⟨Hb1, fD1, fX1, fY1⟩ ?_
    rotate_left
    · intro wS hSw
      go_simp
      try with_reducible rfl
    try simp only [List.getElem_toArray, List.getElem_cons_zero, List.getElem_cons_succ, Act.put, List.setIfInBounds_toArray, List.set_cons_zero, List.set_cons_succ]
    refine wpAnyH_take (i := 8) (v := ?_) rfl (by kernel_rfl) (by kernel_rfl) (by kernel_rfl) (fun _ _ _ h => h) (Or.inl ⟨by rfl, ?_⟩) ⟨Hb1, fD1, fX1, fY1⟩ ?_
    rotate_left
    · intro wS hSw
      go_simp
      try with_reducible rfl
    try simp only [List.getElem_toArray, List.getElem_cons_zero, List.getElem_cons_succ, Act.put, List.setIfInBounds_toArray, List.set_cons_zero, List.set_cons_succ]
    refine wpAnyH_take (i := 9) (v := ?_) rfl (by kernel_rfl) (by kernel_rfl) (by kernel_rfl) (fun _ _ _ h => h) (Or.inl ⟨by rfl, ?_⟩) ⟨Hb1, fD1, fX1, fY1⟩ ?_
    rotate_left
    · intro wS hSw
      go_simp
      try with_reducible rfl
    try simp only [List.getElem_toArray, List.getElem_cons_zero, List.getElem_cons_succ, Act.put, List.setIfInBounds_toArray, List.set_cons_zero, List.set_cons_succ]
    refine wpAnyH_take (i := 10) (v := .agg (arrK .u8 D)) rfl (by kernel_rfl) (by kernel_rfl) (by kernel_rfl) (fun _ _ _ h => h) (yields_load_blk (by rfl) _ _ rfl (G) rfl 37 (arrK .u8 D) (.array 32 5) (fun W hW => hW.2.1) (by kernel_rfl) rfl (info32 DD.out.1)) ⟨Hb1, fD1, fX1, fY1⟩ ?_
    try simp only [List.getElem_toArray, List.getElem_cons_zero, List.getElem_cons_succ, Act.put, List.setIfInBounds_toArray, List.set_cons_zero, List.set_cons_succ]
    refine wpAnyH_take (i := 11) (v := ?_) rfl (by kernel_rfl) (by kernel_rfl) (by kernel_rfl) (fun _ _ _ h => h) (Or.inl ⟨by rfl, ?_⟩) ⟨Hb1, fD1, fX1, fY1⟩ ?_
    rotate_left
    · intro wS hSw
      go_simp
      try with_reducible rfl
    try simp only [List.getElem_toArray, List.getElem_cons_zero, List.getElem_cons_succ, Act.put, List.setIfInBounds_toArray, List.set_cons_zero, List.set_cons_succ]
    refine wpAnyH_take (i := 12) (v := ?_) rfl (by kernel_rfl) (by kernel_rfl) (by kernel_rfl) (fun _ _ _ h => h) (Or.inl ⟨by rfl, ?_⟩) ⟨Hb1, fD1, fX1, fY1⟩ ?_
    rotate_left
    · intro wS hSw
      go_simp
      try with_reducible rfl
    try simp only [List.getElem_toArray, List.getElem_cons_zero, List.getElem_cons_succ, Act.put, List.setIfInBounds_toArray, List.set_cons_zero, List.set_cons_succ]
    refine wpAnyH_take (i := 14) (v := .agg (arrK .u8 D)) rfl (by kernel_rfl) (by kernel_rfl) (by kernel_rfl) (fun _ _ _ h => h) (yields_load_blk (by rfl) _ _ rfl (G) rfl 37 (arrK .u8 D) (.array 32 5) (fun W hW => hW.2.1) (by kernel_rfl) rfl (info32 DD.out.1)) ⟨Hb1, fD1, fX1, fY1⟩ ?_
    try simp only [List.getElem_toArray, List.getElem_cons_zero, List.getElem_cons_succ, Act.put, List.setIfInBounds_toArray, List.set_cons_zero, List.set_cons_succ]
    refine wpAnyH_take (i := 15) (v := ?_) rfl (by kernel_rfl) (by kernel_rfl) (by kernel_rfl) (fun _ _ _ h => h) (Or.inl ⟨by rfl, ?_⟩) ⟨Hb1, fD1, fX1, fY1⟩ ?_
    rotate_left
    · intro wS hSw
      go_simp
      try with_reducible rfl
    try simp only [List.getElem_toArray, List.getElem_cons_zero, List.getElem_cons_succ, Act.put, List.setIfInBounds_toArray, List.set_cons_zero, List.set_cons_succ]
    refine wpAnyH_take (i := 16) (v := ?_) rfl (by kernel_rfl) (by kernel_rfl) (by kernel_rfl) (fun _ _ _ h => h) (Or.inl ⟨by rfl, ?_⟩) ⟨Hb1, fD1, fX1, fY1⟩ ?_
    rotate_left
    · intro wS hSw
      go_simp
      try with_reducible rfl
    try simp only [List.getElem_toArray, List.getElem_cons_zero, List.getElem_cons_succ, Act.put, List.setIfInBounds_toArray, List.set_cons_zero, List.set_cons_succ]
    refine wpAnyH_ready (rs := [13]) (by kernel_rfl) (by simp) (AllReadyH.cons rfl (fun K hK => ?_) AllReadyH.nil)
    go_simp
    refine (HBi.out _ (HMm.out.below Hb1)).mono ?_
    rintro e w2_ ⟨I1, d1, rfl, fi2, hb2⟩
    have fK2 := fK1.below hb2
    have fD2 := fD1.below hb2
    have fX2 := fX1.below hb2
    have fY2 := fY1.below hb2
    have fx2 := fx1.below hb2
    have fy2 := fy1.below hb2
    have Hb2 : Below w.heap.size w w2_ := below_of Hb1 hb2 Hb1.size
    have Zb2 : w5.heap.size ≤ w2_.heap.size := Nat.le_trans Zb1 hb2.size
    go_wp2_with (fail)
    refine hK.out _ _ ⟨Hb2, fD2, fX2, fY2⟩ fun _ => ?_
    clear hK K
    try simp only [List.getElem_toArray, List.getElem_cons_zero, List.getElem_cons_succ, Act.put, List.setIfInBounds_toArray, List.set_cons_zero, List.set_cons_succ]
    refine wpAnyH_ready (rs := [17]) (by kernel_rfl) (by simp) (AllReadyH.cons rfl (fun K hK => ?_) AllReadyH.nil)
    go_simp
    refine (HBr.out _ (HMm.out.below Hb2)).mono ?_
    rintro e w3_ ⟨I2, d2, rfl, fj3, hb3⟩
    have fK3 := fK2.below hb3
    have fD3 := fD2.below hb3
    have fX3 := fX2.below hb3
    have fY3 := fY2.below hb3
    have fx3 := fx2.below hb3
    have fy3 := fy2.below hb3
    have fi3 := fi2.below hb3
    have Hb3 : Below w.heap.size w w3_ := below_of Hb2 hb3 Hb2.size
    have Zb3 : w5.heap.size ≤ w3_.heap.size := Nat.le_trans Zb2 hb3.size
    go_wp2_with (fail)
    refine hK.out _ _ ⟨Hb3, fD3, fX3, fY3⟩ fun _ => ?_
    clear hK K
    try simp only [List.getElem_toArray, List.getElem_cons_zero, List.getElem_cons_succ, Act.put, List.setIfInBounds_toArray, List.set_cons_zero, List.set_cons_succ]
    refine wpAnyH_ready (rs := [18]) (by kernel_rfl) (by simp) (AllReadyH.cons rfl (fun K hK => ?_) AllReadyH.nil)
    go_simp
    refine (bsameC_any bl bl.length I1 I2 d1 d2 _ rfl Hbl.out fi3 fj3).mono ?_
    rintro e w4_ ⟨rfl, hb4⟩
    have fK4 := fK3.below hb4
    have fD4 := fD3.below hb4
    have fX4 := fX3.below hb4
    have fY4 := fY3.below hb4
    have fx4 := fx3.below hb4
    have fy4 := fy3.below hb4
    have fi4 := fi3.below hb4
    have fj4 := fj3.below hb4
    have Hb4 : Below w.heap.size w w4_ := below_of Hb3 hb4 Hb3.size
    have Zb4 : w5.heap.size ≤ w4_.heap.size := Nat.le_trans Zb3 hb4.size
    go_wp2_with (fail)
    refine hK.out _ _ ⟨Hb4, fD4, fX4, fY4⟩ fun _ => ?_
    clear hK K
    try simp only [List.getElem_toArray, List.getElem_cons_zero, List.getElem_cons_succ, Act.put, List.setIfInBounds_toArray, List.set_cons_zero, List.set_cons_succ]
    refine wpAnyH_take (i := 19) (v := ?_) rfl (by kernel_rfl) (by kernel_rfl) (by kernel_rfl) (fun _ _ _ h => h) (Or.inl ⟨by rfl, ?_⟩) ⟨Hb4, fD4, fX4, fY4⟩ ?_
    rotate_left
    · intro wS hSw
      go_simp
      try with_reducible rfl
    try simp only [List.getElem_toArray, List.getElem_cons_zero, List.getElem_cons_succ, Act.put, List.setIfInBounds_toArray, List.set_cons_zero, List.set_cons_succ]
    refine wpAnyH_take (i := 20) (v := ?_) rfl (by kernel_rfl) (by kernel_rfl) (by kernel_rfl) (fun _ _ _ h => h) (Or.inl ⟨by rfl, ?_⟩) ⟨Hb4, fD4, fX4, fY4⟩ ?_
    rotate_left
    · intro wS hSw
      go_simp
      try with_reducible rfl
    try simp only [List.getElem_toArray, List.getElem_cons_zero, List.getElem_cons_succ, Act.put, List.setIfInBounds_toArray, List.set_cons_zero, List.set_cons_succ]
    refine wpAnyH_done (by kernel_rfl) ?_ _
    obtain ⟨w6, hw6⟩ : ∃ w6, w6 = w4_ := ⟨_, rfl⟩
    subst hw6
    have HK6 := Lib.hid fK4
    have HB6 := Lib.hid Hb4
    have q0 := HK6.out.cellv (i := 0) rfl
    have q1 := HK6.out.cellv (i := 1) rfl
    have q2 := HK6.out.cellv (i := 2) rfl
    go_wp2_with (fail)
    refine (HFw.out w6).mono ?_
    rintro e w7 ⟨rfl, hb7⟩
    have HK7 := Lib.hid (HK6.out.below hb7)
    have HB7 := Lib.hid (below_of HB6.out hb7 HB6.out.size)
    clear hb7 q0 q1 q2
    have TAIL : True := trivial
    cases fw with
    | true =>
      have q0 := HK7.out.cellv (i := 0) rfl
      have q1 := HK7.out.cellv (i := 1) rfl
      have q2 := HK7.out.cellv (i := 2) rfl
      go_wp2_with (fail)
      refine (HPu.out w7 (HA.out.below HB7.out)).mono ?_
      rintro e w9 ⟨rfl, hb9⟩
      have HK9 := Lib.hid (HK7.out.below hb9)
      have HB9 := Lib.hid (below_of HB7.out hb9 HB7.out.size)
      clear hb9 q0 q1 q2
      go_upto_region 12 with (
        (refine wpList_put_blk rfl 37 (.tmp 17) (.tmp 74) rfl w9.heap.size (arrK .u8 pl) rfl rfl 37 (arrK .u8 z32) (Blk.new w9 37 (arrK .u8 z32)) (info32 DP.out.1) (by rw [len32 DP.out.1]; try rw [len32 z32_length]) (arrK_all _ _) ?_; intro w10 HP10 hg10 hz10; have hb10 : Below w9.heap.size w9 w10 := below_grown ((Below.refl w9.heap.size w9).alloc (Nat.le_refl _) (.cells (arrK .u8 z32) 37)) hg10 (by simp) (by simp); have HP10 := Lib.hid HP10; have HK10 := Lib.hid (HK9.out.below hb10); have HB10 := Lib.hid (below_of HB9.out hb10 HB9.out.size); clear hg10 hz10 hb10))
      obtain ⟨P, hP⟩ : ∃ P, w9.heap.size = P := ⟨_, rfl⟩
      rw [hP] at HP10 ⊢
      clear hP
      have q0 := HK10.out.cellv (i := 0) rfl
      have q1 := HK10.out.cellv (i := 1) rfl
      have q2 := HK10.out.cellv (i := 2) rfl
      go_wp2_with (fail)
      refine (HPr.out w10 (HA.out.below HB10.out)).mono ?_
      rintro e w11 ⟨rfl, hb11⟩
      have HP11 := Lib.hid (HP10.out.below hb11)
      have HB11 := Lib.hid (below_of HB10.out hb11 HB10.out.size)
      clear hb11 q0 q1 q2
      go_upto_region 13 with (
        (refine wpList_put_blk rfl 37 (.tmp 19) (.tmp 79) rfl w11.heap.size (arrK .u8 pl) rfl rfl 37 (arrK .u8 z32) (Blk.new w11 37 (arrK .u8 z32)) (info32 DP.out.1) (by rw [len32 DP.out.1]; try rw [len32 z32_length]) (arrK_all _ _) ?_; intro w12 HR12 hg12 hz12; have hb12 : Below w11.heap.size w11 w12 := below_grown ((Below.refl w11.heap.size w11).alloc (Nat.le_refl _) (.cells (arrK .u8 z32) 37)) hg12 (by simp) (by simp); have HR12 := Lib.hid HR12; have HP12 := Lib.hid (HP11.out.below hb12); have HB12 := Lib.hid (below_of HB11.out hb12 HB11.out.size); clear hg12 hz12 hb12))
      obtain ⟨R, hR⟩ : ∃ R, w11.heap.size = R := ⟨_, rfl⟩
      rw [hR] at HR12 ⊢
      clear hR
      have hEq : ∀ W, (Op.equalIn 10000 37 (.agg (arrK .u8 pl)) (.agg (arrK .u8 pl))).run Try.prog W = .ok true W := fun W => by
        have := run_eqD DP.out DP.out W
        simpa using this
      go_wp2_with (first
        | (refine wpList_load_blk rfl 37 (.tmp 17) rfl P rfl 37 (arrK .u8 pl) (.array 32 5) HP12.out (by kernel_rfl) rfl (info32 DP.out.1) ?_)
        | (refine wpList_load_blk rfl 37 (.tmp 19) rfl R rfl 37 (arrK .u8 pl) (.array 32 5) HR12.out (by kernel_rfl) rfl (info32 DP.out.1) ?_))
      go_ret
      exact ⟨rfl, HB12.out⟩
    | false =>
      have q0 := HK7.out.cellv (i := 0) rfl
      have q1 := HK7.out.cellv (i := 1) rfl
      have q2 := HK7.out.cellv (i := 2) rfl
      go_wp2_with (fail)
      refine (HVa.out w7).mono ?_
      rintro e w8 ⟨rfl, hb8⟩
      have HK8 := Lib.hid (HK7.out.below hb8)
      have HB8 := Lib.hid (below_of HB7.out hb8 HB7.out.size)
      clear hb8 q0 q1 q2
      cases ok with
      | true =>
        go_wp2_with (fail)
        go_ret
        exact ⟨rfl, HB8.out⟩
      | false =>
        have q0 := HK8.out.cellv (i := 0) rfl
        have q1 := HK8.out.cellv (i := 1) rfl
        have q2 := HK8.out.cellv (i := 2) rfl
        go_wp2_with (fail)
        refine (HPu.out w8 (HA.out.below HB8.out)).mono ?_
        rintro e w9 ⟨rfl, hb9⟩
        have HK9 := Lib.hid (HK8.out.below hb9)
        have HB9 := Lib.hid (below_of HB8.out hb9 HB8.out.size)
        clear hb9 q0 q1 q2
        go_upto_region 12 with (
          (refine wpList_put_blk rfl 37 (.tmp 17) (.tmp 74) rfl w9.heap.size (arrK .u8 pl) rfl rfl 37 (arrK .u8 z32) (Blk.new w9 37 (arrK .u8 z32)) (info32 DP.out.1) (by rw [len32 DP.out.1]; try rw [len32 z32_length]) (arrK_all _ _) ?_; intro w10 HP10 hg10 hz10; have hb10 : Below w9.heap.size w9 w10 := below_grown ((Below.refl w9.heap.size w9).alloc (Nat.le_refl _) (.cells (arrK .u8 z32) 37)) hg10 (by simp) (by simp); have HP10 := Lib.hid HP10; have HK10 := Lib.hid (HK9.out.below hb10); have HB10 := Lib.hid (below_of HB9.out hb10 HB9.out.size); clear hg10 hz10 hb10))
        obtain ⟨P, hP⟩ : ∃ P, w9.heap.size = P := ⟨_, rfl⟩
        rw [hP] at HP10 ⊢
        clear hP
        have q0 := HK10.out.cellv (i := 0) rfl
        have q1 := HK10.out.cellv (i := 1) rfl
        have q2 := HK10.out.cellv (i := 2) rfl
        go_wp2_with (fail)
        refine (HPr.out w10 (HA.out.below HB10.out)).mono ?_
        rintro e w11 ⟨rfl, hb11⟩
        have HP11 := Lib.hid (HP10.out.below hb11)
        have HB11 := Lib.hid (below_of HB10.out hb11 HB10.out.size)
        clear hb11 q0 q1 q2
        go_upto_region 13 with (
          (refine wpList_put_blk rfl 37 (.tmp 19) (.tmp 79) rfl w11.heap.size (arrK .u8 pl) rfl rfl 37 (arrK .u8 z32) (Blk.new w11 37 (arrK .u8 z32)) (info32 DP.out.1) (by rw [len32 DP.out.1]; try rw [len32 z32_length]) (arrK_all _ _) ?_; intro w12 HR12 hg12 hz12; have hb12 : Below w11.heap.size w11 w12 := below_grown ((Below.refl w11.heap.size w11).alloc (Nat.le_refl _) (.cells (arrK .u8 z32) 37)) hg12 (by simp) (by simp); have HR12 := Lib.hid HR12; have HP12 := Lib.hid (HP11.out.below hb12); have HB12 := Lib.hid (below_of HB11.out hb12 HB11.out.size); clear hg12 hz12 hb12))
        obtain ⟨R, hR⟩ : ∃ R, w11.heap.size = R := ⟨_, rfl⟩
        rw [hR] at HR12 ⊢
        clear hR
        have hEq : ∀ W, (Op.equalIn 10000 37 (.agg (arrK .u8 pl)) (.agg (arrK .u8 pl))).run Try.prog W = .ok true W := fun W => by
          have := run_eqD DP.out DP.out W
          simpa using this
        go_wp2_with (first
          | (refine wpList_load_blk rfl 37 (.tmp 17) rfl P rfl 37 (arrK .u8 pl) (.array 32 5) HP12.out (by kernel_rfl) rfl (info32 DP.out.1) ?_)
          | (refine wpList_load_blk rfl 37 (.tmp 19) rfl R rfl 37 (arrK .u8 pl) (.array 32 5) HR12.out (by kernel_rfl) rfl (info32 DP.out.1) ?_))
        go_ret
        exact ⟨rfl, HB12.out⟩
-- the row
theorem signingKeySpec_own : ownKnob Try.prog.godebug = none := by kernel_rfl
theorem signingKeySpec_laidOut : laidOutB Try.prog = true := by kernel_rfl
theorem signingKeySpec_readable : (Try.f5.params.toList.all fun t => Try.prog.readableRec t && decide (t < Try.prog.types.size)) = true := by kernel_rfl
set_option maxRecDepth 100000 in
theorem signingKeySpec_lifted (os : Os) (started : os.Started) (H : Type) (enc : TypeId × Value → H) :
    ReturnsInHanded {} Try.checked os 5 .any (Rows.signingKeySpecSpec.pre6 enc Try.prog Try.f5 Rows.signingKeySpecRow.domain false) (Rows.signingKeySpecSpec.post enc Try.prog Try.f5 false true false false) := by
  refine returnsInHanded_of_change (C := Try.checked) signingKeySpec_own started (by kernel_rfl) Try.func5
    (ChangeSpec.witness6 (enc := enc) (C := Try.checked) false ⟨#[], #[.slice none 0 0, .int .i64 0, .agg #[.slice none 0 0, .int .i64 0, .int .i64 0], .agg (List.replicate 32 (Value.int .u8 0)).toArray, .int .i64 0, .slice none 0 0], []⟩ 8 (by kernel_rfl) (by kernel_rfl) (by kernel_rfl) (by kernel_rfl)) ?_
  intro W base args ds gs before hval0 hW hcnd _
  have hval : ∀ (j : Nat) t v, Try.f5.params[j]? = some t → args[j]? = some v → Value.okWide Try.prog W .any base t v := hval0
  have hW' := hW
  obtain ⟨p, q, hA0, hV, rfl, hfz, hnd⟩ := hW
  have hA : DataW.TrodAll enc Try.prog W 0 (fun _ => true) true Try.f5.params.toList args.toList ds p := hA0
  rw [Try.params5] at hA hval
  obtain ⟨v0, vs0, d0, ds0, p0, q0, hargs, rfl, rfl, h0, r0⟩ := trodAll_cons hA
  obtain ⟨v1, vs1, d1, ds1, p1, q1, rfl, rfl, rfl, h1, r1⟩ := trodAll_cons r0
  obtain ⟨v2, vs2, d2, ds2, p2, q2, rfl, rfl, rfl, h2, r2⟩ := trodAll_cons r1
  obtain ⟨v3, vs3, d3, ds3, p3, q3, rfl, rfl, rfl, h3, r3⟩ := trodAll_cons r2
  obtain ⟨v4, vs4, d4, ds4, p4, q4, rfl, rfl, rfl, h4, r4⟩ := trodAll_cons r3
  obtain ⟨v5, vs5, d5, ds5, p5, q5, rfl, rfl, rfl, h5, r5⟩ := trodAll_cons r4
  obtain ⟨rfl, rfl, rfl⟩ := trodAll_nil r5
  obtain rfl : args = #[v0, v1, v2, v3, v4, v5] := by cases args; simp_all
  obtain ⟨rfl, rfl⟩ := trodVars_none hV
  obtain ⟨A0, n0, c0, xs0, rfl, l0, nc0, cm0, g0, w0⟩ := open_intslice Try.underlying22 Try.underlying5 (by kernel_rfl) (hval 0 22 v0 rfl rfl) h0
  obtain ⟨a1, rfl, rfl, rfl, w1⟩ := open_int Try.underlying3 (hval 1 3 v1 rfl rfl) h1
  obtain ⟨A2, n2, c2, m2, u2, s2, rfl, l2, nc2, cm2, g2, b2, wm2, wu2⟩ := open_key (hval 2 24 v2 rfl rfl) h2
  obtain ⟨D3, rfl, k3⟩ := open_digest (hval 3 37 v3 rfl rfl)
  obtain ⟨a4, rfl, rfl, rfl, w4⟩ := open_int Try.underlying3 (hval 4 3 v4 rfl rfl) h4
  obtain ⟨A5, n5, c5, xs5, rfl, l5, nc5, cm5, g5, w5⟩ := open_intslice Try.underlying22 Try.underlying5 (by kernel_rfl) (hval 5 22 v5 rfl rfl) h5
  refine (SigningKeySpec_walk W A0 n0 c0 xs0 l0 nc0 cm0 g0 w0 a1 w1 A2 n2 c2 m2 u2 s2 l2 nc2 cm2 g2 b2 wm2 wu2 D3 k3 a4 w4 A5 n5 c5 xs5 l5 nc5 cm5 g5 w5).mono fun e W' ⟨he, hb⟩ => ?_
  subst he
  simp only [List.append_nil] at hW'
  refine ⟨_, rfl, law_post signingKeySpec_laidOut ?_ (by kernel_rfl) Try.underlying4 rfl hW' rfl rfl rfl hb⟩
  intro t ht
  have hr := List.all_eq_true.1 signingKeySpec_readable t ht
  rw [Bool.and_eq_true] at hr
  exact ⟨hr.1, of_decide_eq_true hr.2⟩
theorem signingKeySpec_over : Rows.signingKeySpecRow.holds Try.pinned (OpenSpec.ofChange Rows.signingKeySpecSpec) :=
  OpenClaim.holds_of_wide 5 Try.f5 rfl rfl rfl rfl rfl rfl rfl ⟨rfl, rfl, rfl, rfl, rfl⟩ rfl rfl rfl rfl rfl (by kernel_rfl) Try.func5 (by kernel_rfl)
    (of_decide_eq_true (by kernel_rfl)) (by unfold Func.isWrapper; rw [if_neg (of_decide_eq_false (by kernel_rfl))]; exact ⟨rfl, rfl⟩)
    (fun os started H enc _ => signingKeySpec_lifted os started H enc)
theorem signingKeySpec_proved : Rows.SigningKeySpecSaid := signingKeySpec_over
#print axioms signingKeySpec_proved
end Go.Proofs.Ytcijhakofoklcaa
