/- The walks of hash and public (signing). -/
import Derived.Test.YtcijhakofoklcaaSig2
namespace Go.Proofs.Ytcijhakofoklcaa
open Go.RowKit
set_option linter.unusedSimpArgs false in
set_option maxRecDepth 100000 in
set_option maxHeartbeats 4000000 in
theorem hash_any (A : Option Addr) (n c : Nat) (s : List Nat) (i j : Nat) (b : Bool) (w : World) (hA : Cells w A (bytesV s)) (hs : s.length = n) (hn : n ≤ 1000) (h8 : ByteL s) (hi : i < 65536) (hj : j < 64) :
    Calls Try.prog 46 #[.agg #[.slice A n c, .int .i64 i], .int .i64 j, .bool b] w fun e w' => e = .returned (.agg (arrK .u8 (keyF s i j b))) ∧ Below w.heap.size w w' := by
  have HA := Lib.hid hA
  have Hs := Lib.hid hs
  have Hs8 := Lib.hid h8
  clear hA hs h8
  go_enter Try.func46, Try.ntmps46
  go_wp2_with (fail)
  generalize hge : World.alloc _ _ = w1
  have H1 := Lib.hid (show Blk w1 w.heap.size 64 #[.slice A n c, .int .i64 i] by subst hge; exact (blk_two w _ (arrK .u8 z32) 64 37).1)
  have HR := Lib.hid (show Blk w1 (w.heap.size + 1) 37 (arrK .u8 z32) by subst hge; exact (blk_two w _ (arrK .u8 z32) 64 37).2)
  have HB := Lib.hid (show Below w.heap.size w w1 by subst hge; exact ((Below.refl _ _).alloc (Nat.le_refl _) _).alloc (by simp) _)
  clear hge
  refine (secret_any A n c s i j b w1 (HA.out.below HB.out) Hs.out (by omega) Hs8.out hi hj).mono ?_
  rintro e w2 ⟨rfl, hb2⟩
  have HR2 := Lib.hid (HR.out.below hb2)
  have HB2 := Lib.hid (HB.out.trans (hb2.mono HB.out.size))
  clear hb2
  go_wp2_with (fail)
  refine (open_any (secS s i j (bn b)) w2 (secS_isD _ _ _ _)).mono ?_
  rintro e w5 ⟨he, hb5⟩
  have he : e = .returned (.agg (arrK .u8 (keyF s i j b))) := by rw [keyF_eq]; exact he
  subst he
  have HR5 := Lib.hid (HR2.out.below hb5)
  have HB5 := Lib.hid (HB2.out.trans (hb5.mono HB2.out.size))
  have lt := Lib.hid (keyF_isD s i j b).1
  clear hb5
  go_wp2_with (
    (refine wpList_put_blk rfl 37 (.tmp 6) (.tmp 11) rfl (w.heap.size + 1) (arrK .u8 (keyF s i j b)) rfl rfl 37 (arrK .u8 z32) HR5.out (info32 lt.out) (by rw [len32 lt.out, len32 z32_length]) (arrK_all _ _) ?_
     intro w6 HD6 hg6 hz6
     have HD6 := Lib.hid HD6
     have HB6 := below_grown HB5.out hg6 HB5.out.size (by simp)
     clear hg6 hz6))
  exact ret_row rfl (w.heap.size + 1) 37 (arrK .u8 (keyF s i j b)) (.array 32 5) rfl HD6.out (by kernel_rfl) rfl (info32 lt.out) rfl ⟨rfl, HB6⟩
set_option linter.unusedSimpArgs false in
set_option maxRecDepth 100000 in
set_option maxHeartbeats 4000000 in
theorem public_of (g : Nat) (rs lb : Array Value) (f : Nat → Bool → List Nat) (w : World) (eg : ∀ args W, (callFunc g args).run Try.prog W = .ok (.enter g args) W)
    (hf : ∀ (W : World) (j : Nat) (b : Bool), Below w.heap.size w W → j < 64 → Calls Try.prog g (rs ++ (#[.int .i64 j, .bool b] ++ lb)) W fun e w' => e = .returned (.agg (arrK .u8 (f j b))) ∧ Below W.heap.size W w') (hfD : ∀ j b, j < 64 → IsD (f j b)) :
    Calls Try.prog 54 #[.func (.func g) rs lb] w fun e w' => e = .returned (.agg (arrK .u8 (pubS f))) ∧ Below w.heap.size w w' := by
  have HF := Lib.hid hf
  have hD := Lib.hid hfD
  clear hf hfD
  obtain ⟨i0, hi0, hz0, hz1, hz2⟩ := info_parts (P := Try.prog) (e := 5) (z := .int .u8 0) (size := 1) (bytes := 1) (by kernel_rfl)
  have HI := Lib.hid hi0
  have HZ0 := Lib.hid hz0
  have HZ1 := Lib.hid hz1
  have HZ2 := Lib.hid hz2
  clear hi0 hz0 hz1 hz2
  go_enter Try.func54, Try.ntmps54
  go_wp2_with (
    (refine wpList_make_own _ rfl _ _ 22 rfl (w.heap.size + 1) 5 i0 (.int .u8 0) 1 (by kernel_rfl) HI.out HZ0.out HZ1.out .i64 .i64 4096 4096 rfl rfl rfl (by rw [HZ2.out]; omega) (by unfold maxLen; omega) (by simp) ?_
     intro w1 hown1 hg1))
  have HR1 := Lib.hid (show Blk w1 w.heap.size 37 (arrK .u8 z32) from (Blk.new w 37 (arrK .u8 z32)).grown hg1 (by simp))
  have HB1 := Lib.hid (show Below w.heap.size w w1 from below_grown ((Below.refl _ _).alloc (Nat.le_refl _) _) hg1 (by simp) (by simp))
  have hzz : w.heap.size + 1 ≤ w1.heap.size := by have := hg1.size; simpa using this
  have Hown1 := Lib.hid hown1
  clear hown1 hg1
  go_loopw [3, 8] (fun v i wr => ∃ (k : Nat) (A : Option Addr) (c : Nat), k ≤ 64 ∧ i = .int .i64 k ∧ v = .slice A (64 * k) c ∧ 64 * k ≤ c ∧ Hid (c ≤ maxLen) ∧ Hid (wr.ownsRow (w.heap.size + 1) 5 1 (.slice A (64 * k) c) (64 * k) (bytesV (bothL f k).flatten)) ∧ Hid (Blk wr w.heap.size 37 (arrK .u8 z32)) ∧ w.heap.size + 1 ≤ wr.heap.size ∧ Hid (Below w.heap.size w wr)) (fun _ i _ => 64 - (intOf i).toNat)
  case atStart =>
    refine ⟨0, _, 4096, by omega, rfl, rfl, by omega, (show 4096 ≤ maxLen by unfold maxLen; omega), ?_, HR1.out, hzz, HB1.out⟩
    show World.ownsRow _ _ _ _ _ _ _
    have h0 := Hown1.out
    rw [bothL_zero]
    simpa [bytesV_nil] using h0
  case round =>
    obtain ⟨k, A, c, hk64, rfl, rfl, hkc, hcm, hown, hR, hzr, hB⟩ := hrel
    by_cases hk : k < 64
    · have hdk : decide ((k : Int) < 64) = true := by simp; omega
      go_wp2_with (fail)
      refine (HF.out wr k false hB.out hk).mono ?_
      rintro e wa ⟨rfl, hba⟩
      have Hown2 := Lib.hid (own_below hown.out hba)
      have HR2 := Lib.hid (hR.out.below hba)
      have HB2 := Lib.hid (below_of hB.out hba hB.out.size)
      have hz2 : w.heap.size + 1 ≤ wa.heap.size := Nat.le_trans hzr hba.size
      clear hba
      go_wp2_with (fail)
      refine (HF.out wa k true HB2.out hk).mono ?_
      rintro e wc ⟨rfl, hbc⟩
      have Hown3 := Lib.hid (own_below Hown2.out hbc)
      have HR3 := Lib.hid (HR2.out.below hbc)
      have HB3 := Lib.hid (below_of HB2.out hbc HB2.out.size)
      have hz3 : w.heap.size + 1 ≤ wc.heap.size := Nat.le_trans hz2 hbc.size
      have d1 := Lib.hid (hD.out k false hk).1
      have d2 := Lib.hid (hD.out k true hk).1
      clear hbc
      go_wp2_with (first
        | (refine wpList_put_blk rfl 37 (.tmp 6) (.tmp 16) rfl (wc.heap.size + 1) (arrK .u8 (f k true)) rfl rfl 37 (arrK .u8 z32) HY6.out (info32 d2.out) (by rw [len32 d2.out, len32 z32_length]) (arrK_all _ _) ?_
           intro w7 HY7 hg7 hz7
           have HY7 := Lib.hid HY7
           have HX7 := Lib.hid (HX6.out.grown hg7 (by simp))
           have HR7 := Lib.hid (HR6.out.grown hg7 (by simp; omega))
           have HB7 := Lib.hid (below_grown HB6.out hg7 HB6.out.size (by simp; omega))
           have hz7' : w.heap.size + 1 ≤ w7.heap.size := Nat.le_trans hz6' hg7.size
           have Hown7 := Lib.hid (Hown6.out.kept hg7 (.inr apY))
           clear hg7 hz7)
        | (refine wpList_put_blk rfl 37 (.tmp 5) (.tmp 13) rfl wc.heap.size (arrK .u8 (f k false)) rfl rfl 37 (arrK .u8 z32) (blk_two wc (arrK .u8 z32) (arrK .u8 z32) 37 37).1 (info32 d1.out) (by rw [len32 d1.out, len32 z32_length]) (arrK_all _ _) ?_
           intro w6 HX6 hg6 hz6
           have hb4 : Below wc.heap.size wc ((wc.alloc (.cells (arrK .u8 z32) 37)).alloc (.cells (arrK .u8 z32) 37)) := ((Below.refl _ _).alloc (Nat.le_refl _) _).alloc (by simp) _
           have HX6 := Lib.hid HX6
           have HY6 := Lib.hid ((blk_two wc (arrK .u8 z32) (arrK .u8 z32) 37 37).2.grown hg6 (by simp))
           have HR6 := Lib.hid ((HR3.out.below hb4).grown hg6 (by simp; omega))
           have HB6 := Lib.hid (below_grown (below_of HB3.out hb4 HB3.out.size) hg6 (by simp; omega) (by simp; omega))
           have hz6' : w.heap.size + 1 ≤ w6.heap.size := Nat.le_trans (Nat.le_trans hz3 hb4.size) hg6.size
           have apX : Apart (.slice A (64 * k) c) wc.heap.size := apart_new Hown3.out
           have apY : Apart (.slice A (64 * k) c) (wc.heap.size + 1) := by
             have := apart_new (own_below Hown3.out ((Below.refl wc.heap.size wc).alloc (Nat.le_refl _) (.cells (arrK .u8 z32) 37)))
             rwa [World.size_alloc] at this
           have Hown6 := Lib.hid ((own_below Hown3.out hb4).kept hg6 (.inr apX))
           clear hg6 hz6 hb4))
      refine wp_region_held_drew (S := fun W => Below w.heap.size w W) (by kernel_rfl) (below_drewN HB7.out 1) (fun Hd => ?_)
      have Hd : Below w.heap.size w w7.drew := below_drewN HB7.out 1
      have Zd : w.heap.size + 1 ≤ w7.drew.heap.size := hz7'
      have fX : Blk w7.drew wc.heap.size 37 (arrK .u8 (f k false)) := HX7.out
      have fY : Blk w7.drew (wc.heap.size + 1) 37 (arrK .u8 (f k true)) := HY7.out
      have fR : Blk w7.drew w.heap.size 37 (arrK .u8 z32) := HR7.out
      have fo : w7.drew.ownsRow (w.heap.size + 1) 5 1 (.slice A (64 * k) c) (64 * k) (bytesV (bothL f k).flatten) := Hown7.out
      generalize World.drew w7 = wd at *
      refine wpAnyH_take (i := 0) (v := ?_) rfl (by kernel_rfl) (by kernel_rfl) (by kernel_rfl) (fun _ _ _ h => h) (Or.inl ⟨by rfl, ?_⟩) Hd ?_
      rotate_left
      · intro w hSw
        go_simp
        try with_reducible rfl
      try simp only [List.getElem_toArray, List.getElem_cons_zero, List.getElem_cons_succ, Act.put, List.setIfInBounds_toArray, List.set_cons_zero, List.set_cons_succ]
      refine wpAnyH_take (i := 1) (v := ?_) rfl (by kernel_rfl) (by kernel_rfl) (by kernel_rfl) (fun _ _ _ h => h) (Or.inl ⟨by rfl, ?_⟩) Hd ?_
      rotate_left
      · intro w hSw
        go_simp
        try with_reducible rfl
      try simp only [List.getElem_toArray, List.getElem_cons_zero, List.getElem_cons_succ, Act.put, List.setIfInBounds_toArray, List.set_cons_zero, List.set_cons_succ]
      refine wpAnyH_take (i := 3) (v := ?_) rfl (by kernel_rfl) (by kernel_rfl) (by kernel_rfl) (fun _ _ _ h => h) (Or.inl ⟨by rfl, ?_⟩) Hd ?_
      rotate_left
      · intro w hSw
        go_simp
        try with_reducible rfl
      try simp only [List.getElem_toArray, List.getElem_cons_zero, List.getElem_cons_succ, Act.put, List.setIfInBounds_toArray, List.set_cons_zero, List.set_cons_succ]
      refine wpAnyH_ready (rs := [2]) (by kernel_rfl) (by simp) (AllReadyH.cons rfl (fun K hK => ?_) AllReadyH.nil)
      refine step_append_cells (by rfl) (.tmp 17) (.tmp 18) 22 (by rfl) (w.heap.size + 1) 5 (.int .u8 0) 1 1 (by kernel_rfl) (by kernel_rfl) rfl (by omega) (.slice A (64 * k) c) (64 * k) (bytesV ((bothL f k).flatten)) fo (by rfl) (some ⟨wc.heap.size, 0, none⟩) 32 32 (bytesV (f k false)) (by rfl) (by rw [bytesV_length, (hD.out k false hk).1]) (cells_dig fX) (bytesV_one _) (by unfold maxLen; omega) (by omega) Zd ?_
      intro v1 w1_ fo1 hg1 st1
      have apoX1 := apart_sits st1 apX fX.lt
      have apoY1 := apart_sits st1 apY fY.lt
      have fX1 := fX.grown hg1 (fun e => apX e.symm)
      have fY1 := fY.grown hg1 (fun e => apY e.symm)
      have fR1 := fR.grown hg1 (fun e => absurd (own_base fo _ e.symm) (Nat.not_le.2 (Nat.lt_succ_self _)))
      have Hb1 : Below w.heap.size w w1_ := below_grown Hd hg1 Hd.size (fun k hk => Nat.le_trans (Nat.le_succ _) (own_base fo k hk))
      have Zb1 : w.heap.size + 1 ≤ w1_.heap.size := Nat.le_trans Zd hg1.size
      obtain ⟨A1, c1, rfl, le1, lm1, -⟩ := own_form fo1
      rw [← bytesV_append] at fo1
      refine hK.out _ _ Hb1 fun _ => ?_
      clear hK K
      try simp only [List.getElem_toArray, List.getElem_cons_zero, List.getElem_cons_succ, Act.put, List.setIfInBounds_toArray, List.set_cons_zero, List.set_cons_succ]
      refine wpAnyH_ready (rs := [4]) (by kernel_rfl) (by simp) (AllReadyH.cons rfl (fun K hK => ?_) AllReadyH.nil)
      refine step_append_cells (by rfl) (.tmp 19) (.tmp 20) 22 (by rfl) (w.heap.size + 1) 5 (.int .u8 0) 1 1 (by kernel_rfl) (by kernel_rfl) rfl (by omega) (.slice A1 (64 * k + 32) c1) (64 * k + 32) (bytesV (((bothL f k).flatten ++ f k false))) fo1 (by rfl) (some ⟨wc.heap.size + 1, 0, none⟩) 32 32 (bytesV (f k true)) (by rfl) (by rw [bytesV_length, (hD.out k true hk).1]) (cells_dig fY1) (bytesV_one _) (by unfold maxLen; omega) (by omega) Zb1 ?_
      intro v2 w2_ fo2 hg2 st2
      have apoX2 := apart_sits st2 apoX1 fX1.lt
      have apoY2 := apart_sits st2 apoY1 fY1.lt
      have fX2 := fX1.grown hg2 (fun e => apoX1 e.symm)
      have fY2 := fY1.grown hg2 (fun e => apoY1 e.symm)
      have fR2 := fR1.grown hg2 (fun e => absurd (own_base fo1 _ e.symm) (Nat.not_le.2 (Nat.lt_succ_self _)))
      have Hb2 : Below w.heap.size w w2_ := below_grown Hb1 hg2 Hb1.size (fun k hk => Nat.le_trans (Nat.le_succ _) (own_base fo1 k hk))
      have Zb2 : w.heap.size + 1 ≤ w2_.heap.size := Nat.le_trans Zb1 hg2.size
      obtain ⟨A2, c2, rfl, le2, lm2, -⟩ := own_form fo2
      rw [← bytesV_append] at fo2
      refine hK.out _ _ Hb2 fun _ => ?_
      clear hK K
      try simp only [List.getElem_toArray, List.getElem_cons_zero, List.getElem_cons_succ, Act.put, List.setIfInBounds_toArray, List.set_cons_zero, List.set_cons_succ]
      refine wpAnyH_take (i := 5) (v := ?_) rfl (by kernel_rfl) (by kernel_rfl) (by kernel_rfl) (fun _ _ _ h => h) (Or.inl ⟨by rfl, ?_⟩) Hb2 ?_
      rotate_left
      · intro w hSw
        go_simp
        try with_reducible rfl
      try simp only [List.getElem_toArray, List.getElem_cons_zero, List.getElem_cons_succ, Act.put, List.setIfInBounds_toArray, List.set_cons_zero, List.set_cons_succ]
      refine wpAnyH_done (by kernel_rfl) ?_ _
      go_wp2_with (fail)
      go_roundw
      case rel =>
        refine ⟨k + 1, A2, c2, by omega, by go_num, by rw [show 64 * (k + 1) = 64 * k + 32 + 32 by omega], by have := le2; omega, lm2, ?_, fR2, Zb2, Hb2⟩
        show World.ownsRow _ _ _ _ _ _ _
        rw [bothL_flat, show 64 * (k + 1) = 64 * k + 32 + 32 by omega]
        exact fo2
      case measure => simp [intOf]; omega
    · obtain rfl : k = 64 := by omega
      have hp := Lib.hid (pubS_isD f).1
      have hL := bothL_isL f 64 (fun j b h => hD.out j b h)
      have hlen : (bothL f 64).flatten.length = 4096 := by rw [hL.flat_length, bothL_length]
      have h8 : ByteL (bothL f 64).flatten := hL.flat_byte
      have C := Cells.own hown.out
      go_wp2_with (fail)
      refine (tagged_any ⟨#[111, 110, 101]⟩ A (64 * 64) c (bothL f 64).flatten wr C hlen (by omega) h8 (by decide)).mono ?_
      rintro e w5 ⟨he, hb5⟩
      have he : e = .returned (.agg (arrK .u8 (pubS f))) := by rw [pubS_eq]; exact he
      subst he
      have HR5 := Lib.hid (hR.out.below hb5)
      have HB5 := Lib.hid (below_of hB.out hb5 hB.out.size)
      clear hb5 C hlen h8 hL
      go_wp2_with (
        (refine wpList_put_blk rfl 37 (.tmp 2) (.tmp 24) rfl w.heap.size (arrK .u8 (pubS f)) rfl rfl 37 (arrK .u8 z32) HR5.out (info32 hp.out) (by rw [len32 hp.out, len32 z32_length]) (arrK_all _ _) ?_
         intro w6 HD6 hg6 hz6
         have HD6 := Lib.hid HD6
         have HB6 := below_grown HB5.out hg6 HB5.out.size (by simp)
         clear hg6 hz6))
      exact ret_row rfl w.heap.size 37 (arrK .u8 (pubS f)) (.array 32 5) rfl HD6.out (by kernel_rfl) rfl (info32 hp.out) rfl ⟨rfl, HB6⟩
end Go.Proofs.Ytcijhakofoklcaa
