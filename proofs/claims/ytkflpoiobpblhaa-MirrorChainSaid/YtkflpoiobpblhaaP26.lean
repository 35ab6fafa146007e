/- Walks and plain laws that the statement rests on: Sig3, Sig4. -/
import Derived.Test.YtkflpoiobpblhaaP00
import Derived.Test.YtkflpoiobpblhaaP23
namespace Go.Proofs.Ytkflpoiobpblhaa
open Go.RowKit
set_option linter.unusedSimpArgs false in
set_option maxRecDepth 100000 in
set_option maxHeartbeats 4000000 in
theorem hash_any (A : Option Addr) (n c : Nat) (s : List Nat) (i j : Nat) (b : Bool) (w : World) (hA : Cells w A (bytesV s)) (hs : s.length = n) (hn : n ≤ 1000) (h8 : ByteL s) (hi : i < 65536) (hj : j < 64) :
    Calls Try.prog 50 #[.agg #[.slice A n c, .int .i64 i], .int .i64 j, .bool b] w fun e w' => e = .returned (.agg (arrK .u8 (keyF s i j b))) ∧ Below w.heap.size w w' := by
  have HA := Lib.hid hA
  have Hs := Lib.hid hs
  have Hs8 := Lib.hid h8
  clear hA hs h8
  go_enter Try.func50, Try.ntmps50
  go_wp2_with (fail)
  generalize hge : World.alloc _ _ = w1
  have H1 := Lib.hid (show Blk w1 w.heap.size 98 #[.slice A n c, .int .i64 i] by subst hge; exact (blk_two w _ (arrK .u8 z32) 98 28).1)
  have HR := Lib.hid (show Blk w1 (w.heap.size + 1) 28 (arrK .u8 z32) by subst hge; exact (blk_two w _ (arrK .u8 z32) 98 28).2)
  have HB := Lib.hid (show Below w.heap.size w w1 by subst hge; exact ((Below.refl _ _).alloc (Nat.le_refl _) _).alloc (by simp) _)
  clear hge
  refine (secret_any A n c s i j b w1 (HA.out.below HB.out) Hs.out (by omega) Hs8.out hi hj).mono ?_
  rintro e w2 ⟨rfl, hb2⟩
  have HR2 := Lib.hid (HR.out.below hb2)
  have HB2 := Lib.hid (HB.out.trans (hb2.mono HB.out.size))
  clear hb2
  go_wp2_with (fail)
  refine (open_any (secS s i j (bn b)) w2 (secS_isD _ _ _ _)).mono ?_
  rintro e w5 ⟨he, hb5⟩
  have he : e = .returned (.agg (arrK .u8 (keyF s i j b))) := by rw [keyF_eq]; exact he
  subst he
  have HR5 := Lib.hid (HR2.out.below hb5)
  have HB5 := Lib.hid (HB2.out.trans (hb5.mono HB2.out.size))
  have lt := Lib.hid (keyF_isD s i j b).1
  clear hb5
  go_wp2_with (
    (refine wpList_put_blk rfl 28 (.tmp 6) (.tmp 11) rfl (w.heap.size + 1) (arrK .u8 (keyF s i j b)) rfl rfl 28 (arrK .u8 z32) HR5.out (info32 lt.out) (by rw [len32 lt.out, len32 z32_length]) (arrK_all _ _) ?_
     intro w6 HD6 hg6 hz6
     have HD6 := Lib.hid HD6
     have HB6 := below_grown HB5.out hg6 HB5.out.size (by simp)
     clear hg6 hz6))
  exact ret_row rfl (w.heap.size + 1) 28 (arrK .u8 (keyF s i j b)) (.array 32 5) rfl HD6.out (by kernel_rfl) rfl (info32 lt.out) rfl ⟨rfl, HB6⟩
set_option linter.unusedSimpArgs false in
set_option maxRecDepth 100000 in
set_option maxHeartbeats 4000000 in
theorem public_of (g : Nat) (rs lb : Array Value) (f : Nat → Bool → List Nat) (w : World) (eg : ∀ args W, (callFunc g args).run Try.prog W = .ok (.enter g args) W)
    (hf : ∀ (W : World) (j : Nat) (b : Bool), Below w.heap.size w W → j < 64 → Calls Try.prog g (rs ++ (#[.int .i64 j, .bool b] ++ lb)) W fun e w' => e = .returned (.agg (arrK .u8 (f j b))) ∧ Below W.heap.size W w') (hfD : ∀ j b, j < 64 → IsD (f j b)) :
    Calls Try.prog 56 #[.func (.func g) rs lb] w fun e w' => e = .returned (.agg (arrK .u8 (pubS f))) ∧ Below w.heap.size w w' := by
  have HF := Lib.hid hf
  have hD := Lib.hid hfD
  clear hf hfD
  obtain ⟨i0, hi0, hz0, hz1, hz2⟩ := info_parts (P := Try.prog) (e := 5) (z := .int .u8 0) (size := 1) (bytes := 1) (by kernel_rfl)
  have HI := Lib.hid hi0
  have HZ0 := Lib.hid hz0
  have HZ1 := Lib.hid hz1
  have HZ2 := Lib.hid hz2
  clear hi0 hz0 hz1 hz2
  go_enter Try.func56, Try.ntmps56
  go_wp2_with (
    (refine wpList_make_own _ rfl _ _ 39 rfl (w.heap.size + 1) 5 i0 (.int .u8 0) 1 (by kernel_rfl) HI.out HZ0.out HZ1.out .i64 .i64 4096 4096 rfl rfl rfl (by rw [HZ2.out]; omega) (by unfold maxLen; omega) (by simp) ?_
     intro w1 hown1 hg1))
  have HR1 := Lib.hid (show Blk w1 w.heap.size 28 (arrK .u8 z32) from (Blk.new w 28 (arrK .u8 z32)).grown hg1 (by simp))
  have HB1 := Lib.hid (show Below w.heap.size w w1 from below_grown ((Below.refl _ _).alloc (Nat.le_refl _) _) hg1 (by simp) (by simp))
  have hzz : w.heap.size + 1 ≤ w1.heap.size := by have := hg1.size; simpa using this
  have Hown1 := Lib.hid hown1
  clear hown1 hg1
  go_loopw [3, 8] (fun v i wr => ∃ (k : Nat) (A : Option Addr) (c : Nat), k ≤ 64 ∧ i = .int .i64 k ∧ v = .slice A (64 * k) c ∧ 64 * k ≤ c ∧ Hid (c ≤ maxLen) ∧ Hid (wr.ownsRow (w.heap.size + 1) 5 1 (.slice A (64 * k) c) (64 * k) (bytesV (bothL f k).flatten)) ∧ Hid (Blk wr w.heap.size 28 (arrK .u8 z32)) ∧ w.heap.size + 1 ≤ wr.heap.size ∧ Hid (Below w.heap.size w wr)) (fun _ i _ => 64 - (intOf i).toNat)
  case atStart =>
    refine ⟨0, _, 4096, by omega, rfl, rfl, by omega, (show 4096 ≤ maxLen by unfold maxLen; omega), ?_, HR1.out, hzz, HB1.out⟩
    show World.ownsRow _ _ _ _ _ _ _
    have h0 := Hown1.out
    rw [bothL_zero]
    simpa [bytesV_nil] using h0
  case round =>
    obtain ⟨k, A, c, hk64, rfl, rfl, hkc, hcm, hown, hR, hzr, hB⟩ := hrel
    by_cases hk : k < 64
    · have hdk : decide ((k : Int) < 64) = true := by simp; omega
      go_wp2_with (fail)
      refine (HF.out wr k false hB.out hk).mono ?_
      rintro e wa ⟨rfl, hba⟩
      have Hown2 := Lib.hid (own_below hown.out hba)
      have HR2 := Lib.hid (hR.out.below hba)
      have HB2 := Lib.hid (below_of hB.out hba hB.out.size)
      have hz2 : w.heap.size + 1 ≤ wa.heap.size := Nat.le_trans hzr hba.size
      clear hba
      go_wp2_with (fail)
      refine (HF.out wa k true HB2.out hk).mono ?_
      rintro e wc ⟨rfl, hbc⟩
      have Hown3 := Lib.hid (own_below Hown2.out hbc)
      have HR3 := Lib.hid (HR2.out.below hbc)
      have HB3 := Lib.hid (below_of HB2.out hbc HB2.out.size)
      have hz3 : w.heap.size + 1 ≤ wc.heap.size := Nat.le_trans hz2 hbc.size
      have d1 := Lib.hid (hD.out k false hk).1
      have d2 := Lib.hid (hD.out k true hk).1
      clear hbc
      go_wp2_with (first
        | (refine wpList_put_blk rfl 28 (.tmp 6) (.tmp 16) rfl (wc.heap.size + 1) (arrK .u8 (f k true)) rfl rfl 28 (arrK .u8 z32) HY6.out (info32 d2.out) (by rw [len32 d2.out, len32 z32_length]) (arrK_all _ _) ?_
           intro w7 HY7 hg7 hz7
           have HY7 := Lib.hid HY7
           have HX7 := Lib.hid (HX6.out.grown hg7 (by simp))
           have HR7 := Lib.hid (HR6.out.grown hg7 (by simp; omega))
           have HB7 := Lib.hid (below_grown HB6.out hg7 HB6.out.size (by simp; omega))
           have hz7' : w.heap.size + 1 ≤ w7.heap.size := Nat.le_trans hz6' hg7.size
           have Hown7 := Lib.hid (Hown6.out.kept hg7 (.inr apY))
           clear hg7 hz7)
        | (refine wpList_put_blk rfl 28 (.tmp 5) (.tmp 13) rfl wc.heap.size (arrK .u8 (f k false)) rfl rfl 28 (arrK .u8 z32) (blk_two wc (arrK .u8 z32) (arrK .u8 z32) 28 28).1 (info32 d1.out) (by rw [len32 d1.out, len32 z32_length]) (arrK_all _ _) ?_
           intro w6 HX6 hg6 hz6
           have hb4 : Below wc.heap.size wc ((wc.alloc (.cells (arrK .u8 z32) 28)).alloc (.cells (arrK .u8 z32) 28)) := ((Below.refl _ _).alloc (Nat.le_refl _) _).alloc (by simp) _
           have HX6 := Lib.hid HX6
           have HY6 := Lib.hid ((blk_two wc (arrK .u8 z32) (arrK .u8 z32) 28 28).2.grown hg6 (by simp))
           have HR6 := Lib.hid ((HR3.out.below hb4).grown hg6 (by simp; omega))
           have HB6 := Lib.hid (below_grown (below_of HB3.out hb4 HB3.out.size) hg6 (by simp; omega) (by simp; omega))
           have hz6' : w.heap.size + 1 ≤ w6.heap.size := Nat.le_trans (Nat.le_trans hz3 hb4.size) hg6.size
           have apX : Apart (.slice A (64 * k) c) wc.heap.size := apart_new Hown3.out
           have apY : Apart (.slice A (64 * k) c) (wc.heap.size + 1) := by
             have := apart_new (own_below Hown3.out ((Below.refl wc.heap.size wc).alloc (Nat.le_refl _) (.cells (arrK .u8 z32) 28)))
             rwa [World.size_alloc] at this
           have Hown6 := Lib.hid ((own_below Hown3.out hb4).kept hg6 (.inr apX))
           clear hg6 hz6 hb4))
      refine wp_region_held_drew (S := fun W => Below w.heap.size w W) (by kernel_rfl) (below_drewN HB7.out 1) (fun Hd => ?_)
      have Hd : Below w.heap.size w w7.drew := below_drewN HB7.out 1
      have Zd : w.heap.size + 1 ≤ w7.drew.heap.size := hz7'
      have fX : Blk w7.drew wc.heap.size 28 (arrK .u8 (f k false)) := HX7.out
      have fY : Blk w7.drew (wc.heap.size + 1) 28 (arrK .u8 (f k true)) := HY7.out
      have fR : Blk w7.drew w.heap.size 28 (arrK .u8 z32) := HR7.out
      have fo : w7.drew.ownsRow (w.heap.size + 1) 5 1 (.slice A (64 * k) c) (64 * k) (bytesV (bothL f k).flatten) := Hown7.out
      generalize World.drew w7 = wd at *
      refine wpAnyH_take (i := 0) (v := ?_) rfl (by kernel_rfl) (by kernel_rfl) (by kernel_rfl) (fun _ _ _ h => h) (Or.inl ⟨by rfl, ?_⟩) Hd ?_
      rotate_left
      · intro w hSw
        go_simp
        try with_reducible rfl
      try simp only [la0, la1, la2, Act.put, la3, la4, la5]
      refine wpAnyH_take (i := 1) (v := ?_) rfl (by kernel_rfl) (by kernel_rfl) (by kernel_rfl) (fun _ _ _ h => h) (Or.inl ⟨by rfl, ?_⟩) Hd ?_
      rotate_left
      · intro w hSw
        go_simp
        try with_reducible rfl
      try simp only [la0, la1, la2, Act.put, la3, la4, la5]
      refine wpAnyH_take (i := 3) (v := ?_) rfl (by kernel_rfl) (by kernel_rfl) (by kernel_rfl) (fun _ _ _ h => h) (Or.inl ⟨by rfl, ?_⟩) Hd ?_
      rotate_left
      · intro w hSw
        go_simp
        try with_reducible rfl
      try simp only [la0, la1, la2, Act.put, la3, la4, la5]
      refine wpAnyH_ready (rs := [2]) (by kernel_rfl) (by simp) (AllReadyH.cons rfl (fun K hK => ?_) AllReadyH.nil)
      refine step_append_cells (by rfl) (.tmp 17) (.tmp 18) 39 (by rfl) (w.heap.size + 1) 5 (.int .u8 0) 1 1 (by kernel_rfl) (by kernel_rfl) rfl (by omega) (.slice A (64 * k) c) (64 * k) (bytesV ((bothL f k).flatten)) fo (by rfl) (some ⟨wc.heap.size, 0, none⟩) 32 32 (bytesV (f k false)) (by rfl) (by rw [bytesV_length, (hD.out k false hk).1]) (cells_dig fX) (bytesV_one _) (by unfold maxLen; omega) (by omega) Zd ?_
      intro v1 w1_ fo1 hg1 st1
      have apoX1 := apart_sits st1 apX fX.lt
      have apoY1 := apart_sits st1 apY fY.lt
      have fX1 := fX.grown hg1 (fun e => apX e.symm)
      have fY1 := fY.grown hg1 (fun e => apY e.symm)
      have fR1 := fR.grown hg1 (fun e => absurd (own_base fo _ e.symm) (Nat.not_le.2 (Nat.lt_succ_self _)))
      have Hb1 : Below w.heap.size w w1_ := below_grown Hd hg1 Hd.size (fun k hk => Nat.le_trans (Nat.le_succ _) (own_base fo k hk))
      have Zb1 : w.heap.size + 1 ≤ w1_.heap.size := Nat.le_trans Zd hg1.size
      obtain ⟨A1, c1, rfl, le1, lm1, -⟩ := own_form fo1
      rw [← bytesV_append] at fo1
      refine hK.out _ _ Hb1 fun _ => ?_
      clear hK K
      try simp only [la0, la1, la2, Act.put, la3, la4, la5]
      refine wpAnyH_ready (rs := [4]) (by kernel_rfl) (by simp) (AllReadyH.cons rfl (fun K hK => ?_) AllReadyH.nil)
      refine step_append_cells (by rfl) (.tmp 19) (.tmp 20) 39 (by rfl) (w.heap.size + 1) 5 (.int .u8 0) 1 1 (by kernel_rfl) (by kernel_rfl) rfl (by omega) (.slice A1 (64 * k + 32) c1) (64 * k + 32) (bytesV (((bothL f k).flatten ++ f k false))) fo1 (by rfl) (some ⟨wc.heap.size + 1, 0, none⟩) 32 32 (bytesV (f k true)) (by rfl) (by rw [bytesV_length, (hD.out k true hk).1]) (cells_dig fY1) (bytesV_one _) (by unfold maxLen; omega) (by omega) Zb1 ?_
      intro v2 w2_ fo2 hg2 st2
      have apoX2 := apart_sits st2 apoX1 fX1.lt
      have apoY2 := apart_sits st2 apoY1 fY1.lt
      have fX2 := fX1.grown hg2 (fun e => apoX1 e.symm)
      have fY2 := fY1.grown hg2 (fun e => apoY1 e.symm)
      have fR2 := fR1.grown hg2 (fun e => absurd (own_base fo1 _ e.symm) (Nat.not_le.2 (Nat.lt_succ_self _)))
      have Hb2 : Below w.heap.size w w2_ := below_grown Hb1 hg2 Hb1.size (fun k hk => Nat.le_trans (Nat.le_succ _) (own_base fo1 k hk))
      have Zb2 : w.heap.size + 1 ≤ w2_.heap.size := Nat.le_trans Zb1 hg2.size
      obtain ⟨A2, c2, rfl, le2, lm2, -⟩ := own_form fo2
      rw [← bytesV_append] at fo2
      refine hK.out _ _ Hb2 fun _ => ?_
      clear hK K
      try simp only [la0, la1, la2, Act.put, la3, la4, la5]
      refine wpAnyH_take (i := 5) (v := ?_) rfl (by kernel_rfl) (by kernel_rfl) (by kernel_rfl) (fun _ _ _ h => h) (Or.inl ⟨by rfl, ?_⟩) Hb2 ?_
      rotate_left
      · intro w hSw
        go_simp
        try with_reducible rfl
      try simp only [la0, la1, la2, Act.put, la3, la4, la5]
      refine wpAnyH_done (by kernel_rfl) ?_ _
      go_wp2_with (fail)
      go_roundw
      case rel =>
        refine ⟨k + 1, A2, c2, by omega, by go_num, by rw [show 64 * (k + 1) = 64 * k + 32 + 32 by omega], by have := le2; omega, lm2, ?_, fR2, Zb2, Hb2⟩
        show World.ownsRow _ _ _ _ _ _ _
        rw [bothL_flat, show 64 * (k + 1) = 64 * k + 32 + 32 by omega]
        exact fo2
      case measure => simp [intOf]; omega
    · obtain rfl : k = 64 := by omega
      have hp := Lib.hid (pubS_isD f).1
      have hL := bothL_isL f 64 (fun j b h => hD.out j b h)
      have hlen : (bothL f 64).flatten.length = 4096 := by rw [hL.flat_length, bothL_length]
      have h8 : ByteL (bothL f 64).flatten := hL.flat_byte
      have C := Cells.own hown.out
      go_wp2_with (fail)
      refine (tagged_any ⟨#[111, 110, 101]⟩ A (64 * 64) c (bothL f 64).flatten wr C hlen (by omega) h8 (by decide)).mono ?_
      rintro e w5 ⟨he, hb5⟩
      have he : e = .returned (.agg (arrK .u8 (pubS f))) := by rw [pubS_eq]; exact he
      subst he
      have HR5 := Lib.hid (hR.out.below hb5)
      have HB5 := Lib.hid (below_of hB.out hb5 hB.out.size)
      clear hb5 C hlen h8 hL
      go_wp2_with (
        (refine wpList_put_blk rfl 28 (.tmp 2) (.tmp 24) rfl w.heap.size (arrK .u8 (pubS f)) rfl rfl 28 (arrK .u8 z32) HR5.out (info32 hp.out) (by rw [len32 hp.out, len32 z32_length]) (arrK_all _ _) ?_
         intro w6 HD6 hg6 hz6
         have HD6 := Lib.hid HD6
         have HB6 := below_grown HB5.out hg6 HB5.out.size (by simp)
         clear hg6 hz6))
      exact ret_row rfl w.heap.size 28 (arrK .u8 (pubS f)) (.array 32 5) rfl HD6.out (by kernel_rfl) rfl (info32 hp.out) rfl ⟨rfl, HB6⟩
end Go.Proofs.Ytkflpoiobpblhaa
namespace Go.Proofs.Ytkflpoiobpblhaa
open Go.RowKit
set_option linter.unusedSimpArgs false in
set_option maxRecDepth 100000 in
set_option maxHeartbeats 4000000 in
theorem publics_any (A : Option Addr) (n c m : Nat) (u : Int) (s : List Nat) (w : World) (hA : Cells w A (bytesV s)) (hs : s.length = n) (hn : n ≤ 1000) (h8 : ByteL s) (hm : m ≤ 4096) :
    Calls Try.prog 42 #[.agg #[.slice A n c, .int .i64 m, .int .i64 u]] w fun e w' => ∃ A' c', e = .returned (.slice A' m c') ∧ m ≤ c' ∧ c' ≤ maxLen ∧ Cells w' A' (bytesV (pubL s m).flatten) ∧ Below w.heap.size w w' := by
  have HA := Lib.hid hA
  have Hs := Lib.hid hs
  have Hs8 := Lib.hid h8
  clear hA hs h8
  go_enter Try.func42, Try.ntmps42
  go_wp2_with (fail)
  generalize hge : World.alloc _ _ = w1
  have H1 := Lib.hid (show Blk w1 w.heap.size 41 #[.slice A n c, .int .i64 m, .int .i64 u] by subst hge; exact Blk.new w _ _)
  have HB := Lib.hid (show Below w.heap.size w w1 by subst hge; exact (Below.refl _ _).alloc (Nat.le_refl _) _)
  have oB : w.heap.size + 1 ≤ w1.heap.size := H1.out.lt
  clear hge
  go_loopw [2, 6] (fun v i wr => ∃ (k : Nat) (A' : Option Addr) (c' : Nat), k ≤ m ∧ i = .int .i64 k ∧ v = .slice A' k c' ∧ Hid (wr.ownsRow (w.heap.size + 1) 28 32 (.slice A' k c') k (bytesV (pubL s k).flatten)) ∧ Hid (Blk wr w.heap.size 41 #[.slice A n c, .int .i64 m, .int .i64 u]) ∧ w.heap.size + 1 ≤ wr.heap.size ∧ Hid (Below w.heap.size w wr)) (fun _ i _ => m - (intOf i).toNat)
  case atStart => exact ⟨0, none, 0, by omega, rfl, rfl, (show World.ownsRow _ _ _ _ _ _ _ by rw [pubL_zero]; exact ownD_nil _ _), H1.out, oB, HB.out⟩
  case round =>
    obtain ⟨k, A', c', hkm, rfl, rfl, hown, hK, hz, hB⟩ := hrel
    by_cases hk : k < m
    · have hdk : decide ((k : Int) < (m : Int)) = true := by simp; omega
      have hdk2 : decide (k < m) = true := by simp; omega
      have q0 := Blk.cellv hK.out (i := 0) rfl
      go_wp2_with (fail)
      refine (public_of 50 #[.agg #[.slice A n c, .int .i64 k]] #[] (keyF s k) wr (enters_of Try.func50 (by kernel_rfl) rfl) (fun W j b hW hj => hash_any A n c s k j b W (HA.out.below (below_of hB.out hW hB.out.size)) Hs.out hn Hs8.out (by omega) hj) (fun j b _ => keyF_isD s k j b)).mono ?_
      rintro e wa ⟨rfl, hba⟩
      have Hown2 := Lib.hid (own_below hown.out hba)
      have HK2 := Lib.hid (hK.out.below hba)
      have HB2 := Lib.hid (below_of hB.out hba hB.out.size)
      have hz2 : w.heap.size + 1 ≤ wa.heap.size := Nat.le_trans hz hba.size
      have dD := Lib.hid (pubS_isD (keyF s k))
      clear hba q0
      go_wp2_with (first
        | (at_builtin
           refine wpList_pushD rfl (.tmp 9) (.tmp 16) rfl (w.heap.size + 1) (.slice A' k c') k (pubL s k) (pubS (keyF s k)) (own_below Hown2.out hb3.out) rfl wa.heap.size HD3.out dD.out rfl (by omega) (Nat.le_trans hz2 hb3.out.size) ?_
           intro v4 w4 hown4 hg4
           have HK4 := Lib.hid ((HK2.out.below hb3.out).grown hg4 (fun e => absurd (own_base Hown2.out _ e.symm) (by omega)))
           have HB4 := Lib.hid (below_grown (below_of HB2.out hb3.out HB2.out.size) hg4 (Nat.le_trans HB2.out.size hb3.out.size) (fun k hk => Nat.le_trans (Nat.le_succ _) (own_base Hown2.out k hk)))
           have hz4 : w.heap.size + 1 ≤ w4.heap.size := Nat.le_trans (Nat.le_trans hz2 hb3.out.size) hg4.size
           obtain ⟨A4, c4, rfl, -, -, -⟩ := own_form hown4
           have Hown4 := Lib.hid hown4
           clear hown4 hg4)
        | (refine wpList_oneD rfl (.tmp 15) rfl (pubS (keyF s k)) dD.out rfl ?_
           generalize hge3 : World.alloc _ _ = w3
           have HD3 := Lib.hid (show Blk w3 wa.heap.size 28 (arrK .u8 (pubS (keyF s k))) by subst hge3; exact Blk.new _ _ _)
           have hb3 := Lib.hid (show Below wa.heap.size wa w3 by subst hge3; exact (Below.refl _ _).alloc (Nat.le_refl _) _)
           clear hge3))
      go_roundw
      case rel => exact ⟨k + 1, A4, c4, by omega, by go_num, rfl, (show World.ownsRow _ _ _ _ _ _ _ by rw [pubL_succ]; exact Hown4.out), HK4.out, hz4, HB4.out⟩
      case measure => simp [intOf]; omega
    · obtain rfl : k = m := by omega
      go_wp2_with (fail)
      go_ret
      obtain ⟨A2, c2, hv, h1, h2, -⟩ := own_form hown.out
      cases hv
      exact ⟨A', c', rfl, h1, h2, Cells.own hown.out, hB.out⟩
def pubR (n : Nat) (m u : Int) (s : List Nat) : List Nat := if okKey n m u then treeS (pubL s m.toNat) else z32
theorem pubR_isD (n : Nat) (m u : Int) (s : List Nat) : IsD (pubR n m u s) := by
  unfold pubR
  split
  · exact treeS_isD _
  · exact z32_isD
def errKey (b : Bool) : Int := if b then 0 else 40
theorem okKey_true {n : Nat} {m u : Int} (h : okKey n m u = true) : 1 ≤ n ∧ n ≤ 64 ∧ 1 ≤ m ∧ m ≤ 4096 ∧ 0 ≤ u ∧ u ≤ m := by unfold okKey at h; exact of_decide_eq_true h
set_option linter.unusedSimpArgs false in
set_option maxRecDepth 100000 in
set_option maxHeartbeats 4000000 in
theorem Public_any (A : Option Addr) (n c : Nat) (m u : Int) (s : List Nat) (w : World) (hA : Cells w A (bytesV s)) (hs : s.length = n) (h8 : ByteL s) :
    Calls Try.prog 22 #[.agg #[.slice A n c, .int .i64 m, .int .i64 u]] w fun e w' => e = .returned (.tuple #[.agg (arrK .u8 (pubR n m u s)), .int .i64 (errKey (okKey n m u))]) ∧ Below w.heap.size w w' := by
  have HA := Lib.hid hA
  have Hs := Lib.hid hs
  have Hs8 := Lib.hid h8
  clear hA hs h8
  cases hv : okKey n m u with
  | false =>
    have HV := Lib.hid (fun W => valid_any A n c m u W)
    rw [hv] at HV
    have er : pubR n m u s = z32 := by unfold pubR; rw [hv]; rfl
    have ee : errKey false = 40 := rfl
    rw [er, ee]
    clear er ee hv
    go_enter Try.func22, Try.ntmps22
    go_wp2_with (fail)
    generalize hge : World.alloc _ _ = w1
    have HR := Lib.hid (show Blk w1 (w.heap.size + 1) 28 (arrK .u8 z32) by subst hge; exact (blk_two w _ (arrK .u8 z32) 41 28).2)
    have HB := Lib.hid (show Below w.heap.size w w1 by subst hge; exact ((Below.refl _ _).alloc (Nat.le_refl _) _).alloc (by simp) _)
    clear hge
    refine (HV.out w1).mono ?_
    rintro e w2 ⟨rfl, hb2⟩
    have HR2 := Lib.hid (HR.out.below hb2)
    have HB2 := Lib.hid (below_of HB.out hb2 HB.out.size)
    clear hb2
    go_wp2_with (first
      | (refine wpList_load_blk rfl 28 (.tmp 2) rfl (w.heap.size + 1) rfl 28 (arrK .u8 z32) (.array 32 5) HR2.out (by kernel_rfl) rfl (by kernel_rfl) ?_)
      | (refine wpList_store_same rfl 28 (.tmp 2) (.tmp 7) rfl (w.heap.size + 1) (arrK .u8 z32) rfl rfl 28 HR2.out (by kernel_rfl) (arrK_all _ _) ?_))
    exact ret_row2 rfl (w.heap.size + 1) 28 (arrK .u8 z32) (.array 32 5) rfl rfl HR2.out (by kernel_rfl) rfl (by kernel_rfl) rfl ⟨rfl, HB2.out⟩
  | true =>
    obtain ⟨h1, h2, h3, h4, h5, h6⟩ := okKey_true hv
    obtain ⟨k, rfl⟩ := Int.eq_ofNat_of_zero_le (show 0 ≤ m by omega)
    have HV := Lib.hid (fun W => valid_any A n c k u W)
    rw [hv] at HV
    have er : pubR n k u s = treeS (pubL s k) := by unfold pubR; rw [hv]; rfl
    have ee : errKey true = 0 := rfl
    rw [er, ee]
    clear er ee hv
    have lt := Lib.hid (treeS_isD (pubL s k)).1
    go_enter Try.func22, Try.ntmps22
    go_wp2_with (fail)
    generalize hge : World.alloc _ _ = w1
    have H1 := Lib.hid (show Blk w1 w.heap.size 41 #[.slice A n c, .int .i64 k, .int .i64 u] by subst hge; exact (blk_two w _ (arrK .u8 z32) 41 28).1)
    have HR := Lib.hid (show Blk w1 (w.heap.size + 1) 28 (arrK .u8 z32) by subst hge; exact (blk_two w _ (arrK .u8 z32) 41 28).2)
    have HB := Lib.hid (show Below w.heap.size w w1 by subst hge; exact ((Below.refl _ _).alloc (Nat.le_refl _) _).alloc (by simp) _)
    clear hge
    refine (HV.out w1).mono ?_
    rintro e w2 ⟨rfl, hb2⟩
    have HK2 := Lib.hid (H1.out.below hb2)
    have HR2 := Lib.hid (HR.out.below hb2)
    have HB2 := Lib.hid (below_of HB.out hb2 HB.out.size)
    have q0 := Blk.cellv HK2.out (i := 0) rfl
    have q1 := Blk.cellv HK2.out (i := 1) rfl
    have q2 := Blk.cellv HK2.out (i := 2) rfl
    clear hb2
    go_wp2_with (fail)
    refine (publics_any A n c k u s w2 (HA.out.below HB2.out) Hs.out (by omega) Hs8.out (by omega)).mono ?_
    rintro e w3 ⟨A3, c3, rfl, hc3, hm3, hC3, hb3⟩
    have HR3 := Lib.hid (HR2.out.below hb3)
    have HB3 := Lib.hid (below_of HB2.out hb3 HB2.out.size)
    clear hb3 q0 q1 q2
    go_wp2_with (fail)
    refine (tree_any k (pubL s k) A3 c3 w3 (pubL_length s k) (pubL_isL s k) hc3 (by omega) hC3).mono ?_
    rintro e w4 ⟨rfl, hb4⟩
    have HR4 := Lib.hid (HR3.out.below hb4)
    have HB4 := Lib.hid (below_of HB3.out hb4 HB3.out.size)
    clear hb4 hC3
    go_wp2_with (
      (refine wpList_put_blk rfl 28 (.tmp 2) (.tmp 10) rfl (w.heap.size + 1) (arrK .u8 (treeS (pubL s k))) rfl rfl 28 (arrK .u8 z32) HR4.out (info32 lt.out) (by rw [len32 lt.out, len32 z32_length]) (arrK_all _ _) ?_
       intro w6 HD6 hg6 hz6
       have HD6 := Lib.hid HD6
       have HB6 := below_grown HB4.out hg6 HB4.out.size (by simp)
       clear hg6 hz6))
    exact ret_row2 rfl (w.heap.size + 1) 28 (arrK .u8 (treeS (pubL s k))) (.array 32 5) rfl rfl HD6.out (by kernel_rfl) rfl (info32 lt.out) rfl ⟨rfl, HB6⟩
end Go.Proofs.Ytkflpoiobpblhaa
