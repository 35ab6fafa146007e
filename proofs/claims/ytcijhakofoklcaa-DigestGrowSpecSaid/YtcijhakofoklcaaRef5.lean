/- The walk of the reference's Sum: it is the program's. -/
import Derived.Test.YtcijhakofoklcaaRef4
namespace Go.Proofs.Ytcijhakofoklcaa
open Go.RowKit
set_option maxRecDepth 100000 in
set_option maxHeartbeats 4000000 in
theorem rsum_any (A : Option Addr) (n c : Nat) (b : List Nat) (w : World) (hA : Cells w A (bytesV b)) (hn : b.length = n) (hbig : n ≤ 10000000) (h8 : ByteL b) :
    Calls Try.prog 78 #[.slice A n c] w fun e w' => e = .returned (.agg (arrK .u8 (sha b))) ∧ Below w.heap.size w w' := by
  have HA := Lib.hid hA
  have Hn := Lib.hid hn
  have H8 := Lib.hid (msgL_byte h8)
  clear hA hn h8
  go_enter Try.func78, Try.ntmps78
  go_wp2_with (
    (refine wpList_store_same rfl 104 (.tmp 3) (.tmp 12) rfl (w.heap.size + 1) (arrK .u64 (List.replicate 25 0)) rfl rfl 104 (blk_two w (arrK .u8 (List.replicate 32 0)) (arrK .u64 (List.replicate 25 0)) 37 104).2 (by kernel_rfl) (arrK_all _ _) ?_
     generalize hge : World.alloc _ _ = w1
     have HR1 := Lib.hid (show Blk w1 w.heap.size 37 (arrK .u8 (List.replicate 32 0)) by subst hge; exact (blk_two w (arrK .u8 (List.replicate 32 0)) (arrK .u64 (List.replicate 25 0)) 37 104).1)
     have HL1 := Lib.hid (show Blk w1 (w.heap.size + 1) 104 (arrK .u64 (List.replicate 25 0)) by subst hge; exact (blk_two w (arrK .u8 (List.replicate 32 0)) (arrK .u64 (List.replicate 25 0)) 37 104).2)
     have HB1 := Lib.hid (show Below w.heap.size w w1 by subst hge; exact ((Below.refl _ _).alloc (Nat.le_refl _) _).alloc (by simp) _)
     clear hge))
  obtain ⟨L, hL⟩ : ∃ L, w.heap.size + 1 = L := ⟨_, rfl⟩
  have HLw := Lib.hid hL
  rw [hL] at HL1
  rw [hL]
  clear hL
  refine (turns_any _).mono ?_
  rintro e w2 ⟨rfl, hb2⟩
  have HR2 := Lib.hid (HR1.out.below hb2)
  have HL2 := Lib.hid (HL1.out.below hb2)
  have HB2 := Lib.hid (HB1.out.trans (hb2.mono HB1.out.size))
  clear hb2
  go_wp2_with (
    (refine wpList_put_blk rfl 91 (.tmp 4) (.tmp 13) rfl w2.heap.size (arrK .i64 turnL) rfl rfl 91 (arrK .i64 (List.replicate 25 0)) (Blk.new w2 91 (arrK .i64 (List.replicate 25 0))) (by kernel_rfl) (by kernel_rfl) (arrK_all _ _) ?_
     intro w3 HT3 hg3 hz3
     have hb3 : Below w2.heap.size w2 w3 := below_grown ((Below.refl w2.heap.size w2).alloc (Nat.le_refl _) (.cells (arrK .i64 (List.replicate 25 0)) 91)) hg3 (by simp) (by simp)
     have HT3 := Lib.hid HT3
     have HR3 := Lib.hid (HR2.out.below hb3)
     have HL3 := Lib.hid (HL2.out.below hb3)
     have HB3 := Lib.hid (HB2.out.trans (hb3.mono HB2.out.size))
     clear hg3 hz3 hb3))
  obtain ⟨T, hT⟩ : ∃ T, w2.heap.size = T := ⟨_, rfl⟩
  have HTL := Lib.hid (show L < T by rw [← hT]; exact HL2.out.lt)
  rw [hT] at HT3
  rw [hT]
  clear hT
  refine (constants_any _).mono ?_
  rintro e w4 ⟨rfl, hb4⟩
  have HR4 := Lib.hid (HR3.out.below hb4)
  have HL4 := Lib.hid (HL3.out.below hb4)
  have HT4 := Lib.hid (HT3.out.below hb4)
  have HB4 := Lib.hid (HB3.out.trans (hb4.mono HB3.out.size))
  clear hb4
  go_wp2_with (
    (refine wpList_put_blk rfl 93 (.tmp 5) (.tmp 14) rfl w4.heap.size (arrK .u64 constL) rfl rfl 93 (arrK .u64 (List.replicate 24 0)) (Blk.new w4 93 (arrK .u64 (List.replicate 24 0))) (by kernel_rfl) (by kernel_rfl) (arrK_all _ _) ?_
     intro w5 HK5 hg5 hz5
     have hb5 : Below w4.heap.size w4 w5 := below_grown ((Below.refl w4.heap.size w4).alloc (Nat.le_refl _) (.cells (arrK .u64 (List.replicate 24 0)) 93)) hg5 (by simp) (by simp)
     have HK5 := Lib.hid HK5
     have HR5 := Lib.hid (HR4.out.below hb5)
     have HL5 := Lib.hid (HL4.out.below hb5)
     have HT5 := Lib.hid (HT4.out.below hb5)
     have HB5 := Lib.hid (HB4.out.trans (hb5.mono HB4.out.size))
     clear hg5 hz5 hb5))
  obtain ⟨K, hK⟩ : ∃ K, w4.heap.size = K := ⟨_, rfl⟩
  have HKL := Lib.hid (show L < K by rw [← hK]; exact HL4.out.lt)
  rw [hK] at HK5
  rw [hK]
  clear hK
  refine (padded_any A n c b _ (HA.out.below HB5.out) Hn.out hbig).mono ?_
  rintro e w6 ⟨A6, len, c6, rfl, hlen, hown6, hb6⟩
  have HR6 := Lib.hid (HR5.out.below hb6)
  have HL6 := Lib.hid (HL5.out.below hb6)
  have HT6 := Lib.hid (HT5.out.below hb6)
  have HK6 := Lib.hid (HK5.out.below hb6)
  have HB6 := Lib.hid (HB5.out.trans (hb6.mono HB5.out.size))
  obtain ⟨N, hN⟩ : ∃ N, n / 136 + 1 = N := ⟨_, rfl⟩
  have hNb : N ≤ 100000 := by omega
  have hlN : len = 136 * N := by rw [← hlen, msgL_length, Hn.out, hN]
  have HN2 := Lib.hid (show (msgL b).length / 136 = N by rw [msgL_length, Hn.out, hN]; omega)
  have HlN := Lib.hid hlN
  have hlpos : 0 < len := by omega
  have hlI : (len : Int) ≤ 100000000 := by omega
  obtain ⟨pb, cap, hv, hpb, hpl⟩ := hown6.form hlpos
  injection hv with hA6 _ hc6
  subst hA6; subst hc6
  have hpL : L < pb := Nat.lt_of_lt_of_le HL5.out.lt hpb
  have HpL := Lib.hid hpL
  obtain ⟨msg, hmsg⟩ : ∃ m, msgL b = m := ⟨_, rfl⟩
  rw [hmsg] at HN2 hlen hown6 H8
  have Hmsg := Lib.hid hmsg
  have Hlen := Lib.hid hlen
  have Hcell := Lib.hid (show ∀ j, j < len → w6.cell? ⟨pb, j, none⟩ = some (.int .u8 ((msg.getD j 0 : Nat) : Int)) from fun j hj => (hown6.cellAt j (by omega)).trans (bytesV_get (by rw [Hlen.out]; exact hj)))
  have hpl6 := hpl
  clear hmsg hlen hown6 hb6 hN hlN hpL HA HR1 HL1 HR2 HL2 HR3 HL3 HT3 HR4 HL4 HT4 HK5 HR5 HL5 HT5 HB1 HB2 HB3 HB4 HB5 hpb
  go_wp2_with (fail)
  go_loopw [7] (fun i wr => ∃ r nr : Nat, r ≤ N ∧ Hid (nr = 136 * r) ∧ i = .int .i64 nr ∧ Hid (Blk wr L 104 (arrK .u64 (sponge msg r))) ∧ Hid (w6.grownBy wr (some L))) (fun i _ => 136 * N - (intOf i).toNat)
  case atStart => exact ⟨0, 0, by omega, rfl, rfl, by show Blk _ _ _ _; rw [sponge_zero]; exact HL6.out, World.grownBy.refl _ _⟩
  case round =>
    obtain ⟨r, nr, hr, Hnr, rfl, HL', hg⟩ := hrel
    by_cases hlr : r < N
    · have hnl : nr + 136 ≤ len := by have := Hnr.out; have := HlN.out; omega
      have hdn : decide ((nr : Int) < (len : Int)) = true := by simp; omega
      have hdn2 : decide (nr < len) = true := by simp; omega
      have hnI : (nr : Int) ≤ 100000000 := by omega
      obtain ⟨blk, hblk⟩ : ∃ x, msg.drop (136 * r) = x := ⟨_, rfl⟩
      have Hbget := Lib.hid (show ∀ k, blk.getD k 0 = msg.getD (nr + k) 0 from fun k => by rw [← hblk, Hnr.out]; simp only [List.getD_eq_getElem?_getD]; rw [List.getElem?_drop])
      have Hblk := Lib.hid hblk
      obtain ⟨sp, hsp⟩ : ∃ x, sponge msg r = x := ⟨_, rfl⟩
      have Hsp := Lib.hid (show AllW sp ∧ sp.length = 25 by rw [← hsp]; exact ⟨sponge_w _ _, sponge_length _ _⟩)
      have Hnx := Lib.hid (show sponge msg (r + 1) = absorb sp blk by rw [sponge_succ, hsp, hblk])
      rw [hsp] at HL'
      clear hblk hsp
      obtain ⟨wo, rfl⟩ : ∃ wo : World, wo = wr := ⟨_, rfl⟩
      go_wp2_with (fail)
      go_loopw [8] (fun i wr => ∃ k : Nat, k ≤ 136 ∧ i = .int .i64 k ∧ Hid (Blk wr L 104 (arrK .u64 (abAcc sp blk k))) ∧ Hid (wo.grownBy wr (some L))) (fun i _ => 136 - (intOf i).toNat)
      case atStart => exact ⟨0, by omega, rfl, by show Blk _ _ _ _; rw [abAcc_zero]; exact HL'.out, World.grownBy.refl _ _⟩
      case round =>
        obtain ⟨k, hk, rfl, Hb, hg2⟩ := hrel
        by_cases hlk : k < 136
        · have hdk : decide ((k : Int) < 136) = true := by simp; omega
          obtain ⟨at_, hat⟩ : ∃ x, nr + k = x := ⟨_, rfl⟩
          have hatl : at_ < len := by omega
          have ec := (World.cell?_of_block (a := ⟨pb, at_, none⟩) ((grown_trans hg.out hg2.out).block pb hpl6 (by simp; have := HpL.out; omega))).trans (Hcell.out at_ hatl)
          rw [← hat, ← Hbget.out k, hat] at ec
          have hc8 := H8.out.drop (136 * r) k
          rw [Hblk.out] at hc8
          obtain ⟨q8, hq8⟩ : ∃ x, k / 8 = x := ⟨_, rfl⟩
          obtain ⟨m8, hm8⟩ : ∃ x, k % 8 = x := ⟨_, rfl⟩
          have e1 := Hb.out.word (i := q8) (by rw [abAcc_length, Hsp.out.2]; omega)
          have f1 := Hb.out.frozen q8
          have wz := abAcc_w Hsp.out.1 blk k q8
          have Hst := Lib.hid (show Blk (wr.drew.setCell ⟨L, q8, none⟩ (.int .u64 (abVal ((abAcc sp blk k).getD q8 0) (blk.getD k 0) k : Nat))) L 104 (arrK .u64 (abAcc sp blk (k + 1))) by
            rw [abAcc_succ, hq8]; exact (Hb.out.drewN 1).put _ _)
          have hv := abVal_eq ((abAcc sp blk k).getD q8 0) (blk.getD k 0) k
          rw [hm8] at hv
          generalize abVal ((abAcc sp blk k).getD q8 0) (blk.getD k 0) k = av at *
          generalize (abAcc sp blk k).getD q8 0 = z at *
          generalize blk.getD k 0 = cv at *
          have hsh := shl_w cv (8 * m8)
          have wsv : IsW ((cv <<< (8 * m8)) % 18446744073709551616) := Nat.mod_lt _ (by decide)
          generalize (cv <<< (8 * m8)) % 18446744073709551616 = sv at *
          have hxr := xor_w wz wsv
          have Hv := Lib.hid hv
          clear hv
          have g11 : (8 * (m8 : Int)).toNat = 8 * m8 := by omega
          have g1 : (k : Int).tdiv 8 = (q8 : Int) := by rw [Int.tdiv_eq_ediv_of_nonneg (by omega)]; omega
          have g2 : (k : Int).tmod 8 = (m8 : Int) := by rw [Int.tmod_eq_emod_of_nonneg (by omega)]; omega
          have g3 : (k : Int) / 8 = (q8 : Int) := by omega
          have g4 : (k : Int) % 8 = (m8 : Int) := by omega
          have g5 : (q8 : Int) < 25 := by omega
          have g6 : (m8 : Int) < 8 := by omega
          have g7 : IntKind.i64.wrap (q8 : Int) = (q8 : Int) := IntWalk.i64_in _ (by omega)
          have g8 : IntKind.i64.wrap (m8 : Int) = (m8 : Int) := IntWalk.i64_in _ (by omega)
          have g9 : IntKind.i64.wrap (8 * (m8 : Int)) = 8 * (m8 : Int) := IntWalk.i64_in _ (by omega)
          have g10 : IntKind.u64.wrap (cv : Int) = (cv : Int) := by rw [IntKind.wrap_u64]; omega
          have g12 : (nr : Int) + (k : Int) = (at_ : Int) := by omega
          have g13 : IntKind.i64.wrap (at_ : Int) = (at_ : Int) := IntWalk.i64_in _ (by omega)
          have g14 : (at_ : Int) < (len : Int) := by omega
          clear hq8 hm8 hat
          have hg7 := Lib.hid (show wo.grownBy wr.drew (some L) from grown_trans hg2.out (grown_of_below (((Drawn.refl wr).drewN 1).below _) _))
          go_wp2_with (fail)
          refine wp_region_still_tail 19 (by kernel_rfl) (by kernel_rfl) ?_
          simp only [List.take_succ_cons, List.take_zero, List.drop_succ_cons, List.drop_zero]
          repeat still_step
          refine wpStill_nil ?_
          change wpList _ _ _ _ _ wr.drew
          go_wp2_with (fail)
          go_roundw
          case rel => exact ⟨k + 1, by omega, by go_num, by
            show Blk _ _ _ _
            rw [← Hv.out]; exact Hst.out, grown_trans hg7.out (grown_setCell _ _ _)⟩
          case measure => simp [intOf]; omega
        · have hk136 : Hid (k = 136) := by show k = 136; omega
          have hdk : decide ((k : Int) < 136) = false := by simp; omega
          have HA2 := Lib.hid (show Blk wr L 104 (arrK .u64 (abAcc sp blk 136)) by have := Hb.out; rw [hk136.out] at this; exact this)
          have Hab := Lib.hid (show absorb sp blk = perm placeL turnL constL (abAcc sp blk 136) 24 from absorb_eq sp blk)
          have Haw := Lib.hid (show AllW (abAcc sp blk 136) ∧ (abAcc sp blk 136).length = 25 from ⟨abAcc_w Hsp.out.1 blk 136, by rw [abAcc_length, Hsp.out.2]⟩)
          have hg3 := Lib.hid (grown_trans hg.out hg2.out)
          clear Hb hg hg2
          generalize abAcc sp blk 136 = s0 at *
          obtain ⟨w7, rfl⟩ : ∃ w7 : World, w7 = wr := ⟨_, rfl⟩
          go_wp2_with (fail)
          go_loopw [9] (fun i wr => ∃ k : Nat, k ≤ 24 ∧ i = .int .i64 k ∧ Hid (Blk wr L 104 (arrK .u64 (perm placeL turnL constL s0 k))) ∧ Hid (w7.grownBy wr (some L))) (fun i _ => 24 - (intOf i).toNat)
          case atStart => exact ⟨0, by omega, rfl, by show Blk _ _ _ _; rw [perm_zero]; exact HA2.out, World.grownBy.refl _ _⟩
          case round =>
            obtain ⟨k, hk, rfl, Hb, hg4⟩ := hrel
            by_cases hlk : k < 24
            · have hdk : decide ((k : Int) < 24) = true := by simp; omega
              have hkI : (k : Int) < 24 := by omega
              obtain ⟨st, hst⟩ : ∃ x, perm placeL turnL constL s0 k = x := ⟨_, rfl⟩
              have Hs := Lib.hid (show AllW st ∧ st.length = 25 by rw [← hst]; exact ⟨perm_w Haw.out.1 constL_w k, by rw [perm_length, Haw.out.2]⟩)
              have Hn2 := Lib.hid (show perm placeL turnL constL s0 (k + 1) = rnd placeL turnL (constL.getD k 0) st by rw [perm_succ, hst])
              rw [hst] at Hb
              clear hst
              have hg5 := Lib.hid (grown_trans hg3.out hg4.out)
              have HTr := Lib.hid (HT6.out.grown hg5.out (by simp; have := HTL.out; omega))
              have HKr := Lib.hid (HK6.out.grown hg5.out (by simp; have := HKL.out; omega))
              have ek := HKr.out.word (i := k) (by rw [constL_length]; exact hlk)
              have hkw := constL_w k
              go_wp2_with (fail)
              refine wp_region_still_tail 5 (by kernel_rfl) (by kernel_rfl) ?_
              simp only [List.take_succ_cons, List.take_zero, List.drop_succ_cons, List.drop_zero]
              refine wpStill_load_blk rfl 104 (.tmp 3) rfl L rfl 104 (arrK .u64 st) (.array 25 92) (Hb.out.drewN 1) (by kernel_rfl) rfl (by rw [arrK_size, Hs.out.2]; kernel_rfl) ?_
              simp only [Act.put, List.setIfInBounds_toArray, List.set_cons_zero, List.set_cons_succ]
              refine wpStill_load_blk rfl 91 (.tmp 4) rfl T rfl 91 (arrK .i64 turnL) (.array 25 3) (HTr.out.drewN 1) (by kernel_rfl) rfl (by kernel_rfl) ?_
              simp only [Act.put, List.setIfInBounds_toArray, List.set_cons_zero, List.set_cons_succ]
              generalize constL.getD k 0 = kc at *
              repeat still_step
              refine wpStill_nil ?_
              change wpList _ _ _ _ _ wr.drew
              go_wp2_with (fail)
              refine (round_any st kc _ Hs.out.2 Hs.out.1 hkw).mono ?_
              rintro e w8 ⟨rfl, hb8⟩
              have hb8' : Below wr.heap.size wr w8 := (((Drawn.refl wr).drewN 1).below _).trans hb8
              have HL8 := Lib.hid (Hb.out.below hb8')
              have hg8 := Lib.hid (grown_of_below hb8' (some L))
              clear hb8 hb8' ek
              go_wp2_with (
                (refine wpList_put_blk rfl 104 (.tmp 3) (.tmp 55) rfl L (arrK .u64 (rnd placeL turnL kc st)) rfl rfl 104 (arrK .u64 st) HL8.out (by rw [arrK_size, rnd_length, Hs.out.2]; kernel_rfl) (by rw [arrK_size, arrK_size, rnd_length]) (arrK_all _ _) ?_
                 intro w9 HL9 hg9 hz9
                 have HL9 := Lib.hid HL9
                 have hg9 := Lib.hid (grown_trans hg4.out (grown_trans hg8.out hg9))
                 clear hz9))
              go_roundw
              case rel => exact ⟨k + 1, by omega, by go_num, by
                show Blk _ _ _ _
                rw [Hn2.out]; exact HL9.out, hg9.out⟩
              case measure => simp [intOf]; omega
            · have hk24 : Hid (k = 24) := by show k = 24; omega
              have hdk : decide ((k : Int) < 24) = false := by simp; omega
              have HL8 := Lib.hid (show Blk wr L 104 (arrK .u64 (sponge msg (r + 1))) by
                have := Hb.out
                rw [hk24.out] at this
                rw [Hnx.out, Hab.out]; exact this)
              have hg8 := Lib.hid (grown_trans hg3.out hg4.out)
              clear Hb
              go_wp2_with (fail)
              go_roundw
              case rel => exact ⟨r + 1, nr + 136, by omega, by show _ = _; have := Hnr.out; omega, by go_num, HL8.out, hg8.out⟩
              case measure => simp [intOf]; have := HlN.out; omega
    · have hrN : Hid (r = N) := by show r = N; omega
      have hnl : nr = len := by have := Hnr.out; have := HlN.out; have := hrN.out; omega
      have hdn : decide ((nr : Int) < (len : Int)) = false := by simp; omega
      have hdn2 : decide (nr < len) = false := by simp; omega
      obtain ⟨fin, hfin⟩ : ∃ x, sponge msg N = x := ⟨_, rfl⟩
      have Hfin := Lib.hid (show AllW fin ∧ fin.length = 25 by rw [← hfin]; exact ⟨sponge_w _ _, sponge_length _ _⟩)
      have Hsha := Lib.hid (show outAcc fin 32 = sha b by rw [sha_eq, Hmsg.out, HN2.out, hfin])
      have HF := Lib.hid (show Blk wr L 104 (arrK .u64 fin) by have := HL'.out; rw [hrN.out, hfin] at this; exact this)
      have HRr := Lib.hid (HR6.out.grown hg.out (by simp; have := HLw.out; omega))
      have hBr := Lib.hid (below_grown HB6.out hg.out HB6.out.size (by simp; have := HLw.out; omega))
      have HnL := Lib.hid hnl
      clear hfin HL' hnl
      obtain ⟨wo, rfl⟩ : ∃ wo : World, wo = wr := ⟨_, rfl⟩
      have hLwo := Lib.hid HF.out.lt
      go_wp2_with (
        (refine wpList_store_same rfl 37 (.tmp 10) (.tmp 56) rfl wo.heap.size (arrK .u8 (List.replicate 32 0)) rfl rfl 37 (Blk.new wo 37 (arrK .u8 (List.replicate 32 0))) (by kernel_rfl) (arrK_all _ _) ?_
         generalize hge : World.alloc _ _ = w8
         have HD8 := Lib.hid (show Blk w8 wo.heap.size 37 (arrK .u8 (List.replicate 32 0)) by subst hge; exact Blk.new wo _ _)
         have hnew : Below wo.heap.size wo w8 := by subst hge; exact (Below.refl _ _).alloc (Nat.le_refl _) _
         have HF8 := Lib.hid (HF.out.below hnew); have HR8 := Lib.hid (HRr.out.below hnew)
         have hB8 := Lib.hid (hBr.out.trans (hnew.mono hBr.out.size))
         clear hge hnew))
      obtain ⟨D, hD⟩ : ∃ D, wo.heap.size = D := ⟨_, rfl⟩
      have HwD := Lib.hid (show L < D by rw [← hD]; exact hLwo.out)
      rw [hD] at HD8
      rw [hD]
      clear hD hLwo HF HRr hBr
      go_loopw [11] (fun i wr => ∃ k : Nat, k ≤ 32 ∧ i = .int .i64 k ∧ Hid (Blk wr D 37 (arrK .u8 (outAcc fin k))) ∧ Hid (w8.grownBy wr (some D))) (fun i _ => 32 - (intOf i).toNat)
      case atStart => exact ⟨0, by omega, rfl, by show Blk _ _ _ _; rw [outAcc_zero]; exact HD8.out, World.grownBy.refl _ _⟩
      case round =>
        obtain ⟨k, hk, rfl, Hb, hg2⟩ := hrel
        by_cases hlk : k < 32
        · have hdk : decide ((k : Int) < 32) = true := by simp; omega
          obtain ⟨q8, hq8⟩ : ∃ x, k / 8 = x := ⟨_, rfl⟩
          obtain ⟨m8, hm8⟩ : ∃ x, k % 8 = x := ⟨_, rfl⟩
          have e1 := (HF8.out.grown hg2.out (by simp; have := HwD.out; omega)).word (i := q8) (by rw [Hfin.out.2]; omega)
          have eb := Hb.out.word (i := k) (by rw [outAcc_length]; exact hlk)
          have f1 := Hb.out.frozen k
          have hv := outVal_eq fin k
          rw [hq8, hm8] at hv
          have Hst := Lib.hid (show Blk (wr.setCell ⟨D, k, none⟩ (.int .u8 (outVal fin k : Nat))) D 37 (arrK .u8 (outAcc fin (k + 1))) by
            rw [outAcc_succ]; exact Hb.out.put _ _)
          have hg3 := Lib.hid (show w8.grownBy (wr.setCell ⟨D, k, none⟩ (.int .u8 (outVal fin k : Nat))) (some D) from grown_trans hg2.out (grown_setCell _ _ _))
          generalize outVal fin k = ov at *
          generalize fin.getD q8 0 = z at *
          generalize (outAcc fin k).getD k 0 = old at *
          have hsh := shr_w z (8 * m8)
          have hby : IntKind.u8.wrap ((z >>> (8 * m8) : Nat) : Int) = (ov : Int) := by rw [hv, IntKind.wrap_u8]; omega
          generalize z >>> (8 * m8) = sv at *
          have g1 : (k : Int).tdiv 8 = (q8 : Int) := by rw [Int.tdiv_eq_ediv_of_nonneg (by omega)]; omega
          have g2 : (k : Int).tmod 8 = (m8 : Int) := by rw [Int.tmod_eq_emod_of_nonneg (by omega)]; omega
          have g3 : (k : Int) / 8 = (q8 : Int) := by omega
          have g4 : (k : Int) % 8 = (m8 : Int) := by omega
          have g5 : (q8 : Int) < 25 := by omega
          have g6 : (m8 : Int) < 8 := by omega
          have g11 : (8 * (m8 : Int)).toNat = 8 * m8 := by omega
          clear hq8 hm8 hv
          go_wp2_with (fail)
          go_roundw
          case rel => exact ⟨k + 1, by omega, by go_num, Hst.out, hg3.out⟩
          case measure => simp [intOf]; omega
        · have hk32 : Hid (k = 32) := by show k = 32; omega
          have hdk : decide ((k : Int) < 32) = false := by simp; omega
          have HDf := Lib.hid (show Blk wr D 37 (arrK .u8 (sha b)) by have := Hb.out; rw [hk32.out, Hsha.out] at this; exact this)
          have HRf := Lib.hid (HR8.out.grown hg2.out (by simp; have := HwD.out; have := HLw.out; omega))
          have hBf := Lib.hid (below_grown hB8.out hg2.out hB8.out.size (by simp; have := HwD.out; have := HLw.out; omega))
          clear Hb
          go_wp2_with (first
            | (refine wpList_load_blk rfl 37 (.tmp 10) rfl D rfl 37 (arrK .u8 (sha b)) (.array 32 5) HDf.out (by kernel_rfl) rfl (by rw [arrK_size, sha_length]; kernel_rfl) ?_)
            | (refine wpList_put_blk rfl 37 (.tmp 2) (.tmp 72) rfl w.heap.size (arrK .u8 (sha b)) rfl rfl 37 (arrK .u8 (List.replicate 32 0)) HRf.out (by rw [arrK_size, sha_length]; kernel_rfl) (by rw [arrK_size, arrK_size, sha_length]; rfl) (arrK_all _ _) ?_
               intro w9 H9 hg9 hz9
               have HR9 := Lib.hid H9
               have hB9 := below_grown hBf.out hg9 hBf.out.size (by simp)
               clear H9 hz9))
          exact ret_row rfl w.heap.size 37 (arrK .u8 (sha b)) (.array 32 5) rfl HR9.out (by kernel_rfl) rfl (by rw [arrK_size, sha_length]; kernel_rfl) rfl ⟨rfl, hB9⟩
end Go.Proofs.Ytcijhakofoklcaa
