/- Walks and plain laws that the statement rests on: Sum, Ref4, Ref5. -/
import Derived.Test.YtkflpoiobpblhaaP00
import Derived.Test.YtkflpoiobpblhaaP05
import Derived.Test.YtkflpoiobpblhaaP06
import Derived.Test.YtkflpoiobpblhaaP08
namespace Go.Proofs.Ytkflpoiobpblhaa
open Go.RowKit
theorem endL_eq (m : Nat) : endL m = ((List.replicate m 0).set 0 6).set (m - 1) (((List.replicate m 0).set 0 6).getD (m - 1) 0 ^^^ 128) := by unfold endL; rfl
theorem xor128 {z : Nat} (h : z = 0 ∨ z = 6) : bits .xor .u8 (z : Int) 128 = ((z ^^^ 128 : Nat) : Int) := by
  rcases h with rfl | rfl <;> decide +kernel
theorem first_z (k : Nat) : ((List.replicate (k + 1) 0).set 0 6).getD k 0 = 0 ∨ ((List.replicate (k + 1) 0).set 0 6).getD k 0 = 6 := by
  cases k with
  | zero => right; rfl
  | succ k =>
    left
    rw [List.getD_eq_getElem?_getD, List.getElem?_set_ne (by omega), List.getElem?_replicate]
    split <;> rfl
def ByteL (b : List Nat) : Prop := ∀ i, b.getD i 0 < 256
theorem ByteL.set {l : List Nat} (h : ByteL l) (i v : Nat) (hv : v < 256) : ByteL (l.set i v) := by
  intro j
  have hj := h j
  simp only [List.getD_eq_getElem?_getD] at hj ⊢
  rw [List.getElem?_set]
  by_cases e : i = j
  · rw [if_pos e]
    by_cases h2 : i < l.length
    · rw [if_pos h2]; exact hv
    · rw [if_neg h2]; decide
  · rw [if_neg e]; exact hj
theorem ByteL.append {a b : List Nat} (ha : ByteL a) (hb : ByteL b) : ByteL (a ++ b) := by
  intro j
  by_cases h : j < a.length
  · have := ha j
    simp only [List.getD_eq_getElem?_getD] at this ⊢
    rw [List.getElem?_append_left h]; exact this
  · have := hb (j - a.length)
    simp only [List.getD_eq_getElem?_getD] at this ⊢
    rw [List.getElem?_append_right (by omega)]; exact this
theorem ByteL.drop {a : List Nat} (ha : ByteL a) (k : Nat) : ByteL (a.drop k) := by
  intro j
  have := ha (k + j)
  simp only [List.getD_eq_getElem?_getD] at this ⊢
  rw [List.getElem?_drop]; exact this
theorem endL_byte (m : Nat) : ByteL (endL m) := by
  have h0 : ByteL ((List.replicate m 0).set 0 6) := ByteL.set (fun j => by
    rw [List.getD_eq_getElem?_getD, List.getElem?_replicate]
    split <;> decide) 0 6 (by decide)
  rw [endL_eq]
  exact h0.set _ _ (Nat.xor_lt_two_pow (n := 8) (h0 _) (by decide))
theorem msgL_byte {b : List Nat} (h : ByteL b) : ByteL (msgL b) := by
  rw [msgL_eq]
  exact h.append (endL_byte _)
theorem rep_arrK (m : Nat) : (List.replicate m (Value.int .u8 0)).toArray = arrK .u8 (List.replicate m 0) := by simp [arrK]
theorem blk_three (w : World) (cs1 cs2 cs3 : Array Value) (t1 t2 t3 : TypeId) : Blk (((w.alloc (.cells cs1 t1)).alloc (.cells cs2 t2)).alloc (.cells cs3 t3)) w.heap.size t1 cs1 ∧
    Blk (((w.alloc (.cells cs1 t1)).alloc (.cells cs2 t2)).alloc (.cells cs3 t3)) (w.heap.size + 1) t2 cs2 ∧ Blk (((w.alloc (.cells cs1 t1)).alloc (.cells cs2 t2)).alloc (.cells cs3 t3)) (w.heap.size + 1 + 1) t3 cs3 ∧
    Below w.heap.size w (((w.alloc (.cells cs1 t1)).alloc (.cells cs2 t2)).alloc (.cells cs3 t3)) := by
  refine ⟨((Blk.new _ _ _).alloc _).alloc _, ?_, ?_, (((Below.refl _ _).alloc (Nat.le_refl _) _).alloc (by simp) _).alloc (by simp; omega) _⟩
  · have := (Blk.new (w.alloc (.cells cs1 t1)) t2 cs2).alloc (.cells cs3 t3)
    rw [World.size_alloc] at this
    exact this
  · have := Blk.new ((w.alloc (.cells cs1 t1)).alloc (.cells cs2 t2)) t3 cs3
    rw [World.size_alloc, World.size_alloc] at this
    exact this
theorem two_new {W6 w7 : World} {cs1 cs2 : Array Value} {t1 t2 : TypeId} {s : Nat} (hz : W6.heap.size = s) (h : (W6.alloc (.cells cs1 t1)).alloc (.cells cs2 t2) = w7) :
    Blk w7 s t1 cs1 ∧ Blk w7 (s + 1) t2 cs2 ∧ Below W6.heap.size W6 w7 := by
  subst h
  refine ⟨?_, ?_, ((Below.refl _ _).alloc (Nat.le_refl _) _).alloc (by simp) _⟩
  · rw [← hz]; exact (Blk.new _ _ _).alloc _
  · have := Blk.new (W6.alloc (.cells cs1 t1)) t2 cs2
    rw [World.size_alloc, hz] at this
    exact this

set_option maxRecDepth 100000 in
set_option maxHeartbeats 4000000 in
theorem sum_any (A : Option Addr) (n c : Nat) (b : List Nat) (w : World) (hA : Cells w A (bytesV b)) (hn : b.length = n) (hbig : n ≤ 10000000) (h8 : ByteL b) :
    Calls Try.prog 69 #[.slice A n c] w fun e w' => e = .returned (.agg (arrK .u8 (sha b))) ∧ Below w.heap.size w w' := by
  have HA := Lib.hid hA
  have Hn := Lib.hid hn
  have H8 := Lib.hid (msgL_byte h8)
  clear hA hn h8
  obtain ⟨k0, hk0⟩ : ∃ k, 136 - n % 136 = k + 1 := ⟨135 - n % 136, by omega⟩
  have Hk0 := Lib.hid hk0
  have hmI : (136 : Int) - (n : Int) % 136 = (k0 : Int) + 1 := by omega
  have hm2 : k0 ≤ 135 := by omega
  clear hk0
  obtain ⟨mk, hmk, hmk1, hmk2, hmk3⟩ := make_letter (P := Try.prog) 39 5 (.int .u8 0) 1 (by kernel_rfl) (by kernel_rfl) rfl (k0 + 1) (by omega) (by omega)
  have Hmk1 := Lib.hid hmk1
  have Hmk2 := Lib.hid hmk2
  clear hmk1 hmk2
  rw [Int.natCast_add, Int.natCast_one] at hmk
  have hz1 := Lib.hid (first_z k0)
  go_enter Try.func69, Try.ntmps69
  go_wp2_with (fail)
  refine (tables_any _).mono ?_
  rintro e w1 ⟨rfl, hb1⟩
  go_wp2_with (first
    | (refine wpList_put_blk rfl 138 (.tmp 5) (.tmp 16) rfl (w1.heap.size + 1 + 1) (arrK .u64 constL) rfl rfl 138 (arrK .u64 (List.replicate 24 0)) HKw4.out (by kernel_rfl) (by kernel_rfl) (arrK_all _ _) ?_
       intro w5 HK5 hg5 hz5
       have Hg5 := Lib.hid hg5; have Hz5 := Lib.hid hz5
       have HPw5 := Lib.hid (HPw4.out.grown hg5 (by simp; omega)); have HTw5 := Lib.hid (HTw4.out.grown hg5 (by simp)); have HKw5 := Lib.hid HK5
       clear HK5 hg5 hz5
       have hE := Hmk1.out w5
       rw [rep_arrK] at hE
       have e0 := hE.word (i := 0) (by simp)
       have f0 := hE.frozen 0
       have hE1 : Blk ((mk w5).setCell ⟨w5.heap.size, 0, none⟩ (.int .u8 6)) w5.heap.size 5 (arrK .u8 ((List.replicate (k0 + 1) 0).set 0 6)) := hE.put 0 6
       have e1 := hE1.word (i := k0) (by simp)
       have f1 := hE1.frozen k0
       have HE := (hE1.put k0 (((List.replicate (k0 + 1) 0).set 0 6).getD k0 0 ^^^ 128))
       have eE := endL_eq (k0 + 1)
       rw [Nat.add_sub_cancel] at eE
       rw [← eE] at HE
       have HE := Lib.hid HE
       clear eE
       generalize (List.getD ((List.replicate (k0 + 1) 0).set 0 6) k0 0) = z at *
       have hx := xor128 hz1.out
       clear hE hE1)
    | (refine wpList_put_blk rfl 137 (.tmp 4) (.tmp 15) rfl (w1.heap.size + 1) (arrK .i64 turnL) rfl rfl 137 (arrK .i64 (List.replicate 25 0)) HTw3.out (by kernel_rfl) (by kernel_rfl) (arrK_all _ _) ?_
       intro w4 HT4 hg4 hz4
       have Hg4 := Lib.hid hg4; have Hz4 := Lib.hid hz4
       have HPw4 := Lib.hid (HPw3.out.grown hg4 (by simp)); have HTw4 := Lib.hid HT4; have HKw4 := Lib.hid (HKw3.out.grown hg4 (by simp))
       clear HT4 hg4 hz4)
    | (refine wpList_put_blk rfl 137 (.tmp 3) (.tmp 14) rfl w1.heap.size (arrK .i64 placeL) rfl rfl 137 (arrK .i64 (List.replicate 25 0)) (blk_three w1 (arrK .i64 (List.replicate 25 0)) (arrK .i64 (List.replicate 25 0)) (arrK .u64 (List.replicate 24 0)) 137 137 138).1 (by kernel_rfl) (by kernel_rfl) (arrK_all _ _) ?_
       intro w3 HP3 hg3 hz3
       have HPw3 := Lib.hid HP3
       have HTw3 := Lib.hid (show Blk w3 (w1.heap.size + 1) 137 (arrK .i64 (List.replicate 25 0)) from (blk_three w1 (arrK .i64 (List.replicate 25 0)) (arrK .i64 (List.replicate 25 0)) (arrK .u64 (List.replicate 24 0)) 137 137 138).2.1.grown hg3 (by simp))
       have HKw3 := Lib.hid (show Blk w3 (w1.heap.size + 1 + 1) 138 (arrK .u64 (List.replicate 24 0)) from (blk_three w1 (arrK .i64 (List.replicate 25 0)) (arrK .i64 (List.replicate 25 0)) (arrK .u64 (List.replicate 24 0)) 137 137 138).2.2.1.grown hg3 (by simp; omega))
       have HB3 := Lib.hid (show Below w1.heap.size w1 w3 from below_grown (blk_three w1 (arrK .i64 (List.replicate 25 0)) (arrK .i64 (List.replicate 25 0)) (arrK .u64 (List.replicate 24 0)) 137 137 138).2.2.2 hg3 (by simp; omega) (by simp))
       clear HP3 hg3 hz3))
  have hs1 := Lib.hid (show Below w1.heap.size w1 w5 from below_grown (below_grown HB3.out Hg4.out HB3.out.size (by simp)) Hg5.out (by have := HB3.out.size; have := Hz4.out; omega) (by simp; omega))
  have lP := Lib.hid HPw5.out.lt
  have lT := Lib.hid HTw5.out.lt
  have lK := Lib.hid HKw5.out.lt
  generalize hge : World.alloc _ _ = w7
  obtain ⟨HL7, HS7, hB67⟩ := two_new (s := w5.heap.size + 1) (by simp [hmk3]) hge
  have HP7 := Lib.hid ((((HPw5.out.below (Hmk2.out w5)).far (by have := lP.out; simp; omega) _).far (by have := lP.out; simp; omega) _).below hB67)
  have HT7 := Lib.hid ((((HTw5.out.below (Hmk2.out w5)).far (by have := lT.out; simp; omega) _).far (by have := lT.out; simp; omega) _).below hB67)
  have HK7 := Lib.hid ((((HKw5.out.below (Hmk2.out w5)).far (by have := lK.out; simp; omega) _).far (by have := lK.out; simp; omega) _).below hB67)
  have HE7 := Lib.hid (HE.out.below hB67)
  have hB17 := Lib.hid (show Below w1.heap.size w1 w7 from ((((hs1.out.trans ((Hmk2.out w5).mono hs1.out.size)).setCell (by have := hs1.out.size; simp; omega) _).setCell (by have := hs1.out.size; simp; omega) _).trans (hB67.mono (by have := hs1.out.size; simp [hmk3]; omega))))
  have hB07 := Lib.hid (show Below w.heap.size w w7 from ((Below.refl _ _).alloc (Nat.le_refl _) _).trans ((hb1.trans (hB17.out.mono hb1.size)).mono (by simp)))
  have F1 : w7.cell? ⟨w5.heap.size + 1 + 1, 0, none⟩ = some (.slice A n c) := HS7.cell 0
  have F2 : w7.cell? ⟨w5.heap.size + 1 + 1, 1, none⟩ = some (.slice (some ⟨w5.heap.size, 0, none⟩) (k0 + 1) (k0 + 1)) := HS7.cell 1
  have hA7 : Cells w7 A (bytesV b) := HA.out.below hB07.out
  have hE7 : Cells w7 (some ⟨w5.heap.size, 0, none⟩) (bytesV (endL (k0 + 1))) := by
    have := cells_blk HE7.out
    rw [arrK_toList] at this
    unfold bytesV
    exact this
  have HL := Lib.hid (show Blk w7 (w5.heap.size + 1) 142 (arrK .u64 (List.replicate 25 0)) from HL7)
  have HR := Lib.hid (show Blk w7 w.heap.size 28 (arrK .u8 (List.replicate 32 0)) from (Blk.new w 28 (arrK .u8 (List.replicate 32 0))).below (hb1.trans (hB17.out.mono hb1.size)))
  have hRL : w.heap.size < w5.heap.size + 1 := by have := hb1.size; have := hs1.out.size; simp at *; omega
  have HRL := Lib.hid hRL
  have HLP := Lib.hid (show w1.heap.size + 1 + 1 < w5.heap.size + 1 by have := lK.out; omega)
  clear hge HL7 hB67 hs1 lP lT lK HPw3 HTw3 HKw3 HB3 Hg4 Hz4 HPw4 HTw4 HKw4 Hg5 Hz5 HPw5 HTw5 HKw5 e0 f0 f1 e1 hx hz1 HE Hmk1 Hmk2 hmk hRL
  refine (concat2 (w5.heap.size + 1 + 1) n c (k0 + 1) (k0 + 1) A (some ⟨w5.heap.size, 0, none⟩) (bytesV b) (bytesV (endL (k0 + 1))) w7 F1 F2 hA7 hE7 (by rw [bytesV_length, Hn.out]) (by rw [bytesV_length, endL_length]) (bytesV_one _) (bytesV_one _) (by omega) (by omega) HS7.lt).mono ?_
  rintro e w8 ⟨A8, c8, he, hown8, hb8⟩
  obtain ⟨N, hN⟩ : ∃ N, n / 136 + 1 = N := ⟨_, rfl⟩
  have HN := Lib.hid (show n + (k0 + 1) = 136 * N by have := Hk0.out; omega)
  have HN2 := Lib.hid (show (msgL b).length / 136 = N by rw [msgL_length, Hn.out, hN]; omega)
  have HN3 := Lib.hid (show (msgL b).length = 136 * N by rw [msgL_length, Hn.out, hN])
  have hNb : N ≤ 100000 := by omega
  rw [HN.out, ← bytesV_append] at hown8
  rw [HN.out] at he
  have eM : b ++ endL (k0 + 1) = msgL b := by rw [msgL_eq, Hn.out, Hk0.out]
  rw [eM] at hown8
  clear eM
  subst he
  have hc8 : 136 * N ≤ c8 := by
    obtain ⟨A', c', hv, h1, -, -⟩ := own_form hown8
    cases hv
    exact h1
  have HC8 := Lib.hid (Cells.own hown8)
  have HA8 := Lib.hid (show ∀ b' off, A8 = some ⟨b', off, none⟩ → w5.heap.size + 1 < b' by
    rintro b' off rfl
    have := own_base hown8 b' rfl
    have := HS7.lt
    omega)
  have HP8 := Lib.hid (HP7.out.below hb8)
  have HT8 := Lib.hid (HT7.out.below hb8)
  have HK8 := Lib.hid (HK7.out.below hb8)
  have HL8 := Lib.hid (HL.out.below hb8)
  have HR8 := Lib.hid (HR.out.below hb8)
  have hB08 := Lib.hid (show Below w.heap.size w w8 from hB07.out.trans (hb8.mono hB07.out.size))
  clear hown8 hb8 HP7 HT7 HK7 HE7 HL HR hB07 hB17 hA7 hE7 F1 F2 HS7 hmI hmk3 hb1 HA
  generalize w5.heap.size + 1 = L at *
  obtain ⟨msg, hmsg⟩ : ∃ m, msgL b = m := ⟨_, rfl⟩
  rw [hmsg] at HN2 HN3 HC8 H8
  have Hmsg := Lib.hid hmsg
  clear hmsg hN
  obtain ⟨m, hm⟩ : ∃ m, 136 * N = m := ⟨_, rfl⟩
  rw [hm] at hc8
  have Hm := Lib.hid hm
  rw [hm]
  clear hm
  go_wp2_with (fail)
  go_loopw [8] (fun p wr => ∃ r q m : Nat, ∃ A' c', Hid (r + q = N) ∧ Hid (m = 136 * q) ∧ p = .slice A' m c' ∧ m ≤ c' ∧ Hid (∀ b' off, A' = some ⟨b', off, none⟩ → L < b') ∧ Hid (Cells wr A' (bytesV (msg.drop (136 * r)))) ∧ Hid (Blk wr L 142 (arrK .u64 (sponge msg r))) ∧ w8.grownBy wr (some L)) (fun p _ => lenV p)
  case atStart => exact ⟨0, N, m, A8, c8, Nat.zero_add N, Hm.out.symm, rfl, hc8, HA8.out, by show Cells _ _ _; rw [Nat.mul_zero, List.drop_zero]; exact HC8.out, by show Blk _ _ _ _; rw [sponge_zero]; exact HL8.out, World.grownBy.refl _ _⟩
  case round =>
    obtain ⟨r, q, m, A', c', Hrq, Hmq, rfl, hmc, HA', HC', HL', hg⟩ := hrel
    by_cases hq : 0 < q
    · have h136 : 136 ≤ m := by have := Hmq.out; omega
      have hdm : decide ((0 : Int) < (m : Int)) = true := by simp; omega
      have hdm2 : decide (0 < m) = true := by simp; omega
      have hmI2 : (136 : Int) ≤ (m : Int) := by omega
      have hmI3 : (m : Int) ≤ 100000000 := by have := Hmq.out; have := Hrq.out; omega
      have hcI : (136 : Int) ≤ (c' : Int) := by omega
      obtain ⟨blk, hblk⟩ : ∃ x, msg.drop (136 * r) = x := ⟨_, rfl⟩
      have Hbl := Lib.hid (show blk.length = m by rw [← hblk, List.length_drop, HN3.out]; have := Hmq.out; have := Hrq.out; omega)
      have HC2 := Lib.hid (show Cells wr A' (bytesV blk) by rw [← hblk]; exact HC'.out)
      obtain ⟨pb, po, rfl, hpb, hcell⟩ := Cells.addr HC2.out (by rw [bytesV_length, Hbl.out]; omega)
      have Hcell := Lib.hid hcell
      have hLp := Lib.hid (HA'.out pb po rfl)
      have Hblk := Lib.hid hblk
      obtain ⟨sp, hsp⟩ : ∃ x, sponge msg r = x := ⟨_, rfl⟩
      have Hsp := Lib.hid (show AllW sp ∧ sp.length = 25 by rw [← hsp]; exact ⟨sponge_w _ _, sponge_length _ _⟩)
      have Hnx := Lib.hid (show sponge msg (r + 1) = absorb sp blk by rw [sponge_succ, hsp, hblk])
      rw [hsp] at HL'
      clear hcell hblk hsp HC'
      obtain ⟨wo, rfl⟩ : ∃ wo : World, wo = wr := ⟨_, rfl⟩
      go_wp2_with (fail)
      go_loopw [44] (fun i wr => ∃ k : Nat, k ≤ 136 ∧ i = .int .i64 k ∧ Hid (Blk wr L 142 (arrK .u64 (abAcc sp blk k))) ∧ wo.grownBy wr (some L)) (fun i _ => 136 - (intOf i).toNat)
      case atStart => exact ⟨0, by omega, rfl, by show Blk _ _ _ _; rw [abAcc_zero]; exact HL'.out, World.grownBy.refl _ _⟩
      case round =>
        obtain ⟨k, hk, rfl, Hb, hg2⟩ := hrel
        by_cases hlk : k < 136
        · have hdk : decide ((k : Int) < 136) = true := by simp; omega
          have ec := (World.cell?_of_block (a := ⟨pb, po + k, none⟩) (hg2.block pb hpb (by simp; have := hLp.out; omega))).trans (Hcell.out k _ (bytesV_get (by rw [Hbl.out]; omega)))
          obtain ⟨q8, hq8⟩ : ∃ x, k / 8 = x := ⟨_, rfl⟩
          obtain ⟨m8, hm8⟩ : ∃ x, k % 8 = x := ⟨_, rfl⟩
          have e1 := Hb.out.word (i := q8) (by rw [abAcc_length, Hsp.out.2]; omega)
          have f1 := Hb.out.frozen q8
          have wz := abAcc_w Hsp.out.1 blk k q8
          have hc8 := H8.out.drop (136 * r) k
          rw [Hblk.out] at hc8
          have Hst := Lib.hid (show Blk (wr.drew.setCell ⟨L, q8, none⟩ (.int .u64 (abVal ((abAcc sp blk k).getD q8 0) (blk.getD k 0) k : Nat))) L 142 (arrK .u64 (abAcc sp blk (k + 1))) by
            rw [abAcc_succ, hq8]; exact (Hb.out.drewN 1).put _ _)
          have hv := abVal_eq ((abAcc sp blk k).getD q8 0) (blk.getD k 0) k
          rw [hm8] at hv
          generalize abVal ((abAcc sp blk k).getD q8 0) (blk.getD k 0) k = av at *
          generalize (abAcc sp blk k).getD q8 0 = z at *
          generalize blk.getD k 0 = cv at *
          have hsh := shl_w cv (8 * m8)
          have wsv : IsW ((cv <<< (8 * m8)) % 18446744073709551616) := Nat.mod_lt _ (by decide)
          generalize (cv <<< (8 * m8)) % 18446744073709551616 = sv at *
          have hxr := xor_w wz wsv
          have Hv := Lib.hid hv
          clear hv
          have g11 : (8 * (m8 : Int)).toNat = 8 * m8 := by omega
          have g1 : (k : Int).tdiv 8 = (q8 : Int) := by rw [Int.tdiv_eq_ediv_of_nonneg (by omega)]; omega
          have g2 : (k : Int).tmod 8 = (m8 : Int) := by rw [Int.tmod_eq_emod_of_nonneg (by omega)]; omega
          have g3 : (k : Int) / 8 = (q8 : Int) := by omega
          have g4 : (k : Int) % 8 = (m8 : Int) := by omega
          have g5 : (q8 : Int) < 25 := by omega
          have g6 : (m8 : Int) < 8 := by omega
          have g7 : IntKind.i64.wrap (q8 : Int) = (q8 : Int) := IntWalk.i64_in _ (by omega)
          have g8 : IntKind.i64.wrap (m8 : Int) = (m8 : Int) := IntWalk.i64_in _ (by omega)
          have g9 : IntKind.i64.wrap (8 * (m8 : Int)) = 8 * (m8 : Int) := IntWalk.i64_in _ (by omega)
          have g10 : IntKind.u64.wrap (cv : Int) = (cv : Int) := by rw [IntKind.wrap_u64]; omega
          clear hq8 hm8
          have hg7 := Lib.hid (show wo.grownBy wr.drew (some L) from grown_trans hg2 (grown_of_below (((Drawn.refl wr).drewN 1).below _) _))
          go_wp2_with (fail)
          refine wp_region_still_tail 12 (by kernel_rfl) (by kernel_rfl) ?_
          simp only [List.take_succ_cons, List.take_zero, List.drop_succ_cons, List.drop_zero]
          repeat still_step
          refine wpStill_nil ?_
          change wpList _ _ _ _ _ wr.drew
          go_wp2_with (fail)
          go_roundw
          case rel => exact ⟨k + 1, by omega, by go_num, by
            show Blk _ _ _ _
            rw [← Hv.out]; exact Hst.out, grown_trans hg7.out (grown_setCell _ _ _)⟩
          case measure => simp [intOf]; omega
        · have hk136 : Hid (k = 136) := by show k = 136; omega
          have hdk : decide ((k : Int) < 136) = false := by simp; omega
          have HA2 := Lib.hid (show Blk wr L 142 (arrK .u64 (abAcc sp blk 136)) by have := Hb.out; rw [hk136.out] at this; exact this)
          have hg3 := Lib.hid (grown_trans hg hg2)
          have HPr := Lib.hid (HP8.out.grown hg3.out (by simp; have := HLP.out; omega))
          have HTr := Lib.hid (HT8.out.grown hg3.out (by simp; have := HLP.out; omega))
          have HKr := Lib.hid (HK8.out.grown hg3.out (by simp; have := HLP.out; omega))
          have Hab := Lib.hid (show absorb sp blk = perm placeL turnL constL (abAcc sp blk 136) 24 from absorb_eq sp blk)
          have HC3 := Lib.hid (Cells.grown HC2.out hg2 (by intro b' off he; injection he with he; injection he with h1 h2; subst h1; have := hLp.out; simp; omega))
          clear Hb HC2
          have HD1 := Lib.hid (show bytesV (msg.drop (136 * (r + 1))) = (bytesV blk).drop 136 by rw [← bytesV_drop, ← Hblk.out, List.drop_drop, show 136 * (r + 1) = 136 * r + 136 by omega])
          by_cases hcc : c' = 136
          all_goals
            go_wp2_with (fail)
            refine (permute_any L w1.heap.size (w1.heap.size + 1) (w1.heap.size + 1 + 1) 142 137 137 138 (abAcc sp blk 136) placeL turnL constL wr HA2.out HPr.out HTr.out HKr.out (by have := HLP.out; omega) (by have := HLP.out; omega) (by have := HLP.out; omega) (by rw [abAcc_length, Hsp.out.2]) placeL_length turnL_length constL_length (abAcc_w Hsp.out.1 blk 136) constL_w placeL_small turnL_small).mono ?_
            rintro e w9 ⟨rfl, HL9, hg9⟩
            have HL9 := Lib.hid HL9
            have hg9 := Lib.hid hg9
            go_wp2_with (fail)
            go_roundw
            case rel => exact ⟨r + 1, q - 1, m - 136, _, _, by show _ = _; have := Hrq.out; omega, by show _ = _; have := Hmq.out; omega, rfl, by omega, by
                show ∀ b' off, _ → _
                intro b' off he
                injection he with he
                injection he with h1 h2
                subst h1
                exact hLp.out, by
                show Cells _ _ _
                rw [HD1.out]
                have hcg := Cells.grown HC3.out hg9.out (by intro b' off he; injection he with he; injection he with h1 h2; subst h1; have := hLp.out; simp; omega)
                first
                | exact hcg.drop_ 136
                | (refine .inl (List.drop_of_length_le ?_); rw [bytesV_length, Hbl.out]; omega), by
                show Blk _ _ _ _
                rw [Hnx.out, Hab.out]; exact HL9.out, grown_trans hg3.out hg9.out⟩
            case measure => simp [lenV]; omega
    · have hq0 : Hid (q = 0) := by show q = 0; omega
      have hdm : decide ((0 : Int) < (m : Int)) = false := by simp; have := Hmq.out; omega
      have hdm2 : decide (0 < m) = false := by simp; have := Hmq.out; omega
      have hrN : Hid (r = N) := by show r = N; have := Hrq.out; omega
      obtain ⟨fin, hfin⟩ : ∃ x, sponge msg N = x := ⟨_, rfl⟩
      have Hfin := Lib.hid (show AllW fin ∧ fin.length = 25 by rw [← hfin]; exact ⟨sponge_w _ _, sponge_length _ _⟩)
      have Hsha := Lib.hid (show outAcc fin 32 = sha b by rw [sha_eq, Hmsg.out, HN2.out, hfin])
      have HF := Lib.hid (show Blk wr L 142 (arrK .u64 fin) by have := HL'.out; rw [hrN.out, hfin] at this; exact this)
      have HRr := Lib.hid (HR8.out.grown hg (by simp; have := HRL.out; omega))
      have hBr := Lib.hid (below_grown hB08.out hg hB08.out.size (by simp; have := HRL.out; omega))
      clear hfin HL' HC'
      obtain ⟨wo, rfl⟩ : ∃ wo : World, wo = wr := ⟨_, rfl⟩
      go_wp2_with (fail)
      go_loopw [63] (fun i wr => ∃ k : Nat, k ≤ 32 ∧ i = .int .i64 k ∧ Hid (Blk wr w.heap.size 28 (arrK .u8 (outAcc fin k))) ∧ wo.grownBy wr (some w.heap.size)) (fun i _ => 32 - (intOf i).toNat)
      case atStart => exact ⟨0, by omega, rfl, by show Blk _ _ _ _; rw [outAcc_zero]; exact HRr.out, World.grownBy.refl _ _⟩
      case round =>
        obtain ⟨k, hk, rfl, Hb, hg2⟩ := hrel
        by_cases hlk : k < 32
        · have hdk : decide ((k : Int) < 32) = true := by simp; omega
          obtain ⟨q8, hq8⟩ : ∃ x, k / 8 = x := ⟨_, rfl⟩
          obtain ⟨m8, hm8⟩ : ∃ x, k % 8 = x := ⟨_, rfl⟩
          have e1 := (HF.out.grown hg2 (by simp; have := HRL.out; omega)).word (i := q8) (by rw [Hfin.out.2]; omega)
          have eb := Hb.out.word (i := k) (by rw [outAcc_length]; exact hlk)
          have f1 := Hb.out.frozen k
          have hv := outVal_eq fin k
          rw [hq8, hm8] at hv
          have Hst := Lib.hid (show Blk (wr.setCell ⟨w.heap.size, k, none⟩ (.int .u8 (outVal fin k : Nat))) w.heap.size 28 (arrK .u8 (outAcc fin (k + 1))) by
            rw [outAcc_succ]; exact Hb.out.put _ _)
          have hg3 := Lib.hid (show wo.grownBy (wr.setCell ⟨w.heap.size, k, none⟩ (.int .u8 (outVal fin k : Nat))) (some w.heap.size) from grown_trans hg2 (grown_setCell _ _ _))
          generalize outVal fin k = ov at *
          generalize fin.getD q8 0 = z at *
          generalize (outAcc fin k).getD k 0 = old at *
          have hsh := shr_w z (8 * m8)
          have hby : IntKind.u8.wrap ((z >>> (8 * m8) : Nat) : Int) = (ov : Int) := by rw [hv, IntKind.wrap_u8]; omega
          generalize z >>> (8 * m8) = sv at *
          have g1 : (k : Int).tdiv 8 = (q8 : Int) := by rw [Int.tdiv_eq_ediv_of_nonneg (by omega)]; omega
          have g2 : (k : Int).tmod 8 = (m8 : Int) := by rw [Int.tmod_eq_emod_of_nonneg (by omega)]; omega
          have g3 : (k : Int) / 8 = (q8 : Int) := by omega
          have g4 : (k : Int) % 8 = (m8 : Int) := by omega
          have g5 : (q8 : Int) < 25 := by omega
          have g6 : (m8 : Int) < 8 := by omega
          have g11 : (8 * (m8 : Int)).toNat = 8 * m8 := by omega
          clear hq8 hm8 hv
          go_wp2_with (fail)
          go_roundw
          case rel => exact ⟨k + 1, by omega, by go_num, Hst.out, hg3.out⟩
          case measure => simp [intOf]; omega
        · have hk32 : Hid (k = 32) := by show k = 32; omega
          have hdk : decide ((k : Int) < 32) = false := by simp; omega
          have HD := Lib.hid (show Blk wr w.heap.size 28 (arrK .u8 (sha b)) by have := Hb.out; rw [hk32.out, Hsha.out] at this; exact this)
          have hBf := below_grown hBr.out hg2 hBr.out.size (by simp)
          clear Hb
          go_wp2_with (first
            | (refine wpList_load_blk rfl 28 (.tmp 2) rfl w.heap.size rfl 28 (arrK .u8 (sha b)) (.array 32 5) HD.out (by kernel_rfl) rfl (by rw [arrK_size, sha_length]; kernel_rfl) ?_)
            | (refine wpList_store_same rfl 28 (.tmp 2) (.tmp 78) rfl w.heap.size (arrK .u8 (sha b)) rfl rfl 28 HD.out (by rw [arrK_size, sha_length]; kernel_rfl) (arrK_all _ _) ?_))
          exact ret_row rfl w.heap.size 28 (arrK .u8 (sha b)) (.array 32 5) rfl HD.out (by kernel_rfl) rfl (by rw [arrK_size, sha_length]; kernel_rfl) rfl ⟨rfl, hBf⟩
end Go.Proofs.Ytkflpoiobpblhaa
namespace Go.Proofs.Ytkflpoiobpblhaa
open Go.RowKit
section
variable {P : Program} {ops : Array Oper} {w : World} {rest : List Oper} {o : Oper} {a : Act}
end
theorem bytesV_nil : bytesV [] = [] := by unfold bytesV; rfl
end Go.Proofs.Ytkflpoiobpblhaa
namespace Go.Proofs.Ytkflpoiobpblhaa
open Go.RowKit
end Go.Proofs.Ytkflpoiobpblhaa
