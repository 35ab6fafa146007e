/- The walk of Grew's second inner function, which calls itself and the first through variables. -/
import Derived.Test.YtcijhakofoklcaaWTake
namespace Go.Proofs.Ytcijhakofoklcaa
open Go.RowKit
def TC (rc oc : Nat) : Value := .func (.func 67) #[] #[.pointer (some ⟨rc, 0, none⟩), .pointer (some ⟨oc, 0, none⟩)]
def BC (ac tc bc : Nat) : Value := .func (.func 68) #[] #[.pointer (some ⟨ac, 0, none⟩), .pointer (some ⟨tc, 0, none⟩), .pointer (some ⟨bc, 0, none⟩)]
set_option linter.unusedVariables false in
set_option linter.unusedSimpArgs false in
set_option maxRecDepth 100000 in
set_option maxHeartbeats 8000000 in
theorem both1_any : ∀ (m n : Nat) (wh : Bool) (a : List Nat) (rest : List (List Nat)) (ok : Bool) (w0 w : World) (ac rc oc tc bc : Nat), 1 ≤ n → n ≤ m → m ≤ 1099511627776 → IsD a → IsL rest → Below w0.heap.size w0 w → w0.heap.size ≤ rc → w0.heap.size ≤ oc → rc ≠ oc → (ac ≠ rc ∧ ac ≠ oc) → (tc ≠ rc ∧ tc ≠ oc) → (bc ≠ rc ∧ bc ≠ oc) →
    Blk w ac 37 (arrK .u8 a) → Blk w tc 81 #[TC rc oc] → Blk w bc 82 #[BC ac tc bc] → RestAt w0 rc oc (rest, ok) w →
    Calls Try.prog 68 #[.int .i64 n, .int .i64 m, .bool wh, .pointer (some ⟨ac, 0, none⟩), .pointer (some ⟨tc, 0, none⟩), .pointer (some ⟨bc, 0, none⟩)] w fun e w' =>
      e = .returned (.tuple #[.agg (arrK .u8 (bothP a n m wh (rest, ok)).1.1), .agg (arrK .u8 (bothP a n m wh (rest, ok)).1.2)]) ∧ RestAt w0 rc oc (bothP a n m wh (rest, ok)).2 w' ∧ Below w0.heap.size w0 w' ∧ Fr2 rc oc w w' := by
  intro m
  induction m using Nat.strongRecOn with
  | _ m ih =>
  intro n wh a rest ok w0 w ac rc oc tc bc hn1 hn hm ha hR hB hrc hoc hne hac htc hbc HA HT HK hS
  have hr1 : rc < w.heap.size := by obtain ⟨_, _, _, h, -⟩ := hS; exact h.lt
  have hr2 : oc < w.heap.size := by obtain ⟨_, _, _, -, -, -, -, h⟩ := hS; exact h.lt
  have hz := hB.size
  have ht1 := HT.lt
  have lz := Lib.hid z32_length
  by_cases h0 : n = m
  · cases wh
    · rw [bothP_part _ h0]
      have q1 : ((n : Int) == (m : Int)) = true := by simp; omega
      have q2 : (n == m) = true := by simp; omega
      have HTk := Lib.hid (fun W (hB : Below w0.heap.size w0 W) hS => take_any w0 W rc oc rest ok hR hB hrc hoc hne hS)
      have Dd0 := takeS_isD (s := (rest, ok)) hR
      obtain ⟨⟨d, s2⟩, ht⟩ : ∃ r, takeS (rest, ok) = r := ⟨_, rfl⟩
      rw [ht] at HTk Dd0 ⊢
      have Dd := Lib.hid Dd0
      replace hS := Lib.hid hS
      replace HT := Lib.hid HT
      replace hB := Lib.hid hB
      clear ih h0 ha hR HA HK ht Dd0
      go_enter Try.func68, Try.ntmps68
      go_upto_region 1 with (fail)
      generalize hge : World.alloc _ _ = w1
      have HX := Lib.hid (show Blk w1 w.heap.size 37 (arrK .u8 z32) by subst hge; exact (blk_two w (arrK .u8 z32) (arrK .u8 z32) 37 37).1)
      have HY := Lib.hid (show Blk w1 (w.heap.size + 1) 37 (arrK .u8 z32) by subst hge; exact (blk_two w (arrK .u8 z32) (arrK .u8 z32) 37 37).2)
      have HBw := Lib.hid (show Below w.heap.size w w1 by subst hge; exact ((Below.refl _ _).alloc (Nat.le_refl _) _).alloc (by simp) _)
      clear hge
      have HB := Lib.hid (hB.out.trans (HBw.out.mono hz))
      have HT1 := Lib.hid (HT.out.below HBw.out)
      have cT : w1.cell? ⟨tc, 0, none⟩ = some (Value.func (Fn.func 67) #[] #[.pointer (some ⟨rc, 0, none⟩), .pointer (some ⟨oc, 0, none⟩)]) := cellv1 HT1.out
      go_wp2_with (fail)
      refine (HTk.out _ HB.out (hS.out.fr HBw.out)).mono ?_
      rintro e w2 ⟨rfl, hR2, hB2, hF2⟩
      have HX2 := Lib.hid (HX.out.fr2 hF2 (by omega) (by omega))
      have HY2 := Lib.hid (HY.out.fr2 hF2 (by omega) (by omega))
      have HF2 := Lib.hid ((Fr2.of_below HBw.out).trans hF2)
      have HR2 := Lib.hid hR2
      have HB2 := Lib.hid hB2
      have hz2 : w.heap.size + 1 < w2.heap.size := HY2.out.lt
      clear hR2 hB2 hF2 HT1 HTk hS HT
      go_wp2_with (
        (refine wpList_put_blk rfl 37 (.tmp 11) (.tmp 21) rfl w2.heap.size (arrK .u8 d) rfl rfl 37 (arrK .u8 z32) (Blk.new w2 37 (arrK .u8 z32)) (info32 Dd.out.1) (by rw [len32 Dd.out.1, len32 lz.out]) (arrK_all _ _) ?_
         intro w3 HD3 hg3 hz3
         have hb3 : Below w2.heap.size w2 w3 := below_grown ((Below.refl w2.heap.size w2).alloc (Nat.le_refl _) (.cells (arrK .u8 z32) 37)) hg3 (by simp) (by simp)
         have HD3 := Lib.hid HD3
         have HX3 := Lib.hid (HX2.out.below hb3)
         have HY3 := Lib.hid (HY2.out.below hb3)
         have HR3 := Lib.hid (HR2.out.fr hb3)
         have HF3 := Lib.hid (HF2.out.trans (Fr2.of_below hb3))
         have HB3 := Lib.hid (HB2.out.trans (hb3.mono HB2.out.size))
         clear hg3 hz3 hb3))
      obtain ⟨G, hG⟩ : ∃ G, w2.heap.size = G := ⟨_, rfl⟩
      rw [hG] at HD3 hz2
      rw [hG]
      clear hG HX2 HY2 HR2 HF2 HB2
      refine wp_region_held_drew (S := fun W => Below w0.heap.size w0 W ∧ Blk W G 37 (arrK .u8 d)) (by kernel_rfl) (⟨below_drewN HB3.out 1, HD3.out⟩) (fun Hd => ?_)
      have Hd : Below w0.heap.size w0 w3.drew := below_drewN HB3.out 1
      have Zd : w0.heap.size ≤ w3.drew.heap.size := HB3.out.size
      have fX : Blk w3.drew (w.heap.size) 37 (arrK .u8 z32) := HX3.out
      have fY : Blk w3.drew (w.heap.size + 1) 37 (arrK .u8 z32) := HY3.out
      have fD : Blk w3.drew (G) 37 (arrK .u8 d) := HD3.out
      have fR : RestAt w0 rc oc s2 w3.drew := HR3.out.fr (below_drewN (Below.refl _ _) 1)
      have fF : Fr2 rc oc w w3.drew := HF3.out.trans (Fr2.of_below (below_drewN (Below.refl _ _) 1))
      generalize World.drew w3 = wd at *
      refine wpAnyH_take (i := 0) (v := .agg (arrK .u8 d)) rfl (by kernel_rfl) (by kernel_rfl) (by kernel_rfl) (fun _ _ _ h => h) (yields_load_blk (by rfl) _ _ rfl (G) rfl 37 (arrK .u8 d) (.array 32 5) (fun W hW => hW.2) (by kernel_rfl) rfl (info32 Dd.out.1)) ⟨Hd, fD⟩ ?_
      try simp only [List.getElem_toArray, List.getElem_cons_zero, List.getElem_cons_succ, Act.put, List.setIfInBounds_toArray, List.set_cons_zero, List.set_cons_succ]
      refine wpAnyH_take (i := 1) (v := .agg (arrK .u8 d)) rfl (by kernel_rfl) (by kernel_rfl) (by kernel_rfl) (fun _ _ _ h => h) (yields_load_blk (by rfl) _ _ rfl (G) rfl 37 (arrK .u8 d) (.array 32 5) (fun W hW => hW.2) (by kernel_rfl) rfl (info32 Dd.out.1)) ⟨Hd, fD⟩ ?_
      try simp only [List.getElem_toArray, List.getElem_cons_zero, List.getElem_cons_succ, Act.put, List.setIfInBounds_toArray, List.set_cons_zero, List.set_cons_succ]
      refine wpAnyH_ready (rs := [2]) (by kernel_rfl) (by simp) (AllReadyH.cons rfl (fun K hK => ?_) AllReadyH.nil)
      refine step_put_blk (by rfl) _ _ _ (by rfl) (w.heap.size) (arrK .u8 (d)) (by rfl) (by rfl) _ _ fX (info32 Dd.out.1) (by first | rw [len32 Dd.out.1, len32 lz.out] | rw [len32 Dd.out.1]) (arrK_all _ _) ?_
      intro w1_ fX1 hg1 hz1
      have fY1 := fY.grown hg1 (by simp)
      have fD1 := fD.grown hg1 (fun e => by cases e; omega)
      have fR1 := fR.grown hg1 (by omega) (by omega)
      have fF1 : Fr2 rc oc w w1_ := fF.own hg1 (by omega)
      have Hb1 : Below w0.heap.size w0 w1_ := below_grown Hd hg1 Hd.size (fun k hk => by cases hk; omega)
      have Zb1 : w0.heap.size ≤ w1_.heap.size := Hb1.size
      refine hK.out _ _ ⟨Hb1, fD1⟩ fun _ => ?_
      clear hK K
      try simp only [List.getElem_toArray, List.getElem_cons_zero, List.getElem_cons_succ, Act.put, List.setIfInBounds_toArray, List.set_cons_zero, List.set_cons_succ]
      refine wpAnyH_ready (rs := [3]) (by kernel_rfl) (by simp) (AllReadyH.cons rfl (fun K hK => ?_) AllReadyH.nil)
      refine step_put_blk (by rfl) _ _ _ (by rfl) (w.heap.size + 1) (arrK .u8 (d)) (by rfl) (by rfl) _ _ fY1 (info32 Dd.out.1) (by first | rw [len32 Dd.out.1, len32 lz.out] | rw [len32 Dd.out.1]) (arrK_all _ _) ?_
      intro w2_ fY2 hg2 hz2
      have fX2 := fX1.grown hg2 (by simp)
      have fD2 := fD1.grown hg2 (fun e => by cases e; omega)
      have fR2 := fR1.grown hg2 (by omega) (by omega)
      have fF2 : Fr2 rc oc w w2_ := fF1.own hg2 (by omega)
      have Hb2 : Below w0.heap.size w0 w2_ := below_grown Hb1 hg2 Hb1.size (fun k hk => by cases hk; omega)
      have Zb2 : w0.heap.size ≤ w2_.heap.size := Hb2.size
      refine hK.out _ _ ⟨Hb2, fD2⟩ fun _ => ?_
      clear hK K
      try simp only [List.getElem_toArray, List.getElem_cons_zero, List.getElem_cons_succ, Act.put, List.setIfInBounds_toArray, List.set_cons_zero, List.set_cons_succ]
      refine wpAnyH_done (by kernel_rfl) ?_ _
      go_wp2_with (fail)
      exact ret_rows2 rfl (w.heap.size) (w.heap.size + 1) 37 37 (arrK .u8 (d)) (arrK .u8 (d)) (.array 32 5) rfl rfl fX2 fY2 (by kernel_rfl) rfl (info32 Dd.out.1) (info32 Dd.out.1) rfl ⟨rfl, fR2, Hb2, fF2⟩
    · rw [bothP_whole _ h0]
      subst h0
      refine (both_whole n a ac tc bc w ha HA).mono ?_
      rintro e w' ⟨rfl, hb⟩
      exact ⟨rfl, hS.fr hb, hB.trans (hb.mono hz), Fr2.of_below hb⟩
  · have q1 : ((n : Int) == (m : Int)) = false := by simp; omega
    have q2 : (n == m) = false := by simp; omega
    have h2 : 2 ≤ m := by omega
    have hk1 := half_lt h2
    have hk2 := half_pos m
    have HH := Lib.hid (fun W => half_any m W h2 (by omega))
    have dlo := Lib.hid (fun h => bothP_lo (a := a) (n := n) wh (rest, ok) h0 h2 h)
    have dhi := Lib.hid (fun h => bothP_hi (a := a) (n := n) wh (rest, ok) h0 h2 h)
    generalize halfN m = k at *
    by_cases hk : n ≤ k
    · have hdk : decide ((n : Int) ≤ (k : Int)) = true := by simp; omega
      have hdk2 : decide (n ≤ k) = true := by simp; omega
      rw [dlo.out hk]
      have P := Lib.hid (fun W hB hA hT hK hS => ih k hk1 n wh a rest ok w0 W ac rc oc tc bc hn1 hk (by omega) ha hR hB hrc hoc hne hac htc hbc hA hT hK hS)
      obtain ⟨Dx0, Dy0, L10⟩ := bothP_isD k n wh a (rest, ok) ha hR
      obtain ⟨⟨⟨x, y⟩, rest1, ok1⟩, hbp⟩ : ∃ r, bothP a n k wh (rest, ok) = r := ⟨_, rfl⟩
      rw [hbp] at P Dx0 Dy0 L10 ⊢
      simp only [] at P Dx0 Dy0 L10 ⊢
      have HTk := Lib.hid (fun W (hB : Below w0.heap.size w0 W) hS => take_any w0 W rc oc rest1 ok1 L10 hB hrc hoc hne hS)
      have Dd0 := takeS_isD (s := (rest1, ok1)) L10
      obtain ⟨⟨d, s2⟩, ht⟩ : ∃ r, takeS (rest1, ok1) = r := ⟨_, rfl⟩
      rw [ht] at HTk Dd0 ⊢
      simp only [] at HTk Dd0 ⊢
      have Dd := Lib.hid Dd0
      have Dx := Lib.hid Dx0
      have Dy := Lib.hid Dy0
      replace hS := Lib.hid hS
      replace HT := Lib.hid HT
      replace hB := Lib.hid hB
      replace HA := Lib.hid HA
      replace HK := Lib.hid HK
      clear dlo dhi h0 hbp ih ha hR ht Dx0 Dy0 L10 Dd0
      go_enter Try.func68, Try.ntmps68
      go_upto_region 1 with (fail)
      generalize hge : World.alloc _ _ = w1
      have HX := Lib.hid (show Blk w1 w.heap.size 37 (arrK .u8 z32) by subst hge; exact (blk_two w (arrK .u8 z32) (arrK .u8 z32) 37 37).1)
      have HY := Lib.hid (show Blk w1 (w.heap.size + 1) 37 (arrK .u8 z32) by subst hge; exact (blk_two w (arrK .u8 z32) (arrK .u8 z32) 37 37).2)
      have HBw := Lib.hid (show Below w.heap.size w w1 by subst hge; exact ((Below.refl _ _).alloc (Nat.le_refl _) _).alloc (by simp) _)
      clear hge
      have HB := Lib.hid (hB.out.trans (HBw.out.mono hz))
      have HT1 := Lib.hid (HT.out.below HBw.out)
      have cT : w1.cell? ⟨tc, 0, none⟩ = some (Value.func (Fn.func 67) #[] #[.pointer (some ⟨rc, 0, none⟩), .pointer (some ⟨oc, 0, none⟩)]) := cellv1 HT1.out
      have cK : w1.cell? ⟨bc, 0, none⟩ = some (Value.func (Fn.func 68) #[] #[.pointer (some ⟨ac, 0, none⟩), .pointer (some ⟨tc, 0, none⟩), .pointer (some ⟨bc, 0, none⟩)]) := cellv1 (HK.out.below HBw.out)
      go_wp2_with (fail)
      refine (HH.out _).mono ?_
      rintro e w' ⟨rfl, rfl⟩
      go_wp2_with (fail)
      refine (P.out _ HB.out (HA.out.below HBw.out) HT1.out (HK.out.below HBw.out) (hS.out.fr HBw.out)).mono ?_
      rintro e w2 ⟨rfl, hR2, hB2, hF2⟩
      have HX2 := Lib.hid (HX.out.fr2 hF2 (by omega) (by omega))
      have HY2 := Lib.hid (HY.out.fr2 hF2 (by omega) (by omega))
      have HT2 := Lib.hid (HT1.out.fr2 hF2 htc.1 htc.2)
      have HF2 := Lib.hid ((Fr2.of_below HBw.out).trans hF2)
      have HR2 := Lib.hid hR2
      have HB2 := Lib.hid hB2
      clear hR2 hB2 hF2 HT1 hS HT P HX HY cT cK HA HK HB HBw
      go_wp2_with (first
        | (refine wpList_put_blk rfl 37 (.tmp 10) (.tmp 36) rfl (w.heap.size + 1) (arrK .u8 y) rfl rfl 37 (arrK .u8 z32) HY3.out (info32 Dy.out.1) (by rw [len32 Dy.out.1, len32 lz.out]) (arrK_all _ _) ?_
           intro w4 HY4 hg4 hz4
           have HY4 := Lib.hid HY4
           have HX4 := Lib.hid (HX3.out.grown hg4 (by simp))
           have HT4 := Lib.hid (HT3.out.grown hg4 (fun e => by cases e; omega))
           have HR4 := Lib.hid (HR3.out.grown hg4 (by omega) (by omega))
           have HF4 := Lib.hid (HF3.out.own hg4 (Nat.le_succ _))
           have HB4 := Lib.hid (show Below w0.heap.size w0 w4 from below_grown HB3.out hg4 HB3.out.size (fun k hk => by cases hk; omega))
           have cT4 : w4.cell? ⟨tc, 0, none⟩ = some (Value.func (Fn.func 67) #[] #[.pointer (some ⟨rc, 0, none⟩), .pointer (some ⟨oc, 0, none⟩)]) := cellv1 HT4.out
           clear hg4 hz4 HX3 HY3 HT3 HR3 HF3 HB3)
        | (refine wpList_put_blk rfl 37 (.tmp 9) (.tmp 35) rfl w.heap.size (arrK .u8 x) rfl rfl 37 (arrK .u8 z32) HX2.out (info32 Dx.out.1) (by rw [len32 Dx.out.1, len32 lz.out]) (arrK_all _ _) ?_
           intro w3 HX3 hg3 hz3
           have HX3 := Lib.hid HX3
           have HY3 := Lib.hid (HY2.out.grown hg3 (by simp))
           have HT3 := Lib.hid (HT2.out.grown hg3 (fun e => by cases e; omega))
           have HR3 := Lib.hid (HR2.out.grown hg3 (by omega) (by omega))
           have HF3 := Lib.hid (HF2.out.own hg3 (Nat.le_refl _))
           have HB3 := Lib.hid (show Below w0.heap.size w0 w3 from below_grown HB2.out hg3 HB2.out.size (fun k hk => by cases hk; exact hz))
           clear hg3 hz3 HX2 HY2 HT2 HR2 HF2 HB2))
      have HN1 := Lib.hid (fun W => node_any y d W Dy.out Dd.out)
      clear cT4
      refine wp_region_held_drew (S := fun W => Below w0.heap.size w0 W ∧ Blk W (w.heap.size) 37 (arrK .u8 x) ∧ Blk W tc 81 #[TC rc oc]) (by kernel_rfl) (⟨below_drewN HB4.out 1, HX4.out, HT4.out⟩) (fun Hd => ?_)
      have Hd : Below w0.heap.size w0 w4.drew := below_drewN HB4.out 1
      have Zd : w0.heap.size ≤ w4.drew.heap.size := HB4.out.size
      have fX : Blk w4.drew (w.heap.size) 37 (arrK .u8 x) := HX4.out
      have fY : Blk w4.drew (w.heap.size + 1) 37 (arrK .u8 y) := HY4.out
      have fT : Blk w4.drew tc 81 #[TC rc oc] := HT4.out
      have fR : RestAt w0 rc oc (rest1, ok1) w4.drew := HR4.out.fr (below_drewN (Below.refl _ _) 1)
      have fF : Fr2 rc oc w w4.drew := HF4.out.trans (Fr2.of_below (below_drewN (Below.refl _ _) 1))
      generalize World.drew w4 = wd at *
      refine wpAnyH_take (i := 0) (v := .agg (arrK .u8 x)) rfl (by kernel_rfl) (by kernel_rfl) (by kernel_rfl) (fun _ _ _ h => h) (yields_load_blk (by rfl) _ _ rfl (w.heap.size) rfl 37 (arrK .u8 x) (.array 32 5) (fun W hW => hW.2.1) (by kernel_rfl) rfl (info32 Dx.out.1)) ⟨Hd, fX, fT⟩ ?_
      try simp only [List.getElem_toArray, List.getElem_cons_zero, List.getElem_cons_succ, Act.put, List.setIfInBounds_toArray, List.set_cons_zero, List.set_cons_succ]
      refine wpAnyH_take (i := 2) (v := ?_) rfl (by kernel_rfl) (by kernel_rfl) (by kernel_rfl) (fun _ _ _ h => h) (Or.inl ⟨by rfl, ?_⟩) ⟨Hd, fX, fT⟩ ?_
      rotate_left
      · intro wS hSw
        have cT : wS.cell? ⟨tc, 0, none⟩ = some (Value.func (Fn.func 67) #[] #[.pointer (some ⟨rc, 0, none⟩), .pointer (some ⟨oc, 0, none⟩)]) := cellv1 hSw.2.2
        go_simp
        try with_reducible rfl
      try simp only [List.getElem_toArray, List.getElem_cons_zero, List.getElem_cons_succ, Act.put, List.setIfInBounds_toArray, List.set_cons_zero, List.set_cons_succ]
      refine wpAnyH_ready (rs := [1, 3]) (by kernel_rfl) (by simp) (AllReadyH.cons rfl (fun K hK => ?_) (AllReadyH.cons rfl (fun K hK => ?_) AllReadyH.nil))
      · refine step_load_blk (by rfl) _ _ (by rfl) (w.heap.size + 1) (by rfl) _ (arrK .u8 (y)) (.array 32 5) fY (by kernel_rfl) rfl (info32 Dy.out.1) ?_
        refine hK.out _ _ ⟨Hd, fX, fT⟩ fun _ => ?_
        clear hK K
        try simp only [List.getElem_toArray, List.getElem_cons_zero, List.getElem_cons_succ, Act.put, List.setIfInBounds_toArray, List.set_cons_zero, List.set_cons_succ]
        refine wpAnyH_ready (rs := [3]) (by kernel_rfl) (by simp) (AllReadyH.cons rfl (fun K hK => ?_) AllReadyH.nil)
        go_simp
        refine (HTk.out _ Hd fR).mono ?_
        rintro e w1_ ⟨rfl, fR1, Hb1, hF1⟩
        have fX1 := fX.fr2 hF1 (by omega) (by omega)
        have fY1 := fY.fr2 hF1 (by omega) (by omega)
        have fT1 := fT.fr2 hF1 htc.1 htc.2
        have fF1 := fF.trans hF1
        have Zb1 : w0.heap.size ≤ w1_.heap.size := Hb1.size
        go_wp2_with (fail)
        refine hK.out _ _ ⟨Hb1, fX1, fT1⟩ fun _ => ?_
        clear hK K
        try simp only [List.getElem_toArray, List.getElem_cons_zero, List.getElem_cons_succ, Act.put, List.setIfInBounds_toArray, List.set_cons_zero, List.set_cons_succ]
        refine wpAnyH_ready (rs := [4]) (by kernel_rfl) (by simp) (AllReadyH.cons rfl (fun K hK => ?_) AllReadyH.nil)
        go_simp
        refine (HN1.out _).mono ?_
        rintro e w2_ ⟨rfl, hb2⟩
        have fX2 := fX1.below hb2
        have fY2 := fY1.below hb2
        have fT2 := fT1.below hb2
        have fR2 := fR1.fr hb2
        have fF2 := fF1.trans (Fr2.of_below hb2)
        have Hb2 : Below w0.heap.size w0 w2_ := below_of Hb1 hb2 Hb1.size
        have Zb2 : w0.heap.size ≤ w2_.heap.size := Hb2.size
        go_wp2_with (fail)
        refine hK.out _ _ ⟨Hb2, fX2, fT2⟩ fun _ => ?_
        clear hK K
        try simp only [List.getElem_toArray, List.getElem_cons_zero, List.getElem_cons_succ, Act.put, List.setIfInBounds_toArray, List.set_cons_zero, List.set_cons_succ]
        refine wpAnyH_ready (rs := [5]) (by kernel_rfl) (by simp) (AllReadyH.cons rfl (fun K hK => ?_) AllReadyH.nil)
        refine step_put_blk (by rfl) _ _ _ (by rfl) (w.heap.size) (arrK .u8 (x)) (by rfl) (by rfl) _ _ fX2 (info32 Dx.out.1) (by first | rw [len32 Dx.out.1, len32 Dx.out.1] | rw [len32 Dx.out.1]) (arrK_all _ _) ?_
        intro w3_ fX3 hg3 hz3
        have fY3 := fY2.grown hg3 (by simp)
        have fT3 := fT2.grown hg3 (fun e => by cases e; omega)
        have fR3 := fR2.grown hg3 (by omega) (by omega)
        have fF3 : Fr2 rc oc w w3_ := fF2.own hg3 (by omega)
        have Hb3 : Below w0.heap.size w0 w3_ := below_grown Hb2 hg3 Hb2.size (fun k hk => by cases hk; omega)
        have Zb3 : w0.heap.size ≤ w3_.heap.size := Hb3.size
        refine hK.out _ _ ⟨Hb3, fX3, fT3⟩ fun _ => ?_
        clear hK K
        try simp only [List.getElem_toArray, List.getElem_cons_zero, List.getElem_cons_succ, Act.put, List.setIfInBounds_toArray, List.set_cons_zero, List.set_cons_succ]
        refine wpAnyH_ready (rs := [6]) (by kernel_rfl) (by simp) (AllReadyH.cons rfl (fun K hK => ?_) AllReadyH.nil)
        refine step_put_blk (by rfl) _ _ _ (by rfl) (w.heap.size + 1) (arrK .u8 (nodeS y d)) (by rfl) (by rfl) _ _ fY3 (info32 (nodeS_isD y d).1) (by first | rw [len32 (nodeS_isD y d).1, len32 Dy.out.1] | rw [len32 (nodeS_isD y d).1]) (arrK_all _ _) ?_
        intro w4_ fY4 hg4 hz4
        have fX4 := fX3.grown hg4 (by simp)
        have fT4 := fT3.grown hg4 (fun e => by cases e; omega)
        have fR4 := fR3.grown hg4 (by omega) (by omega)
        have fF4 : Fr2 rc oc w w4_ := fF3.own hg4 (by omega)
        have Hb4 : Below w0.heap.size w0 w4_ := below_grown Hb3 hg4 Hb3.size (fun k hk => by cases hk; omega)
        have Zb4 : w0.heap.size ≤ w4_.heap.size := Hb4.size
        refine hK.out _ _ ⟨Hb4, fX4, fT4⟩ fun _ => ?_
        clear hK K
        try simp only [List.getElem_toArray, List.getElem_cons_zero, List.getElem_cons_succ, Act.put, List.setIfInBounds_toArray, List.set_cons_zero, List.set_cons_succ]
        refine wpAnyH_done (by kernel_rfl) ?_ _
        go_wp2_with (fail)
        exact ret_rows2 rfl (w.heap.size) (w.heap.size + 1) 37 37 (arrK .u8 (x)) (arrK .u8 (nodeS y d)) (.array 32 5) rfl rfl fX4 fY4 (by kernel_rfl) rfl (info32 Dx.out.1) (info32 (nodeS_isD y d).1) rfl ⟨rfl, fR4, Hb4, fF4⟩
      · go_simp
        refine (HTk.out _ Hd fR).mono ?_
        rintro e w1_ ⟨rfl, fR1, Hb1, hF1⟩
        have fX1 := fX.fr2 hF1 (by omega) (by omega)
        have fY1 := fY.fr2 hF1 (by omega) (by omega)
        have fT1 := fT.fr2 hF1 htc.1 htc.2
        have fF1 := fF.trans hF1
        have Zb1 : w0.heap.size ≤ w1_.heap.size := Hb1.size
        go_wp2_with (fail)
        refine hK.out _ _ ⟨Hb1, fX1, fT1⟩ fun _ => ?_
        clear hK K
        try simp only [List.getElem_toArray, List.getElem_cons_zero, List.getElem_cons_succ, Act.put, List.setIfInBounds_toArray, List.set_cons_zero, List.set_cons_succ]
        refine wpAnyH_ready (rs := [1]) (by kernel_rfl) (by simp) (AllReadyH.cons rfl (fun K hK => ?_) AllReadyH.nil)
        refine step_load_blk (by rfl) _ _ (by rfl) (w.heap.size + 1) (by rfl) _ (arrK .u8 (y)) (.array 32 5) fY1 (by kernel_rfl) rfl (info32 Dy.out.1) ?_
        refine hK.out _ _ ⟨Hb1, fX1, fT1⟩ fun _ => ?_
        clear hK K
        try simp only [List.getElem_toArray, List.getElem_cons_zero, List.getElem_cons_succ, Act.put, List.setIfInBounds_toArray, List.set_cons_zero, List.set_cons_succ]
        refine wpAnyH_ready (rs := [4]) (by kernel_rfl) (by simp) (AllReadyH.cons rfl (fun K hK => ?_) AllReadyH.nil)
        go_simp
        refine (HN1.out _).mono ?_
        rintro e w2_ ⟨rfl, hb2⟩
        have fX2 := fX1.below hb2
        have fY2 := fY1.below hb2
        have fT2 := fT1.below hb2
        have fR2 := fR1.fr hb2
        have fF2 := fF1.trans (Fr2.of_below hb2)
        have Hb2 : Below w0.heap.size w0 w2_ := below_of Hb1 hb2 Hb1.size
        have Zb2 : w0.heap.size ≤ w2_.heap.size := Hb2.size
        go_wp2_with (fail)
        refine hK.out _ _ ⟨Hb2, fX2, fT2⟩ fun _ => ?_
        clear hK K
        try simp only [List.getElem_toArray, List.getElem_cons_zero, List.getElem_cons_succ, Act.put, List.setIfInBounds_toArray, List.set_cons_zero, List.set_cons_succ]
        refine wpAnyH_ready (rs := [5]) (by kernel_rfl) (by simp) (AllReadyH.cons rfl (fun K hK => ?_) AllReadyH.nil)
        refine step_put_blk (by rfl) _ _ _ (by rfl) (w.heap.size) (arrK .u8 (x)) (by rfl) (by rfl) _ _ fX2 (info32 Dx.out.1) (by first | rw [len32 Dx.out.1, len32 Dx.out.1] | rw [len32 Dx.out.1]) (arrK_all _ _) ?_
        intro w3_ fX3 hg3 hz3
        have fY3 := fY2.grown hg3 (by simp)
        have fT3 := fT2.grown hg3 (fun e => by cases e; omega)
        have fR3 := fR2.grown hg3 (by omega) (by omega)
        have fF3 : Fr2 rc oc w w3_ := fF2.own hg3 (by omega)
        have Hb3 : Below w0.heap.size w0 w3_ := below_grown Hb2 hg3 Hb2.size (fun k hk => by cases hk; omega)
        have Zb3 : w0.heap.size ≤ w3_.heap.size := Hb3.size
        refine hK.out _ _ ⟨Hb3, fX3, fT3⟩ fun _ => ?_
        clear hK K
        try simp only [List.getElem_toArray, List.getElem_cons_zero, List.getElem_cons_succ, Act.put, List.setIfInBounds_toArray, List.set_cons_zero, List.set_cons_succ]
        refine wpAnyH_ready (rs := [6]) (by kernel_rfl) (by simp) (AllReadyH.cons rfl (fun K hK => ?_) AllReadyH.nil)
        refine step_put_blk (by rfl) _ _ _ (by rfl) (w.heap.size + 1) (arrK .u8 (nodeS y d)) (by rfl) (by rfl) _ _ fY3 (info32 (nodeS_isD y d).1) (by first | rw [len32 (nodeS_isD y d).1, len32 Dy.out.1] | rw [len32 (nodeS_isD y d).1]) (arrK_all _ _) ?_
        intro w4_ fY4 hg4 hz4
        have fX4 := fX3.grown hg4 (by simp)
        have fT4 := fT3.grown hg4 (fun e => by cases e; omega)
        have fR4 := fR3.grown hg4 (by omega) (by omega)
        have fF4 : Fr2 rc oc w w4_ := fF3.own hg4 (by omega)
        have Hb4 : Below w0.heap.size w0 w4_ := below_grown Hb3 hg4 Hb3.size (fun k hk => by cases hk; omega)
        have Zb4 : w0.heap.size ≤ w4_.heap.size := Hb4.size
        refine hK.out _ _ ⟨Hb4, fX4, fT4⟩ fun _ => ?_
        clear hK K
        try simp only [List.getElem_toArray, List.getElem_cons_zero, List.getElem_cons_succ, Act.put, List.setIfInBounds_toArray, List.set_cons_zero, List.set_cons_succ]
        refine wpAnyH_done (by kernel_rfl) ?_ _
        go_wp2_with (fail)
        exact ret_rows2 rfl (w.heap.size) (w.heap.size + 1) 37 37 (arrK .u8 (x)) (arrK .u8 (nodeS y d)) (.array 32 5) rfl rfl fX4 fY4 (by kernel_rfl) rfl (info32 Dx.out.1) (info32 (nodeS_isD y d).1) rfl ⟨rfl, fR4, Hb4, fF4⟩
    · have hdk : decide ((n : Int) ≤ (k : Int)) = false := by simp; omega
      have hdk2 : decide (n ≤ k) = false := by simp; omega
      rw [dhi.out hk]
      have P := Lib.hid (fun W hB hA hT hK hS => ih (m - k) (by omega) (n - k) false a rest ok w0 W ac rc oc tc bc (by omega) (by omega) (by omega) ha hR hB hrc hoc hne hac htc hbc hA hT hK hS)
      obtain ⟨Dx0, Dy0, L10⟩ := bothP_isD (m - k) (n - k) false a (rest, ok) ha hR
      obtain ⟨⟨⟨x, y⟩, rest1, ok1⟩, hbp⟩ : ∃ r, bothP a (n - k) (m - k) false (rest, ok) = r := ⟨_, rfl⟩
      rw [hbp] at P Dx0 Dy0 L10 ⊢
      simp only [] at P Dx0 Dy0 L10 ⊢
      have s3 : (n : Int) - (k : Int) = ((n - k : Nat) : Int) := by omega
      have s4 : IntKind.i64.wrap ((n - k : Nat) : Int) = ((n - k : Nat) : Int) := IntWalk.i64_in _ (by omega)
      have s5 : (m : Int) - (k : Int) = ((m - k : Nat) : Int) := by omega
      have s6 : IntKind.i64.wrap ((m - k : Nat) : Int) = ((m - k : Nat) : Int) := IntWalk.i64_in _ (by omega)
      have HTk := Lib.hid (fun W (hB : Below w0.heap.size w0 W) hS => take_any w0 W rc oc rest1 ok1 L10 hB hrc hoc hne hS)
      have Dd0 := takeS_isD (s := (rest1, ok1)) L10
      obtain ⟨⟨d, s2⟩, ht⟩ : ∃ r, takeS (rest1, ok1) = r := ⟨_, rfl⟩
      rw [ht] at HTk Dd0 ⊢
      simp only [] at HTk Dd0 ⊢
      have Dd := Lib.hid Dd0
      have Dx := Lib.hid Dx0
      have Dy := Lib.hid Dy0
      replace hS := Lib.hid hS
      replace HT := Lib.hid HT
      replace hB := Lib.hid hB
      replace HA := Lib.hid HA
      replace HK := Lib.hid HK
      clear dlo dhi h0 hbp ih ha hR ht Dx0 Dy0 L10 Dd0
      go_enter Try.func68, Try.ntmps68
      go_upto_region 1 with (fail)
      generalize hge : World.alloc _ _ = w1
      have HX := Lib.hid (show Blk w1 w.heap.size 37 (arrK .u8 z32) by subst hge; exact (blk_two w (arrK .u8 z32) (arrK .u8 z32) 37 37).1)
      have HY := Lib.hid (show Blk w1 (w.heap.size + 1) 37 (arrK .u8 z32) by subst hge; exact (blk_two w (arrK .u8 z32) (arrK .u8 z32) 37 37).2)
      have HBw := Lib.hid (show Below w.heap.size w w1 by subst hge; exact ((Below.refl _ _).alloc (Nat.le_refl _) _).alloc (by simp) _)
      clear hge
      have HB := Lib.hid (hB.out.trans (HBw.out.mono hz))
      have HT1 := Lib.hid (HT.out.below HBw.out)
      have cT : w1.cell? ⟨tc, 0, none⟩ = some (Value.func (Fn.func 67) #[] #[.pointer (some ⟨rc, 0, none⟩), .pointer (some ⟨oc, 0, none⟩)]) := cellv1 HT1.out
      have cK : w1.cell? ⟨bc, 0, none⟩ = some (Value.func (Fn.func 68) #[] #[.pointer (some ⟨ac, 0, none⟩), .pointer (some ⟨tc, 0, none⟩), .pointer (some ⟨bc, 0, none⟩)]) := cellv1 (HK.out.below HBw.out)
      go_wp2_with (fail)
      refine (HH.out _).mono ?_
      rintro e w' ⟨rfl, rfl⟩
      go_wp2_with (fail)
      refine (P.out _ HB.out (HA.out.below HBw.out) HT1.out (HK.out.below HBw.out) (hS.out.fr HBw.out)).mono ?_
      rintro e w2 ⟨rfl, hR2, hB2, hF2⟩
      have HX2 := Lib.hid (HX.out.fr2 hF2 (by omega) (by omega))
      have HY2 := Lib.hid (HY.out.fr2 hF2 (by omega) (by omega))
      have HT2 := Lib.hid (HT1.out.fr2 hF2 htc.1 htc.2)
      have HF2 := Lib.hid ((Fr2.of_below HBw.out).trans hF2)
      have HR2 := Lib.hid hR2
      have HB2 := Lib.hid hB2
      clear hR2 hB2 hF2 HT1 hS HT P HX HY cT cK HA HK HB HBw
      go_wp2_with (first
        | (refine wpList_put_blk rfl 37 (.tmp 10) (.tmp 52) rfl (w.heap.size + 1) (arrK .u8 y) rfl rfl 37 (arrK .u8 z32) HY3.out (info32 Dy.out.1) (by rw [len32 Dy.out.1, len32 lz.out]) (arrK_all _ _) ?_
           intro w4 HY4 hg4 hz4
           have HY4 := Lib.hid HY4
           have HX4 := Lib.hid (HX3.out.grown hg4 (by simp))
           have HT4 := Lib.hid (HT3.out.grown hg4 (fun e => by cases e; omega))
           have HR4 := Lib.hid (HR3.out.grown hg4 (by omega) (by omega))
           have HF4 := Lib.hid (HF3.out.own hg4 (Nat.le_succ _))
           have HB4 := Lib.hid (show Below w0.heap.size w0 w4 from below_grown HB3.out hg4 HB3.out.size (fun k hk => by cases hk; omega))
           have cT4 : w4.cell? ⟨tc, 0, none⟩ = some (Value.func (Fn.func 67) #[] #[.pointer (some ⟨rc, 0, none⟩), .pointer (some ⟨oc, 0, none⟩)]) := cellv1 HT4.out
           clear hg4 hz4 HX3 HY3 HT3 HR3 HF3 HB3)
        | (refine wpList_put_blk rfl 37 (.tmp 9) (.tmp 51) rfl w.heap.size (arrK .u8 x) rfl rfl 37 (arrK .u8 z32) HX2.out (info32 Dx.out.1) (by rw [len32 Dx.out.1, len32 lz.out]) (arrK_all _ _) ?_
           intro w3 HX3 hg3 hz3
           have HX3 := Lib.hid HX3
           have HY3 := Lib.hid (HY2.out.grown hg3 (by simp))
           have HT3 := Lib.hid (HT2.out.grown hg3 (fun e => by cases e; omega))
           have HR3 := Lib.hid (HR2.out.grown hg3 (by omega) (by omega))
           have HF3 := Lib.hid (HF2.out.own hg3 (Nat.le_refl _))
           have HB3 := Lib.hid (show Below w0.heap.size w0 w3 from below_grown HB2.out hg3 HB2.out.size (fun k hk => by cases hk; exact hz))
           clear hg3 hz3 HX2 HY2 HT2 HR2 HF2 HB2))
      refine (HTk.out _ HB4.out HR4.out).mono ?_
      rintro e w5 ⟨rfl, hR2, hB2, hF2⟩
      have HX5 := Lib.hid (HX4.out.fr2 hF2 (by omega) (by omega))
      have HY5 := Lib.hid (HY4.out.fr2 hF2 (by omega) (by omega))
      have HF5 := Lib.hid (HF4.out.trans hF2)
      have HR5 := Lib.hid hR2
      have HB5 := Lib.hid hB2
      have hz5 : w.heap.size + 1 < w5.heap.size := HY5.out.lt
      clear hR2 hB2 hF2 HX4 HY4 HF4 HR4 HB4 HT4 cT4 HTk
      go_wp2_with (
        (refine wpList_put_blk rfl 37 (.tmp 13) (.tmp 54) rfl w5.heap.size (arrK .u8 d) rfl rfl 37 (arrK .u8 z32) (Blk.new w5 37 (arrK .u8 z32)) (info32 Dd.out.1) (by rw [len32 Dd.out.1, len32 lz.out]) (arrK_all _ _) ?_
         intro w6 HD6 hg6 hz6
         have hb6 : Below w5.heap.size w5 w6 := below_grown ((Below.refl w5.heap.size w5).alloc (Nat.le_refl _) (.cells (arrK .u8 z32) 37)) hg6 (by simp) (by simp)
         have HD6 := Lib.hid HD6
         have HX6 := Lib.hid (HX5.out.below hb6)
         have HY6 := Lib.hid (HY5.out.below hb6)
         have HR6 := Lib.hid (HR5.out.fr hb6)
         have HF6 := Lib.hid (HF5.out.trans (Fr2.of_below hb6))
         have HB6 := Lib.hid (HB5.out.trans (hb6.mono HB5.out.size))
         clear hg6 hz6 hb6))
      obtain ⟨G, hG⟩ : ∃ G, w5.heap.size = G := ⟨_, rfl⟩
      rw [hG] at HD6 hz5
      rw [hG]
      clear hG HX5 HY5 HR5 HF5 HB5
      have HN1 := Lib.hid (fun W => node_any d x W Dd.out Dx.out)
      have HN2 := Lib.hid (fun W => node_any d y W Dd.out Dy.out)
      refine wp_region_held_drew (S := fun W => Below w0.heap.size w0 W ∧ Blk W G 37 (arrK .u8 d)) (by kernel_rfl) (⟨below_drewN HB6.out 1, HD6.out⟩) (fun Hd => ?_)
      have Hd : Below w0.heap.size w0 w6.drew := below_drewN HB6.out 1
      have Zd : w0.heap.size ≤ w6.drew.heap.size := HB6.out.size
      have fX : Blk w6.drew (w.heap.size) 37 (arrK .u8 x) := HX6.out
      have fY : Blk w6.drew (w.heap.size + 1) 37 (arrK .u8 y) := HY6.out
      have fD : Blk w6.drew (G) 37 (arrK .u8 d) := HD6.out
      have fR : RestAt w0 rc oc s2 w6.drew := HR6.out.fr (below_drewN (Below.refl _ _) 1)
      have fF : Fr2 rc oc w w6.drew := HF6.out.trans (Fr2.of_below (below_drewN (Below.refl _ _) 1))
      generalize World.drew w6 = wd at *
      refine wpAnyH_take (i := 0) (v := .agg (arrK .u8 d)) rfl (by kernel_rfl) (by kernel_rfl) (by kernel_rfl) (fun _ _ _ h => h) (yields_load_blk (by rfl) _ _ rfl (G) rfl 37 (arrK .u8 d) (.array 32 5) (fun W hW => hW.2) (by kernel_rfl) rfl (info32 Dd.out.1)) ⟨Hd, fD⟩ ?_
      try simp only [List.getElem_toArray, List.getElem_cons_zero, List.getElem_cons_succ, Act.put, List.setIfInBounds_toArray, List.set_cons_zero, List.set_cons_succ]
      refine wpAnyH_take (i := 3) (v := .agg (arrK .u8 d)) rfl (by kernel_rfl) (by kernel_rfl) (by kernel_rfl) (fun _ _ _ h => h) (yields_load_blk (by rfl) _ _ rfl (G) rfl 37 (arrK .u8 d) (.array 32 5) (fun W hW => hW.2) (by kernel_rfl) rfl (info32 Dd.out.1)) ⟨Hd, fD⟩ ?_
      try simp only [List.getElem_toArray, List.getElem_cons_zero, List.getElem_cons_succ, Act.put, List.setIfInBounds_toArray, List.set_cons_zero, List.set_cons_succ]
      refine wpAnyH_ready (rs := [1, 4]) (by kernel_rfl) (by simp) (AllReadyH.cons rfl (fun K hK => ?_) (AllReadyH.cons rfl (fun K hK => ?_) AllReadyH.nil))
      · refine step_load_blk (by rfl) _ _ (by rfl) (w.heap.size) (by rfl) _ (arrK .u8 (x)) (.array 32 5) fX (by kernel_rfl) rfl (info32 Dx.out.1) ?_
        refine hK.out _ _ ⟨Hd, fD⟩ fun _ => ?_
        clear hK K
        try simp only [List.getElem_toArray, List.getElem_cons_zero, List.getElem_cons_succ, Act.put, List.setIfInBounds_toArray, List.set_cons_zero, List.set_cons_succ]
        refine wpAnyH_ready (rs := [2, 4]) (by kernel_rfl) (by simp) (AllReadyH.cons rfl (fun K hK => ?_) (AllReadyH.cons rfl (fun K hK => ?_) AllReadyH.nil))
        · go_simp
          refine (HN1.out _).mono ?_
          rintro e w1_ ⟨rfl, hb1⟩
          have fX1 := fX.below hb1
          have fY1 := fY.below hb1
          have fD1 := fD.below hb1
          have fR1 := fR.fr hb1
          have fF1 := fF.trans (Fr2.of_below hb1)
          have Hb1 : Below w0.heap.size w0 w1_ := below_of Hd hb1 Hd.size
          have Zb1 : w0.heap.size ≤ w1_.heap.size := Hb1.size
          go_wp2_with (fail)
          refine hK.out _ _ ⟨Hb1, fD1⟩ fun _ => ?_
          clear hK K
          try simp only [List.getElem_toArray, List.getElem_cons_zero, List.getElem_cons_succ, Act.put, List.setIfInBounds_toArray, List.set_cons_zero, List.set_cons_succ]
          refine wpAnyH_ready (rs := [4]) (by kernel_rfl) (by simp) (AllReadyH.cons rfl (fun K hK => ?_) AllReadyH.nil)
          refine step_load_blk (by rfl) _ _ (by rfl) (w.heap.size + 1) (by rfl) _ (arrK .u8 (y)) (.array 32 5) fY1 (by kernel_rfl) rfl (info32 Dy.out.1) ?_
          refine hK.out _ _ ⟨Hb1, fD1⟩ fun _ => ?_
          clear hK K
          try simp only [List.getElem_toArray, List.getElem_cons_zero, List.getElem_cons_succ, Act.put, List.setIfInBounds_toArray, List.set_cons_zero, List.set_cons_succ]
          refine wpAnyH_ready (rs := [5]) (by kernel_rfl) (by simp) (AllReadyH.cons rfl (fun K hK => ?_) AllReadyH.nil)
          go_simp
          refine (HN2.out _).mono ?_
          rintro e w2_ ⟨rfl, hb2⟩
          have fX2 := fX1.below hb2
          have fY2 := fY1.below hb2
          have fD2 := fD1.below hb2
          have fR2 := fR1.fr hb2
          have fF2 := fF1.trans (Fr2.of_below hb2)
          have Hb2 : Below w0.heap.size w0 w2_ := below_of Hb1 hb2 Hb1.size
          have Zb2 : w0.heap.size ≤ w2_.heap.size := Hb2.size
          go_wp2_with (fail)
          refine hK.out _ _ ⟨Hb2, fD2⟩ fun _ => ?_
          clear hK K
          try simp only [List.getElem_toArray, List.getElem_cons_zero, List.getElem_cons_succ, Act.put, List.setIfInBounds_toArray, List.set_cons_zero, List.set_cons_succ]
          refine wpAnyH_ready (rs := [6]) (by kernel_rfl) (by simp) (AllReadyH.cons rfl (fun K hK => ?_) AllReadyH.nil)
          refine step_put_blk (by rfl) _ _ _ (by rfl) (w.heap.size) (arrK .u8 (nodeS d x)) (by rfl) (by rfl) _ _ fX2 (info32 (nodeS_isD d x).1) (by first | rw [len32 (nodeS_isD d x).1, len32 Dx.out.1] | rw [len32 (nodeS_isD d x).1]) (arrK_all _ _) ?_
          intro w3_ fX3 hg3 hz3
          have fY3 := fY2.grown hg3 (by simp)
          have fD3 := fD2.grown hg3 (fun e => by cases e; omega)
          have fR3 := fR2.grown hg3 (by omega) (by omega)
          have fF3 : Fr2 rc oc w w3_ := fF2.own hg3 (by omega)
          have Hb3 : Below w0.heap.size w0 w3_ := below_grown Hb2 hg3 Hb2.size (fun k hk => by cases hk; omega)
          have Zb3 : w0.heap.size ≤ w3_.heap.size := Hb3.size
          refine hK.out _ _ ⟨Hb3, fD3⟩ fun _ => ?_
          clear hK K
          try simp only [List.getElem_toArray, List.getElem_cons_zero, List.getElem_cons_succ, Act.put, List.setIfInBounds_toArray, List.set_cons_zero, List.set_cons_succ]
          refine wpAnyH_ready (rs := [7]) (by kernel_rfl) (by simp) (AllReadyH.cons rfl (fun K hK => ?_) AllReadyH.nil)
          refine step_put_blk (by rfl) _ _ _ (by rfl) (w.heap.size + 1) (arrK .u8 (nodeS d y)) (by rfl) (by rfl) _ _ fY3 (info32 (nodeS_isD d y).1) (by first | rw [len32 (nodeS_isD d y).1, len32 Dy.out.1] | rw [len32 (nodeS_isD d y).1]) (arrK_all _ _) ?_
          intro w4_ fY4 hg4 hz4
          have fX4 := fX3.grown hg4 (by simp)
          have fD4 := fD3.grown hg4 (fun e => by cases e; omega)
          have fR4 := fR3.grown hg4 (by omega) (by omega)
          have fF4 : Fr2 rc oc w w4_ := fF3.own hg4 (by omega)
          have Hb4 : Below w0.heap.size w0 w4_ := below_grown Hb3 hg4 Hb3.size (fun k hk => by cases hk; omega)
          have Zb4 : w0.heap.size ≤ w4_.heap.size := Hb4.size
          refine hK.out _ _ ⟨Hb4, fD4⟩ fun _ => ?_
          clear hK K
          try simp only [List.getElem_toArray, List.getElem_cons_zero, List.getElem_cons_succ, Act.put, List.setIfInBounds_toArray, List.set_cons_zero, List.set_cons_succ]
          refine wpAnyH_done (by kernel_rfl) ?_ _
          go_wp2_with (fail)
          exact ret_rows2 rfl (w.heap.size) (w.heap.size + 1) 37 37 (arrK .u8 (nodeS d x)) (arrK .u8 (nodeS d y)) (.array 32 5) rfl rfl fX4 fY4 (by kernel_rfl) rfl (info32 (nodeS_isD d x).1) (info32 (nodeS_isD d y).1) rfl ⟨rfl, fR4, Hb4, fF4⟩
        · refine step_load_blk (by rfl) _ _ (by rfl) (w.heap.size + 1) (by rfl) _ (arrK .u8 (y)) (.array 32 5) fY (by kernel_rfl) rfl (info32 Dy.out.1) ?_
          refine hK.out _ _ ⟨Hd, fD⟩ fun _ => ?_
          clear hK K
          try simp only [List.getElem_toArray, List.getElem_cons_zero, List.getElem_cons_succ, Act.put, List.setIfInBounds_toArray, List.set_cons_zero, List.set_cons_succ]
          refine wpAnyH_ready (rs := [2]) (by kernel_rfl) (by simp) (AllReadyH.cons rfl (fun K hK => ?_) AllReadyH.nil)
          go_simp
          refine (HN1.out _).mono ?_
          rintro e w1_ ⟨rfl, hb1⟩
          have fX1 := fX.below hb1
          have fY1 := fY.below hb1
          have fD1 := fD.below hb1
          have fR1 := fR.fr hb1
          have fF1 := fF.trans (Fr2.of_below hb1)
          have Hb1 : Below w0.heap.size w0 w1_ := below_of Hd hb1 Hd.size
          have Zb1 : w0.heap.size ≤ w1_.heap.size := Hb1.size
          go_wp2_with (fail)
          refine hK.out _ _ ⟨Hb1, fD1⟩ fun _ => ?_
          clear hK K
          try simp only [List.getElem_toArray, List.getElem_cons_zero, List.getElem_cons_succ, Act.put, List.setIfInBounds_toArray, List.set_cons_zero, List.set_cons_succ]
          refine wpAnyH_ready (rs := [5]) (by kernel_rfl) (by simp) (AllReadyH.cons rfl (fun K hK => ?_) AllReadyH.nil)
          go_simp
          refine (HN2.out _).mono ?_
          rintro e w2_ ⟨rfl, hb2⟩
          have fX2 := fX1.below hb2
          have fY2 := fY1.below hb2
          have fD2 := fD1.below hb2
          have fR2 := fR1.fr hb2
          have fF2 := fF1.trans (Fr2.of_below hb2)
          have Hb2 : Below w0.heap.size w0 w2_ := below_of Hb1 hb2 Hb1.size
          have Zb2 : w0.heap.size ≤ w2_.heap.size := Hb2.size
          go_wp2_with (fail)
          refine hK.out _ _ ⟨Hb2, fD2⟩ fun _ => ?_
          clear hK K
          try simp only [List.getElem_toArray, List.getElem_cons_zero, List.getElem_cons_succ, Act.put, List.setIfInBounds_toArray, List.set_cons_zero, List.set_cons_succ]
          refine wpAnyH_ready (rs := [6]) (by kernel_rfl) (by simp) (AllReadyH.cons rfl (fun K hK => ?_) AllReadyH.nil)
          refine step_put_blk (by rfl) _ _ _ (by rfl) (w.heap.size) (arrK .u8 (nodeS d x)) (by rfl) (by rfl) _ _ fX2 (info32 (nodeS_isD d x).1) (by first | rw [len32 (nodeS_isD d x).1, len32 Dx.out.1] | rw [len32 (nodeS_isD d x).1]) (arrK_all _ _) ?_
          intro w3_ fX3 hg3 hz3
          have fY3 := fY2.grown hg3 (by simp)
          have fD3 := fD2.grown hg3 (fun e => by cases e; omega)
          have fR3 := fR2.grown hg3 (by omega) (by omega)
          have fF3 : Fr2 rc oc w w3_ := fF2.own hg3 (by omega)
          have Hb3 : Below w0.heap.size w0 w3_ := below_grown Hb2 hg3 Hb2.size (fun k hk => by cases hk; omega)
          have Zb3 : w0.heap.size ≤ w3_.heap.size := Hb3.size
          refine hK.out _ _ ⟨Hb3, fD3⟩ fun _ => ?_
          clear hK K
          try simp only [List.getElem_toArray, List.getElem_cons_zero, List.getElem_cons_succ, Act.put, List.setIfInBounds_toArray, List.set_cons_zero, List.set_cons_succ]
          refine wpAnyH_ready (rs := [7]) (by kernel_rfl) (by simp) (AllReadyH.cons rfl (fun K hK => ?_) AllReadyH.nil)
          refine step_put_blk (by rfl) _ _ _ (by rfl) (w.heap.size + 1) (arrK .u8 (nodeS d y)) (by rfl) (by rfl) _ _ fY3 (info32 (nodeS_isD d y).1) (by first | rw [len32 (nodeS_isD d y).1, len32 Dy.out.1] | rw [len32 (nodeS_isD d y).1]) (arrK_all _ _) ?_
          intro w4_ fY4 hg4 hz4
          have fX4 := fX3.grown hg4 (by simp)
          have fD4 := fD3.grown hg4 (fun e => by cases e; omega)
          have fR4 := fR3.grown hg4 (by omega) (by omega)
          have fF4 : Fr2 rc oc w w4_ := fF3.own hg4 (by omega)
          have Hb4 : Below w0.heap.size w0 w4_ := below_grown Hb3 hg4 Hb3.size (fun k hk => by cases hk; omega)
          have Zb4 : w0.heap.size ≤ w4_.heap.size := Hb4.size
          refine hK.out _ _ ⟨Hb4, fD4⟩ fun _ => ?_
          clear hK K
          try simp only [List.getElem_toArray, List.getElem_cons_zero, List.getElem_cons_succ, Act.put, List.setIfInBounds_toArray, List.set_cons_zero, List.set_cons_succ]
          refine wpAnyH_done (by kernel_rfl) ?_ _
          go_wp2_with (fail)
          exact ret_rows2 rfl (w.heap.size) (w.heap.size + 1) 37 37 (arrK .u8 (nodeS d x)) (arrK .u8 (nodeS d y)) (.array 32 5) rfl rfl fX4 fY4 (by kernel_rfl) rfl (info32 (nodeS_isD d x).1) (info32 (nodeS_isD d y).1) rfl ⟨rfl, fR4, Hb4, fF4⟩
      · refine step_load_blk (by rfl) _ _ (by rfl) (w.heap.size + 1) (by rfl) _ (arrK .u8 (y)) (.array 32 5) fY (by kernel_rfl) rfl (info32 Dy.out.1) ?_
        refine hK.out _ _ ⟨Hd, fD⟩ fun _ => ?_
        clear hK K
        try simp only [List.getElem_toArray, List.getElem_cons_zero, List.getElem_cons_succ, Act.put, List.setIfInBounds_toArray, List.set_cons_zero, List.set_cons_succ]
        refine wpAnyH_ready (rs := [1]) (by kernel_rfl) (by simp) (AllReadyH.cons rfl (fun K hK => ?_) AllReadyH.nil)
        refine step_load_blk (by rfl) _ _ (by rfl) (w.heap.size) (by rfl) _ (arrK .u8 (x)) (.array 32 5) fX (by kernel_rfl) rfl (info32 Dx.out.1) ?_
        refine hK.out _ _ ⟨Hd, fD⟩ fun _ => ?_
        clear hK K
        try simp only [List.getElem_toArray, List.getElem_cons_zero, List.getElem_cons_succ, Act.put, List.setIfInBounds_toArray, List.set_cons_zero, List.set_cons_succ]
        refine wpAnyH_ready (rs := [2]) (by kernel_rfl) (by simp) (AllReadyH.cons rfl (fun K hK => ?_) AllReadyH.nil)
        go_simp
        refine (HN1.out _).mono ?_
        rintro e w1_ ⟨rfl, hb1⟩
        have fX1 := fX.below hb1
        have fY1 := fY.below hb1
        have fD1 := fD.below hb1
        have fR1 := fR.fr hb1
        have fF1 := fF.trans (Fr2.of_below hb1)
        have Hb1 : Below w0.heap.size w0 w1_ := below_of Hd hb1 Hd.size
        have Zb1 : w0.heap.size ≤ w1_.heap.size := Hb1.size
        go_wp2_with (fail)
        refine hK.out _ _ ⟨Hb1, fD1⟩ fun _ => ?_
        clear hK K
        try simp only [List.getElem_toArray, List.getElem_cons_zero, List.getElem_cons_succ, Act.put, List.setIfInBounds_toArray, List.set_cons_zero, List.set_cons_succ]
        refine wpAnyH_ready (rs := [5]) (by kernel_rfl) (by simp) (AllReadyH.cons rfl (fun K hK => ?_) AllReadyH.nil)
        go_simp
        refine (HN2.out _).mono ?_
        rintro e w2_ ⟨rfl, hb2⟩
        have fX2 := fX1.below hb2
        have fY2 := fY1.below hb2
        have fD2 := fD1.below hb2
        have fR2 := fR1.fr hb2
        have fF2 := fF1.trans (Fr2.of_below hb2)
        have Hb2 : Below w0.heap.size w0 w2_ := below_of Hb1 hb2 Hb1.size
        have Zb2 : w0.heap.size ≤ w2_.heap.size := Hb2.size
        go_wp2_with (fail)
        refine hK.out _ _ ⟨Hb2, fD2⟩ fun _ => ?_
        clear hK K
        try simp only [List.getElem_toArray, List.getElem_cons_zero, List.getElem_cons_succ, Act.put, List.setIfInBounds_toArray, List.set_cons_zero, List.set_cons_succ]
        refine wpAnyH_ready (rs := [6]) (by kernel_rfl) (by simp) (AllReadyH.cons rfl (fun K hK => ?_) AllReadyH.nil)
        refine step_put_blk (by rfl) _ _ _ (by rfl) (w.heap.size) (arrK .u8 (nodeS d x)) (by rfl) (by rfl) _ _ fX2 (info32 (nodeS_isD d x).1) (by first | rw [len32 (nodeS_isD d x).1, len32 Dx.out.1] | rw [len32 (nodeS_isD d x).1]) (arrK_all _ _) ?_
        intro w3_ fX3 hg3 hz3
        have fY3 := fY2.grown hg3 (by simp)
        have fD3 := fD2.grown hg3 (fun e => by cases e; omega)
        have fR3 := fR2.grown hg3 (by omega) (by omega)
        have fF3 : Fr2 rc oc w w3_ := fF2.own hg3 (by omega)
        have Hb3 : Below w0.heap.size w0 w3_ := below_grown Hb2 hg3 Hb2.size (fun k hk => by cases hk; omega)
        have Zb3 : w0.heap.size ≤ w3_.heap.size := Hb3.size
        refine hK.out _ _ ⟨Hb3, fD3⟩ fun _ => ?_
        clear hK K
        try simp only [List.getElem_toArray, List.getElem_cons_zero, List.getElem_cons_succ, Act.put, List.setIfInBounds_toArray, List.set_cons_zero, List.set_cons_succ]
        refine wpAnyH_ready (rs := [7]) (by kernel_rfl) (by simp) (AllReadyH.cons rfl (fun K hK => ?_) AllReadyH.nil)
        refine step_put_blk (by rfl) _ _ _ (by rfl) (w.heap.size + 1) (arrK .u8 (nodeS d y)) (by rfl) (by rfl) _ _ fY3 (info32 (nodeS_isD d y).1) (by first | rw [len32 (nodeS_isD d y).1, len32 Dy.out.1] | rw [len32 (nodeS_isD d y).1]) (arrK_all _ _) ?_
        intro w4_ fY4 hg4 hz4
        have fX4 := fX3.grown hg4 (by simp)
        have fD4 := fD3.grown hg4 (fun e => by cases e; omega)
        have fR4 := fR3.grown hg4 (by omega) (by omega)
        have fF4 : Fr2 rc oc w w4_ := fF3.own hg4 (by omega)
        have Hb4 : Below w0.heap.size w0 w4_ := below_grown Hb3 hg4 Hb3.size (fun k hk => by cases hk; omega)
        have Zb4 : w0.heap.size ≤ w4_.heap.size := Hb4.size
        refine hK.out _ _ ⟨Hb4, fD4⟩ fun _ => ?_
        clear hK K
        try simp only [List.getElem_toArray, List.getElem_cons_zero, List.getElem_cons_succ, Act.put, List.setIfInBounds_toArray, List.set_cons_zero, List.set_cons_succ]
        refine wpAnyH_done (by kernel_rfl) ?_ _
        go_wp2_with (fail)
        exact ret_rows2 rfl (w.heap.size) (w.heap.size + 1) 37 37 (arrK .u8 (nodeS d x)) (arrK .u8 (nodeS d y)) (.array 32 5) rfl rfl fX4 fY4 (by kernel_rfl) rfl (info32 (nodeS_isD d x).1) (info32 (nodeS_isD d y).1) rfl ⟨rfl, fR4, Hb4, fF4⟩
end Go.Proofs.Ytcijhakofoklcaa
