/- The statement DigestClimbsSaid: each element's path climbs to the list's digest, and a path of one more is refused; no condition beside the row's own. -/
import Derived.Test.YtibcmlcjpoemoaaOwn
import Derived.Test.YtibcmlcjpoemoaaRow
import Derived.Deep.DeepCutAuto
namespace Go.Proofs.Ytibcmlcjpoemoaa
open Go.RowKit Go.WideShapes Go.ChangeShapes Go.ChangeAt
theorem okClimb_in {at_ n m : Nat} (h : at_ < n) (hn : n ≤ 24) : okClimb (at_ : Int) (n : Int) m = decide (m = (dirsS at_ n).length) := by
  unfold okClimb
  rw [decide_eq_true (by omega), Bool.true_and, Int.toNat_natCast, Int.toNat_natCast]
theorem climbR_in {at_ n : Nat} (d : List Nat) (p : List (List Nat)) (h : at_ < n) (hn : n ≤ 24) (hp : p.length = (dirsS at_ n).length) : climbR d (at_ : Int) (n : Int) p = climbS d at_ n p := by
  unfold climbR
  rw [okClimb_in h hn, decide_eq_true hp, if_pos rfl, Int.toNat_natCast, Int.toNat_natCast]
set_option linter.unusedSimpArgs false in
set_option maxRecDepth 100000 in
set_option maxHeartbeats 4000000 in
theorem DigestClimbs_walk (w : World) (A : Option Addr) (n c : Nat) (xs : List Int) (hl : xs.length = n) (hnc : n ≤ c) (hcm : c ≤ maxLen) (hA0 : Cells w A (xs.map (Value.int .u8))) (hw : ∀ x ∈ xs, (Lit.int .u8 x).wf = true) :
    Calls Try.prog 7 #[.slice A n c] w (Fine w) := by
  obtain ⟨b, hb, h8, hA⟩ := open_bytes hA0 hw
  have HD := Lib.hid (fun W (h : Cells W A (bytesV b)) => digestsOf_any A n c b W h (hb.trans hl) h8 (Nat.le_trans hnc hcm))
  have HA := Lib.hid hA
  clear hA0 hw hl hb h8 hA
  go_enter Try.func7, Try.ntmps7
  go_wp2_with (fail)
  refine (sane_any _).mono ?_
  rintro e w0 ⟨rfl, hb0⟩
  go_wp2_with (fail)
  refine (HD.out _ (HA.out.below hb0)).mono ?_
  rintro e w1 ⟨A', m, c', l, rfl, hlm, hm24, hmc, hcm', hL, hC, hb1⟩
  have HB1 := Lib.hid (hb0.trans (hb1.mono hb0.size))
  have Hl := Lib.hid hlm
  have HL := Lib.hid hL
  have HC := Lib.hid hC
  have Hcm' := Lib.hid hcm'
  clear hb0 hb1 hlm hL hC hcm'
  have HT := Lib.hid (fun W (h : Cells W A' (bytesV l.flatten)) => tree_any m l A' c' W Hl.out HL.out hmc (by omega) h)
  have hmI : (m : Int) ≤ 24 := by omega
  obtain ⟨r, hr⟩ : ∃ r, treeS l = r := ⟨_, rfl⟩
  have Dr := Lib.hid (show IsD r by rw [← hr]; exact treeS_isD _)
  have hEq : ∀ W, (Op.equalIn 10000 26 (.agg (arrK .u8 r)) (.agg (arrK .u8 r))).run Try.prog W = .ok true W := fun W => by
    have := run_eqD Dr.out Dr.out W
    simpa using this
  rw [hr] at HT
  have Hr := Lib.hid hr
  clear hr
  go_wp2_with (fail)
  refine (HT.out _ HC.out).mono ?_
  rintro e w2 ⟨rfl, hb2⟩
  have HC2 := Lib.hid (HC.out.below hb2)
  have HB2 := Lib.hid (below_of HB1.out hb2 HB1.out.size)
  clear hb2
  go_wp2_with (
    (refine wpList_put_blk rfl 26 (.tmp 4) (.tmp 18) rfl w2.heap.size (arrK .u8 r) rfl rfl 26 (arrK .u8 z32) (Blk.new w2 26 (arrK .u8 z32)) (info32 Dr.out.1) (by rw [len32 Dr.out.1, len32 z32_length]) (arrK_all _ _) ?_
     intro w3 HX3 hg3 hz3
     have HX := Lib.hid HX3
     have hb3 : Below w2.heap.size w2 w3 := below_grown ((Below.refl w2.heap.size w2).alloc (Nat.le_refl _) (.cells (arrK .u8 z32) 26)) hg3 (by simp) (by simp)
     have HC3 := Lib.hid (HC2.out.below hb3)
     have HB3 := Lib.hid (below_of HB2.out hb3 HB2.out.size)
     clear hg3 hz3 hb3 HX3))
  obtain ⟨G, hG⟩ : ∃ G, w2.heap.size = G := ⟨_, rfl⟩
  rw [hG] at HX
  rw [hG]
  clear hG
  go_loopw [21] (fun i wr => ∃ k : Nat, k ≤ m ∧ i = .int .i64 k ∧ Hid (Below w3.heap.size w3 wr)) (fun i _ => m - (intOf i).toNat)
  case atStart => exact ⟨0, by omega, rfl, Below.refl _ _⟩
  case round =>
    obtain ⟨k, hk, rfl, Hbr⟩ := hrel
    by_cases hkm : k < m
    · have hdk : decide ((k : Int) < (m : Int)) = true := by simp; omega
      have hdk2 : decide (k < m) = true := by simp; omega
      have hkI : (k : Int) < (m : Int) := by omega
      obtain ⟨d, hd⟩ := getElem?_lt (l := l) (k := k) (by rw [Hl.out]; exact hkm)
      have Dd := Lib.hid (HL.out d (List.mem_of_getElem? hd))
      obtain ⟨pb, po, rfl, -, -⟩ := Cells.addr HC3.out (by rw [bytesV_length, HL.out.flat_length, Hl.out]; omega)
      have HCr := Lib.hid (HC3.out.below Hbr.out)
      have HXr := Lib.hid (HX.out.below Hbr.out)
      have HBr := Lib.hid (below_of HB3.out Hbr.out HB3.out.size)
      have hro := Lib.hid (range_at HL.out HCr.out hd)
      have Hres := Lib.hid (show climbS d k m (pathS l k) = r by rw [climb_path m l k d Hl.out hd, Hr.out])
      have Hq := Lib.hid (pathS_length m l k Hl.out)
      have Hq5 := Lib.hid (dirsS_pow 5 m k (by omega))
      have HP := Lib.hid (fun W (h : Cells W (some ⟨pb, po, none⟩) (bytesV l.flatten)) => path_good l k m (some ⟨pb, po, none⟩) c' W Hl.out HL.out hkm hmc Hcm'.out (by omega) h)
      have HpL := Lib.hid (pathS_isL m l k Hl.out)
      generalize pathS l k = p at *
      clear hd
      go_wp2_with (first
        | (refine wpList_put_blk rfl 26 (.tmp 6) (.tmp 25) rfl wr.heap.size (arrK .u8 d) rfl rfl 26 (arrK .u8 z32) (Blk.new wr 26 (arrK .u8 z32)) (info32 Dd.out.1) (by rw [len32 Dd.out.1, len32 z32_length]) (arrK_all _ _) ?_
           intro w5 HO5 hg5 hz5
           have hb5 : Below wr.heap.size wr w5 := below_grown ((Below.refl wr.heap.size wr).alloc (Nat.le_refl _) (.cells (arrK .u8 z32) 26)) hg5 (by simp) (by simp)
           have HO5 := Lib.hid HO5
           have Hb5 := Lib.hid hb5
           clear hg5 hz5 hb5)
        | (refine wpList_load_mid rfl 26 (.tmp 24) rfl pb (po + k * 32) rfl (d.map fun (n : Nat) => Value.int .u8 (n : Int)) (.array 32 5) hro.out (by kernel_rfl) rfl (dV_info Dd.out.1) ?_))
      have HC5 := Lib.hid (HCr.out.below Hb5.out)
      have HX5 := Lib.hid (HXr.out.below Hb5.out)
      have HB5 := Lib.hid (below_of Hbr.out Hb5.out Hbr.out.size)
      obtain ⟨G6, hG6⟩ : ∃ G, wr.heap.size = G := ⟨_, rfl⟩
      rw [hG6] at HO5
      rw [hG6]
      clear hG6
      refine (HP.out _ HC5.out).mono ?_
      rintro e w6 ⟨Ap, q, cp, rfl, hpq, hqc, hcpm, hcp, hb6⟩
      have Hpq := Lib.hid hpq
      have HCp := Lib.hid hcp
      have Hcpm := Lib.hid hcpm
      have HX6 := Lib.hid (HX5.out.below hb6)
      have HO6 := Lib.hid (HO5.out.below hb6)
      have HB6 := Lib.hid (below_of HB5.out hb6 HB5.out.size)
      have hq5 : q ≤ 5 := by have := Hq5.out; have := Hq.out; have := Hpq.out; omega
      have hq5I : (q : Int) ≤ 5 := by omega
      have hd5 : decide ((5 : Int) < (q : Int)) = false := by simp; omega
      have hd52 : decide (5 < q) = false := by simp; omega
      have HCl := Lib.hid (climb_any d k m Ap q cp p w6 Dd.out Hpq.out HpL.out hqc hcpm HCp.out)
      rw [okClimb_in hkm hm24, decide_eq_true (by rw [← Hpq.out, Hq.out]), climbR_in d p hkm hm24 Hq.out, Hres.out, errArg_true] at HCl
      have HCl2 := Lib.hid (fun A2 c2 W (hc2 : q + 1 ≤ c2) (hm2 : c2 ≤ maxLen) (h : Cells W A2 (bytesV (([] ++ p) ++ [d]).flatten)) => climb_any d k m A2 (q + 1) c2 (([] ++ p) ++ [d]) W Dd.out (by simp [Hpq.out]) (HpL.out.snoc Dd.out) hc2 hm2 h)
      rw [okClimb_in hkm hm24, decide_eq_false (by rw [← Hpq.out, Hq.out]; omega), errArg_false] at HCl2
      have Dz := Lib.hid (climbR_isD d k m (([] ++ p) ++ [d]))
      generalize climbR d k m (([] ++ p) ++ [d]) = zz at *
      clear hpq hcpm hcp hb6
      go_wp2_with (refine wpList_load_blk rfl 26 (.tmp 6) rfl G6 rfl 26 (arrK .u8 d) (.array 32 5) HO6.out (by kernel_rfl) rfl (info32 Dd.out.1) ?_)
      refine HCl.out.mono ?_
      rintro e w7 ⟨rfl, hb7⟩
      have HX7 := Lib.hid (HX6.out.below hb7)
      have HO7 := Lib.hid (HO6.out.below hb7)
      have HC7 := Lib.hid (HCp.out.below hb7)
      have HB7 := Lib.hid (below_of HB6.out hb7 HB6.out.size)
      clear hb7
      go_wp2_with (
        (refine wpList_put_blk rfl 26 (.tmp 9) (.tmp 39) rfl w7.heap.size (arrK .u8 r) rfl rfl 26 (arrK .u8 z32) (Blk.new w7 26 (arrK .u8 z32)) (info32 Dr.out.1) (by rw [len32 Dr.out.1, len32 z32_length]) (arrK_all _ _) ?_
         intro w8 HY8 hg8 hz8
         have hb8 : Below w7.heap.size w7 w8 := below_grown ((Below.refl w7.heap.size w7).alloc (Nat.le_refl _) (.cells (arrK .u8 z32) 26)) hg8 (by simp) (by simp)
         have HY8 := Lib.hid HY8
         have HX8 := Lib.hid (HX7.out.below hb8)
         have HO8 := Lib.hid (HO7.out.below hb8)
         have HC8 := Lib.hid (HC7.out.below hb8)
         have HB8 := Lib.hid (below_of HB7.out hb8 HB7.out.size)
         clear hg8 hz8 hb8))
      obtain ⟨G9, hG9⟩ : ∃ G, w7.heap.size = G := ⟨_, rfl⟩
      rw [hG9] at HY8
      rw [hG9]
      clear hG9
      go_upto_region 17 with (fail)
      go_cut [11, 12] (fun s11 s12 wx => ∃ gc : Nat, s11 = .pointer (some ⟨gc, 0, none⟩) ∧ s12 = .int .i64 1 ∧ Below w8.heap.size w8 wx)
      case first =>
        refine wp_region_held_drew (S := fun W => Below w8.heap.size w8 W) (by kernel_rfl) (below_drewN (Below.refl _ _) 1) (fun Hd => ?_)
        replace Hd : Below w8.heap.size w8 w8.drew := Hd
        generalize World.drew w8 = wd at *
        refine wpAnyH_take (i := 0) (v := .agg (arrK .u8 d)) rfl (by kernel_rfl) (by kernel_rfl) (by kernel_rfl) (fun _ _ _ h => h) (yields_load_blk (by rfl) _ _ rfl (G6) rfl 26 (arrK .u8 d) (.array 32 5) (fun W hW => HO8.out.below hW) (by kernel_rfl) rfl (info32 Dd.out.1)) Hd ?_
        simp only [List.getElem_toArray, List.getElem_cons_zero, List.getElem_cons_succ, Act.put, List.setIfInBounds_toArray, List.set_cons_zero, List.set_cons_succ]
        refine wpAnyH_take (i := 1) (v := ?_) rfl (by kernel_rfl) (by kernel_rfl) (by kernel_rfl) (fun _ _ _ h => h) (Or.inl ⟨by rfl, ?_⟩) Hd ?_
        rotate_left
        · intro w hSw; go_simp; try with_reducible rfl
        simp only [List.getElem_toArray, List.getElem_cons_zero, List.getElem_cons_succ, Act.put, List.setIfInBounds_toArray, List.set_cons_zero, List.set_cons_succ]
        refine wpAnyH_take (i := 2) (v := ?_) rfl (by kernel_rfl) (by kernel_rfl) (by kernel_rfl) (fun _ _ _ h => h) (Or.inl ⟨by rfl, ?_⟩) Hd ?_
        rotate_left
        · intro w hSw; go_simp; try with_reducible rfl
        simp only [List.getElem_toArray, List.getElem_cons_zero, List.getElem_cons_succ, Act.put, List.setIfInBounds_toArray, List.set_cons_zero, List.set_cons_succ]
        refine wpAnyH_take (i := 3) (v := ?_) rfl (by kernel_rfl) (by kernel_rfl) (by kernel_rfl) (fun _ _ _ h => h) (Or.inl ⟨by rfl, ?_⟩) Hd ?_
        rotate_left
        · intro w hSw; go_simp; try with_reducible rfl
        simp only [List.getElem_toArray, List.getElem_cons_zero, List.getElem_cons_succ, Act.put, List.setIfInBounds_toArray, List.set_cons_zero, List.set_cons_succ]
        refine wpAnyH_take (i := 5) (v := ?_) rfl (by kernel_rfl) (by kernel_rfl) (by kernel_rfl) (fun _ _ _ h => h) (Or.inl ⟨by rfl, ?_⟩) Hd ?_
        rotate_left
        · intro w hSw; go_simp; try with_reducible rfl
        simp only [List.getElem_toArray, List.getElem_cons_zero, List.getElem_cons_succ, Act.put, List.setIfInBounds_toArray, List.set_cons_zero, List.set_cons_succ]
        refine wpAnyH_take (i := 7) (v := .agg (arrK .u8 d)) rfl (by kernel_rfl) (by kernel_rfl) (by kernel_rfl) (fun _ _ _ h => h) (yields_load_blk (by rfl) _ _ rfl (G6) rfl 26 (arrK .u8 d) (.array 32 5) (fun W hW => HO8.out.below hW) (by kernel_rfl) rfl (info32 Dd.out.1)) Hd ?_
        simp only [List.getElem_toArray, List.getElem_cons_zero, List.getElem_cons_succ, Act.put, List.setIfInBounds_toArray, List.set_cons_zero, List.set_cons_succ]
        refine wpAnyH_ready (rs := [4, 8, 14]) (by kernel_rfl) (by simp) (AllReadyH.cons rfl (fun K hK => ?_) (AllReadyH.cons rfl (fun K hK => ?_) (AllReadyH.cons rfl (fun K hK => ?_) AllReadyH.nil)))
        · go_simp
          generalize hge : World.alloc _ _ = w1_
          have fo1 : w1_.ownsRow w8.heap.size 26 32 (.slice (some ⟨wd.heap.size, 0, none⟩) 0 0) 0 (bytesV ([] : List (List Nat)).flatten) := by subst hge; exact ownD_empty wd _ Hd.size
          have hb1 : Below wd.heap.size wd w1_ := by subst hge; exact (Below.refl _ _).alloc (Nat.le_refl _) _
          clear hge
          have Hb1 : Below w8.heap.size w8 w1_ := below_of Hd hb1 Hd.size
          refine hK.out _ _ Hb1 fun _ => ?_
          clear hK K
          try simp only [List.getElem_toArray, List.getElem_cons_zero, List.getElem_cons_succ, Act.put, List.setIfInBounds_toArray, List.set_cons_zero, List.set_cons_succ]
          refine wpAnyH_ready (rs := [6, 8, 14]) (by kernel_rfl) (by simp) (AllReadyH.cons rfl (fun K hK => ?_) (AllReadyH.cons rfl (fun K hK => ?_) (AllReadyH.cons rfl (fun K hK => ?_) AllReadyH.nil)))
          · refine step_addDs (by rfl) (.tmp 46) (.tmp 47) (by rfl) w8.heap.size (.slice (some ⟨wd.heap.size, 0, none⟩) 0 0) (0) ([] : List (List Nat)) fo1 (by rfl) Ap q cp p Hpq.out HpL.out (HC8.out.below Hb1) (by rfl) (by omega) Hb1.size ?_
            intro v2 w2_ fo2 hg2 st2
            have Hb2 : Below w8.heap.size w8 w2_ := below_grown Hb1 hg2 Hb1.size (own_base fo1)
            obtain ⟨A2, c2, rfl, le2, lm2, -⟩ := own_form fo2
            rw [Nat.zero_add] at fo2 le2 
            simp only [Nat.zero_add]
            refine hK.out _ _ Hb2 fun _ => ?_
            clear hK K
            try simp only [List.getElem_toArray, List.getElem_cons_zero, List.getElem_cons_succ, Act.put, List.setIfInBounds_toArray, List.set_cons_zero, List.set_cons_succ]
            refine wpAnyH_ready (rs := [8, 14]) (by kernel_rfl) (by simp) (AllReadyH.cons rfl (fun K hK => ?_) (AllReadyH.cons rfl (fun K hK => ?_) AllReadyH.nil))
            · refine step_oneD (by rfl) _ (by rfl) (d) Dd.out (by rfl) ?_
              generalize hge : World.alloc _ _ = w3_
              have fx3 : Blk w3_ w2_.heap.size 26 (arrK .u8 (d)) := by subst hge; exact Blk.new _ _ _
              have hb3 : Below w2_.heap.size w2_ w3_ := by subst hge; exact (Below.refl _ _).alloc (Nat.le_refl _) _
              clear hge
              have fo3 := own_below fo2 hb3
              have apox3 := apart_new fo2
              have lox3 : w8.heap.size ≤ w2_.heap.size := Hb2.size
              have Hb3 : Below w8.heap.size w8 w3_ := below_of Hb2 hb3 Hb2.size
              refine hK.out _ _ Hb3 fun _ => ?_
              clear hK K
              try simp only [List.getElem_toArray, List.getElem_cons_zero, List.getElem_cons_succ, Act.put, List.setIfInBounds_toArray, List.set_cons_zero, List.set_cons_succ]
              refine wpAnyH_ready (rs := [9, 14]) (by kernel_rfl) (by simp) (AllReadyH.cons rfl (fun K hK => ?_) (AllReadyH.cons rfl (fun K hK => ?_) AllReadyH.nil))
              · refine step_pushDs (by rfl) (.tmp 48) (.tmp 50) (by rfl) w8.heap.size (.slice A2 (q) c2) (q) (([] : List (List Nat)) ++ p) (d) fo3 (by rfl) (w2_.heap.size) fx3 Dd.out (by rfl) (by omega) Hb3.size ?_
                intro v4 w4_ fo4 hg4 st4
                have apox4 := apart_sits st4 apox3 fx3.lt
                have fx4 := fx3.grown hg4 (fun e => apox3 e.symm)
                have Hb4 : Below w8.heap.size w8 w4_ := below_grown Hb3 hg4 Hb3.size (own_base fo3)
                obtain ⟨A4, c4, rfl, le4, lm4, -⟩ := own_form fo4
                refine hK.out _ _ Hb4 fun _ => ?_
                clear hK K
                try simp only [List.getElem_toArray, List.getElem_cons_zero, List.getElem_cons_succ, Act.put, List.setIfInBounds_toArray, List.set_cons_zero, List.set_cons_succ]
                refine wpAnyH_ready (rs := [10, 14]) (by kernel_rfl) (by simp) (AllReadyH.cons rfl (fun K hK => ?_) (AllReadyH.cons rfl (fun K hK => ?_) AllReadyH.nil))
                · go_simp
                  refine (HCl2.out A4 c4 w4_ (by omega) lm4 (Cells.own fo4)).mono ?_
                  rintro e w5_ ⟨rfl, hb5⟩
                  have fx5 := fx4.below hb5
                  have fo5 := own_below fo4 hb5
                  have Hb5 : Below w8.heap.size w8 w5_ := below_of Hb4 hb5 Hb4.size
                  go_wp2_with (fail)
                  refine hK.out _ _ Hb5 fun _ => ?_
                  clear hK K
                  try simp only [List.getElem_toArray, List.getElem_cons_zero, List.getElem_cons_succ, Act.put, List.setIfInBounds_toArray, List.set_cons_zero, List.set_cons_succ]
                  refine wpAnyH_take (i := 11) (v := ?_) rfl (by kernel_rfl) (by kernel_rfl) (by kernel_rfl) (fun _ _ _ h => h) (Or.inl ⟨by rfl, ?_⟩) Hb5 ?_
                  rotate_left
                  · intro w hSw; go_simp; try with_reducible rfl
                  simp only [List.getElem_toArray, List.getElem_cons_zero, List.getElem_cons_succ, Act.put, List.setIfInBounds_toArray, List.set_cons_zero, List.set_cons_succ]
                  refine wpAnyH_take (i := 12) (v := ?_) rfl (by kernel_rfl) (by kernel_rfl) (by kernel_rfl) (fun _ _ _ h => h) (Or.inl ⟨by rfl, ?_⟩) Hb5 ?_
                  rotate_left
                  · intro w hSw; go_simp; try with_reducible rfl
                  simp only [List.getElem_toArray, List.getElem_cons_zero, List.getElem_cons_succ, Act.put, List.setIfInBounds_toArray, List.set_cons_zero, List.set_cons_succ]
                  refine wpAnyH_take (i := 13) (v := ?_) rfl (by kernel_rfl) (by kernel_rfl) (by kernel_rfl) (fun _ _ _ h => h) (Or.inl ⟨by rfl, ?_⟩) Hb5 ?_
                  rotate_left
                  · intro w hSw; go_simp; try with_reducible rfl
                  simp only [List.getElem_toArray, List.getElem_cons_zero, List.getElem_cons_succ, Act.put, List.setIfInBounds_toArray, List.set_cons_zero, List.set_cons_succ]
                  refine wpAnyH_ready (rs := [14]) (by kernel_rfl) (by simp) (AllReadyH.cons rfl (fun K hK => ?_) AllReadyH.nil)
                  go_simp
                  generalize hge : World.alloc _ _ = w6_
                  have fc6 : Blk w6_ w5_.heap.size 26 (arrK .u8 z32) := by subst hge; exact Blk.new _ _ _
                  have hb6 : Below w5_.heap.size w5_ w6_ := by subst hge; exact (Below.refl _ _).alloc (Nat.le_refl _) _
                  clear hge
                  have fx6 := fx5.below hb6
                  have fo6 := own_below fo5 hb6
                  have ltxc6 := fx5.lt
                  have apoc6 := apart_new fo5
                  have loc6 : w8.heap.size ≤ w5_.heap.size := Hb5.size
                  have Hb6 : Below w8.heap.size w8 w6_ := below_of Hb5 hb6 Hb5.size
                  refine hK.out _ _ Hb6 fun _ => ?_
                  clear hK K
                  try simp only [List.getElem_toArray, List.getElem_cons_zero, List.getElem_cons_succ, Act.put, List.setIfInBounds_toArray, List.set_cons_zero, List.set_cons_succ]
                  refine wpAnyH_ready (rs := [15]) (by kernel_rfl) (by simp) (AllReadyH.cons rfl (fun K hK => ?_) AllReadyH.nil)
                  refine step_put_blk (by rfl) _ _ _ (by rfl) (w5_.heap.size) (arrK .u8 zz) (by rfl) (by rfl) _ _ fc6 (info32 Dz.out.1) (by rw [len32 Dz.out.1, len32 z32_length]) (arrK_all _ _) ?_
                  intro w7_ fc7 hg7 hz7
                  have nex7 := fx6.lt
                  have fx7 := fx6.grown hg7 (by simp; omega)
                  have fo7 := fo6.kept hg7 (.inr apoc6)
                  have Hb7 : Below w8.heap.size w8 w7_ := below_grown Hb6 hg7 Hb6.size (by simp; exact loc6)
                  refine hK.out _ _ Hb7 fun _ => ?_
                  clear hK K
                  try simp only [List.getElem_toArray, List.getElem_cons_zero, List.getElem_cons_succ, Act.put, List.setIfInBounds_toArray, List.set_cons_zero, List.set_cons_succ]
                  refine wpAnyH_take (i := 16) (v := ?_) rfl (by kernel_rfl) (by kernel_rfl) (by kernel_rfl) (fun _ _ _ h => h) (Or.inl ⟨by rfl, ?_⟩) Hb7 ?_
                  rotate_left
                  · intro w hSw; go_simp; try with_reducible rfl
                  simp only [List.getElem_toArray, List.getElem_cons_zero, List.getElem_cons_succ, Act.put, List.setIfInBounds_toArray, List.set_cons_zero, List.set_cons_succ]
                  refine wpAnyH_done (by kernel_rfl) ?_ _
                  go_wp2_with (fail)
                  go_meet
                  exact ⟨_, rfl, rfl, Hb7⟩
                · go_simp
                  generalize hge : World.alloc _ _ = w5_
                  have fc5 : Blk w5_ w4_.heap.size 26 (arrK .u8 z32) := by subst hge; exact Blk.new _ _ _
                  have hb5 : Below w4_.heap.size w4_ w5_ := by subst hge; exact (Below.refl _ _).alloc (Nat.le_refl _) _
                  clear hge
                  have fx5 := fx4.below hb5
                  have fo5 := own_below fo4 hb5
                  have ltxc5 := fx4.lt
                  have apoc5 := apart_new fo4
                  have loc5 : w8.heap.size ≤ w4_.heap.size := Hb4.size
                  have Hb5 : Below w8.heap.size w8 w5_ := below_of Hb4 hb5 Hb4.size
                  refine hK.out _ _ Hb5 fun _ => ?_
                  clear hK K
                  try simp only [List.getElem_toArray, List.getElem_cons_zero, List.getElem_cons_succ, Act.put, List.setIfInBounds_toArray, List.set_cons_zero, List.set_cons_succ]
                  refine wpAnyH_ready (rs := [10]) (by kernel_rfl) (by simp) (AllReadyH.cons rfl (fun K hK => ?_) AllReadyH.nil)
                  go_simp
                  refine (HCl2.out A4 c4 w5_ (by omega) lm4 (Cells.own fo5)).mono ?_
                  rintro e w6_ ⟨rfl, hb6⟩
                  have fx6 := fx5.below hb6
                  have fo6 := own_below fo5 hb6
                  have fc6 := fc5.below hb6
                  have Hb6 : Below w8.heap.size w8 w6_ := below_of Hb5 hb6 Hb5.size
                  go_wp2_with (fail)
                  refine hK.out _ _ Hb6 fun _ => ?_
                  clear hK K
                  try simp only [List.getElem_toArray, List.getElem_cons_zero, List.getElem_cons_succ, Act.put, List.setIfInBounds_toArray, List.set_cons_zero, List.set_cons_succ]
                  refine wpAnyH_take (i := 11) (v := ?_) rfl (by kernel_rfl) (by kernel_rfl) (by kernel_rfl) (fun _ _ _ h => h) (Or.inl ⟨by rfl, ?_⟩) Hb6 ?_
                  rotate_left
                  · intro w hSw; go_simp; try with_reducible rfl
                  simp only [List.getElem_toArray, List.getElem_cons_zero, List.getElem_cons_succ, Act.put, List.setIfInBounds_toArray, List.set_cons_zero, List.set_cons_succ]
                  refine wpAnyH_take (i := 12) (v := ?_) rfl (by kernel_rfl) (by kernel_rfl) (by kernel_rfl) (fun _ _ _ h => h) (Or.inl ⟨by rfl, ?_⟩) Hb6 ?_
                  rotate_left
                  · intro w hSw; go_simp; try with_reducible rfl
                  simp only [List.getElem_toArray, List.getElem_cons_zero, List.getElem_cons_succ, Act.put, List.setIfInBounds_toArray, List.set_cons_zero, List.set_cons_succ]
                  refine wpAnyH_take (i := 13) (v := ?_) rfl (by kernel_rfl) (by kernel_rfl) (by kernel_rfl) (fun _ _ _ h => h) (Or.inl ⟨by rfl, ?_⟩) Hb6 ?_
                  rotate_left
                  · intro w hSw; go_simp; try with_reducible rfl
                  simp only [List.getElem_toArray, List.getElem_cons_zero, List.getElem_cons_succ, Act.put, List.setIfInBounds_toArray, List.set_cons_zero, List.set_cons_succ]
                  refine wpAnyH_ready (rs := [15]) (by kernel_rfl) (by simp) (AllReadyH.cons rfl (fun K hK => ?_) AllReadyH.nil)
                  refine step_put_blk (by rfl) _ _ _ (by rfl) (w4_.heap.size) (arrK .u8 zz) (by rfl) (by rfl) _ _ fc6 (info32 Dz.out.1) (by rw [len32 Dz.out.1, len32 z32_length]) (arrK_all _ _) ?_
                  intro w7_ fc7 hg7 hz7
                  have nex7 := fx6.lt
                  have fx7 := fx6.grown hg7 (by simp; omega)
                  have fo7 := fo6.kept hg7 (.inr apoc5)
                  have Hb7 : Below w8.heap.size w8 w7_ := below_grown Hb6 hg7 Hb6.size (by simp; exact loc5)
                  refine hK.out _ _ Hb7 fun _ => ?_
                  clear hK K
                  try simp only [List.getElem_toArray, List.getElem_cons_zero, List.getElem_cons_succ, Act.put, List.setIfInBounds_toArray, List.set_cons_zero, List.set_cons_succ]
                  refine wpAnyH_take (i := 16) (v := ?_) rfl (by kernel_rfl) (by kernel_rfl) (by kernel_rfl) (fun _ _ _ h => h) (Or.inl ⟨by rfl, ?_⟩) Hb7 ?_
                  rotate_left
                  · intro w hSw; go_simp; try with_reducible rfl
                  simp only [List.getElem_toArray, List.getElem_cons_zero, List.getElem_cons_succ, Act.put, List.setIfInBounds_toArray, List.set_cons_zero, List.set_cons_succ]
                  refine wpAnyH_done (by kernel_rfl) ?_ _
                  go_wp2_with (fail)
                  go_meet
                  exact ⟨_, rfl, rfl, Hb7⟩
              · go_simp
                generalize hge : World.alloc _ _ = w4_
                have fc4 : Blk w4_ w3_.heap.size 26 (arrK .u8 z32) := by subst hge; exact Blk.new _ _ _
                have hb4 : Below w3_.heap.size w3_ w4_ := by subst hge; exact (Below.refl _ _).alloc (Nat.le_refl _) _
                clear hge
                have fo4 := own_below fo3 hb4
                have fx4 := fx3.below hb4
                have apoc4 := apart_new fo3
                have ltxc4 := fx3.lt
                have loc4 : w8.heap.size ≤ w3_.heap.size := Hb3.size
                have Hb4 : Below w8.heap.size w8 w4_ := below_of Hb3 hb4 Hb3.size
                refine hK.out _ _ Hb4 fun _ => ?_
                clear hK K
                try simp only [List.getElem_toArray, List.getElem_cons_zero, List.getElem_cons_succ, Act.put, List.setIfInBounds_toArray, List.set_cons_zero, List.set_cons_succ]
                refine wpAnyH_ready (rs := [9]) (by kernel_rfl) (by simp) (AllReadyH.cons rfl (fun K hK => ?_) AllReadyH.nil)
                refine step_pushDs (by rfl) (.tmp 48) (.tmp 50) (by rfl) w8.heap.size (.slice A2 (q) c2) (q) (([] : List (List Nat)) ++ p) (d) fo4 (by rfl) (w2_.heap.size) fx4 Dd.out (by rfl) (by omega) Hb4.size ?_
                intro v5 w5_ fo5 hg5 st5
                have apox5 := apart_sits st5 apox3 fx4.lt
                have apoc5 := apart_sits st5 apoc4 fc4.lt
                have fx5 := fx4.grown hg5 (fun e => apox3 e.symm)
                have fc5 := fc4.grown hg5 (fun e => apoc4 e.symm)
                have Hb5 : Below w8.heap.size w8 w5_ := below_grown Hb4 hg5 Hb4.size (own_base fo4)
                obtain ⟨A5, c5, rfl, le5, lm5, -⟩ := own_form fo5
                refine hK.out _ _ Hb5 fun _ => ?_
                clear hK K
                try simp only [List.getElem_toArray, List.getElem_cons_zero, List.getElem_cons_succ, Act.put, List.setIfInBounds_toArray, List.set_cons_zero, List.set_cons_succ]
                refine wpAnyH_ready (rs := [10]) (by kernel_rfl) (by simp) (AllReadyH.cons rfl (fun K hK => ?_) AllReadyH.nil)
                go_simp
                refine (HCl2.out A5 c5 w5_ (by omega) lm5 (Cells.own fo5)).mono ?_
                rintro e w6_ ⟨rfl, hb6⟩
                have fx6 := fx5.below hb6
                have fc6 := fc5.below hb6
                have fo6 := own_below fo5 hb6
                have Hb6 : Below w8.heap.size w8 w6_ := below_of Hb5 hb6 Hb5.size
                go_wp2_with (fail)
                refine hK.out _ _ Hb6 fun _ => ?_
                clear hK K
                try simp only [List.getElem_toArray, List.getElem_cons_zero, List.getElem_cons_succ, Act.put, List.setIfInBounds_toArray, List.set_cons_zero, List.set_cons_succ]
                refine wpAnyH_take (i := 11) (v := ?_) rfl (by kernel_rfl) (by kernel_rfl) (by kernel_rfl) (fun _ _ _ h => h) (Or.inl ⟨by rfl, ?_⟩) Hb6 ?_
                rotate_left
                · intro w hSw; go_simp; try with_reducible rfl
                simp only [List.getElem_toArray, List.getElem_cons_zero, List.getElem_cons_succ, Act.put, List.setIfInBounds_toArray, List.set_cons_zero, List.set_cons_succ]
                refine wpAnyH_take (i := 12) (v := ?_) rfl (by kernel_rfl) (by kernel_rfl) (by kernel_rfl) (fun _ _ _ h => h) (Or.inl ⟨by rfl, ?_⟩) Hb6 ?_
                rotate_left
                · intro w hSw; go_simp; try with_reducible rfl
                simp only [List.getElem_toArray, List.getElem_cons_zero, List.getElem_cons_succ, Act.put, List.setIfInBounds_toArray, List.set_cons_zero, List.set_cons_succ]
                refine wpAnyH_take (i := 13) (v := ?_) rfl (by kernel_rfl) (by kernel_rfl) (by kernel_rfl) (fun _ _ _ h => h) (Or.inl ⟨by rfl, ?_⟩) Hb6 ?_
                rotate_left
                · intro w hSw; go_simp; try with_reducible rfl
                simp only [List.getElem_toArray, List.getElem_cons_zero, List.getElem_cons_succ, Act.put, List.setIfInBounds_toArray, List.set_cons_zero, List.set_cons_succ]
                refine wpAnyH_ready (rs := [15]) (by kernel_rfl) (by simp) (AllReadyH.cons rfl (fun K hK => ?_) AllReadyH.nil)
                refine step_put_blk (by rfl) _ _ _ (by rfl) (w3_.heap.size) (arrK .u8 zz) (by rfl) (by rfl) _ _ fc6 (info32 Dz.out.1) (by rw [len32 Dz.out.1, len32 z32_length]) (arrK_all _ _) ?_
                intro w7_ fc7 hg7 hz7
                have nex7 := fx6.lt
                have fx7 := fx6.grown hg7 (by simp; omega)
                have fo7 := fo6.kept hg7 (.inr apoc5)
                have Hb7 : Below w8.heap.size w8 w7_ := below_grown Hb6 hg7 Hb6.size (by simp; exact loc4)
                refine hK.out _ _ Hb7 fun _ => ?_
                clear hK K
                try simp only [List.getElem_toArray, List.getElem_cons_zero, List.getElem_cons_succ, Act.put, List.setIfInBounds_toArray, List.set_cons_zero, List.set_cons_succ]
                refine wpAnyH_take (i := 16) (v := ?_) rfl (by kernel_rfl) (by kernel_rfl) (by kernel_rfl) (fun _ _ _ h => h) (Or.inl ⟨by rfl, ?_⟩) Hb7 ?_
                rotate_left
                · intro w hSw; go_simp; try with_reducible rfl
                simp only [List.getElem_toArray, List.getElem_cons_zero, List.getElem_cons_succ, Act.put, List.setIfInBounds_toArray, List.set_cons_zero, List.set_cons_succ]
                refine wpAnyH_done (by kernel_rfl) ?_ _
                go_wp2_with (fail)
                go_meet
                exact ⟨_, rfl, rfl, Hb7⟩
            · go_simp
              generalize hge : World.alloc _ _ = w3_
              have fc3 : Blk w3_ w2_.heap.size 26 (arrK .u8 z32) := by subst hge; exact Blk.new _ _ _
              have hb3 : Below w2_.heap.size w2_ w3_ := by subst hge; exact (Below.refl _ _).alloc (Nat.le_refl _) _
              clear hge
              have fo3 := own_below fo2 hb3
              have apoc3 := apart_new fo2
              have loc3 : w8.heap.size ≤ w2_.heap.size := Hb2.size
              have Hb3 : Below w8.heap.size w8 w3_ := below_of Hb2 hb3 Hb2.size
              refine hK.out _ _ Hb3 fun _ => ?_
              clear hK K
              try simp only [List.getElem_toArray, List.getElem_cons_zero, List.getElem_cons_succ, Act.put, List.setIfInBounds_toArray, List.set_cons_zero, List.set_cons_succ]
              refine wpAnyH_ready (rs := [8]) (by kernel_rfl) (by simp) (AllReadyH.cons rfl (fun K hK => ?_) AllReadyH.nil)
              refine step_oneD (by rfl) _ (by rfl) (d) Dd.out (by rfl) ?_
              generalize hge : World.alloc _ _ = w4_
              have fx4 : Blk w4_ w3_.heap.size 26 (arrK .u8 (d)) := by subst hge; exact Blk.new _ _ _
              have hb4 : Below w3_.heap.size w3_ w4_ := by subst hge; exact (Below.refl _ _).alloc (Nat.le_refl _) _
              clear hge
              have fo4 := own_below fo3 hb4
              have fc4 := fc3.below hb4
              have apox4 := apart_new fo3
              have ltcx4 := fc3.lt
              have lox4 : w8.heap.size ≤ w3_.heap.size := Hb3.size
              have Hb4 : Below w8.heap.size w8 w4_ := below_of Hb3 hb4 Hb3.size
              refine hK.out _ _ Hb4 fun _ => ?_
              clear hK K
              try simp only [List.getElem_toArray, List.getElem_cons_zero, List.getElem_cons_succ, Act.put, List.setIfInBounds_toArray, List.set_cons_zero, List.set_cons_succ]
              refine wpAnyH_ready (rs := [9]) (by kernel_rfl) (by simp) (AllReadyH.cons rfl (fun K hK => ?_) AllReadyH.nil)
              refine step_pushDs (by rfl) (.tmp 48) (.tmp 50) (by rfl) w8.heap.size (.slice A2 (q) c2) (q) (([] : List (List Nat)) ++ p) (d) fo4 (by rfl) (w3_.heap.size) fx4 Dd.out (by rfl) (by omega) Hb4.size ?_
              intro v5 w5_ fo5 hg5 st5
              have apoc5 := apart_sits st5 apoc3 fc4.lt
              have apox5 := apart_sits st5 apox4 fx4.lt
              have fc5 := fc4.grown hg5 (fun e => apoc3 e.symm)
              have fx5 := fx4.grown hg5 (fun e => apox4 e.symm)
              have Hb5 : Below w8.heap.size w8 w5_ := below_grown Hb4 hg5 Hb4.size (own_base fo4)
              obtain ⟨A5, c5, rfl, le5, lm5, -⟩ := own_form fo5
              refine hK.out _ _ Hb5 fun _ => ?_
              clear hK K
              try simp only [List.getElem_toArray, List.getElem_cons_zero, List.getElem_cons_succ, Act.put, List.setIfInBounds_toArray, List.set_cons_zero, List.set_cons_succ]
              refine wpAnyH_ready (rs := [10]) (by kernel_rfl) (by simp) (AllReadyH.cons rfl (fun K hK => ?_) AllReadyH.nil)
              go_simp
              refine (HCl2.out A5 c5 w5_ (by omega) lm5 (Cells.own fo5)).mono ?_
              rintro e w6_ ⟨rfl, hb6⟩
              have fc6 := fc5.below hb6
              have fx6 := fx5.below hb6
              have fo6 := own_below fo5 hb6
              have Hb6 : Below w8.heap.size w8 w6_ := below_of Hb5 hb6 Hb5.size
              go_wp2_with (fail)
              refine hK.out _ _ Hb6 fun _ => ?_
              clear hK K
              try simp only [List.getElem_toArray, List.getElem_cons_zero, List.getElem_cons_succ, Act.put, List.setIfInBounds_toArray, List.set_cons_zero, List.set_cons_succ]
              refine wpAnyH_take (i := 11) (v := ?_) rfl (by kernel_rfl) (by kernel_rfl) (by kernel_rfl) (fun _ _ _ h => h) (Or.inl ⟨by rfl, ?_⟩) Hb6 ?_
              rotate_left
              · intro w hSw; go_simp; try with_reducible rfl
              simp only [List.getElem_toArray, List.getElem_cons_zero, List.getElem_cons_succ, Act.put, List.setIfInBounds_toArray, List.set_cons_zero, List.set_cons_succ]
              refine wpAnyH_take (i := 12) (v := ?_) rfl (by kernel_rfl) (by kernel_rfl) (by kernel_rfl) (fun _ _ _ h => h) (Or.inl ⟨by rfl, ?_⟩) Hb6 ?_
              rotate_left
              · intro w hSw; go_simp; try with_reducible rfl
              simp only [List.getElem_toArray, List.getElem_cons_zero, List.getElem_cons_succ, Act.put, List.setIfInBounds_toArray, List.set_cons_zero, List.set_cons_succ]
              refine wpAnyH_take (i := 13) (v := ?_) rfl (by kernel_rfl) (by kernel_rfl) (by kernel_rfl) (fun _ _ _ h => h) (Or.inl ⟨by rfl, ?_⟩) Hb6 ?_
              rotate_left
              · intro w hSw; go_simp; try with_reducible rfl
              simp only [List.getElem_toArray, List.getElem_cons_zero, List.getElem_cons_succ, Act.put, List.setIfInBounds_toArray, List.set_cons_zero, List.set_cons_succ]
              refine wpAnyH_ready (rs := [15]) (by kernel_rfl) (by simp) (AllReadyH.cons rfl (fun K hK => ?_) AllReadyH.nil)
              refine step_put_blk (by rfl) _ _ _ (by rfl) (w2_.heap.size) (arrK .u8 zz) (by rfl) (by rfl) _ _ fc6 (info32 Dz.out.1) (by rw [len32 Dz.out.1, len32 z32_length]) (arrK_all _ _) ?_
              intro w7_ fc7 hg7 hz7
              have nex7 := fx6.lt
              have fx7 := fx6.grown hg7 (by simp; omega)
              have fo7 := fo6.kept hg7 (.inr apoc5)
              have Hb7 : Below w8.heap.size w8 w7_ := below_grown Hb6 hg7 Hb6.size (by simp; exact loc3)
              refine hK.out _ _ Hb7 fun _ => ?_
              clear hK K
              try simp only [List.getElem_toArray, List.getElem_cons_zero, List.getElem_cons_succ, Act.put, List.setIfInBounds_toArray, List.set_cons_zero, List.set_cons_succ]
              refine wpAnyH_take (i := 16) (v := ?_) rfl (by kernel_rfl) (by kernel_rfl) (by kernel_rfl) (fun _ _ _ h => h) (Or.inl ⟨by rfl, ?_⟩) Hb7 ?_
              rotate_left
              · intro w hSw; go_simp; try with_reducible rfl
              simp only [List.getElem_toArray, List.getElem_cons_zero, List.getElem_cons_succ, Act.put, List.setIfInBounds_toArray, List.set_cons_zero, List.set_cons_succ]
              refine wpAnyH_done (by kernel_rfl) ?_ _
              go_wp2_with (fail)
              go_meet
              exact ⟨_, rfl, rfl, Hb7⟩
          · refine step_oneD (by rfl) _ (by rfl) (d) Dd.out (by rfl) ?_
            generalize hge : World.alloc _ _ = w2_
            have fx2 : Blk w2_ w1_.heap.size 26 (arrK .u8 (d)) := by subst hge; exact Blk.new _ _ _
            have hb2 : Below w1_.heap.size w1_ w2_ := by subst hge; exact (Below.refl _ _).alloc (Nat.le_refl _) _
            clear hge
            have fo2 := own_below fo1 hb2
            have apox2 := apart_new fo1
            have lox2 : w8.heap.size ≤ w1_.heap.size := Hb1.size
            have Hb2 : Below w8.heap.size w8 w2_ := below_of Hb1 hb2 Hb1.size
            refine hK.out _ _ Hb2 fun _ => ?_
            clear hK K
            try simp only [List.getElem_toArray, List.getElem_cons_zero, List.getElem_cons_succ, Act.put, List.setIfInBounds_toArray, List.set_cons_zero, List.set_cons_succ]
            refine wpAnyH_ready (rs := [6, 14]) (by kernel_rfl) (by simp) (AllReadyH.cons rfl (fun K hK => ?_) (AllReadyH.cons rfl (fun K hK => ?_) AllReadyH.nil))
            · refine step_addDs (by rfl) (.tmp 46) (.tmp 47) (by rfl) w8.heap.size (.slice (some ⟨wd.heap.size, 0, none⟩) 0 0) (0) ([] : List (List Nat)) fo2 (by rfl) Ap q cp p Hpq.out HpL.out (HC8.out.below Hb2) (by rfl) (by omega) Hb2.size ?_
              intro v3 w3_ fo3 hg3 st3
              have apox3 := apart_sits st3 apox2 fx2.lt
              have fx3 := fx2.grown hg3 (fun e => apox2 e.symm)
              have Hb3 : Below w8.heap.size w8 w3_ := below_grown Hb2 hg3 Hb2.size (own_base fo2)
              obtain ⟨A3, c3, rfl, le3, lm3, -⟩ := own_form fo3
              rw [Nat.zero_add] at fo3 le3 apox3
              simp only [Nat.zero_add]
              refine hK.out _ _ Hb3 fun _ => ?_
              clear hK K
              try simp only [List.getElem_toArray, List.getElem_cons_zero, List.getElem_cons_succ, Act.put, List.setIfInBounds_toArray, List.set_cons_zero, List.set_cons_succ]
              refine wpAnyH_ready (rs := [9, 14]) (by kernel_rfl) (by simp) (AllReadyH.cons rfl (fun K hK => ?_) (AllReadyH.cons rfl (fun K hK => ?_) AllReadyH.nil))
              · refine step_pushDs (by rfl) (.tmp 48) (.tmp 50) (by rfl) w8.heap.size (.slice A3 (q) c3) (q) (([] : List (List Nat)) ++ p) (d) fo3 (by rfl) (w1_.heap.size) fx3 Dd.out (by rfl) (by omega) Hb3.size ?_
                intro v4 w4_ fo4 hg4 st4
                have apox4 := apart_sits st4 apox3 fx3.lt
                have fx4 := fx3.grown hg4 (fun e => apox3 e.symm)
                have Hb4 : Below w8.heap.size w8 w4_ := below_grown Hb3 hg4 Hb3.size (own_base fo3)
                obtain ⟨A4, c4, rfl, le4, lm4, -⟩ := own_form fo4
                refine hK.out _ _ Hb4 fun _ => ?_
                clear hK K
                try simp only [List.getElem_toArray, List.getElem_cons_zero, List.getElem_cons_succ, Act.put, List.setIfInBounds_toArray, List.set_cons_zero, List.set_cons_succ]
                refine wpAnyH_ready (rs := [10, 14]) (by kernel_rfl) (by simp) (AllReadyH.cons rfl (fun K hK => ?_) (AllReadyH.cons rfl (fun K hK => ?_) AllReadyH.nil))
                · go_simp
                  refine (HCl2.out A4 c4 w4_ (by omega) lm4 (Cells.own fo4)).mono ?_
                  rintro e w5_ ⟨rfl, hb5⟩
                  have fx5 := fx4.below hb5
                  have fo5 := own_below fo4 hb5
                  have Hb5 : Below w8.heap.size w8 w5_ := below_of Hb4 hb5 Hb4.size
                  go_wp2_with (fail)
                  refine hK.out _ _ Hb5 fun _ => ?_
                  clear hK K
                  try simp only [List.getElem_toArray, List.getElem_cons_zero, List.getElem_cons_succ, Act.put, List.setIfInBounds_toArray, List.set_cons_zero, List.set_cons_succ]
                  refine wpAnyH_take (i := 11) (v := ?_) rfl (by kernel_rfl) (by kernel_rfl) (by kernel_rfl) (fun _ _ _ h => h) (Or.inl ⟨by rfl, ?_⟩) Hb5 ?_
                  rotate_left
                  · intro w hSw; go_simp; try with_reducible rfl
                  simp only [List.getElem_toArray, List.getElem_cons_zero, List.getElem_cons_succ, Act.put, List.setIfInBounds_toArray, List.set_cons_zero, List.set_cons_succ]
                  refine wpAnyH_take (i := 12) (v := ?_) rfl (by kernel_rfl) (by kernel_rfl) (by kernel_rfl) (fun _ _ _ h => h) (Or.inl ⟨by rfl, ?_⟩) Hb5 ?_
                  rotate_left
                  · intro w hSw; go_simp; try with_reducible rfl
                  simp only [List.getElem_toArray, List.getElem_cons_zero, List.getElem_cons_succ, Act.put, List.setIfInBounds_toArray, List.set_cons_zero, List.set_cons_succ]
                  refine wpAnyH_take (i := 13) (v := ?_) rfl (by kernel_rfl) (by kernel_rfl) (by kernel_rfl) (fun _ _ _ h => h) (Or.inl ⟨by rfl, ?_⟩) Hb5 ?_
                  rotate_left
                  · intro w hSw; go_simp; try with_reducible rfl
                  simp only [List.getElem_toArray, List.getElem_cons_zero, List.getElem_cons_succ, Act.put, List.setIfInBounds_toArray, List.set_cons_zero, List.set_cons_succ]
                  refine wpAnyH_ready (rs := [14]) (by kernel_rfl) (by simp) (AllReadyH.cons rfl (fun K hK => ?_) AllReadyH.nil)
                  go_simp
                  generalize hge : World.alloc _ _ = w6_
                  have fc6 : Blk w6_ w5_.heap.size 26 (arrK .u8 z32) := by subst hge; exact Blk.new _ _ _
                  have hb6 : Below w5_.heap.size w5_ w6_ := by subst hge; exact (Below.refl _ _).alloc (Nat.le_refl _) _
                  clear hge
                  have fx6 := fx5.below hb6
                  have fo6 := own_below fo5 hb6
                  have ltxc6 := fx5.lt
                  have apoc6 := apart_new fo5
                  have loc6 : w8.heap.size ≤ w5_.heap.size := Hb5.size
                  have Hb6 : Below w8.heap.size w8 w6_ := below_of Hb5 hb6 Hb5.size
                  refine hK.out _ _ Hb6 fun _ => ?_
                  clear hK K
                  try simp only [List.getElem_toArray, List.getElem_cons_zero, List.getElem_cons_succ, Act.put, List.setIfInBounds_toArray, List.set_cons_zero, List.set_cons_succ]
                  refine wpAnyH_ready (rs := [15]) (by kernel_rfl) (by simp) (AllReadyH.cons rfl (fun K hK => ?_) AllReadyH.nil)
                  refine step_put_blk (by rfl) _ _ _ (by rfl) (w5_.heap.size) (arrK .u8 zz) (by rfl) (by rfl) _ _ fc6 (info32 Dz.out.1) (by rw [len32 Dz.out.1, len32 z32_length]) (arrK_all _ _) ?_
                  intro w7_ fc7 hg7 hz7
                  have nex7 := fx6.lt
                  have fx7 := fx6.grown hg7 (by simp; omega)
                  have fo7 := fo6.kept hg7 (.inr apoc6)
                  have Hb7 : Below w8.heap.size w8 w7_ := below_grown Hb6 hg7 Hb6.size (by simp; exact loc6)
                  refine hK.out _ _ Hb7 fun _ => ?_
                  clear hK K
                  try simp only [List.getElem_toArray, List.getElem_cons_zero, List.getElem_cons_succ, Act.put, List.setIfInBounds_toArray, List.set_cons_zero, List.set_cons_succ]
                  refine wpAnyH_take (i := 16) (v := ?_) rfl (by kernel_rfl) (by kernel_rfl) (by kernel_rfl) (fun _ _ _ h => h) (Or.inl ⟨by rfl, ?_⟩) Hb7 ?_
                  rotate_left
                  · intro w hSw; go_simp; try with_reducible rfl
                  simp only [List.getElem_toArray, List.getElem_cons_zero, List.getElem_cons_succ, Act.put, List.setIfInBounds_toArray, List.set_cons_zero, List.set_cons_succ]
                  refine wpAnyH_done (by kernel_rfl) ?_ _
                  go_wp2_with (fail)
                  go_meet
                  exact ⟨_, rfl, rfl, Hb7⟩
                · go_simp
                  generalize hge : World.alloc _ _ = w5_
                  have fc5 : Blk w5_ w4_.heap.size 26 (arrK .u8 z32) := by subst hge; exact Blk.new _ _ _
                  have hb5 : Below w4_.heap.size w4_ w5_ := by subst hge; exact (Below.refl _ _).alloc (Nat.le_refl _) _
                  clear hge
                  have fx5 := fx4.below hb5
                  have fo5 := own_below fo4 hb5
                  have ltxc5 := fx4.lt
                  have apoc5 := apart_new fo4
                  have loc5 : w8.heap.size ≤ w4_.heap.size := Hb4.size
                  have Hb5 : Below w8.heap.size w8 w5_ := below_of Hb4 hb5 Hb4.size
                  refine hK.out _ _ Hb5 fun _ => ?_
                  clear hK K
                  try simp only [List.getElem_toArray, List.getElem_cons_zero, List.getElem_cons_succ, Act.put, List.setIfInBounds_toArray, List.set_cons_zero, List.set_cons_succ]
                  refine wpAnyH_ready (rs := [10]) (by kernel_rfl) (by simp) (AllReadyH.cons rfl (fun K hK => ?_) AllReadyH.nil)
                  go_simp
                  refine (HCl2.out A4 c4 w5_ (by omega) lm4 (Cells.own fo5)).mono ?_
                  rintro e w6_ ⟨rfl, hb6⟩
                  have fx6 := fx5.below hb6
                  have fo6 := own_below fo5 hb6
                  have fc6 := fc5.below hb6
                  have Hb6 : Below w8.heap.size w8 w6_ := below_of Hb5 hb6 Hb5.size
                  go_wp2_with (fail)
                  refine hK.out _ _ Hb6 fun _ => ?_
                  clear hK K
                  try simp only [List.getElem_toArray, List.getElem_cons_zero, List.getElem_cons_succ, Act.put, List.setIfInBounds_toArray, List.set_cons_zero, List.set_cons_succ]
                  refine wpAnyH_take (i := 11) (v := ?_) rfl (by kernel_rfl) (by kernel_rfl) (by kernel_rfl) (fun _ _ _ h => h) (Or.inl ⟨by rfl, ?_⟩) Hb6 ?_
                  rotate_left
                  · intro w hSw; go_simp; try with_reducible rfl
                  simp only [List.getElem_toArray, List.getElem_cons_zero, List.getElem_cons_succ, Act.put, List.setIfInBounds_toArray, List.set_cons_zero, List.set_cons_succ]
                  refine wpAnyH_take (i := 12) (v := ?_) rfl (by kernel_rfl) (by kernel_rfl) (by kernel_rfl) (fun _ _ _ h => h) (Or.inl ⟨by rfl, ?_⟩) Hb6 ?_
                  rotate_left
                  · intro w hSw; go_simp; try with_reducible rfl
                  simp only [List.getElem_toArray, List.getElem_cons_zero, List.getElem_cons_succ, Act.put, List.setIfInBounds_toArray, List.set_cons_zero, List.set_cons_succ]
                  refine wpAnyH_take (i := 13) (v := ?_) rfl (by kernel_rfl) (by kernel_rfl) (by kernel_rfl) (fun _ _ _ h => h) (Or.inl ⟨by rfl, ?_⟩) Hb6 ?_
                  rotate_left
                  · intro w hSw; go_simp; try with_reducible rfl
                  simp only [List.getElem_toArray, List.getElem_cons_zero, List.getElem_cons_succ, Act.put, List.setIfInBounds_toArray, List.set_cons_zero, List.set_cons_succ]
                  refine wpAnyH_ready (rs := [15]) (by kernel_rfl) (by simp) (AllReadyH.cons rfl (fun K hK => ?_) AllReadyH.nil)
                  refine step_put_blk (by rfl) _ _ _ (by rfl) (w4_.heap.size) (arrK .u8 zz) (by rfl) (by rfl) _ _ fc6 (info32 Dz.out.1) (by rw [len32 Dz.out.1, len32 z32_length]) (arrK_all _ _) ?_
                  intro w7_ fc7 hg7 hz7
                  have nex7 := fx6.lt
                  have fx7 := fx6.grown hg7 (by simp; omega)
                  have fo7 := fo6.kept hg7 (.inr apoc5)
                  have Hb7 : Below w8.heap.size w8 w7_ := below_grown Hb6 hg7 Hb6.size (by simp; exact loc5)
                  refine hK.out _ _ Hb7 fun _ => ?_
                  clear hK K
                  try simp only [List.getElem_toArray, List.getElem_cons_zero, List.getElem_cons_succ, Act.put, List.setIfInBounds_toArray, List.set_cons_zero, List.set_cons_succ]
                  refine wpAnyH_take (i := 16) (v := ?_) rfl (by kernel_rfl) (by kernel_rfl) (by kernel_rfl) (fun _ _ _ h => h) (Or.inl ⟨by rfl, ?_⟩) Hb7 ?_
                  rotate_left
                  · intro w hSw; go_simp; try with_reducible rfl
                  simp only [List.getElem_toArray, List.getElem_cons_zero, List.getElem_cons_succ, Act.put, List.setIfInBounds_toArray, List.set_cons_zero, List.set_cons_succ]
                  refine wpAnyH_done (by kernel_rfl) ?_ _
                  go_wp2_with (fail)
                  go_meet
                  exact ⟨_, rfl, rfl, Hb7⟩
              · go_simp
                generalize hge : World.alloc _ _ = w4_
                have fc4 : Blk w4_ w3_.heap.size 26 (arrK .u8 z32) := by subst hge; exact Blk.new _ _ _
                have hb4 : Below w3_.heap.size w3_ w4_ := by subst hge; exact (Below.refl _ _).alloc (Nat.le_refl _) _
                clear hge
                have fx4 := fx3.below hb4
                have fo4 := own_below fo3 hb4
                have ltxc4 := fx3.lt
                have apoc4 := apart_new fo3
                have loc4 : w8.heap.size ≤ w3_.heap.size := Hb3.size
                have Hb4 : Below w8.heap.size w8 w4_ := below_of Hb3 hb4 Hb3.size
                refine hK.out _ _ Hb4 fun _ => ?_
                clear hK K
                try simp only [List.getElem_toArray, List.getElem_cons_zero, List.getElem_cons_succ, Act.put, List.setIfInBounds_toArray, List.set_cons_zero, List.set_cons_succ]
                refine wpAnyH_ready (rs := [9]) (by kernel_rfl) (by simp) (AllReadyH.cons rfl (fun K hK => ?_) AllReadyH.nil)
                refine step_pushDs (by rfl) (.tmp 48) (.tmp 50) (by rfl) w8.heap.size (.slice A3 (q) c3) (q) (([] : List (List Nat)) ++ p) (d) fo4 (by rfl) (w1_.heap.size) fx4 Dd.out (by rfl) (by omega) Hb4.size ?_
                intro v5 w5_ fo5 hg5 st5
                have apox5 := apart_sits st5 apox3 fx4.lt
                have apoc5 := apart_sits st5 apoc4 fc4.lt
                have fx5 := fx4.grown hg5 (fun e => apox3 e.symm)
                have fc5 := fc4.grown hg5 (fun e => apoc4 e.symm)
                have Hb5 : Below w8.heap.size w8 w5_ := below_grown Hb4 hg5 Hb4.size (own_base fo4)
                obtain ⟨A5, c5, rfl, le5, lm5, -⟩ := own_form fo5
                refine hK.out _ _ Hb5 fun _ => ?_
                clear hK K
                try simp only [List.getElem_toArray, List.getElem_cons_zero, List.getElem_cons_succ, Act.put, List.setIfInBounds_toArray, List.set_cons_zero, List.set_cons_succ]
                refine wpAnyH_ready (rs := [10]) (by kernel_rfl) (by simp) (AllReadyH.cons rfl (fun K hK => ?_) AllReadyH.nil)
                go_simp
                refine (HCl2.out A5 c5 w5_ (by omega) lm5 (Cells.own fo5)).mono ?_
                rintro e w6_ ⟨rfl, hb6⟩
                have fx6 := fx5.below hb6
                have fc6 := fc5.below hb6
                have fo6 := own_below fo5 hb6
                have Hb6 : Below w8.heap.size w8 w6_ := below_of Hb5 hb6 Hb5.size
                go_wp2_with (fail)
                refine hK.out _ _ Hb6 fun _ => ?_
                clear hK K
                try simp only [List.getElem_toArray, List.getElem_cons_zero, List.getElem_cons_succ, Act.put, List.setIfInBounds_toArray, List.set_cons_zero, List.set_cons_succ]
                refine wpAnyH_take (i := 11) (v := ?_) rfl (by kernel_rfl) (by kernel_rfl) (by kernel_rfl) (fun _ _ _ h => h) (Or.inl ⟨by rfl, ?_⟩) Hb6 ?_
                rotate_left
                · intro w hSw; go_simp; try with_reducible rfl
                simp only [List.getElem_toArray, List.getElem_cons_zero, List.getElem_cons_succ, Act.put, List.setIfInBounds_toArray, List.set_cons_zero, List.set_cons_succ]
                refine wpAnyH_take (i := 12) (v := ?_) rfl (by kernel_rfl) (by kernel_rfl) (by kernel_rfl) (fun _ _ _ h => h) (Or.inl ⟨by rfl, ?_⟩) Hb6 ?_
                rotate_left
                · intro w hSw; go_simp; try with_reducible rfl
                simp only [List.getElem_toArray, List.getElem_cons_zero, List.getElem_cons_succ, Act.put, List.setIfInBounds_toArray, List.set_cons_zero, List.set_cons_succ]
                refine wpAnyH_take (i := 13) (v := ?_) rfl (by kernel_rfl) (by kernel_rfl) (by kernel_rfl) (fun _ _ _ h => h) (Or.inl ⟨by rfl, ?_⟩) Hb6 ?_
                rotate_left
                · intro w hSw; go_simp; try with_reducible rfl
                simp only [List.getElem_toArray, List.getElem_cons_zero, List.getElem_cons_succ, Act.put, List.setIfInBounds_toArray, List.set_cons_zero, List.set_cons_succ]
                refine wpAnyH_ready (rs := [15]) (by kernel_rfl) (by simp) (AllReadyH.cons rfl (fun K hK => ?_) AllReadyH.nil)
                refine step_put_blk (by rfl) _ _ _ (by rfl) (w3_.heap.size) (arrK .u8 zz) (by rfl) (by rfl) _ _ fc6 (info32 Dz.out.1) (by rw [len32 Dz.out.1, len32 z32_length]) (arrK_all _ _) ?_
                intro w7_ fc7 hg7 hz7
                have nex7 := fx6.lt
                have fx7 := fx6.grown hg7 (by simp; omega)
                have fo7 := fo6.kept hg7 (.inr apoc5)
                have Hb7 : Below w8.heap.size w8 w7_ := below_grown Hb6 hg7 Hb6.size (by simp; exact loc4)
                refine hK.out _ _ Hb7 fun _ => ?_
                clear hK K
                try simp only [List.getElem_toArray, List.getElem_cons_zero, List.getElem_cons_succ, Act.put, List.setIfInBounds_toArray, List.set_cons_zero, List.set_cons_succ]
                refine wpAnyH_take (i := 16) (v := ?_) rfl (by kernel_rfl) (by kernel_rfl) (by kernel_rfl) (fun _ _ _ h => h) (Or.inl ⟨by rfl, ?_⟩) Hb7 ?_
                rotate_left
                · intro w hSw; go_simp; try with_reducible rfl
                simp only [List.getElem_toArray, List.getElem_cons_zero, List.getElem_cons_succ, Act.put, List.setIfInBounds_toArray, List.set_cons_zero, List.set_cons_succ]
                refine wpAnyH_done (by kernel_rfl) ?_ _
                go_wp2_with (fail)
                go_meet
                exact ⟨_, rfl, rfl, Hb7⟩
            · go_simp
              generalize hge : World.alloc _ _ = w3_
              have fc3 : Blk w3_ w2_.heap.size 26 (arrK .u8 z32) := by subst hge; exact Blk.new _ _ _
              have hb3 : Below w2_.heap.size w2_ w3_ := by subst hge; exact (Below.refl _ _).alloc (Nat.le_refl _) _
              clear hge
              have fo3 := own_below fo2 hb3
              have fx3 := fx2.below hb3
              have apoc3 := apart_new fo2
              have ltxc3 := fx2.lt
              have loc3 : w8.heap.size ≤ w2_.heap.size := Hb2.size
              have Hb3 : Below w8.heap.size w8 w3_ := below_of Hb2 hb3 Hb2.size
              refine hK.out _ _ Hb3 fun _ => ?_
              clear hK K
              try simp only [List.getElem_toArray, List.getElem_cons_zero, List.getElem_cons_succ, Act.put, List.setIfInBounds_toArray, List.set_cons_zero, List.set_cons_succ]
              refine wpAnyH_ready (rs := [6]) (by kernel_rfl) (by simp) (AllReadyH.cons rfl (fun K hK => ?_) AllReadyH.nil)
              refine step_addDs (by rfl) (.tmp 46) (.tmp 47) (by rfl) w8.heap.size (.slice (some ⟨wd.heap.size, 0, none⟩) 0 0) (0) ([] : List (List Nat)) fo3 (by rfl) Ap q cp p Hpq.out HpL.out (HC8.out.below Hb3) (by rfl) (by omega) Hb3.size ?_
              intro v4 w4_ fo4 hg4 st4
              have apox4 := apart_sits st4 apox2 fx3.lt
              have apoc4 := apart_sits st4 apoc3 fc3.lt
              have fx4 := fx3.grown hg4 (fun e => apox2 e.symm)
              have fc4 := fc3.grown hg4 (fun e => apoc3 e.symm)
              have Hb4 : Below w8.heap.size w8 w4_ := below_grown Hb3 hg4 Hb3.size (own_base fo3)
              obtain ⟨A4, c4, rfl, le4, lm4, -⟩ := own_form fo4
              rw [Nat.zero_add] at fo4 le4 apox4 apoc4
              simp only [Nat.zero_add]
              refine hK.out _ _ Hb4 fun _ => ?_
              clear hK K
              try simp only [List.getElem_toArray, List.getElem_cons_zero, List.getElem_cons_succ, Act.put, List.setIfInBounds_toArray, List.set_cons_zero, List.set_cons_succ]
              refine wpAnyH_ready (rs := [9]) (by kernel_rfl) (by simp) (AllReadyH.cons rfl (fun K hK => ?_) AllReadyH.nil)
              refine step_pushDs (by rfl) (.tmp 48) (.tmp 50) (by rfl) w8.heap.size (.slice A4 (q) c4) (q) (([] : List (List Nat)) ++ p) (d) fo4 (by rfl) (w1_.heap.size) fx4 Dd.out (by rfl) (by omega) Hb4.size ?_
              intro v5 w5_ fo5 hg5 st5
              have apox5 := apart_sits st5 apox4 fx4.lt
              have apoc5 := apart_sits st5 apoc4 fc4.lt
              have fx5 := fx4.grown hg5 (fun e => apox4 e.symm)
              have fc5 := fc4.grown hg5 (fun e => apoc4 e.symm)
              have Hb5 : Below w8.heap.size w8 w5_ := below_grown Hb4 hg5 Hb4.size (own_base fo4)
              obtain ⟨A5, c5, rfl, le5, lm5, -⟩ := own_form fo5
              refine hK.out _ _ Hb5 fun _ => ?_
              clear hK K
              try simp only [List.getElem_toArray, List.getElem_cons_zero, List.getElem_cons_succ, Act.put, List.setIfInBounds_toArray, List.set_cons_zero, List.set_cons_succ]
              refine wpAnyH_ready (rs := [10]) (by kernel_rfl) (by simp) (AllReadyH.cons rfl (fun K hK => ?_) AllReadyH.nil)
              go_simp
              refine (HCl2.out A5 c5 w5_ (by omega) lm5 (Cells.own fo5)).mono ?_
              rintro e w6_ ⟨rfl, hb6⟩
              have fx6 := fx5.below hb6
              have fc6 := fc5.below hb6
              have fo6 := own_below fo5 hb6
              have Hb6 : Below w8.heap.size w8 w6_ := below_of Hb5 hb6 Hb5.size
              go_wp2_with (fail)
              refine hK.out _ _ Hb6 fun _ => ?_
              clear hK K
              try simp only [List.getElem_toArray, List.getElem_cons_zero, List.getElem_cons_succ, Act.put, List.setIfInBounds_toArray, List.set_cons_zero, List.set_cons_succ]
              refine wpAnyH_take (i := 11) (v := ?_) rfl (by kernel_rfl) (by kernel_rfl) (by kernel_rfl) (fun _ _ _ h => h) (Or.inl ⟨by rfl, ?_⟩) Hb6 ?_
              rotate_left
              · intro w hSw; go_simp; try with_reducible rfl
              simp only [List.getElem_toArray, List.getElem_cons_zero, List.getElem_cons_succ, Act.put, List.setIfInBounds_toArray, List.set_cons_zero, List.set_cons_succ]
              refine wpAnyH_take (i := 12) (v := ?_) rfl (by kernel_rfl) (by kernel_rfl) (by kernel_rfl) (fun _ _ _ h => h) (Or.inl ⟨by rfl, ?_⟩) Hb6 ?_
              rotate_left
              · intro w hSw; go_simp; try with_reducible rfl
              simp only [List.getElem_toArray, List.getElem_cons_zero, List.getElem_cons_succ, Act.put, List.setIfInBounds_toArray, List.set_cons_zero, List.set_cons_succ]
              refine wpAnyH_take (i := 13) (v := ?_) rfl (by kernel_rfl) (by kernel_rfl) (by kernel_rfl) (fun _ _ _ h => h) (Or.inl ⟨by rfl, ?_⟩) Hb6 ?_
              rotate_left
              · intro w hSw; go_simp; try with_reducible rfl
              simp only [List.getElem_toArray, List.getElem_cons_zero, List.getElem_cons_succ, Act.put, List.setIfInBounds_toArray, List.set_cons_zero, List.set_cons_succ]
              refine wpAnyH_ready (rs := [15]) (by kernel_rfl) (by simp) (AllReadyH.cons rfl (fun K hK => ?_) AllReadyH.nil)
              refine step_put_blk (by rfl) _ _ _ (by rfl) (w2_.heap.size) (arrK .u8 zz) (by rfl) (by rfl) _ _ fc6 (info32 Dz.out.1) (by rw [len32 Dz.out.1, len32 z32_length]) (arrK_all _ _) ?_
              intro w7_ fc7 hg7 hz7
              have nex7 := fx6.lt
              have fx7 := fx6.grown hg7 (by simp; omega)
              have fo7 := fo6.kept hg7 (.inr apoc5)
              have Hb7 : Below w8.heap.size w8 w7_ := below_grown Hb6 hg7 Hb6.size (by simp; exact loc3)
              refine hK.out _ _ Hb7 fun _ => ?_
              clear hK K
              try simp only [List.getElem_toArray, List.getElem_cons_zero, List.getElem_cons_succ, Act.put, List.setIfInBounds_toArray, List.set_cons_zero, List.set_cons_succ]
              refine wpAnyH_take (i := 16) (v := ?_) rfl (by kernel_rfl) (by kernel_rfl) (by kernel_rfl) (fun _ _ _ h => h) (Or.inl ⟨by rfl, ?_⟩) Hb7 ?_
              rotate_left
              · intro w hSw; go_simp; try with_reducible rfl
              simp only [List.getElem_toArray, List.getElem_cons_zero, List.getElem_cons_succ, Act.put, List.setIfInBounds_toArray, List.set_cons_zero, List.set_cons_succ]
              refine wpAnyH_done (by kernel_rfl) ?_ _
              go_wp2_with (fail)
              go_meet
              exact ⟨_, rfl, rfl, Hb7⟩
          · go_simp
            generalize hge : World.alloc _ _ = w2_
            have fc2 : Blk w2_ w1_.heap.size 26 (arrK .u8 z32) := by subst hge; exact Blk.new _ _ _
            have hb2 : Below w1_.heap.size w1_ w2_ := by subst hge; exact (Below.refl _ _).alloc (Nat.le_refl _) _
            clear hge
            have fo2 := own_below fo1 hb2
            have apoc2 := apart_new fo1
            have loc2 : w8.heap.size ≤ w1_.heap.size := Hb1.size
            have Hb2 : Below w8.heap.size w8 w2_ := below_of Hb1 hb2 Hb1.size
            refine hK.out _ _ Hb2 fun _ => ?_
            clear hK K
            try simp only [List.getElem_toArray, List.getElem_cons_zero, List.getElem_cons_succ, Act.put, List.setIfInBounds_toArray, List.set_cons_zero, List.set_cons_succ]
            refine wpAnyH_ready (rs := [6, 8]) (by kernel_rfl) (by simp) (AllReadyH.cons rfl (fun K hK => ?_) (AllReadyH.cons rfl (fun K hK => ?_) AllReadyH.nil))
            · refine step_addDs (by rfl) (.tmp 46) (.tmp 47) (by rfl) w8.heap.size (.slice (some ⟨wd.heap.size, 0, none⟩) 0 0) (0) ([] : List (List Nat)) fo2 (by rfl) Ap q cp p Hpq.out HpL.out (HC8.out.below Hb2) (by rfl) (by omega) Hb2.size ?_
              intro v3 w3_ fo3 hg3 st3
              have apoc3 := apart_sits st3 apoc2 fc2.lt
              have fc3 := fc2.grown hg3 (fun e => apoc2 e.symm)
              have Hb3 : Below w8.heap.size w8 w3_ := below_grown Hb2 hg3 Hb2.size (own_base fo2)
              obtain ⟨A3, c3, rfl, le3, lm3, -⟩ := own_form fo3
              rw [Nat.zero_add] at fo3 le3 apoc3
              simp only [Nat.zero_add]
              refine hK.out _ _ Hb3 fun _ => ?_
              clear hK K
              try simp only [List.getElem_toArray, List.getElem_cons_zero, List.getElem_cons_succ, Act.put, List.setIfInBounds_toArray, List.set_cons_zero, List.set_cons_succ]
              refine wpAnyH_ready (rs := [8]) (by kernel_rfl) (by simp) (AllReadyH.cons rfl (fun K hK => ?_) AllReadyH.nil)
              refine step_oneD (by rfl) _ (by rfl) (d) Dd.out (by rfl) ?_
              generalize hge : World.alloc _ _ = w4_
              have fx4 : Blk w4_ w3_.heap.size 26 (arrK .u8 (d)) := by subst hge; exact Blk.new _ _ _
              have hb4 : Below w3_.heap.size w3_ w4_ := by subst hge; exact (Below.refl _ _).alloc (Nat.le_refl _) _
              clear hge
              have fc4 := fc3.below hb4
              have fo4 := own_below fo3 hb4
              have ltcx4 := fc3.lt
              have apox4 := apart_new fo3
              have lox4 : w8.heap.size ≤ w3_.heap.size := Hb3.size
              have Hb4 : Below w8.heap.size w8 w4_ := below_of Hb3 hb4 Hb3.size
              refine hK.out _ _ Hb4 fun _ => ?_
              clear hK K
              try simp only [List.getElem_toArray, List.getElem_cons_zero, List.getElem_cons_succ, Act.put, List.setIfInBounds_toArray, List.set_cons_zero, List.set_cons_succ]
              refine wpAnyH_ready (rs := [9]) (by kernel_rfl) (by simp) (AllReadyH.cons rfl (fun K hK => ?_) AllReadyH.nil)
              refine step_pushDs (by rfl) (.tmp 48) (.tmp 50) (by rfl) w8.heap.size (.slice A3 (q) c3) (q) (([] : List (List Nat)) ++ p) (d) fo4 (by rfl) (w3_.heap.size) fx4 Dd.out (by rfl) (by omega) Hb4.size ?_
              intro v5 w5_ fo5 hg5 st5
              have apoc5 := apart_sits st5 apoc3 fc4.lt
              have apox5 := apart_sits st5 apox4 fx4.lt
              have fc5 := fc4.grown hg5 (fun e => apoc3 e.symm)
              have fx5 := fx4.grown hg5 (fun e => apox4 e.symm)
              have Hb5 : Below w8.heap.size w8 w5_ := below_grown Hb4 hg5 Hb4.size (own_base fo4)
              obtain ⟨A5, c5, rfl, le5, lm5, -⟩ := own_form fo5
              refine hK.out _ _ Hb5 fun _ => ?_
              clear hK K
              try simp only [List.getElem_toArray, List.getElem_cons_zero, List.getElem_cons_succ, Act.put, List.setIfInBounds_toArray, List.set_cons_zero, List.set_cons_succ]
              refine wpAnyH_ready (rs := [10]) (by kernel_rfl) (by simp) (AllReadyH.cons rfl (fun K hK => ?_) AllReadyH.nil)
              go_simp
              refine (HCl2.out A5 c5 w5_ (by omega) lm5 (Cells.own fo5)).mono ?_
              rintro e w6_ ⟨rfl, hb6⟩
              have fc6 := fc5.below hb6
              have fx6 := fx5.below hb6
              have fo6 := own_below fo5 hb6
              have Hb6 : Below w8.heap.size w8 w6_ := below_of Hb5 hb6 Hb5.size
              go_wp2_with (fail)
              refine hK.out _ _ Hb6 fun _ => ?_
              clear hK K
              try simp only [List.getElem_toArray, List.getElem_cons_zero, List.getElem_cons_succ, Act.put, List.setIfInBounds_toArray, List.set_cons_zero, List.set_cons_succ]
              refine wpAnyH_take (i := 11) (v := ?_) rfl (by kernel_rfl) (by kernel_rfl) (by kernel_rfl) (fun _ _ _ h => h) (Or.inl ⟨by rfl, ?_⟩) Hb6 ?_
              rotate_left
              · intro w hSw; go_simp; try with_reducible rfl
              simp only [List.getElem_toArray, List.getElem_cons_zero, List.getElem_cons_succ, Act.put, List.setIfInBounds_toArray, List.set_cons_zero, List.set_cons_succ]
              refine wpAnyH_take (i := 12) (v := ?_) rfl (by kernel_rfl) (by kernel_rfl) (by kernel_rfl) (fun _ _ _ h => h) (Or.inl ⟨by rfl, ?_⟩) Hb6 ?_
              rotate_left
              · intro w hSw; go_simp; try with_reducible rfl
              simp only [List.getElem_toArray, List.getElem_cons_zero, List.getElem_cons_succ, Act.put, List.setIfInBounds_toArray, List.set_cons_zero, List.set_cons_succ]
              refine wpAnyH_take (i := 13) (v := ?_) rfl (by kernel_rfl) (by kernel_rfl) (by kernel_rfl) (fun _ _ _ h => h) (Or.inl ⟨by rfl, ?_⟩) Hb6 ?_
              rotate_left
              · intro w hSw; go_simp; try with_reducible rfl
              simp only [List.getElem_toArray, List.getElem_cons_zero, List.getElem_cons_succ, Act.put, List.setIfInBounds_toArray, List.set_cons_zero, List.set_cons_succ]
              refine wpAnyH_ready (rs := [15]) (by kernel_rfl) (by simp) (AllReadyH.cons rfl (fun K hK => ?_) AllReadyH.nil)
              refine step_put_blk (by rfl) _ _ _ (by rfl) (w1_.heap.size) (arrK .u8 zz) (by rfl) (by rfl) _ _ fc6 (info32 Dz.out.1) (by rw [len32 Dz.out.1, len32 z32_length]) (arrK_all _ _) ?_
              intro w7_ fc7 hg7 hz7
              have nex7 := fx6.lt
              have fx7 := fx6.grown hg7 (by simp; omega)
              have fo7 := fo6.kept hg7 (.inr apoc5)
              have Hb7 : Below w8.heap.size w8 w7_ := below_grown Hb6 hg7 Hb6.size (by simp; exact loc2)
              refine hK.out _ _ Hb7 fun _ => ?_
              clear hK K
              try simp only [List.getElem_toArray, List.getElem_cons_zero, List.getElem_cons_succ, Act.put, List.setIfInBounds_toArray, List.set_cons_zero, List.set_cons_succ]
              refine wpAnyH_take (i := 16) (v := ?_) rfl (by kernel_rfl) (by kernel_rfl) (by kernel_rfl) (fun _ _ _ h => h) (Or.inl ⟨by rfl, ?_⟩) Hb7 ?_
              rotate_left
              · intro w hSw; go_simp; try with_reducible rfl
              simp only [List.getElem_toArray, List.getElem_cons_zero, List.getElem_cons_succ, Act.put, List.setIfInBounds_toArray, List.set_cons_zero, List.set_cons_succ]
              refine wpAnyH_done (by kernel_rfl) ?_ _
              go_wp2_with (fail)
              go_meet
              exact ⟨_, rfl, rfl, Hb7⟩
            · refine step_oneD (by rfl) _ (by rfl) (d) Dd.out (by rfl) ?_
              generalize hge : World.alloc _ _ = w3_
              have fx3 : Blk w3_ w2_.heap.size 26 (arrK .u8 (d)) := by subst hge; exact Blk.new _ _ _
              have hb3 : Below w2_.heap.size w2_ w3_ := by subst hge; exact (Below.refl _ _).alloc (Nat.le_refl _) _
              clear hge
              have fo3 := own_below fo2 hb3
              have fc3 := fc2.below hb3
              have apox3 := apart_new fo2
              have ltcx3 := fc2.lt
              have lox3 : w8.heap.size ≤ w2_.heap.size := Hb2.size
              have Hb3 : Below w8.heap.size w8 w3_ := below_of Hb2 hb3 Hb2.size
              refine hK.out _ _ Hb3 fun _ => ?_
              clear hK K
              try simp only [List.getElem_toArray, List.getElem_cons_zero, List.getElem_cons_succ, Act.put, List.setIfInBounds_toArray, List.set_cons_zero, List.set_cons_succ]
              refine wpAnyH_ready (rs := [6]) (by kernel_rfl) (by simp) (AllReadyH.cons rfl (fun K hK => ?_) AllReadyH.nil)
              refine step_addDs (by rfl) (.tmp 46) (.tmp 47) (by rfl) w8.heap.size (.slice (some ⟨wd.heap.size, 0, none⟩) 0 0) (0) ([] : List (List Nat)) fo3 (by rfl) Ap q cp p Hpq.out HpL.out (HC8.out.below Hb3) (by rfl) (by omega) Hb3.size ?_
              intro v4 w4_ fo4 hg4 st4
              have apoc4 := apart_sits st4 apoc2 fc3.lt
              have apox4 := apart_sits st4 apox3 fx3.lt
              have fc4 := fc3.grown hg4 (fun e => apoc2 e.symm)
              have fx4 := fx3.grown hg4 (fun e => apox3 e.symm)
              have Hb4 : Below w8.heap.size w8 w4_ := below_grown Hb3 hg4 Hb3.size (own_base fo3)
              obtain ⟨A4, c4, rfl, le4, lm4, -⟩ := own_form fo4
              rw [Nat.zero_add] at fo4 le4 apoc4 apox4
              simp only [Nat.zero_add]
              refine hK.out _ _ Hb4 fun _ => ?_
              clear hK K
              try simp only [List.getElem_toArray, List.getElem_cons_zero, List.getElem_cons_succ, Act.put, List.setIfInBounds_toArray, List.set_cons_zero, List.set_cons_succ]
              refine wpAnyH_ready (rs := [9]) (by kernel_rfl) (by simp) (AllReadyH.cons rfl (fun K hK => ?_) AllReadyH.nil)
              refine step_pushDs (by rfl) (.tmp 48) (.tmp 50) (by rfl) w8.heap.size (.slice A4 (q) c4) (q) (([] : List (List Nat)) ++ p) (d) fo4 (by rfl) (w2_.heap.size) fx4 Dd.out (by rfl) (by omega) Hb4.size ?_
              intro v5 w5_ fo5 hg5 st5
              have apoc5 := apart_sits st5 apoc4 fc4.lt
              have apox5 := apart_sits st5 apox4 fx4.lt
              have fc5 := fc4.grown hg5 (fun e => apoc4 e.symm)
              have fx5 := fx4.grown hg5 (fun e => apox4 e.symm)
              have Hb5 : Below w8.heap.size w8 w5_ := below_grown Hb4 hg5 Hb4.size (own_base fo4)
              obtain ⟨A5, c5, rfl, le5, lm5, -⟩ := own_form fo5
              refine hK.out _ _ Hb5 fun _ => ?_
              clear hK K
              try simp only [List.getElem_toArray, List.getElem_cons_zero, List.getElem_cons_succ, Act.put, List.setIfInBounds_toArray, List.set_cons_zero, List.set_cons_succ]
              refine wpAnyH_ready (rs := [10]) (by kernel_rfl) (by simp) (AllReadyH.cons rfl (fun K hK => ?_) AllReadyH.nil)
              go_simp
              refine (HCl2.out A5 c5 w5_ (by omega) lm5 (Cells.own fo5)).mono ?_
              rintro e w6_ ⟨rfl, hb6⟩
              have fc6 := fc5.below hb6
              have fx6 := fx5.below hb6
              have fo6 := own_below fo5 hb6
              have Hb6 : Below w8.heap.size w8 w6_ := below_of Hb5 hb6 Hb5.size
              go_wp2_with (fail)
              refine hK.out _ _ Hb6 fun _ => ?_
              clear hK K
              try simp only [List.getElem_toArray, List.getElem_cons_zero, List.getElem_cons_succ, Act.put, List.setIfInBounds_toArray, List.set_cons_zero, List.set_cons_succ]
              refine wpAnyH_take (i := 11) (v := ?_) rfl (by kernel_rfl) (by kernel_rfl) (by kernel_rfl) (fun _ _ _ h => h) (Or.inl ⟨by rfl, ?_⟩) Hb6 ?_
              rotate_left
              · intro w hSw; go_simp; try with_reducible rfl
              simp only [List.getElem_toArray, List.getElem_cons_zero, List.getElem_cons_succ, Act.put, List.setIfInBounds_toArray, List.set_cons_zero, List.set_cons_succ]
              refine wpAnyH_take (i := 12) (v := ?_) rfl (by kernel_rfl) (by kernel_rfl) (by kernel_rfl) (fun _ _ _ h => h) (Or.inl ⟨by rfl, ?_⟩) Hb6 ?_
              rotate_left
              · intro w hSw; go_simp; try with_reducible rfl
              simp only [List.getElem_toArray, List.getElem_cons_zero, List.getElem_cons_succ, Act.put, List.setIfInBounds_toArray, List.set_cons_zero, List.set_cons_succ]
              refine wpAnyH_take (i := 13) (v := ?_) rfl (by kernel_rfl) (by kernel_rfl) (by kernel_rfl) (fun _ _ _ h => h) (Or.inl ⟨by rfl, ?_⟩) Hb6 ?_
              rotate_left
              · intro w hSw; go_simp; try with_reducible rfl
              simp only [List.getElem_toArray, List.getElem_cons_zero, List.getElem_cons_succ, Act.put, List.setIfInBounds_toArray, List.set_cons_zero, List.set_cons_succ]
              refine wpAnyH_ready (rs := [15]) (by kernel_rfl) (by simp) (AllReadyH.cons rfl (fun K hK => ?_) AllReadyH.nil)
              refine step_put_blk (by rfl) _ _ _ (by rfl) (w1_.heap.size) (arrK .u8 zz) (by rfl) (by rfl) _ _ fc6 (info32 Dz.out.1) (by rw [len32 Dz.out.1, len32 z32_length]) (arrK_all _ _) ?_
              intro w7_ fc7 hg7 hz7
              have nex7 := fx6.lt
              have fx7 := fx6.grown hg7 (by simp; omega)
              have fo7 := fo6.kept hg7 (.inr apoc5)
              have Hb7 : Below w8.heap.size w8 w7_ := below_grown Hb6 hg7 Hb6.size (by simp; exact loc2)
              refine hK.out _ _ Hb7 fun _ => ?_
              clear hK K
              try simp only [List.getElem_toArray, List.getElem_cons_zero, List.getElem_cons_succ, Act.put, List.setIfInBounds_toArray, List.set_cons_zero, List.set_cons_succ]
              refine wpAnyH_take (i := 16) (v := ?_) rfl (by kernel_rfl) (by kernel_rfl) (by kernel_rfl) (fun _ _ _ h => h) (Or.inl ⟨by rfl, ?_⟩) Hb7 ?_
              rotate_left
              · intro w hSw; go_simp; try with_reducible rfl
              simp only [List.getElem_toArray, List.getElem_cons_zero, List.getElem_cons_succ, Act.put, List.setIfInBounds_toArray, List.set_cons_zero, List.set_cons_succ]
              refine wpAnyH_done (by kernel_rfl) ?_ _
              go_wp2_with (fail)
              go_meet
              exact ⟨_, rfl, rfl, Hb7⟩
        · refine step_oneD (by rfl) _ (by rfl) (d) Dd.out (by rfl) ?_
          generalize hge : World.alloc _ _ = w1_
          have fx1 : Blk w1_ wd.heap.size 26 (arrK .u8 (d)) := by subst hge; exact Blk.new _ _ _
          have hb1 : Below wd.heap.size wd w1_ := by subst hge; exact (Below.refl _ _).alloc (Nat.le_refl _) _
          clear hge
          have lox1 : w8.heap.size ≤ wd.heap.size := Hd.size
          have Hb1 : Below w8.heap.size w8 w1_ := below_of Hd hb1 Hd.size
          refine hK.out _ _ Hb1 fun _ => ?_
          clear hK K
          try simp only [List.getElem_toArray, List.getElem_cons_zero, List.getElem_cons_succ, Act.put, List.setIfInBounds_toArray, List.set_cons_zero, List.set_cons_succ]
          refine wpAnyH_ready (rs := [4, 14]) (by kernel_rfl) (by simp) (AllReadyH.cons rfl (fun K hK => ?_) (AllReadyH.cons rfl (fun K hK => ?_) AllReadyH.nil))
          · go_simp
            generalize hge : World.alloc _ _ = w2_
            have fo2 : w2_.ownsRow w8.heap.size 26 32 (.slice (some ⟨w1_.heap.size, 0, none⟩) 0 0) 0 (bytesV ([] : List (List Nat)).flatten) := by subst hge; exact ownD_empty w1_ _ Hb1.size
            have hb2 : Below w1_.heap.size w1_ w2_ := by subst hge; exact (Below.refl _ _).alloc (Nat.le_refl _) _
            clear hge
            have fx2 := fx1.below hb2
            have apox2 : Apart (.slice (some ⟨w1_.heap.size, 0, none⟩) 0 0) (wd.heap.size) := apart_lit fx1.lt
            have Hb2 : Below w8.heap.size w8 w2_ := below_of Hb1 hb2 Hb1.size
            refine hK.out _ _ Hb2 fun _ => ?_
            clear hK K
            try simp only [List.getElem_toArray, List.getElem_cons_zero, List.getElem_cons_succ, Act.put, List.setIfInBounds_toArray, List.set_cons_zero, List.set_cons_succ]
            refine wpAnyH_ready (rs := [6, 14]) (by kernel_rfl) (by simp) (AllReadyH.cons rfl (fun K hK => ?_) (AllReadyH.cons rfl (fun K hK => ?_) AllReadyH.nil))
            · refine step_addDs (by rfl) (.tmp 46) (.tmp 47) (by rfl) w8.heap.size (.slice (some ⟨w1_.heap.size, 0, none⟩) 0 0) (0) ([] : List (List Nat)) fo2 (by rfl) Ap q cp p Hpq.out HpL.out (HC8.out.below Hb2) (by rfl) (by omega) Hb2.size ?_
              intro v3 w3_ fo3 hg3 st3
              have apox3 := apart_sits st3 apox2 fx2.lt
              have fx3 := fx2.grown hg3 (fun e => apox2 e.symm)
              have Hb3 : Below w8.heap.size w8 w3_ := below_grown Hb2 hg3 Hb2.size (own_base fo2)
              obtain ⟨A3, c3, rfl, le3, lm3, -⟩ := own_form fo3
              rw [Nat.zero_add] at fo3 le3 apox3
              simp only [Nat.zero_add]
              refine hK.out _ _ Hb3 fun _ => ?_
              clear hK K
              try simp only [List.getElem_toArray, List.getElem_cons_zero, List.getElem_cons_succ, Act.put, List.setIfInBounds_toArray, List.set_cons_zero, List.set_cons_succ]
              refine wpAnyH_ready (rs := [9, 14]) (by kernel_rfl) (by simp) (AllReadyH.cons rfl (fun K hK => ?_) (AllReadyH.cons rfl (fun K hK => ?_) AllReadyH.nil))
              · refine step_pushDs (by rfl) (.tmp 48) (.tmp 50) (by rfl) w8.heap.size (.slice A3 (q) c3) (q) (([] : List (List Nat)) ++ p) (d) fo3 (by rfl) (wd.heap.size) fx3 Dd.out (by rfl) (by omega) Hb3.size ?_
                intro v4 w4_ fo4 hg4 st4
                have apox4 := apart_sits st4 apox3 fx3.lt
                have fx4 := fx3.grown hg4 (fun e => apox3 e.symm)
                have Hb4 : Below w8.heap.size w8 w4_ := below_grown Hb3 hg4 Hb3.size (own_base fo3)
                obtain ⟨A4, c4, rfl, le4, lm4, -⟩ := own_form fo4
                refine hK.out _ _ Hb4 fun _ => ?_
                clear hK K
                try simp only [List.getElem_toArray, List.getElem_cons_zero, List.getElem_cons_succ, Act.put, List.setIfInBounds_toArray, List.set_cons_zero, List.set_cons_succ]
                refine wpAnyH_ready (rs := [10, 14]) (by kernel_rfl) (by simp) (AllReadyH.cons rfl (fun K hK => ?_) (AllReadyH.cons rfl (fun K hK => ?_) AllReadyH.nil))
                · go_simp
                  refine (HCl2.out A4 c4 w4_ (by omega) lm4 (Cells.own fo4)).mono ?_
                  rintro e w5_ ⟨rfl, hb5⟩
                  have fx5 := fx4.below hb5
                  have fo5 := own_below fo4 hb5
                  have Hb5 : Below w8.heap.size w8 w5_ := below_of Hb4 hb5 Hb4.size
                  go_wp2_with (fail)
                  refine hK.out _ _ Hb5 fun _ => ?_
                  clear hK K
                  try simp only [List.getElem_toArray, List.getElem_cons_zero, List.getElem_cons_succ, Act.put, List.setIfInBounds_toArray, List.set_cons_zero, List.set_cons_succ]
                  refine wpAnyH_take (i := 11) (v := ?_) rfl (by kernel_rfl) (by kernel_rfl) (by kernel_rfl) (fun _ _ _ h => h) (Or.inl ⟨by rfl, ?_⟩) Hb5 ?_
                  rotate_left
                  · intro w hSw; go_simp; try with_reducible rfl
                  simp only [List.getElem_toArray, List.getElem_cons_zero, List.getElem_cons_succ, Act.put, List.setIfInBounds_toArray, List.set_cons_zero, List.set_cons_succ]
                  refine wpAnyH_take (i := 12) (v := ?_) rfl (by kernel_rfl) (by kernel_rfl) (by kernel_rfl) (fun _ _ _ h => h) (Or.inl ⟨by rfl, ?_⟩) Hb5 ?_
                  rotate_left
                  · intro w hSw; go_simp; try with_reducible rfl
                  simp only [List.getElem_toArray, List.getElem_cons_zero, List.getElem_cons_succ, Act.put, List.setIfInBounds_toArray, List.set_cons_zero, List.set_cons_succ]
                  refine wpAnyH_take (i := 13) (v := ?_) rfl (by kernel_rfl) (by kernel_rfl) (by kernel_rfl) (fun _ _ _ h => h) (Or.inl ⟨by rfl, ?_⟩) Hb5 ?_
                  rotate_left
                  · intro w hSw; go_simp; try with_reducible rfl
                  simp only [List.getElem_toArray, List.getElem_cons_zero, List.getElem_cons_succ, Act.put, List.setIfInBounds_toArray, List.set_cons_zero, List.set_cons_succ]
                  refine wpAnyH_ready (rs := [14]) (by kernel_rfl) (by simp) (AllReadyH.cons rfl (fun K hK => ?_) AllReadyH.nil)
                  go_simp
                  generalize hge : World.alloc _ _ = w6_
                  have fc6 : Blk w6_ w5_.heap.size 26 (arrK .u8 z32) := by subst hge; exact Blk.new _ _ _
                  have hb6 : Below w5_.heap.size w5_ w6_ := by subst hge; exact (Below.refl _ _).alloc (Nat.le_refl _) _
                  clear hge
                  have fx6 := fx5.below hb6
                  have fo6 := own_below fo5 hb6
                  have ltxc6 := fx5.lt
                  have apoc6 := apart_new fo5
                  have loc6 : w8.heap.size ≤ w5_.heap.size := Hb5.size
                  have Hb6 : Below w8.heap.size w8 w6_ := below_of Hb5 hb6 Hb5.size
                  refine hK.out _ _ Hb6 fun _ => ?_
                  clear hK K
                  try simp only [List.getElem_toArray, List.getElem_cons_zero, List.getElem_cons_succ, Act.put, List.setIfInBounds_toArray, List.set_cons_zero, List.set_cons_succ]
                  refine wpAnyH_ready (rs := [15]) (by kernel_rfl) (by simp) (AllReadyH.cons rfl (fun K hK => ?_) AllReadyH.nil)
                  refine step_put_blk (by rfl) _ _ _ (by rfl) (w5_.heap.size) (arrK .u8 zz) (by rfl) (by rfl) _ _ fc6 (info32 Dz.out.1) (by rw [len32 Dz.out.1, len32 z32_length]) (arrK_all _ _) ?_
                  intro w7_ fc7 hg7 hz7
                  have nex7 := fx6.lt
                  have fx7 := fx6.grown hg7 (by simp; omega)
                  have fo7 := fo6.kept hg7 (.inr apoc6)
                  have Hb7 : Below w8.heap.size w8 w7_ := below_grown Hb6 hg7 Hb6.size (by simp; exact loc6)
                  refine hK.out _ _ Hb7 fun _ => ?_
                  clear hK K
                  try simp only [List.getElem_toArray, List.getElem_cons_zero, List.getElem_cons_succ, Act.put, List.setIfInBounds_toArray, List.set_cons_zero, List.set_cons_succ]
                  refine wpAnyH_take (i := 16) (v := ?_) rfl (by kernel_rfl) (by kernel_rfl) (by kernel_rfl) (fun _ _ _ h => h) (Or.inl ⟨by rfl, ?_⟩) Hb7 ?_
                  rotate_left
                  · intro w hSw; go_simp; try with_reducible rfl
                  simp only [List.getElem_toArray, List.getElem_cons_zero, List.getElem_cons_succ, Act.put, List.setIfInBounds_toArray, List.set_cons_zero, List.set_cons_succ]
                  refine wpAnyH_done (by kernel_rfl) ?_ _
                  go_wp2_with (fail)
                  go_meet
                  exact ⟨_, rfl, rfl, Hb7⟩
                · go_simp
                  generalize hge : World.alloc _ _ = w5_
                  have fc5 : Blk w5_ w4_.heap.size 26 (arrK .u8 z32) := by subst hge; exact Blk.new _ _ _
                  have hb5 : Below w4_.heap.size w4_ w5_ := by subst hge; exact (Below.refl _ _).alloc (Nat.le_refl _) _
                  clear hge
                  have fx5 := fx4.below hb5
                  have fo5 := own_below fo4 hb5
                  have ltxc5 := fx4.lt
                  have apoc5 := apart_new fo4
                  have loc5 : w8.heap.size ≤ w4_.heap.size := Hb4.size
                  have Hb5 : Below w8.heap.size w8 w5_ := below_of Hb4 hb5 Hb4.size
                  refine hK.out _ _ Hb5 fun _ => ?_
                  clear hK K
                  try simp only [List.getElem_toArray, List.getElem_cons_zero, List.getElem_cons_succ, Act.put, List.setIfInBounds_toArray, List.set_cons_zero, List.set_cons_succ]
                  refine wpAnyH_ready (rs := [10]) (by kernel_rfl) (by simp) (AllReadyH.cons rfl (fun K hK => ?_) AllReadyH.nil)
                  go_simp
                  refine (HCl2.out A4 c4 w5_ (by omega) lm4 (Cells.own fo5)).mono ?_
                  rintro e w6_ ⟨rfl, hb6⟩
                  have fx6 := fx5.below hb6
                  have fo6 := own_below fo5 hb6
                  have fc6 := fc5.below hb6
                  have Hb6 : Below w8.heap.size w8 w6_ := below_of Hb5 hb6 Hb5.size
                  go_wp2_with (fail)
                  refine hK.out _ _ Hb6 fun _ => ?_
                  clear hK K
                  try simp only [List.getElem_toArray, List.getElem_cons_zero, List.getElem_cons_succ, Act.put, List.setIfInBounds_toArray, List.set_cons_zero, List.set_cons_succ]
                  refine wpAnyH_take (i := 11) (v := ?_) rfl (by kernel_rfl) (by kernel_rfl) (by kernel_rfl) (fun _ _ _ h => h) (Or.inl ⟨by rfl, ?_⟩) Hb6 ?_
                  rotate_left
                  · intro w hSw; go_simp; try with_reducible rfl
                  simp only [List.getElem_toArray, List.getElem_cons_zero, List.getElem_cons_succ, Act.put, List.setIfInBounds_toArray, List.set_cons_zero, List.set_cons_succ]
                  refine wpAnyH_take (i := 12) (v := ?_) rfl (by kernel_rfl) (by kernel_rfl) (by kernel_rfl) (fun _ _ _ h => h) (Or.inl ⟨by rfl, ?_⟩) Hb6 ?_
                  rotate_left
                  · intro w hSw; go_simp; try with_reducible rfl
                  simp only [List.getElem_toArray, List.getElem_cons_zero, List.getElem_cons_succ, Act.put, List.setIfInBounds_toArray, List.set_cons_zero, List.set_cons_succ]
                  refine wpAnyH_take (i := 13) (v := ?_) rfl (by kernel_rfl) (by kernel_rfl) (by kernel_rfl) (fun _ _ _ h => h) (Or.inl ⟨by rfl, ?_⟩) Hb6 ?_
                  rotate_left
                  · intro w hSw; go_simp; try with_reducible rfl
                  simp only [List.getElem_toArray, List.getElem_cons_zero, List.getElem_cons_succ, Act.put, List.setIfInBounds_toArray, List.set_cons_zero, List.set_cons_succ]
                  refine wpAnyH_ready (rs := [15]) (by kernel_rfl) (by simp) (AllReadyH.cons rfl (fun K hK => ?_) AllReadyH.nil)
                  refine step_put_blk (by rfl) _ _ _ (by rfl) (w4_.heap.size) (arrK .u8 zz) (by rfl) (by rfl) _ _ fc6 (info32 Dz.out.1) (by rw [len32 Dz.out.1, len32 z32_length]) (arrK_all _ _) ?_
                  intro w7_ fc7 hg7 hz7
                  have nex7 := fx6.lt
                  have fx7 := fx6.grown hg7 (by simp; omega)
                  have fo7 := fo6.kept hg7 (.inr apoc5)
                  have Hb7 : Below w8.heap.size w8 w7_ := below_grown Hb6 hg7 Hb6.size (by simp; exact loc5)
                  refine hK.out _ _ Hb7 fun _ => ?_
                  clear hK K
                  try simp only [List.getElem_toArray, List.getElem_cons_zero, List.getElem_cons_succ, Act.put, List.setIfInBounds_toArray, List.set_cons_zero, List.set_cons_succ]
                  refine wpAnyH_take (i := 16) (v := ?_) rfl (by kernel_rfl) (by kernel_rfl) (by kernel_rfl) (fun _ _ _ h => h) (Or.inl ⟨by rfl, ?_⟩) Hb7 ?_
                  rotate_left
                  · intro w hSw; go_simp; try with_reducible rfl
                  simp only [List.getElem_toArray, List.getElem_cons_zero, List.getElem_cons_succ, Act.put, List.setIfInBounds_toArray, List.set_cons_zero, List.set_cons_succ]
                  refine wpAnyH_done (by kernel_rfl) ?_ _
                  go_wp2_with (fail)
                  go_meet
                  exact ⟨_, rfl, rfl, Hb7⟩
              · go_simp
                generalize hge : World.alloc _ _ = w4_
                have fc4 : Blk w4_ w3_.heap.size 26 (arrK .u8 z32) := by subst hge; exact Blk.new _ _ _
                have hb4 : Below w3_.heap.size w3_ w4_ := by subst hge; exact (Below.refl _ _).alloc (Nat.le_refl _) _
                clear hge
                have fx4 := fx3.below hb4
                have fo4 := own_below fo3 hb4
                have ltxc4 := fx3.lt
                have apoc4 := apart_new fo3
                have loc4 : w8.heap.size ≤ w3_.heap.size := Hb3.size
                have Hb4 : Below w8.heap.size w8 w4_ := below_of Hb3 hb4 Hb3.size
                refine hK.out _ _ Hb4 fun _ => ?_
                clear hK K
                try simp only [List.getElem_toArray, List.getElem_cons_zero, List.getElem_cons_succ, Act.put, List.setIfInBounds_toArray, List.set_cons_zero, List.set_cons_succ]
                refine wpAnyH_ready (rs := [9]) (by kernel_rfl) (by simp) (AllReadyH.cons rfl (fun K hK => ?_) AllReadyH.nil)
                refine step_pushDs (by rfl) (.tmp 48) (.tmp 50) (by rfl) w8.heap.size (.slice A3 (q) c3) (q) (([] : List (List Nat)) ++ p) (d) fo4 (by rfl) (wd.heap.size) fx4 Dd.out (by rfl) (by omega) Hb4.size ?_
                intro v5 w5_ fo5 hg5 st5
                have apox5 := apart_sits st5 apox3 fx4.lt
                have apoc5 := apart_sits st5 apoc4 fc4.lt
                have fx5 := fx4.grown hg5 (fun e => apox3 e.symm)
                have fc5 := fc4.grown hg5 (fun e => apoc4 e.symm)
                have Hb5 : Below w8.heap.size w8 w5_ := below_grown Hb4 hg5 Hb4.size (own_base fo4)
                obtain ⟨A5, c5, rfl, le5, lm5, -⟩ := own_form fo5
                refine hK.out _ _ Hb5 fun _ => ?_
                clear hK K
                try simp only [List.getElem_toArray, List.getElem_cons_zero, List.getElem_cons_succ, Act.put, List.setIfInBounds_toArray, List.set_cons_zero, List.set_cons_succ]
                refine wpAnyH_ready (rs := [10]) (by kernel_rfl) (by simp) (AllReadyH.cons rfl (fun K hK => ?_) AllReadyH.nil)
                go_simp
                refine (HCl2.out A5 c5 w5_ (by omega) lm5 (Cells.own fo5)).mono ?_
                rintro e w6_ ⟨rfl, hb6⟩
                have fx6 := fx5.below hb6
                have fc6 := fc5.below hb6
                have fo6 := own_below fo5 hb6
                have Hb6 : Below w8.heap.size w8 w6_ := below_of Hb5 hb6 Hb5.size
                go_wp2_with (fail)
                refine hK.out _ _ Hb6 fun _ => ?_
                clear hK K
                try simp only [List.getElem_toArray, List.getElem_cons_zero, List.getElem_cons_succ, Act.put, List.setIfInBounds_toArray, List.set_cons_zero, List.set_cons_succ]
                refine wpAnyH_take (i := 11) (v := ?_) rfl (by kernel_rfl) (by kernel_rfl) (by kernel_rfl) (fun _ _ _ h => h) (Or.inl ⟨by rfl, ?_⟩) Hb6 ?_
                rotate_left
                · intro w hSw; go_simp; try with_reducible rfl
                simp only [List.getElem_toArray, List.getElem_cons_zero, List.getElem_cons_succ, Act.put, List.setIfInBounds_toArray, List.set_cons_zero, List.set_cons_succ]
                refine wpAnyH_take (i := 12) (v := ?_) rfl (by kernel_rfl) (by kernel_rfl) (by kernel_rfl) (fun _ _ _ h => h) (Or.inl ⟨by rfl, ?_⟩) Hb6 ?_
                rotate_left
                · intro w hSw; go_simp; try with_reducible rfl
                simp only [List.getElem_toArray, List.getElem_cons_zero, List.getElem_cons_succ, Act.put, List.setIfInBounds_toArray, List.set_cons_zero, List.set_cons_succ]
                refine wpAnyH_take (i := 13) (v := ?_) rfl (by kernel_rfl) (by kernel_rfl) (by kernel_rfl) (fun _ _ _ h => h) (Or.inl ⟨by rfl, ?_⟩) Hb6 ?_
                rotate_left
                · intro w hSw; go_simp; try with_reducible rfl
                simp only [List.getElem_toArray, List.getElem_cons_zero, List.getElem_cons_succ, Act.put, List.setIfInBounds_toArray, List.set_cons_zero, List.set_cons_succ]
                refine wpAnyH_ready (rs := [15]) (by kernel_rfl) (by simp) (AllReadyH.cons rfl (fun K hK => ?_) AllReadyH.nil)
                refine step_put_blk (by rfl) _ _ _ (by rfl) (w3_.heap.size) (arrK .u8 zz) (by rfl) (by rfl) _ _ fc6 (info32 Dz.out.1) (by rw [len32 Dz.out.1, len32 z32_length]) (arrK_all _ _) ?_
                intro w7_ fc7 hg7 hz7
                have nex7 := fx6.lt
                have fx7 := fx6.grown hg7 (by simp; omega)
                have fo7 := fo6.kept hg7 (.inr apoc5)
                have Hb7 : Below w8.heap.size w8 w7_ := below_grown Hb6 hg7 Hb6.size (by simp; exact loc4)
                refine hK.out _ _ Hb7 fun _ => ?_
                clear hK K
                try simp only [List.getElem_toArray, List.getElem_cons_zero, List.getElem_cons_succ, Act.put, List.setIfInBounds_toArray, List.set_cons_zero, List.set_cons_succ]
                refine wpAnyH_take (i := 16) (v := ?_) rfl (by kernel_rfl) (by kernel_rfl) (by kernel_rfl) (fun _ _ _ h => h) (Or.inl ⟨by rfl, ?_⟩) Hb7 ?_
                rotate_left
                · intro w hSw; go_simp; try with_reducible rfl
                simp only [List.getElem_toArray, List.getElem_cons_zero, List.getElem_cons_succ, Act.put, List.setIfInBounds_toArray, List.set_cons_zero, List.set_cons_succ]
                refine wpAnyH_done (by kernel_rfl) ?_ _
                go_wp2_with (fail)
                go_meet
                exact ⟨_, rfl, rfl, Hb7⟩
            · go_simp
              generalize hge : World.alloc _ _ = w3_
              have fc3 : Blk w3_ w2_.heap.size 26 (arrK .u8 z32) := by subst hge; exact Blk.new _ _ _
              have hb3 : Below w2_.heap.size w2_ w3_ := by subst hge; exact (Below.refl _ _).alloc (Nat.le_refl _) _
              clear hge
              have fx3 := fx2.below hb3
              have fo3 := own_below fo2 hb3
              have ltxc3 := fx2.lt
              have apoc3 := apart_new fo2
              have loc3 : w8.heap.size ≤ w2_.heap.size := Hb2.size
              have Hb3 : Below w8.heap.size w8 w3_ := below_of Hb2 hb3 Hb2.size
              refine hK.out _ _ Hb3 fun _ => ?_
              clear hK K
              try simp only [List.getElem_toArray, List.getElem_cons_zero, List.getElem_cons_succ, Act.put, List.setIfInBounds_toArray, List.set_cons_zero, List.set_cons_succ]
              refine wpAnyH_ready (rs := [6]) (by kernel_rfl) (by simp) (AllReadyH.cons rfl (fun K hK => ?_) AllReadyH.nil)
              refine step_addDs (by rfl) (.tmp 46) (.tmp 47) (by rfl) w8.heap.size (.slice (some ⟨w1_.heap.size, 0, none⟩) 0 0) (0) ([] : List (List Nat)) fo3 (by rfl) Ap q cp p Hpq.out HpL.out (HC8.out.below Hb3) (by rfl) (by omega) Hb3.size ?_
              intro v4 w4_ fo4 hg4 st4
              have apox4 := apart_sits st4 apox2 fx3.lt
              have apoc4 := apart_sits st4 apoc3 fc3.lt
              have fx4 := fx3.grown hg4 (fun e => apox2 e.symm)
              have fc4 := fc3.grown hg4 (fun e => apoc3 e.symm)
              have Hb4 : Below w8.heap.size w8 w4_ := below_grown Hb3 hg4 Hb3.size (own_base fo3)
              obtain ⟨A4, c4, rfl, le4, lm4, -⟩ := own_form fo4
              rw [Nat.zero_add] at fo4 le4 apox4 apoc4
              simp only [Nat.zero_add]
              refine hK.out _ _ Hb4 fun _ => ?_
              clear hK K
              try simp only [List.getElem_toArray, List.getElem_cons_zero, List.getElem_cons_succ, Act.put, List.setIfInBounds_toArray, List.set_cons_zero, List.set_cons_succ]
              refine wpAnyH_ready (rs := [9]) (by kernel_rfl) (by simp) (AllReadyH.cons rfl (fun K hK => ?_) AllReadyH.nil)
              refine step_pushDs (by rfl) (.tmp 48) (.tmp 50) (by rfl) w8.heap.size (.slice A4 (q) c4) (q) (([] : List (List Nat)) ++ p) (d) fo4 (by rfl) (wd.heap.size) fx4 Dd.out (by rfl) (by omega) Hb4.size ?_
              intro v5 w5_ fo5 hg5 st5
              have apox5 := apart_sits st5 apox4 fx4.lt
              have apoc5 := apart_sits st5 apoc4 fc4.lt
              have fx5 := fx4.grown hg5 (fun e => apox4 e.symm)
              have fc5 := fc4.grown hg5 (fun e => apoc4 e.symm)
              have Hb5 : Below w8.heap.size w8 w5_ := below_grown Hb4 hg5 Hb4.size (own_base fo4)
              obtain ⟨A5, c5, rfl, le5, lm5, -⟩ := own_form fo5
              refine hK.out _ _ Hb5 fun _ => ?_
              clear hK K
              try simp only [List.getElem_toArray, List.getElem_cons_zero, List.getElem_cons_succ, Act.put, List.setIfInBounds_toArray, List.set_cons_zero, List.set_cons_succ]
              refine wpAnyH_ready (rs := [10]) (by kernel_rfl) (by simp) (AllReadyH.cons rfl (fun K hK => ?_) AllReadyH.nil)
              go_simp
              refine (HCl2.out A5 c5 w5_ (by omega) lm5 (Cells.own fo5)).mono ?_
              rintro e w6_ ⟨rfl, hb6⟩
              have fx6 := fx5.below hb6
              have fc6 := fc5.below hb6
              have fo6 := own_below fo5 hb6
              have Hb6 : Below w8.heap.size w8 w6_ := below_of Hb5 hb6 Hb5.size
              go_wp2_with (fail)
              refine hK.out _ _ Hb6 fun _ => ?_
              clear hK K
              try simp only [List.getElem_toArray, List.getElem_cons_zero, List.getElem_cons_succ, Act.put, List.setIfInBounds_toArray, List.set_cons_zero, List.set_cons_succ]
              refine wpAnyH_take (i := 11) (v := ?_) rfl (by kernel_rfl) (by kernel_rfl) (by kernel_rfl) (fun _ _ _ h => h) (Or.inl ⟨by rfl, ?_⟩) Hb6 ?_
              rotate_left
              · intro w hSw; go_simp; try with_reducible rfl
              simp only [List.getElem_toArray, List.getElem_cons_zero, List.getElem_cons_succ, Act.put, List.setIfInBounds_toArray, List.set_cons_zero, List.set_cons_succ]
              refine wpAnyH_take (i := 12) (v := ?_) rfl (by kernel_rfl) (by kernel_rfl) (by kernel_rfl) (fun _ _ _ h => h) (Or.inl ⟨by rfl, ?_⟩) Hb6 ?_
              rotate_left
              · intro w hSw; go_simp; try with_reducible rfl
              simp only [List.getElem_toArray, List.getElem_cons_zero, List.getElem_cons_succ, Act.put, List.setIfInBounds_toArray, List.set_cons_zero, List.set_cons_succ]
              refine wpAnyH_take (i := 13) (v := ?_) rfl (by kernel_rfl) (by kernel_rfl) (by kernel_rfl) (fun _ _ _ h => h) (Or.inl ⟨by rfl, ?_⟩) Hb6 ?_
              rotate_left
              · intro w hSw; go_simp; try with_reducible rfl
              simp only [List.getElem_toArray, List.getElem_cons_zero, List.getElem_cons_succ, Act.put, List.setIfInBounds_toArray, List.set_cons_zero, List.set_cons_succ]
              refine wpAnyH_ready (rs := [15]) (by kernel_rfl) (by simp) (AllReadyH.cons rfl (fun K hK => ?_) AllReadyH.nil)
              refine step_put_blk (by rfl) _ _ _ (by rfl) (w2_.heap.size) (arrK .u8 zz) (by rfl) (by rfl) _ _ fc6 (info32 Dz.out.1) (by rw [len32 Dz.out.1, len32 z32_length]) (arrK_all _ _) ?_
              intro w7_ fc7 hg7 hz7
              have nex7 := fx6.lt
              have fx7 := fx6.grown hg7 (by simp; omega)
              have fo7 := fo6.kept hg7 (.inr apoc5)
              have Hb7 : Below w8.heap.size w8 w7_ := below_grown Hb6 hg7 Hb6.size (by simp; exact loc3)
              refine hK.out _ _ Hb7 fun _ => ?_
              clear hK K
              try simp only [List.getElem_toArray, List.getElem_cons_zero, List.getElem_cons_succ, Act.put, List.setIfInBounds_toArray, List.set_cons_zero, List.set_cons_succ]
              refine wpAnyH_take (i := 16) (v := ?_) rfl (by kernel_rfl) (by kernel_rfl) (by kernel_rfl) (fun _ _ _ h => h) (Or.inl ⟨by rfl, ?_⟩) Hb7 ?_
              rotate_left
              · intro w hSw; go_simp; try with_reducible rfl
              simp only [List.getElem_toArray, List.getElem_cons_zero, List.getElem_cons_succ, Act.put, List.setIfInBounds_toArray, List.set_cons_zero, List.set_cons_succ]
              refine wpAnyH_done (by kernel_rfl) ?_ _
              go_wp2_with (fail)
              go_meet
              exact ⟨_, rfl, rfl, Hb7⟩
          · go_simp
            generalize hge : World.alloc _ _ = w2_
            have fc2 : Blk w2_ w1_.heap.size 26 (arrK .u8 z32) := by subst hge; exact Blk.new _ _ _
            have hb2 : Below w1_.heap.size w1_ w2_ := by subst hge; exact (Below.refl _ _).alloc (Nat.le_refl _) _
            clear hge
            have fx2 := fx1.below hb2
            have ltxc2 := fx1.lt
            have loc2 : w8.heap.size ≤ w1_.heap.size := Hb1.size
            have Hb2 : Below w8.heap.size w8 w2_ := below_of Hb1 hb2 Hb1.size
            refine hK.out _ _ Hb2 fun _ => ?_
            clear hK K
            try simp only [List.getElem_toArray, List.getElem_cons_zero, List.getElem_cons_succ, Act.put, List.setIfInBounds_toArray, List.set_cons_zero, List.set_cons_succ]
            refine wpAnyH_ready (rs := [4]) (by kernel_rfl) (by simp) (AllReadyH.cons rfl (fun K hK => ?_) AllReadyH.nil)
            go_simp
            generalize hge : World.alloc _ _ = w3_
            have fo3 : w3_.ownsRow w8.heap.size 26 32 (.slice (some ⟨w2_.heap.size, 0, none⟩) 0 0) 0 (bytesV ([] : List (List Nat)).flatten) := by subst hge; exact ownD_empty w2_ _ Hb2.size
            have hb3 : Below w2_.heap.size w2_ w3_ := by subst hge; exact (Below.refl _ _).alloc (Nat.le_refl _) _
            clear hge
            have fx3 := fx2.below hb3
            have fc3 := fc2.below hb3
            have apox3 : Apart (.slice (some ⟨w2_.heap.size, 0, none⟩) 0 0) (wd.heap.size) := apart_lit fx2.lt
            have apoc3 : Apart (.slice (some ⟨w2_.heap.size, 0, none⟩) 0 0) (w1_.heap.size) := apart_lit fc2.lt
            have Hb3 : Below w8.heap.size w8 w3_ := below_of Hb2 hb3 Hb2.size
            refine hK.out _ _ Hb3 fun _ => ?_
            clear hK K
            try simp only [List.getElem_toArray, List.getElem_cons_zero, List.getElem_cons_succ, Act.put, List.setIfInBounds_toArray, List.set_cons_zero, List.set_cons_succ]
            refine wpAnyH_ready (rs := [6]) (by kernel_rfl) (by simp) (AllReadyH.cons rfl (fun K hK => ?_) AllReadyH.nil)
            refine step_addDs (by rfl) (.tmp 46) (.tmp 47) (by rfl) w8.heap.size (.slice (some ⟨w2_.heap.size, 0, none⟩) 0 0) (0) ([] : List (List Nat)) fo3 (by rfl) Ap q cp p Hpq.out HpL.out (HC8.out.below Hb3) (by rfl) (by omega) Hb3.size ?_
            intro v4 w4_ fo4 hg4 st4
            have apox4 := apart_sits st4 apox3 fx3.lt
            have apoc4 := apart_sits st4 apoc3 fc3.lt
            have fx4 := fx3.grown hg4 (fun e => apox3 e.symm)
            have fc4 := fc3.grown hg4 (fun e => apoc3 e.symm)
            have Hb4 : Below w8.heap.size w8 w4_ := below_grown Hb3 hg4 Hb3.size (own_base fo3)
            obtain ⟨A4, c4, rfl, le4, lm4, -⟩ := own_form fo4
            rw [Nat.zero_add] at fo4 le4 apox4 apoc4
            simp only [Nat.zero_add]
            refine hK.out _ _ Hb4 fun _ => ?_
            clear hK K
            try simp only [List.getElem_toArray, List.getElem_cons_zero, List.getElem_cons_succ, Act.put, List.setIfInBounds_toArray, List.set_cons_zero, List.set_cons_succ]
            refine wpAnyH_ready (rs := [9]) (by kernel_rfl) (by simp) (AllReadyH.cons rfl (fun K hK => ?_) AllReadyH.nil)
            refine step_pushDs (by rfl) (.tmp 48) (.tmp 50) (by rfl) w8.heap.size (.slice A4 (q) c4) (q) (([] : List (List Nat)) ++ p) (d) fo4 (by rfl) (wd.heap.size) fx4 Dd.out (by rfl) (by omega) Hb4.size ?_
            intro v5 w5_ fo5 hg5 st5
            have apox5 := apart_sits st5 apox4 fx4.lt
            have apoc5 := apart_sits st5 apoc4 fc4.lt
            have fx5 := fx4.grown hg5 (fun e => apox4 e.symm)
            have fc5 := fc4.grown hg5 (fun e => apoc4 e.symm)
            have Hb5 : Below w8.heap.size w8 w5_ := below_grown Hb4 hg5 Hb4.size (own_base fo4)
            obtain ⟨A5, c5, rfl, le5, lm5, -⟩ := own_form fo5
            refine hK.out _ _ Hb5 fun _ => ?_
            clear hK K
            try simp only [List.getElem_toArray, List.getElem_cons_zero, List.getElem_cons_succ, Act.put, List.setIfInBounds_toArray, List.set_cons_zero, List.set_cons_succ]
            refine wpAnyH_ready (rs := [10]) (by kernel_rfl) (by simp) (AllReadyH.cons rfl (fun K hK => ?_) AllReadyH.nil)
            go_simp
            refine (HCl2.out A5 c5 w5_ (by omega) lm5 (Cells.own fo5)).mono ?_
            rintro e w6_ ⟨rfl, hb6⟩
            have fx6 := fx5.below hb6
            have fc6 := fc5.below hb6
            have fo6 := own_below fo5 hb6
            have Hb6 : Below w8.heap.size w8 w6_ := below_of Hb5 hb6 Hb5.size
            go_wp2_with (fail)
            refine hK.out _ _ Hb6 fun _ => ?_
            clear hK K
            try simp only [List.getElem_toArray, List.getElem_cons_zero, List.getElem_cons_succ, Act.put, List.setIfInBounds_toArray, List.set_cons_zero, List.set_cons_succ]
            refine wpAnyH_take (i := 11) (v := ?_) rfl (by kernel_rfl) (by kernel_rfl) (by kernel_rfl) (fun _ _ _ h => h) (Or.inl ⟨by rfl, ?_⟩) Hb6 ?_
            rotate_left
            · intro w hSw; go_simp; try with_reducible rfl
            simp only [List.getElem_toArray, List.getElem_cons_zero, List.getElem_cons_succ, Act.put, List.setIfInBounds_toArray, List.set_cons_zero, List.set_cons_succ]
            refine wpAnyH_take (i := 12) (v := ?_) rfl (by kernel_rfl) (by kernel_rfl) (by kernel_rfl) (fun _ _ _ h => h) (Or.inl ⟨by rfl, ?_⟩) Hb6 ?_
            rotate_left
            · intro w hSw; go_simp; try with_reducible rfl
            simp only [List.getElem_toArray, List.getElem_cons_zero, List.getElem_cons_succ, Act.put, List.setIfInBounds_toArray, List.set_cons_zero, List.set_cons_succ]
            refine wpAnyH_take (i := 13) (v := ?_) rfl (by kernel_rfl) (by kernel_rfl) (by kernel_rfl) (fun _ _ _ h => h) (Or.inl ⟨by rfl, ?_⟩) Hb6 ?_
            rotate_left
            · intro w hSw; go_simp; try with_reducible rfl
            simp only [List.getElem_toArray, List.getElem_cons_zero, List.getElem_cons_succ, Act.put, List.setIfInBounds_toArray, List.set_cons_zero, List.set_cons_succ]
            refine wpAnyH_ready (rs := [15]) (by kernel_rfl) (by simp) (AllReadyH.cons rfl (fun K hK => ?_) AllReadyH.nil)
            refine step_put_blk (by rfl) _ _ _ (by rfl) (w1_.heap.size) (arrK .u8 zz) (by rfl) (by rfl) _ _ fc6 (info32 Dz.out.1) (by rw [len32 Dz.out.1, len32 z32_length]) (arrK_all _ _) ?_
            intro w7_ fc7 hg7 hz7
            have nex7 := fx6.lt
            have fx7 := fx6.grown hg7 (by simp; omega)
            have fo7 := fo6.kept hg7 (.inr apoc5)
            have Hb7 : Below w8.heap.size w8 w7_ := below_grown Hb6 hg7 Hb6.size (by simp; exact loc2)
            refine hK.out _ _ Hb7 fun _ => ?_
            clear hK K
            try simp only [List.getElem_toArray, List.getElem_cons_zero, List.getElem_cons_succ, Act.put, List.setIfInBounds_toArray, List.set_cons_zero, List.set_cons_succ]
            refine wpAnyH_take (i := 16) (v := ?_) rfl (by kernel_rfl) (by kernel_rfl) (by kernel_rfl) (fun _ _ _ h => h) (Or.inl ⟨by rfl, ?_⟩) Hb7 ?_
            rotate_left
            · intro w hSw; go_simp; try with_reducible rfl
            simp only [List.getElem_toArray, List.getElem_cons_zero, List.getElem_cons_succ, Act.put, List.setIfInBounds_toArray, List.set_cons_zero, List.set_cons_succ]
            refine wpAnyH_done (by kernel_rfl) ?_ _
            go_wp2_with (fail)
            go_meet
            exact ⟨_, rfl, rfl, Hb7⟩
        · go_simp
          generalize hge : World.alloc _ _ = w1_
          have fc1 : Blk w1_ wd.heap.size 26 (arrK .u8 z32) := by subst hge; exact Blk.new _ _ _
          have hb1 : Below wd.heap.size wd w1_ := by subst hge; exact (Below.refl _ _).alloc (Nat.le_refl _) _
          clear hge
          have loc1 : w8.heap.size ≤ wd.heap.size := Hd.size
          have Hb1 : Below w8.heap.size w8 w1_ := below_of Hd hb1 Hd.size
          refine hK.out _ _ Hb1 fun _ => ?_
          clear hK K
          try simp only [List.getElem_toArray, List.getElem_cons_zero, List.getElem_cons_succ, Act.put, List.setIfInBounds_toArray, List.set_cons_zero, List.set_cons_succ]
          refine wpAnyH_ready (rs := [4, 8]) (by kernel_rfl) (by simp) (AllReadyH.cons rfl (fun K hK => ?_) (AllReadyH.cons rfl (fun K hK => ?_) AllReadyH.nil))
          · go_simp
            generalize hge : World.alloc _ _ = w2_
            have fo2 : w2_.ownsRow w8.heap.size 26 32 (.slice (some ⟨w1_.heap.size, 0, none⟩) 0 0) 0 (bytesV ([] : List (List Nat)).flatten) := by subst hge; exact ownD_empty w1_ _ Hb1.size
            have hb2 : Below w1_.heap.size w1_ w2_ := by subst hge; exact (Below.refl _ _).alloc (Nat.le_refl _) _
            clear hge
            have fc2 := fc1.below hb2
            have apoc2 : Apart (.slice (some ⟨w1_.heap.size, 0, none⟩) 0 0) (wd.heap.size) := apart_lit fc1.lt
            have Hb2 : Below w8.heap.size w8 w2_ := below_of Hb1 hb2 Hb1.size
            refine hK.out _ _ Hb2 fun _ => ?_
            clear hK K
            try simp only [List.getElem_toArray, List.getElem_cons_zero, List.getElem_cons_succ, Act.put, List.setIfInBounds_toArray, List.set_cons_zero, List.set_cons_succ]
            refine wpAnyH_ready (rs := [6, 8]) (by kernel_rfl) (by simp) (AllReadyH.cons rfl (fun K hK => ?_) (AllReadyH.cons rfl (fun K hK => ?_) AllReadyH.nil))
            · refine step_addDs (by rfl) (.tmp 46) (.tmp 47) (by rfl) w8.heap.size (.slice (some ⟨w1_.heap.size, 0, none⟩) 0 0) (0) ([] : List (List Nat)) fo2 (by rfl) Ap q cp p Hpq.out HpL.out (HC8.out.below Hb2) (by rfl) (by omega) Hb2.size ?_
              intro v3 w3_ fo3 hg3 st3
              have apoc3 := apart_sits st3 apoc2 fc2.lt
              have fc3 := fc2.grown hg3 (fun e => apoc2 e.symm)
              have Hb3 : Below w8.heap.size w8 w3_ := below_grown Hb2 hg3 Hb2.size (own_base fo2)
              obtain ⟨A3, c3, rfl, le3, lm3, -⟩ := own_form fo3
              rw [Nat.zero_add] at fo3 le3 apoc3
              simp only [Nat.zero_add]
              refine hK.out _ _ Hb3 fun _ => ?_
              clear hK K
              try simp only [List.getElem_toArray, List.getElem_cons_zero, List.getElem_cons_succ, Act.put, List.setIfInBounds_toArray, List.set_cons_zero, List.set_cons_succ]
              refine wpAnyH_ready (rs := [8]) (by kernel_rfl) (by simp) (AllReadyH.cons rfl (fun K hK => ?_) AllReadyH.nil)
              refine step_oneD (by rfl) _ (by rfl) (d) Dd.out (by rfl) ?_
              generalize hge : World.alloc _ _ = w4_
              have fx4 : Blk w4_ w3_.heap.size 26 (arrK .u8 (d)) := by subst hge; exact Blk.new _ _ _
              have hb4 : Below w3_.heap.size w3_ w4_ := by subst hge; exact (Below.refl _ _).alloc (Nat.le_refl _) _
              clear hge
              have fc4 := fc3.below hb4
              have fo4 := own_below fo3 hb4
              have ltcx4 := fc3.lt
              have apox4 := apart_new fo3
              have lox4 : w8.heap.size ≤ w3_.heap.size := Hb3.size
              have Hb4 : Below w8.heap.size w8 w4_ := below_of Hb3 hb4 Hb3.size
              refine hK.out _ _ Hb4 fun _ => ?_
              clear hK K
              try simp only [List.getElem_toArray, List.getElem_cons_zero, List.getElem_cons_succ, Act.put, List.setIfInBounds_toArray, List.set_cons_zero, List.set_cons_succ]
              refine wpAnyH_ready (rs := [9]) (by kernel_rfl) (by simp) (AllReadyH.cons rfl (fun K hK => ?_) AllReadyH.nil)
              refine step_pushDs (by rfl) (.tmp 48) (.tmp 50) (by rfl) w8.heap.size (.slice A3 (q) c3) (q) (([] : List (List Nat)) ++ p) (d) fo4 (by rfl) (w3_.heap.size) fx4 Dd.out (by rfl) (by omega) Hb4.size ?_
              intro v5 w5_ fo5 hg5 st5
              have apoc5 := apart_sits st5 apoc3 fc4.lt
              have apox5 := apart_sits st5 apox4 fx4.lt
              have fc5 := fc4.grown hg5 (fun e => apoc3 e.symm)
              have fx5 := fx4.grown hg5 (fun e => apox4 e.symm)
              have Hb5 : Below w8.heap.size w8 w5_ := below_grown Hb4 hg5 Hb4.size (own_base fo4)
              obtain ⟨A5, c5, rfl, le5, lm5, -⟩ := own_form fo5
              refine hK.out _ _ Hb5 fun _ => ?_
              clear hK K
              try simp only [List.getElem_toArray, List.getElem_cons_zero, List.getElem_cons_succ, Act.put, List.setIfInBounds_toArray, List.set_cons_zero, List.set_cons_succ]
              refine wpAnyH_ready (rs := [10]) (by kernel_rfl) (by simp) (AllReadyH.cons rfl (fun K hK => ?_) AllReadyH.nil)
              go_simp
              refine (HCl2.out A5 c5 w5_ (by omega) lm5 (Cells.own fo5)).mono ?_
              rintro e w6_ ⟨rfl, hb6⟩
              have fc6 := fc5.below hb6
              have fx6 := fx5.below hb6
              have fo6 := own_below fo5 hb6
              have Hb6 : Below w8.heap.size w8 w6_ := below_of Hb5 hb6 Hb5.size
              go_wp2_with (fail)
              refine hK.out _ _ Hb6 fun _ => ?_
              clear hK K
              try simp only [List.getElem_toArray, List.getElem_cons_zero, List.getElem_cons_succ, Act.put, List.setIfInBounds_toArray, List.set_cons_zero, List.set_cons_succ]
              refine wpAnyH_take (i := 11) (v := ?_) rfl (by kernel_rfl) (by kernel_rfl) (by kernel_rfl) (fun _ _ _ h => h) (Or.inl ⟨by rfl, ?_⟩) Hb6 ?_
              rotate_left
              · intro w hSw; go_simp; try with_reducible rfl
              simp only [List.getElem_toArray, List.getElem_cons_zero, List.getElem_cons_succ, Act.put, List.setIfInBounds_toArray, List.set_cons_zero, List.set_cons_succ]
              refine wpAnyH_take (i := 12) (v := ?_) rfl (by kernel_rfl) (by kernel_rfl) (by kernel_rfl) (fun _ _ _ h => h) (Or.inl ⟨by rfl, ?_⟩) Hb6 ?_
              rotate_left
              · intro w hSw; go_simp; try with_reducible rfl
              simp only [List.getElem_toArray, List.getElem_cons_zero, List.getElem_cons_succ, Act.put, List.setIfInBounds_toArray, List.set_cons_zero, List.set_cons_succ]
              refine wpAnyH_take (i := 13) (v := ?_) rfl (by kernel_rfl) (by kernel_rfl) (by kernel_rfl) (fun _ _ _ h => h) (Or.inl ⟨by rfl, ?_⟩) Hb6 ?_
              rotate_left
              · intro w hSw; go_simp; try with_reducible rfl
              simp only [List.getElem_toArray, List.getElem_cons_zero, List.getElem_cons_succ, Act.put, List.setIfInBounds_toArray, List.set_cons_zero, List.set_cons_succ]
              refine wpAnyH_ready (rs := [15]) (by kernel_rfl) (by simp) (AllReadyH.cons rfl (fun K hK => ?_) AllReadyH.nil)
              refine step_put_blk (by rfl) _ _ _ (by rfl) (wd.heap.size) (arrK .u8 zz) (by rfl) (by rfl) _ _ fc6 (info32 Dz.out.1) (by rw [len32 Dz.out.1, len32 z32_length]) (arrK_all _ _) ?_
              intro w7_ fc7 hg7 hz7
              have nex7 := fx6.lt
              have fx7 := fx6.grown hg7 (by simp; omega)
              have fo7 := fo6.kept hg7 (.inr apoc5)
              have Hb7 : Below w8.heap.size w8 w7_ := below_grown Hb6 hg7 Hb6.size (by simp; exact loc1)
              refine hK.out _ _ Hb7 fun _ => ?_
              clear hK K
              try simp only [List.getElem_toArray, List.getElem_cons_zero, List.getElem_cons_succ, Act.put, List.setIfInBounds_toArray, List.set_cons_zero, List.set_cons_succ]
              refine wpAnyH_take (i := 16) (v := ?_) rfl (by kernel_rfl) (by kernel_rfl) (by kernel_rfl) (fun _ _ _ h => h) (Or.inl ⟨by rfl, ?_⟩) Hb7 ?_
              rotate_left
              · intro w hSw; go_simp; try with_reducible rfl
              simp only [List.getElem_toArray, List.getElem_cons_zero, List.getElem_cons_succ, Act.put, List.setIfInBounds_toArray, List.set_cons_zero, List.set_cons_succ]
              refine wpAnyH_done (by kernel_rfl) ?_ _
              go_wp2_with (fail)
              go_meet
              exact ⟨_, rfl, rfl, Hb7⟩
            · refine step_oneD (by rfl) _ (by rfl) (d) Dd.out (by rfl) ?_
              generalize hge : World.alloc _ _ = w3_
              have fx3 : Blk w3_ w2_.heap.size 26 (arrK .u8 (d)) := by subst hge; exact Blk.new _ _ _
              have hb3 : Below w2_.heap.size w2_ w3_ := by subst hge; exact (Below.refl _ _).alloc (Nat.le_refl _) _
              clear hge
              have fc3 := fc2.below hb3
              have fo3 := own_below fo2 hb3
              have ltcx3 := fc2.lt
              have apox3 := apart_new fo2
              have lox3 : w8.heap.size ≤ w2_.heap.size := Hb2.size
              have Hb3 : Below w8.heap.size w8 w3_ := below_of Hb2 hb3 Hb2.size
              refine hK.out _ _ Hb3 fun _ => ?_
              clear hK K
              try simp only [List.getElem_toArray, List.getElem_cons_zero, List.getElem_cons_succ, Act.put, List.setIfInBounds_toArray, List.set_cons_zero, List.set_cons_succ]
              refine wpAnyH_ready (rs := [6]) (by kernel_rfl) (by simp) (AllReadyH.cons rfl (fun K hK => ?_) AllReadyH.nil)
              refine step_addDs (by rfl) (.tmp 46) (.tmp 47) (by rfl) w8.heap.size (.slice (some ⟨w1_.heap.size, 0, none⟩) 0 0) (0) ([] : List (List Nat)) fo3 (by rfl) Ap q cp p Hpq.out HpL.out (HC8.out.below Hb3) (by rfl) (by omega) Hb3.size ?_
              intro v4 w4_ fo4 hg4 st4
              have apoc4 := apart_sits st4 apoc2 fc3.lt
              have apox4 := apart_sits st4 apox3 fx3.lt
              have fc4 := fc3.grown hg4 (fun e => apoc2 e.symm)
              have fx4 := fx3.grown hg4 (fun e => apox3 e.symm)
              have Hb4 : Below w8.heap.size w8 w4_ := below_grown Hb3 hg4 Hb3.size (own_base fo3)
              obtain ⟨A4, c4, rfl, le4, lm4, -⟩ := own_form fo4
              rw [Nat.zero_add] at fo4 le4 apoc4 apox4
              simp only [Nat.zero_add]
              refine hK.out _ _ Hb4 fun _ => ?_
              clear hK K
              try simp only [List.getElem_toArray, List.getElem_cons_zero, List.getElem_cons_succ, Act.put, List.setIfInBounds_toArray, List.set_cons_zero, List.set_cons_succ]
              refine wpAnyH_ready (rs := [9]) (by kernel_rfl) (by simp) (AllReadyH.cons rfl (fun K hK => ?_) AllReadyH.nil)
              refine step_pushDs (by rfl) (.tmp 48) (.tmp 50) (by rfl) w8.heap.size (.slice A4 (q) c4) (q) (([] : List (List Nat)) ++ p) (d) fo4 (by rfl) (w2_.heap.size) fx4 Dd.out (by rfl) (by omega) Hb4.size ?_
              intro v5 w5_ fo5 hg5 st5
              have apoc5 := apart_sits st5 apoc4 fc4.lt
              have apox5 := apart_sits st5 apox4 fx4.lt
              have fc5 := fc4.grown hg5 (fun e => apoc4 e.symm)
              have fx5 := fx4.grown hg5 (fun e => apox4 e.symm)
              have Hb5 : Below w8.heap.size w8 w5_ := below_grown Hb4 hg5 Hb4.size (own_base fo4)
              obtain ⟨A5, c5, rfl, le5, lm5, -⟩ := own_form fo5
              refine hK.out _ _ Hb5 fun _ => ?_
              clear hK K
              try simp only [List.getElem_toArray, List.getElem_cons_zero, List.getElem_cons_succ, Act.put, List.setIfInBounds_toArray, List.set_cons_zero, List.set_cons_succ]
              refine wpAnyH_ready (rs := [10]) (by kernel_rfl) (by simp) (AllReadyH.cons rfl (fun K hK => ?_) AllReadyH.nil)
              go_simp
              refine (HCl2.out A5 c5 w5_ (by omega) lm5 (Cells.own fo5)).mono ?_
              rintro e w6_ ⟨rfl, hb6⟩
              have fc6 := fc5.below hb6
              have fx6 := fx5.below hb6
              have fo6 := own_below fo5 hb6
              have Hb6 : Below w8.heap.size w8 w6_ := below_of Hb5 hb6 Hb5.size
              go_wp2_with (fail)
              refine hK.out _ _ Hb6 fun _ => ?_
              clear hK K
              try simp only [List.getElem_toArray, List.getElem_cons_zero, List.getElem_cons_succ, Act.put, List.setIfInBounds_toArray, List.set_cons_zero, List.set_cons_succ]
              refine wpAnyH_take (i := 11) (v := ?_) rfl (by kernel_rfl) (by kernel_rfl) (by kernel_rfl) (fun _ _ _ h => h) (Or.inl ⟨by rfl, ?_⟩) Hb6 ?_
              rotate_left
              · intro w hSw; go_simp; try with_reducible rfl
              simp only [List.getElem_toArray, List.getElem_cons_zero, List.getElem_cons_succ, Act.put, List.setIfInBounds_toArray, List.set_cons_zero, List.set_cons_succ]
              refine wpAnyH_take (i := 12) (v := ?_) rfl (by kernel_rfl) (by kernel_rfl) (by kernel_rfl) (fun _ _ _ h => h) (Or.inl ⟨by rfl, ?_⟩) Hb6 ?_
              rotate_left
              · intro w hSw; go_simp; try with_reducible rfl
              simp only [List.getElem_toArray, List.getElem_cons_zero, List.getElem_cons_succ, Act.put, List.setIfInBounds_toArray, List.set_cons_zero, List.set_cons_succ]
              refine wpAnyH_take (i := 13) (v := ?_) rfl (by kernel_rfl) (by kernel_rfl) (by kernel_rfl) (fun _ _ _ h => h) (Or.inl ⟨by rfl, ?_⟩) Hb6 ?_
              rotate_left
              · intro w hSw; go_simp; try with_reducible rfl
              simp only [List.getElem_toArray, List.getElem_cons_zero, List.getElem_cons_succ, Act.put, List.setIfInBounds_toArray, List.set_cons_zero, List.set_cons_succ]
              refine wpAnyH_ready (rs := [15]) (by kernel_rfl) (by simp) (AllReadyH.cons rfl (fun K hK => ?_) AllReadyH.nil)
              refine step_put_blk (by rfl) _ _ _ (by rfl) (wd.heap.size) (arrK .u8 zz) (by rfl) (by rfl) _ _ fc6 (info32 Dz.out.1) (by rw [len32 Dz.out.1, len32 z32_length]) (arrK_all _ _) ?_
              intro w7_ fc7 hg7 hz7
              have nex7 := fx6.lt
              have fx7 := fx6.grown hg7 (by simp; omega)
              have fo7 := fo6.kept hg7 (.inr apoc5)
              have Hb7 : Below w8.heap.size w8 w7_ := below_grown Hb6 hg7 Hb6.size (by simp; exact loc1)
              refine hK.out _ _ Hb7 fun _ => ?_
              clear hK K
              try simp only [List.getElem_toArray, List.getElem_cons_zero, List.getElem_cons_succ, Act.put, List.setIfInBounds_toArray, List.set_cons_zero, List.set_cons_succ]
              refine wpAnyH_take (i := 16) (v := ?_) rfl (by kernel_rfl) (by kernel_rfl) (by kernel_rfl) (fun _ _ _ h => h) (Or.inl ⟨by rfl, ?_⟩) Hb7 ?_
              rotate_left
              · intro w hSw; go_simp; try with_reducible rfl
              simp only [List.getElem_toArray, List.getElem_cons_zero, List.getElem_cons_succ, Act.put, List.setIfInBounds_toArray, List.set_cons_zero, List.set_cons_succ]
              refine wpAnyH_done (by kernel_rfl) ?_ _
              go_wp2_with (fail)
              go_meet
              exact ⟨_, rfl, rfl, Hb7⟩
          · refine step_oneD (by rfl) _ (by rfl) (d) Dd.out (by rfl) ?_
            generalize hge : World.alloc _ _ = w2_
            have fx2 : Blk w2_ w1_.heap.size 26 (arrK .u8 (d)) := by subst hge; exact Blk.new _ _ _
            have hb2 : Below w1_.heap.size w1_ w2_ := by subst hge; exact (Below.refl _ _).alloc (Nat.le_refl _) _
            clear hge
            have fc2 := fc1.below hb2
            have ltcx2 := fc1.lt
            have lox2 : w8.heap.size ≤ w1_.heap.size := Hb1.size
            have Hb2 : Below w8.heap.size w8 w2_ := below_of Hb1 hb2 Hb1.size
            refine hK.out _ _ Hb2 fun _ => ?_
            clear hK K
            try simp only [List.getElem_toArray, List.getElem_cons_zero, List.getElem_cons_succ, Act.put, List.setIfInBounds_toArray, List.set_cons_zero, List.set_cons_succ]
            refine wpAnyH_ready (rs := [4]) (by kernel_rfl) (by simp) (AllReadyH.cons rfl (fun K hK => ?_) AllReadyH.nil)
            go_simp
            generalize hge : World.alloc _ _ = w3_
            have fo3 : w3_.ownsRow w8.heap.size 26 32 (.slice (some ⟨w2_.heap.size, 0, none⟩) 0 0) 0 (bytesV ([] : List (List Nat)).flatten) := by subst hge; exact ownD_empty w2_ _ Hb2.size
            have hb3 : Below w2_.heap.size w2_ w3_ := by subst hge; exact (Below.refl _ _).alloc (Nat.le_refl _) _
            clear hge
            have fc3 := fc2.below hb3
            have fx3 := fx2.below hb3
            have apoc3 : Apart (.slice (some ⟨w2_.heap.size, 0, none⟩) 0 0) (wd.heap.size) := apart_lit fc2.lt
            have apox3 : Apart (.slice (some ⟨w2_.heap.size, 0, none⟩) 0 0) (w1_.heap.size) := apart_lit fx2.lt
            have Hb3 : Below w8.heap.size w8 w3_ := below_of Hb2 hb3 Hb2.size
            refine hK.out _ _ Hb3 fun _ => ?_
            clear hK K
            try simp only [List.getElem_toArray, List.getElem_cons_zero, List.getElem_cons_succ, Act.put, List.setIfInBounds_toArray, List.set_cons_zero, List.set_cons_succ]
            refine wpAnyH_ready (rs := [6]) (by kernel_rfl) (by simp) (AllReadyH.cons rfl (fun K hK => ?_) AllReadyH.nil)
            refine step_addDs (by rfl) (.tmp 46) (.tmp 47) (by rfl) w8.heap.size (.slice (some ⟨w2_.heap.size, 0, none⟩) 0 0) (0) ([] : List (List Nat)) fo3 (by rfl) Ap q cp p Hpq.out HpL.out (HC8.out.below Hb3) (by rfl) (by omega) Hb3.size ?_
            intro v4 w4_ fo4 hg4 st4
            have apoc4 := apart_sits st4 apoc3 fc3.lt
            have apox4 := apart_sits st4 apox3 fx3.lt
            have fc4 := fc3.grown hg4 (fun e => apoc3 e.symm)
            have fx4 := fx3.grown hg4 (fun e => apox3 e.symm)
            have Hb4 : Below w8.heap.size w8 w4_ := below_grown Hb3 hg4 Hb3.size (own_base fo3)
            obtain ⟨A4, c4, rfl, le4, lm4, -⟩ := own_form fo4
            rw [Nat.zero_add] at fo4 le4 apoc4 apox4
            simp only [Nat.zero_add]
            refine hK.out _ _ Hb4 fun _ => ?_
            clear hK K
            try simp only [List.getElem_toArray, List.getElem_cons_zero, List.getElem_cons_succ, Act.put, List.setIfInBounds_toArray, List.set_cons_zero, List.set_cons_succ]
            refine wpAnyH_ready (rs := [9]) (by kernel_rfl) (by simp) (AllReadyH.cons rfl (fun K hK => ?_) AllReadyH.nil)
            refine step_pushDs (by rfl) (.tmp 48) (.tmp 50) (by rfl) w8.heap.size (.slice A4 (q) c4) (q) (([] : List (List Nat)) ++ p) (d) fo4 (by rfl) (w1_.heap.size) fx4 Dd.out (by rfl) (by omega) Hb4.size ?_
            intro v5 w5_ fo5 hg5 st5
            have apoc5 := apart_sits st5 apoc4 fc4.lt
            have apox5 := apart_sits st5 apox4 fx4.lt
            have fc5 := fc4.grown hg5 (fun e => apoc4 e.symm)
            have fx5 := fx4.grown hg5 (fun e => apox4 e.symm)
            have Hb5 : Below w8.heap.size w8 w5_ := below_grown Hb4 hg5 Hb4.size (own_base fo4)
            obtain ⟨A5, c5, rfl, le5, lm5, -⟩ := own_form fo5
            refine hK.out _ _ Hb5 fun _ => ?_
            clear hK K
            try simp only [List.getElem_toArray, List.getElem_cons_zero, List.getElem_cons_succ, Act.put, List.setIfInBounds_toArray, List.set_cons_zero, List.set_cons_succ]
            refine wpAnyH_ready (rs := [10]) (by kernel_rfl) (by simp) (AllReadyH.cons rfl (fun K hK => ?_) AllReadyH.nil)
            go_simp
            refine (HCl2.out A5 c5 w5_ (by omega) lm5 (Cells.own fo5)).mono ?_
            rintro e w6_ ⟨rfl, hb6⟩
            have fc6 := fc5.below hb6
            have fx6 := fx5.below hb6
            have fo6 := own_below fo5 hb6
            have Hb6 : Below w8.heap.size w8 w6_ := below_of Hb5 hb6 Hb5.size
            go_wp2_with (fail)
            refine hK.out _ _ Hb6 fun _ => ?_
            clear hK K
            try simp only [List.getElem_toArray, List.getElem_cons_zero, List.getElem_cons_succ, Act.put, List.setIfInBounds_toArray, List.set_cons_zero, List.set_cons_succ]
            refine wpAnyH_take (i := 11) (v := ?_) rfl (by kernel_rfl) (by kernel_rfl) (by kernel_rfl) (fun _ _ _ h => h) (Or.inl ⟨by rfl, ?_⟩) Hb6 ?_
            rotate_left
            · intro w hSw; go_simp; try with_reducible rfl
            simp only [List.getElem_toArray, List.getElem_cons_zero, List.getElem_cons_succ, Act.put, List.setIfInBounds_toArray, List.set_cons_zero, List.set_cons_succ]
            refine wpAnyH_take (i := 12) (v := ?_) rfl (by kernel_rfl) (by kernel_rfl) (by kernel_rfl) (fun _ _ _ h => h) (Or.inl ⟨by rfl, ?_⟩) Hb6 ?_
            rotate_left
            · intro w hSw; go_simp; try with_reducible rfl
            simp only [List.getElem_toArray, List.getElem_cons_zero, List.getElem_cons_succ, Act.put, List.setIfInBounds_toArray, List.set_cons_zero, List.set_cons_succ]
            refine wpAnyH_take (i := 13) (v := ?_) rfl (by kernel_rfl) (by kernel_rfl) (by kernel_rfl) (fun _ _ _ h => h) (Or.inl ⟨by rfl, ?_⟩) Hb6 ?_
            rotate_left
            · intro w hSw; go_simp; try with_reducible rfl
            simp only [List.getElem_toArray, List.getElem_cons_zero, List.getElem_cons_succ, Act.put, List.setIfInBounds_toArray, List.set_cons_zero, List.set_cons_succ]
            refine wpAnyH_ready (rs := [15]) (by kernel_rfl) (by simp) (AllReadyH.cons rfl (fun K hK => ?_) AllReadyH.nil)
            refine step_put_blk (by rfl) _ _ _ (by rfl) (wd.heap.size) (arrK .u8 zz) (by rfl) (by rfl) _ _ fc6 (info32 Dz.out.1) (by rw [len32 Dz.out.1, len32 z32_length]) (arrK_all _ _) ?_
            intro w7_ fc7 hg7 hz7
            have nex7 := fx6.lt
            have fx7 := fx6.grown hg7 (by simp; omega)
            have fo7 := fo6.kept hg7 (.inr apoc5)
            have Hb7 : Below w8.heap.size w8 w7_ := below_grown Hb6 hg7 Hb6.size (by simp; exact loc1)
            refine hK.out _ _ Hb7 fun _ => ?_
            clear hK K
            try simp only [List.getElem_toArray, List.getElem_cons_zero, List.getElem_cons_succ, Act.put, List.setIfInBounds_toArray, List.set_cons_zero, List.set_cons_succ]
            refine wpAnyH_take (i := 16) (v := ?_) rfl (by kernel_rfl) (by kernel_rfl) (by kernel_rfl) (fun _ _ _ h => h) (Or.inl ⟨by rfl, ?_⟩) Hb7 ?_
            rotate_left
            · intro w hSw; go_simp; try with_reducible rfl
            simp only [List.getElem_toArray, List.getElem_cons_zero, List.getElem_cons_succ, Act.put, List.setIfInBounds_toArray, List.set_cons_zero, List.set_cons_succ]
            refine wpAnyH_done (by kernel_rfl) ?_ _
            go_wp2_with (fail)
            go_meet
            exact ⟨_, rfl, rfl, Hb7⟩
      case rest =>
        obtain ⟨gc, rfl, rfl, Hw⟩ := hcut
        have HYc := Lib.hid (HY8.out.below Hw)
        have HXc := Lib.hid (HX8.out.below Hw)
        have HBc := Lib.hid (below_of HB8.out Hw HB8.out.size)
        clear Hw
        go_wp2_with (first
          | (refine wpList_load_blk_g 26 (.tmp 9) (by rfl) (by kernel_rfl) G9 rfl 26 (arrK .u8 r) (.array 32 5) HYc.out (by kernel_rfl) rfl (info32 Dr.out.1) ?_)
          | (refine wpList_load_blk_g 26 (.tmp 4) (by rfl) (by kernel_rfl) G rfl 26 (arrK .u8 r) (.array 32 5) HXc.out (by kernel_rfl) rfl (info32 Dr.out.1) ?_))
        go_roundw
        case rel => exact ⟨k + 1, by omega, by go_num, HBc.out⟩
        case measure => simp [intOf]; omega
    · have hdk : decide ((k : Int) < (m : Int)) = false := by simp; omega
      have hdk2 : decide (k < m) = false := by simp; omega
      go_wp2_with (fail)
      go_ret
      exact ⟨rfl, below_of HB3.out Hbr.out HB3.out.size⟩
-- the row
theorem digestClimbs_own : ownKnob Try.prog.godebug = none := by kernel_rfl
theorem digestClimbs_laidOut : laidOutB Try.prog = true := by kernel_rfl
theorem digestClimbs_readable : (Try.f7.params.toList.all fun t => Try.prog.readableRec t && decide (t < Try.prog.types.size)) = true := by kernel_rfl
set_option maxRecDepth 100000 in
theorem digestClimbs_lifted (os : Os) (started : os.Started) (H : Type) (enc : TypeId × Value → H) :
    ReturnsInHanded {} Try.checked os 7 .any (Rows.digestClimbsSpec.pre6 enc Try.prog Try.f7 Rows.digestClimbsRow.domain false) (Rows.digestClimbsSpec.post enc Try.prog Try.f7 false true false false) := by
  refine returnsInHanded_of_change (C := Try.checked) digestClimbs_own started (by kernel_rfl) Try.func7
    (ChangeSpec.witness6 (enc := enc) (C := Try.checked) false ⟨#[], #[.slice none 0 0], []⟩ 8 (by kernel_rfl) (by kernel_rfl) (by kernel_rfl) (by kernel_rfl)) ?_
  intro W base args ds gs before hval0 hW hcnd _
  have hval : ∀ (j : Nat) t v, Try.f7.params[j]? = some t → args[j]? = some v → Value.okWide Try.prog W .any base t v := hval0
  have hW' := hW
  obtain ⟨p, q, hA0, hV, rfl, hfz, hnd⟩ := hW
  have hA : DataW.TrodAll enc Try.prog W 0 (fun _ => true) true Try.f7.params.toList args.toList ds p := hA0
  rw [Try.params7] at hA hval
  obtain ⟨v0, vs0, d0, ds0, p0, q0, hargs, rfl, rfl, h0, r0⟩ := trodAll_cons hA
  obtain ⟨rfl, rfl, rfl⟩ := trodAll_nil r0
  obtain rfl : args = #[v0] := by cases args; simp_all
  obtain ⟨rfl, rfl⟩ := trodVars_none hV
  obtain ⟨A0, n0, c0, xs0, rfl, l0, nc0, cm0, g0, w0⟩ := open_intslice Try.underlying22 Try.underlying5 (by kernel_rfl) (hval 0 22 v0 rfl rfl) h0
  refine (DigestClimbs_walk W A0 n0 c0 xs0 l0 nc0 cm0 g0 w0).mono fun e W' ⟨he, hb⟩ => ?_
  subst he
  simp only [List.append_nil] at hW'
  refine ⟨_, rfl, law_post digestClimbs_laidOut ?_ (by kernel_rfl) Try.underlying4 rfl hW' rfl rfl rfl hb⟩
  intro t ht
  have hr := List.all_eq_true.1 digestClimbs_readable t ht
  rw [Bool.and_eq_true] at hr
  exact ⟨hr.1, of_decide_eq_true hr.2⟩
theorem digestClimbs_over : Rows.digestClimbsRow.holds Try.pinned (OpenSpec.ofChange Rows.digestClimbsSpec) :=
  OpenClaim.holds_of_wide 7 Try.f7 rfl rfl rfl rfl rfl rfl rfl ⟨rfl, rfl, rfl, rfl, rfl⟩ rfl rfl rfl rfl rfl (by kernel_rfl) Try.func7 (by kernel_rfl)
    (of_decide_eq_true (by kernel_rfl)) (by unfold Func.isWrapper; rw [if_neg (of_decide_eq_false (by kernel_rfl))]; exact ⟨rfl, rfl⟩)
    (fun os started H enc _ => digestClimbs_lifted os started H enc)
theorem digestClimbs_proved : Rows.DigestClimbsSaid := digestClimbs_over
#print axioms digestClimbs_proved
end Go.Proofs.Ytibcmlcjpoemoaa
