/- The statement DigestTreeSpecSaid: Tree, Path and Climb answer as the document's; no condition beside the row's own. -/
import Derived.Test.YtibcmlcjpoemoaaRow2
import Derived.Test.YtibcmlcjpoemoaaRef7
import Derived.Deep.DeepCutAuto
namespace Go.Proofs.Ytibcmlcjpoemoaa
open Go.RowKit Go.WideShapes Go.ChangeShapes Go.ChangeAt
theorem pathR_len {l : List (List Nat)} (h : l.length ≤ 24) (at_ : Int) : (pathR l at_).length ≤ 5 := by
  unfold pathR
  split
  · rw [pathS_length _ _ _ rfl]
    exact dirsS_pow 5 _ _ (by omega)
  · simp
set_option linter.unusedSimpArgs false in
set_option maxRecDepth 100000 in
set_option maxHeartbeats 4000000 in
theorem DigestTreeSpec_walk (w : World) (A : Option Addr) (n c : Nat) (xs : List Int) (hl : xs.length = n) (hnc : n ≤ c) (hcm : c ≤ maxLen) (hA0 : Cells w A (xs.map (Value.int .u8))) (hw : ∀ x ∈ xs, (Lit.int .u8 x).wf = true)
    (i : Int) (_hi : (Lit.int .i64 i).wf = true) (y : Int) (_hy : (Lit.int .i64 y).wf = true) (d : List Nat) (hd : IsD d) :
    Calls Try.prog 4 #[.slice A n c, .int .i64 i, .int .i64 y, .agg (arrK .u8 d)] w (Fine w) := by
  obtain ⟨b, hb, h8, hA⟩ := open_bytes hA0 hw
  have HD := Lib.hid (fun W (h : Cells W A (bytesV b)) => digestsOf_any A n c b W h (hb.trans hl) h8 (Nat.le_trans hnc hcm))
  have HA := Lib.hid hA
  have Dd := Lib.hid hd
  clear hA0 hw hl hb h8 hA _hi _hy hd
  go_enter Try.func4, Try.ntmps4
  go_wp2_with (fail)
  generalize hge : World.alloc _ _ = wa
  have HX := Lib.hid (show Blk wa w.heap.size 26 (arrK .u8 d) by subst hge; exact Blk.new _ _ _)
  have HBa := Lib.hid (show Below w.heap.size w wa by subst hge; exact (Below.refl _ _).alloc (Nat.le_refl _) _)
  clear hge
  refine (sane_any _).mono ?_
  rintro e w0 ⟨rfl, hb0⟩
  have HX0 := Lib.hid (HX.out.below hb0)
  have HB0 := Lib.hid (below_of HBa.out hb0 HBa.out.size)
  clear hb0
  go_wp2_with (fail)
  refine (HD.out _ (HA.out.below HB0.out)).mono ?_
  rintro e w1 ⟨A', m, c', l, rfl, hlm, hm24, hmc, hcm', hL, hC, hb1⟩
  have HB1 := Lib.hid (below_of HB0.out hb1 HB0.out.size)
  have HX1 := Lib.hid (HX0.out.below hb1)
  have Hl := Lib.hid hlm
  have HL := Lib.hid hL
  have HC := Lib.hid hC
  have Hcm' := Lib.hid hcm'
  clear hb1 hlm hL hC hcm'
  have HT := Lib.hid (fun W (h : Cells W A' (bytesV l.flatten)) => tree_any m l A' c' W Hl.out HL.out hmc (by omega) h)
  have HT2 := Lib.hid (fun W (h : Cells W A' (bytesV l.flatten)) => rtree_any m l A' c' W Hl.out HL.out hmc (by omega) h)
  have Dr := Lib.hid (treeS_isD l)
  generalize treeS l = r at *
  have hEq : ∀ W, (Op.equalIn 10000 26 (.agg (arrK .u8 r)) (.agg (arrK .u8 r))).run Try.prog W = .ok true W := fun W => by
    have := run_eqD Dr.out Dr.out W
    simpa using this
  go_wp2_with (fail)
  refine (HT.out _ HC.out).mono ?_
  rintro e w2 ⟨rfl, hb2⟩
  have HC2 := Lib.hid (HC.out.below hb2)
  have HX2 := Lib.hid (HX1.out.below hb2)
  have HB2 := Lib.hid (below_of HB1.out hb2 HB1.out.size)
  clear hb2
  go_wp2_with (fail)
  refine (HT2.out _ HC2.out).mono ?_
  rintro e w3 ⟨rfl, hb3⟩
  have HC3 := Lib.hid (HC2.out.below hb3)
  have HX3 := Lib.hid (HX2.out.below hb3)
  have HB3 := Lib.hid (below_of HB2.out hb3 HB2.out.size)
  clear hb3
  go_wp2_with (fail)
  obtain ⟨G, hG⟩ : ∃ G, w3.heap.size = G := ⟨_, rfl⟩
  generalize hx2 : bits BinOp.and IntKind.i64 i 15 = x2
  generalize hge : World.alloc _ _ = w4
  have HI := Lib.hid (show Blk w4 G 3 #[.int .i64 i, .int .i64 x2] by subst hge; rw [← hG]; exact Blk.new _ _ _)
  have hb4 : Below w3.heap.size w3 w4 := by subst hge; exact (Below.refl _ _).alloc (Nat.le_refl _) _
  have HC4 := Lib.hid (HC3.out.below hb4)
  have HX4 := Lib.hid (HX3.out.below hb4)
  have HB4 := Lib.hid (below_of HB3.out hb4 HB3.out.size)
  rw [hG]
  clear hge hG hb4 hx2
  obtain ⟨g0, hg0⟩ : ∃ g, w.heap.size = g := ⟨_, rfl⟩
  rw [hg0] at HX4
  rw [hg0]
  go_loopw [38] (fun i wr => ∃ k : Nat, k ≤ 2 ∧ i = .int .i64 k ∧ Hid (Below w4.heap.size w4 wr)) (fun i _ => 2 - (intOf i).toNat)
  case atStart => exact ⟨0, by omega, rfl, Below.refl _ _⟩
  case round =>
    obtain ⟨k, hk, rfl, Hbr⟩ := hrel
    by_cases hk2 : k < 2
    · have hdk : decide ((k : Int) < 2) = true := by simp; omega
      have hkI : (k : Int) < 2 := by omega
      have HCr := Lib.hid (HC4.out.below Hbr.out)
      have HXr := Lib.hid (HX4.out.below Hbr.out)
      have HIr := HI.out.below Hbr.out
      obtain ⟨v, ev⟩ : ∃ v : Int, wr.cell? ⟨G, k, none⟩ = some (.int .i64 v) := by
        match k, hk2 with
        | 0, _ => exact ⟨i, HIr.cell 0⟩
        | 1, _ => exact ⟨x2, HIr.cell 1⟩
      clear HIr
      go_wp2_with (fail)
      refine (path_any l v m A' c' _ Hl.out HL.out hmc Hcm'.out (by omega) HCr.out).mono ?_
      rintro e w5 ⟨Ap, q, cp, rfl, hpq, hqc, hcpm, hcp, hb5⟩
      have HCp := Lib.hid hcp
      have HC5 := Lib.hid (HCr.out.below hb5)
      have HX5 := Lib.hid (HXr.out.below hb5)
      have HB5 := Lib.hid (below_of Hbr.out hb5 Hbr.out.size)
      have hq5 : q ≤ 5 := by rw [← hpq]; exact pathR_len (by rw [Hl.out]; exact hm24) v
      have HpL := Lib.hid (pathR_isL l v)
      have Hpq := Lib.hid hpq
      clear hpq hcp hb5 ev
      go_wp2_with (fail)
      refine (rpath_out l v m A' c' _ Hl.out HL.out hmc (by omega) HC5.out).mono ?_
      rintro e w6 ⟨Aq, q', cq, rfl, hpq', hqc', hcqm, hcq, hb6⟩
      obtain rfl : q' = q := by rw [← hpq', Hpq.out]
      have HCq := Lib.hid hcq
      have HCp6 := Lib.hid (HCp.out.below hb6)
      have HX6 := Lib.hid (HX5.out.below hb6)
      have HC6 := Lib.hid (HC5.out.below hb6)
      have HB6 := Lib.hid (below_of HB5.out hb6 HB5.out.size)
      generalize errArg (okPath l v) = ε at *
      have hε : (ε != ε) = false := by simp
      generalize pathR l v = p at *
      have Hcqm := Lib.hid hcqm
      clear hpq' hcq hb6 hcpm hcqm HCp
      go_wp2_with (fail)
      refine (same_any p q' Ap Aq cp cq _ Hpq.out HpL.out (by omega) HCp6.out HCq.out).mono ?_
      rintro e w7 ⟨rfl, hb7⟩
      have HCq7 := Lib.hid (HCq.out.below hb7)
      have HX7 := Lib.hid (HX6.out.below hb7)
      have HB7 := Lib.hid (below_of HB6.out hb7 HB6.out.size)
      clear hb7 HCp6
      go_wp2_with (fail)
      -- LOOP2
      obtain ⟨G2, hG2⟩ : ∃ G, w7.heap.size = G := ⟨_, rfl⟩
      generalize hge : World.alloc _ _ = w8
      have HJ := Lib.hid (show Blk w8 G2 3 #[.int .i64 y, .int .i64 (m : Int)] by subst hge; rw [← hG2]; exact Blk.new _ _ _)
      have hb8 : Below w7.heap.size w7 w8 := by subst hge; exact (Below.refl _ _).alloc (Nat.le_refl _) _
      have HCq8 := Lib.hid (HCq7.out.below hb8)
      have HX8 := Lib.hid (HX7.out.below hb8)
      have HB8 := Lib.hid (below_of HB7.out hb8 HB7.out.size)
      rw [hG2]
      clear hge hG2 hb8
      obtain ⟨h, hh⟩ : ∃ h, q' / 2 = h := ⟨_, rfl⟩
      have hhq : h ≤ q' := by omega
      have hd1 : (q' : Int) / 2 = (h : Int) := by omega
      have hd2 : (q' : Int).tdiv 2 = (h : Int) := by rw [Int.tdiv_eq_ediv_of_nonneg (by omega)]; exact hd1
      have hd3 : IntKind.i64.wrap (h : Int) = (h : Int) := IntWalk.i64_in _ (by omega)
      have hd4 : (h : Int) ≤ (q' : Int) := by omega
      have hd5 : (h : Int) ≤ (cq : Int) := by omega
      clear hh
      go_loopw [68] (fun i wr => ∃ k : Nat, k ≤ 2 ∧ i = .int .i64 k ∧ Hid (Below w8.heap.size w8 wr)) (fun i _ => 2 - (intOf i).toNat)
      case atStart => exact ⟨0, by omega, rfl, Below.refl _ _⟩
      case round =>
        obtain ⟨k2, hk22, rfl, Hbr2⟩ := hrel
        by_cases hj2 : k2 < 2
        · have hdk2 : decide ((k2 : Int) < 2) = true := by simp; omega
          have hkI2 : (k2 : Int) < 2 := by omega
          -- BODY2
          have HCqr := Lib.hid (HCq8.out.below Hbr2.out)
          have HXr2 := Lib.hid (HX8.out.below Hbr2.out)
          have HJr := HJ.out.below Hbr2.out
          obtain ⟨z, ez⟩ : ∃ z : Int, wr.cell? ⟨G2, k2, none⟩ = some (.int .i64 z) := by
            match k2, hj2 with
            | 0, _ => exact ⟨y, HJr.cell 0⟩
            | 1, _ => exact ⟨m, HJr.cell 1⟩
          clear HJr
          obtain ⟨wo, hwo⟩ : ∃ wo : World, wr = wo := ⟨_, rfl⟩
          rw [hwo] at HCqr HXr2 ez Hbr2
          rw [hwo]
          clear hwo
          go_upto_region 16 with (fail)
          clear ez
          go_cut [84, 85, 86] (fun s84 s85 s86 wx => ∃ (G3 : Nat) (A2 : Option Addr) (c2 : Nat), s84 = .slice (some ⟨G3, 0, none⟩) 3 3 ∧ s85 = .int .i64 3 ∧ s86 = .int .i64 0 ∧ q' + 1 ≤ c2 ∧ c2 ≤ maxLen ∧ Blk wx G3 30 #[.slice Aq q' cq, .slice A2 (q' + 1) c2, .slice Aq h cq] ∧ Cells wx A2 (bytesV (([] ++ p) ++ [d]).flatten) ∧ Below wo.heap.size wo wx)
          case first =>
            refine wp_region_held_drew (S := fun W => Below wo.heap.size wo W) (by kernel_rfl) (below_drewN (Below.refl _ _) 1) (fun Hd => ?_)
            replace Hd : Below wo.heap.size wo wo.drew := Hd
            generalize World.drew wo = wd at *
            refine wpAnyH_take (i := 0) (v := ?_) rfl (by kernel_rfl) (by kernel_rfl) (by kernel_rfl) (fun _ _ _ h => h) (Or.inl ⟨by rfl, ?_⟩) Hd ?_
            rotate_left
            · intro w hSw; go_simp; try with_reducible rfl
            simp only [List.getElem_toArray, List.getElem_cons_zero, List.getElem_cons_succ, Act.put, List.setIfInBounds_toArray, List.set_cons_zero, List.set_cons_succ]
            refine wpAnyH_take (i := 2) (v := ?_) rfl (by kernel_rfl) (by kernel_rfl) (by kernel_rfl) (fun _ _ _ h => h) (Or.inl ⟨by rfl, ?_⟩) Hd ?_
            rotate_left
            · intro w hSw; go_simp; try with_reducible rfl
            simp only [List.getElem_toArray, List.getElem_cons_zero, List.getElem_cons_succ, Act.put, List.setIfInBounds_toArray, List.set_cons_zero, List.set_cons_succ]
            refine wpAnyH_take (i := 4) (v := .agg (arrK .u8 d)) rfl (by kernel_rfl) (by kernel_rfl) (by kernel_rfl) (fun _ _ _ h => h) (yields_load_blk (by rfl) _ _ rfl (g0) rfl 26 (arrK .u8 d) (.array 32 5) (fun W hW => HXr2.out.below hW) (by kernel_rfl) rfl (info32 Dd.out.1)) Hd ?_
            simp only [List.getElem_toArray, List.getElem_cons_zero, List.getElem_cons_succ, Act.put, List.setIfInBounds_toArray, List.set_cons_zero, List.set_cons_succ]
            refine wpAnyH_take (i := 7) (v := ?_) rfl (by kernel_rfl) (by kernel_rfl) (by kernel_rfl) (fun _ _ _ h => h) (Or.inl ⟨by rfl, ?_⟩) Hd ?_
            rotate_left
            · intro w hSw; go_simp; try with_reducible rfl
            simp only [List.getElem_toArray, List.getElem_cons_zero, List.getElem_cons_succ, Act.put, List.setIfInBounds_toArray, List.set_cons_zero, List.set_cons_succ]
            refine wpAnyH_take (i := 8) (v := ?_) rfl (by kernel_rfl) (by kernel_rfl) (by kernel_rfl) (fun _ _ _ h => h) (Or.inl ⟨by rfl, ?_⟩) Hd ?_
            rotate_left
            · intro w hSw; go_simp; try with_reducible rfl
            simp only [List.getElem_toArray, List.getElem_cons_zero, List.getElem_cons_succ, Act.put, List.setIfInBounds_toArray, List.set_cons_zero, List.set_cons_succ]
            refine wpAnyH_take (i := 9) (v := ?_) rfl (by kernel_rfl) (by kernel_rfl) (by kernel_rfl) (fun _ _ _ h => h) (Or.inl ⟨by rfl, ?_⟩) Hd ?_
            rotate_left
            · intro w hSw; go_simp; try with_reducible rfl
            simp only [List.getElem_toArray, List.getElem_cons_zero, List.getElem_cons_succ, Act.put, List.setIfInBounds_toArray, List.set_cons_zero, List.set_cons_succ]
            refine wpAnyH_take (i := 10) (v := ?_) rfl (by kernel_rfl) (by kernel_rfl) (by kernel_rfl) (fun _ _ _ h => h) (Or.inl ⟨by rfl, ?_⟩) Hd ?_
            rotate_left
            · intro w hSw; go_simp; try with_reducible rfl
            simp only [List.getElem_toArray, List.getElem_cons_zero, List.getElem_cons_succ, Act.put, List.setIfInBounds_toArray, List.set_cons_zero, List.set_cons_succ]
            refine wpAnyH_take (i := 11) (v := ?_) rfl (by kernel_rfl) (by kernel_rfl) (by kernel_rfl) (fun _ _ _ h => h) (Or.inl ⟨by rfl, ?_⟩) Hd ?_
            rotate_left
            · intro w hSw; go_simp; try with_reducible rfl
            simp only [List.getElem_toArray, List.getElem_cons_zero, List.getElem_cons_succ, Act.put, List.setIfInBounds_toArray, List.set_cons_zero, List.set_cons_succ]
            refine wpAnyH_take (i := 14) (v := ?_) rfl (by kernel_rfl) (by kernel_rfl) (by kernel_rfl) (fun _ _ _ h => h) (Or.inl ⟨by rfl, ?_⟩) Hd ?_
            rotate_left
            · intro w hSw; go_simp; try with_reducible rfl
            simp only [List.getElem_toArray, List.getElem_cons_zero, List.getElem_cons_succ, Act.put, List.setIfInBounds_toArray, List.set_cons_zero, List.set_cons_succ]
            refine wpAnyH_ready (rs := [1, 5]) (by kernel_rfl) (by simp) (AllReadyH.cons rfl (fun K hK => ?_) (AllReadyH.cons rfl (fun K hK => ?_) AllReadyH.nil))
            · go_simp
              generalize hge : World.alloc _ _ = w1_
              have fo1 : w1_.ownsRow wo.heap.size 26 32 (.slice (some ⟨wd.heap.size, 0, none⟩) 0 0) 0 (bytesV ([] : List (List Nat)).flatten) := by subst hge; exact ownD_empty wd _ Hd.size
              have hb1 : Below wd.heap.size wd w1_ := by subst hge; exact (Below.refl _ _).alloc (Nat.le_refl _) _
              clear hge
              have Hb1 : Below wo.heap.size wo w1_ := below_of Hd hb1 Hd.size
              refine hK.out _ _ Hb1 fun _ => ?_
              clear hK K
              try simp only [List.getElem_toArray, List.getElem_cons_zero, List.getElem_cons_succ, Act.put, List.setIfInBounds_toArray, List.set_cons_zero, List.set_cons_succ]
              refine wpAnyH_ready (rs := [3, 5]) (by kernel_rfl) (by simp) (AllReadyH.cons rfl (fun K hK => ?_) (AllReadyH.cons rfl (fun K hK => ?_) AllReadyH.nil))
              · refine step_addDs (by rfl) (.tmp 73) (.tmp 74) (by rfl) wo.heap.size (.slice (some ⟨wd.heap.size, 0, none⟩) 0 0) (0) ([] : List (List Nat)) fo1 (by rfl) Aq q' cq p Hpq.out HpL.out (HCqr.out.below Hb1) (by rfl) (by omega) Hb1.size ?_
                intro v2 w2_ fo2 hg2 st2
                have Hb2 : Below wo.heap.size wo w2_ := below_grown Hb1 hg2 Hb1.size (own_base fo1)
                obtain ⟨A2, c2, rfl, le2, lm2, -⟩ := own_form fo2
                rw [Nat.zero_add] at fo2 le2 
                simp only [Nat.zero_add]
                refine hK.out _ _ Hb2 fun _ => ?_
                clear hK K
                try simp only [List.getElem_toArray, List.getElem_cons_zero, List.getElem_cons_succ, Act.put, List.setIfInBounds_toArray, List.set_cons_zero, List.set_cons_succ]
                refine wpAnyH_ready (rs := [5]) (by kernel_rfl) (by simp) (AllReadyH.cons rfl (fun K hK => ?_) AllReadyH.nil)
                refine step_oneD (by rfl) _ (by rfl) (d) Dd.out (by rfl) ?_
                generalize hge : World.alloc _ _ = w3_
                have fx3 : Blk w3_ w2_.heap.size 26 (arrK .u8 (d)) := by subst hge; exact Blk.new _ _ _
                have hb3 : Below w2_.heap.size w2_ w3_ := by subst hge; exact (Below.refl _ _).alloc (Nat.le_refl _) _
                clear hge
                have fo3 := own_below fo2 hb3
                have apox3 := apart_new fo2
                have lox3 : wo.heap.size ≤ w2_.heap.size := Hb2.size
                have Hb3 : Below wo.heap.size wo w3_ := below_of Hb2 hb3 Hb2.size
                refine hK.out _ _ Hb3 fun _ => ?_
                clear hK K
                try simp only [List.getElem_toArray, List.getElem_cons_zero, List.getElem_cons_succ, Act.put, List.setIfInBounds_toArray, List.set_cons_zero, List.set_cons_succ]
                refine wpAnyH_ready (rs := [6]) (by kernel_rfl) (by simp) (AllReadyH.cons rfl (fun K hK => ?_) AllReadyH.nil)
                refine step_pushDs (by rfl) (.tmp 75) (.tmp 77) (by rfl) wo.heap.size (.slice A2 (q') c2) (q') (([] : List (List Nat)) ++ p) (d) fo3 (by rfl) (w2_.heap.size) fx3 Dd.out (by rfl) (by omega) Hb3.size ?_
                intro v4 w4_ fo4 hg4 st4
                have apox4 := apart_sits st4 apox3 fx3.lt
                have fx4 := fx3.grown hg4 (fun e => apox3 e.symm)
                have Hb4 : Below wo.heap.size wo w4_ := below_grown Hb3 hg4 Hb3.size (own_base fo3)
                obtain ⟨A4, c4, rfl, le4, lm4, -⟩ := own_form fo4
                refine hK.out _ _ Hb4 fun _ => ?_
                clear hK K
                try simp only [List.getElem_toArray, List.getElem_cons_zero, List.getElem_cons_succ, Act.put, List.setIfInBounds_toArray, List.set_cons_zero, List.set_cons_succ]
                refine wpAnyH_ready (rs := [12]) (by kernel_rfl) (by simp) (AllReadyH.cons rfl (fun K hK => ?_) AllReadyH.nil)
                go_simp
                generalize hge : World.alloc _ _ = w5_
                have ft5 : Blk w5_ w4_.heap.size 30 #[.slice Aq q' cq, .slice A4 (q' + 1) c4, .slice Aq h cq] := by subst hge; exact Blk.new _ _ _
                have hb5 : Below w4_.heap.size w4_ w5_ := by subst hge; exact (Below.refl _ _).alloc (Nat.le_refl _) _
                clear hge
                have fx5 := fx4.below hb5
                have fo5 := own_below fo4 hb5
                have Hb5 : Below wo.heap.size wo w5_ := below_of Hb4 hb5 Hb4.size
                refine hK.out _ _ Hb5 fun _ => ?_
                clear hK K
                try simp only [List.getElem_toArray, List.getElem_cons_zero, List.getElem_cons_succ, Act.put, List.setIfInBounds_toArray, List.set_cons_zero, List.set_cons_succ]
                refine wpAnyH_take (i := 13) (v := ?_) rfl (by kernel_rfl) (by kernel_rfl) (by kernel_rfl) (fun _ _ _ h => h) (Or.inl ⟨by rfl, ?_⟩) Hb5 ?_
                rotate_left
                · intro w hSw; go_simp; try with_reducible rfl
                simp only [List.getElem_toArray, List.getElem_cons_zero, List.getElem_cons_succ, Act.put, List.setIfInBounds_toArray, List.set_cons_zero, List.set_cons_succ]
                refine wpAnyH_done (by kernel_rfl) ?_ _
                go_wp2_with (fail)
                go_meet
                exact ⟨_, A4, c4, rfl, rfl, rfl, le4, lm4, ft5, Cells.own fo5, Hb5⟩
              · refine step_oneD (by rfl) _ (by rfl) (d) Dd.out (by rfl) ?_
                generalize hge : World.alloc _ _ = w2_
                have fx2 : Blk w2_ w1_.heap.size 26 (arrK .u8 (d)) := by subst hge; exact Blk.new _ _ _
                have hb2 : Below w1_.heap.size w1_ w2_ := by subst hge; exact (Below.refl _ _).alloc (Nat.le_refl _) _
                clear hge
                have fo2 := own_below fo1 hb2
                have apox2 := apart_new fo1
                have lox2 : wo.heap.size ≤ w1_.heap.size := Hb1.size
                have Hb2 : Below wo.heap.size wo w2_ := below_of Hb1 hb2 Hb1.size
                refine hK.out _ _ Hb2 fun _ => ?_
                clear hK K
                try simp only [List.getElem_toArray, List.getElem_cons_zero, List.getElem_cons_succ, Act.put, List.setIfInBounds_toArray, List.set_cons_zero, List.set_cons_succ]
                refine wpAnyH_ready (rs := [3]) (by kernel_rfl) (by simp) (AllReadyH.cons rfl (fun K hK => ?_) AllReadyH.nil)
                refine step_addDs (by rfl) (.tmp 73) (.tmp 74) (by rfl) wo.heap.size (.slice (some ⟨wd.heap.size, 0, none⟩) 0 0) (0) ([] : List (List Nat)) fo2 (by rfl) Aq q' cq p Hpq.out HpL.out (HCqr.out.below Hb2) (by rfl) (by omega) Hb2.size ?_
                intro v3 w3_ fo3 hg3 st3
                have apox3 := apart_sits st3 apox2 fx2.lt
                have fx3 := fx2.grown hg3 (fun e => apox2 e.symm)
                have Hb3 : Below wo.heap.size wo w3_ := below_grown Hb2 hg3 Hb2.size (own_base fo2)
                obtain ⟨A3, c3, rfl, le3, lm3, -⟩ := own_form fo3
                rw [Nat.zero_add] at fo3 le3 apox3
                simp only [Nat.zero_add]
                refine hK.out _ _ Hb3 fun _ => ?_
                clear hK K
                try simp only [List.getElem_toArray, List.getElem_cons_zero, List.getElem_cons_succ, Act.put, List.setIfInBounds_toArray, List.set_cons_zero, List.set_cons_succ]
                refine wpAnyH_ready (rs := [6]) (by kernel_rfl) (by simp) (AllReadyH.cons rfl (fun K hK => ?_) AllReadyH.nil)
                refine step_pushDs (by rfl) (.tmp 75) (.tmp 77) (by rfl) wo.heap.size (.slice A3 (q') c3) (q') (([] : List (List Nat)) ++ p) (d) fo3 (by rfl) (w1_.heap.size) fx3 Dd.out (by rfl) (by omega) Hb3.size ?_
                intro v4 w4_ fo4 hg4 st4
                have apox4 := apart_sits st4 apox3 fx3.lt
                have fx4 := fx3.grown hg4 (fun e => apox3 e.symm)
                have Hb4 : Below wo.heap.size wo w4_ := below_grown Hb3 hg4 Hb3.size (own_base fo3)
                obtain ⟨A4, c4, rfl, le4, lm4, -⟩ := own_form fo4
                refine hK.out _ _ Hb4 fun _ => ?_
                clear hK K
                try simp only [List.getElem_toArray, List.getElem_cons_zero, List.getElem_cons_succ, Act.put, List.setIfInBounds_toArray, List.set_cons_zero, List.set_cons_succ]
                refine wpAnyH_ready (rs := [12]) (by kernel_rfl) (by simp) (AllReadyH.cons rfl (fun K hK => ?_) AllReadyH.nil)
                go_simp
                generalize hge : World.alloc _ _ = w5_
                have ft5 : Blk w5_ w4_.heap.size 30 #[.slice Aq q' cq, .slice A4 (q' + 1) c4, .slice Aq h cq] := by subst hge; exact Blk.new _ _ _
                have hb5 : Below w4_.heap.size w4_ w5_ := by subst hge; exact (Below.refl _ _).alloc (Nat.le_refl _) _
                clear hge
                have fx5 := fx4.below hb5
                have fo5 := own_below fo4 hb5
                have Hb5 : Below wo.heap.size wo w5_ := below_of Hb4 hb5 Hb4.size
                refine hK.out _ _ Hb5 fun _ => ?_
                clear hK K
                try simp only [List.getElem_toArray, List.getElem_cons_zero, List.getElem_cons_succ, Act.put, List.setIfInBounds_toArray, List.set_cons_zero, List.set_cons_succ]
                refine wpAnyH_take (i := 13) (v := ?_) rfl (by kernel_rfl) (by kernel_rfl) (by kernel_rfl) (fun _ _ _ h => h) (Or.inl ⟨by rfl, ?_⟩) Hb5 ?_
                rotate_left
                · intro w hSw; go_simp; try with_reducible rfl
                simp only [List.getElem_toArray, List.getElem_cons_zero, List.getElem_cons_succ, Act.put, List.setIfInBounds_toArray, List.set_cons_zero, List.set_cons_succ]
                refine wpAnyH_done (by kernel_rfl) ?_ _
                go_wp2_with (fail)
                go_meet
                exact ⟨_, A4, c4, rfl, rfl, rfl, le4, lm4, ft5, Cells.own fo5, Hb5⟩
            · refine step_oneD (by rfl) _ (by rfl) (d) Dd.out (by rfl) ?_
              generalize hge : World.alloc _ _ = w1_
              have fx1 : Blk w1_ wd.heap.size 26 (arrK .u8 (d)) := by subst hge; exact Blk.new _ _ _
              have hb1 : Below wd.heap.size wd w1_ := by subst hge; exact (Below.refl _ _).alloc (Nat.le_refl _) _
              clear hge
              have lox1 : wo.heap.size ≤ wd.heap.size := Hd.size
              have Hb1 : Below wo.heap.size wo w1_ := below_of Hd hb1 Hd.size
              refine hK.out _ _ Hb1 fun _ => ?_
              clear hK K
              try simp only [List.getElem_toArray, List.getElem_cons_zero, List.getElem_cons_succ, Act.put, List.setIfInBounds_toArray, List.set_cons_zero, List.set_cons_succ]
              refine wpAnyH_ready (rs := [1]) (by kernel_rfl) (by simp) (AllReadyH.cons rfl (fun K hK => ?_) AllReadyH.nil)
              go_simp
              generalize hge : World.alloc _ _ = w2_
              have fo2 : w2_.ownsRow wo.heap.size 26 32 (.slice (some ⟨w1_.heap.size, 0, none⟩) 0 0) 0 (bytesV ([] : List (List Nat)).flatten) := by subst hge; exact ownD_empty w1_ _ Hb1.size
              have hb2 : Below w1_.heap.size w1_ w2_ := by subst hge; exact (Below.refl _ _).alloc (Nat.le_refl _) _
              clear hge
              have fx2 := fx1.below hb2
              have apox2 : Apart (.slice (some ⟨w1_.heap.size, 0, none⟩) 0 0) (wd.heap.size) := apart_lit fx1.lt
              have Hb2 : Below wo.heap.size wo w2_ := below_of Hb1 hb2 Hb1.size
              refine hK.out _ _ Hb2 fun _ => ?_
              clear hK K
              try simp only [List.getElem_toArray, List.getElem_cons_zero, List.getElem_cons_succ, Act.put, List.setIfInBounds_toArray, List.set_cons_zero, List.set_cons_succ]
              refine wpAnyH_ready (rs := [3]) (by kernel_rfl) (by simp) (AllReadyH.cons rfl (fun K hK => ?_) AllReadyH.nil)
              refine step_addDs (by rfl) (.tmp 73) (.tmp 74) (by rfl) wo.heap.size (.slice (some ⟨w1_.heap.size, 0, none⟩) 0 0) (0) ([] : List (List Nat)) fo2 (by rfl) Aq q' cq p Hpq.out HpL.out (HCqr.out.below Hb2) (by rfl) (by omega) Hb2.size ?_
              intro v3 w3_ fo3 hg3 st3
              have apox3 := apart_sits st3 apox2 fx2.lt
              have fx3 := fx2.grown hg3 (fun e => apox2 e.symm)
              have Hb3 : Below wo.heap.size wo w3_ := below_grown Hb2 hg3 Hb2.size (own_base fo2)
              obtain ⟨A3, c3, rfl, le3, lm3, -⟩ := own_form fo3
              rw [Nat.zero_add] at fo3 le3 apox3
              simp only [Nat.zero_add]
              refine hK.out _ _ Hb3 fun _ => ?_
              clear hK K
              try simp only [List.getElem_toArray, List.getElem_cons_zero, List.getElem_cons_succ, Act.put, List.setIfInBounds_toArray, List.set_cons_zero, List.set_cons_succ]
              refine wpAnyH_ready (rs := [6]) (by kernel_rfl) (by simp) (AllReadyH.cons rfl (fun K hK => ?_) AllReadyH.nil)
              refine step_pushDs (by rfl) (.tmp 75) (.tmp 77) (by rfl) wo.heap.size (.slice A3 (q') c3) (q') (([] : List (List Nat)) ++ p) (d) fo3 (by rfl) (wd.heap.size) fx3 Dd.out (by rfl) (by omega) Hb3.size ?_
              intro v4 w4_ fo4 hg4 st4
              have apox4 := apart_sits st4 apox3 fx3.lt
              have fx4 := fx3.grown hg4 (fun e => apox3 e.symm)
              have Hb4 : Below wo.heap.size wo w4_ := below_grown Hb3 hg4 Hb3.size (own_base fo3)
              obtain ⟨A4, c4, rfl, le4, lm4, -⟩ := own_form fo4
              refine hK.out _ _ Hb4 fun _ => ?_
              clear hK K
              try simp only [List.getElem_toArray, List.getElem_cons_zero, List.getElem_cons_succ, Act.put, List.setIfInBounds_toArray, List.set_cons_zero, List.set_cons_succ]
              refine wpAnyH_ready (rs := [12]) (by kernel_rfl) (by simp) (AllReadyH.cons rfl (fun K hK => ?_) AllReadyH.nil)
              go_simp
              generalize hge : World.alloc _ _ = w5_
              have ft5 : Blk w5_ w4_.heap.size 30 #[.slice Aq q' cq, .slice A4 (q' + 1) c4, .slice Aq h cq] := by subst hge; exact Blk.new _ _ _
              have hb5 : Below w4_.heap.size w4_ w5_ := by subst hge; exact (Below.refl _ _).alloc (Nat.le_refl _) _
              clear hge
              have fx5 := fx4.below hb5
              have fo5 := own_below fo4 hb5
              have Hb5 : Below wo.heap.size wo w5_ := below_of Hb4 hb5 Hb4.size
              refine hK.out _ _ Hb5 fun _ => ?_
              clear hK K
              try simp only [List.getElem_toArray, List.getElem_cons_zero, List.getElem_cons_succ, Act.put, List.setIfInBounds_toArray, List.set_cons_zero, List.set_cons_succ]
              refine wpAnyH_take (i := 13) (v := ?_) rfl (by kernel_rfl) (by kernel_rfl) (by kernel_rfl) (fun _ _ _ h => h) (Or.inl ⟨by rfl, ?_⟩) Hb5 ?_
              rotate_left
              · intro w hSw; go_simp; try with_reducible rfl
              simp only [List.getElem_toArray, List.getElem_cons_zero, List.getElem_cons_succ, Act.put, List.setIfInBounds_toArray, List.set_cons_zero, List.set_cons_succ]
              refine wpAnyH_done (by kernel_rfl) ?_ _
              go_wp2_with (fail)
              go_meet
              exact ⟨_, A4, c4, rfl, rfl, rfl, le4, lm4, ft5, Cells.own fo5, Hb5⟩
          case rest =>
            obtain ⟨G3, A2, c2, rfl, rfl, rfl, hc2, hm2, HK, HC2', Hw⟩ := hcut
            have HXc := Lib.hid (HXr2.out.below Hw)
            have HCqc := Lib.hid (HCqr.out.below Hw)
            have HK3 := Lib.hid HK
            have HC23 := Lib.hid HC2'
            have HB3w := Lib.hid (below_of Hbr2.out Hw Hbr2.out.size)
            have Hm2 := Lib.hid hm2
            clear HK HC2' Hw hm2
            go_wp2_with (fail)
            go_loopw [86] (fun i wr => ∃ t : Nat, t ≤ 3 ∧ i = .int .i64 t ∧ Hid (Below wc.heap.size wc wr)) (fun i _ => 3 - (intOf i).toNat)
            case atStart => exact ⟨0, by omega, rfl, Below.refl _ _⟩
            case round =>
              obtain ⟨t, ht, rfl, Hbr3⟩ := hrel
              by_cases ht3 : t < 3
              · have hdt : decide ((t : Int) < 3) = true := by simp; omega
                have hkt : (t : Int) < 3 := by omega
                have HXt := Lib.hid (HXc.out.below Hbr3.out)
                have HKr := HK3.out.below Hbr3.out
                obtain ⟨A3, n3, c3, p3, ev3, hp3, hnc3, hcm3, hP3, hC3⟩ : ∃ (A3 : Option Addr) (n3 c3 : Nat) (p3 : List (List Nat)), wr.cell? ⟨G3, t, none⟩ = some (.slice A3 n3 c3) ∧ p3.length = n3 ∧ n3 ≤ c3 ∧ c3 ≤ maxLen ∧ IsL p3 ∧ Cells wr A3 (bytesV p3.flatten) := by
                  match t, ht3 with
                  | 0, _ => exact ⟨Aq, q', cq, p, HKr.cell 0, Hpq.out, hqc', Hcqm.out, HpL.out, HCqc.out.below Hbr3.out⟩
                  | 1, _ => exact ⟨A2, q' + 1, c2, ([] ++ p) ++ [d], HKr.cell 1, by simp [Hpq.out], hc2, Hm2.out, HpL.out.snoc Dd.out, HC23.out.below Hbr3.out⟩
                  | 2, _ =>
                    refine ⟨Aq, h, cq, p.take h, HKr.cell 2, by rw [List.length_take, Hpq.out]; omega, by omega, Hcqm.out, HpL.out.take h, ?_⟩
                    rw [HpL.out.flat_take h]
                    have := (HCqc.out.below Hbr3.out).take_ (h * 32)
                    rwa [show (bytesV p.flatten).take (h * 32) = bytesV (p.flatten.take (h * 32)) by unfold bytesV; rw [List.map_take]] at this
                have HC3 := Lib.hid hC3
                have C1 := Lib.hid (fun W hC => climb_any d v z A3 n3 c3 p3 W Dd.out hp3 hP3 hnc3 hcm3 hC)
                have C2 := Lib.hid (fun W hC => rclimb_any d v z A3 n3 c3 p3 W Dd.out hp3 hP3 hnc3 hcm3 hC)
                have Dc := Lib.hid (climbR_isD d v z p3)
                clear HKr hC3 hp3 hP3 hcm3
                generalize climbR d v z p3 = cx at *
                generalize errArg (okClimb v z n3) = ε2 at *
                have hε2 : (ε2 != ε2) = false := by simp
                have hEc : ∀ W, (Op.equalIn 10000 26 (.agg (arrK .u8 cx)) (.agg (arrK .u8 cx))).run Try.prog W = .ok true W := fun W => by
                  have := run_eqD Dc.out Dc.out W
                  simpa using this
                go_wp2_with (refine wpList_load_blk rfl 26 (.tmp 7) rfl g0 rfl 26 (arrK .u8 d) (.array 32 5) HXt.out (by kernel_rfl) rfl (info32 Dd.out.1) ?_)
                refine (C1.out _ HC3.out).mono ?_
                rintro e wA ⟨rfl, hbA⟩
                have HXA := Lib.hid (HXt.out.below hbA)
                have HCA := Lib.hid (HC3.out.below hbA)
                have HBA := Lib.hid (below_of Hbr3.out hbA Hbr3.out.size)
                clear hbA ev3
                go_wp2_with (first
                  | (refine wpList_load_blk rfl 26 (.tmp 7) rfl g0 rfl 26 (arrK .u8 d) (.array 32 5) HXB.out (by kernel_rfl) rfl (info32 Dd.out.1) ?_)
                  | (refine wpList_put_blk rfl 26 (.tmp 20) (.tmp 96) rfl wA.heap.size (arrK .u8 cx) rfl rfl 26 (arrK .u8 z32) (Blk.new wA 26 (arrK .u8 z32)) (info32 Dc.out.1) (by rw [len32 Dc.out.1, len32 z32_length]) (arrK_all _ _) ?_
                     intro wB HYB hgB hzB
                     have hbB : Below wA.heap.size wA wB := below_grown ((Below.refl wA.heap.size wA).alloc (Nat.le_refl _) (.cells (arrK .u8 z32) 26)) hgB (by simp) (by simp)
                     have HYB := Lib.hid HYB
                     have HXB := Lib.hid (HXA.out.below hbB)
                     have HCB := Lib.hid (HCA.out.below hbB)
                     have HBB := Lib.hid (below_of HBA.out hbB HBA.out.size)
                     clear hgB hzB hbB))
                obtain ⟨G20, hG20⟩ : ∃ G, wA.heap.size = G := ⟨_, rfl⟩
                rw [hG20] at HYB
                rw [hG20]
                clear hG20
                refine (C2.out _ HCB.out).mono ?_
                rintro e wC ⟨rfl, hbC⟩
                have HYC := Lib.hid (HYB.out.below hbC)
                have HBC := Lib.hid (below_of HBB.out hbC HBB.out.size)
                clear hbC
                go_wp2_with (first
                  | (refine wpList_load_blk rfl 26 (.tmp 20) rfl G20 rfl 26 (arrK .u8 cx) (.array 32 5) HYD.out (by kernel_rfl) rfl (info32 Dc.out.1) ?_)
                  | (refine wpList_load_blk rfl 26 (.tmp 22) rfl wC.heap.size rfl 26 (arrK .u8 cx) (.array 32 5) HZD.out (by kernel_rfl) rfl (info32 Dc.out.1) ?_)
                  | (refine wpList_put_blk rfl 26 (.tmp 22) (.tmp 104) rfl wC.heap.size (arrK .u8 cx) rfl rfl 26 (arrK .u8 z32) (Blk.new wC 26 (arrK .u8 z32)) (info32 Dc.out.1) (by rw [len32 Dc.out.1, len32 z32_length]) (arrK_all _ _) ?_
                     intro wD HZD hgD hzD
                     have hbD : Below wC.heap.size wC wD := below_grown ((Below.refl wC.heap.size wC).alloc (Nat.le_refl _) (.cells (arrK .u8 z32) 26)) hgD (by simp) (by simp)
                     have HZD := Lib.hid HZD
                     have HYD := Lib.hid (HYC.out.below hbD)
                     have HBD := Lib.hid (below_of HBC.out hbD HBC.out.size)
                     clear hgD hzD hbD))
                go_roundw
                case rel => exact ⟨t + 1, by omega, by go_num, HBD.out⟩
                case measure => simp [intOf]; omega
              · have hdt : decide ((t : Int) < 3) = false := by simp; omega
                go_wp2_with (fail)
                go_roundw
                case rel => exact ⟨k2 + 1, by omega, by go_num, HB3w.out.trans (Hbr3.out.mono HB3w.out.size)⟩
                case measure => simp [intOf]; omega
        · have hdk2 : decide ((k2 : Int) < 2) = false := by simp; omega
          go_wp2_with (fail)
          go_roundw
          case rel => exact ⟨k + 1, by omega, by go_num, HB8.out.trans (Hbr2.out.mono HB8.out.size)⟩
          case measure => simp [intOf]; omega
    · have hdk : decide ((k : Int) < 2) = false := by simp; omega
      go_wp2_with (fail)
      go_ret
      exact ⟨rfl, HB4.out.trans (Hbr.out.mono HB4.out.size)⟩
-- the row
theorem digestTreeSpec_own : ownKnob Try.prog.godebug = none := by kernel_rfl
theorem digestTreeSpec_laidOut : laidOutB Try.prog = true := by kernel_rfl
theorem digestTreeSpec_readable : (Try.f4.params.toList.all fun t => Try.prog.readableRec t && decide (t < Try.prog.types.size)) = true := by kernel_rfl
set_option maxRecDepth 100000 in
theorem digestTreeSpec_lifted (os : Os) (started : os.Started) (H : Type) (enc : TypeId × Value → H) :
    ReturnsInHanded {} Try.checked os 4 .any (Rows.digestTreeSpecSpec.pre6 enc Try.prog Try.f4 Rows.digestTreeSpecRow.domain false) (Rows.digestTreeSpecSpec.post enc Try.prog Try.f4 false true false false) := by
  refine returnsInHanded_of_change (C := Try.checked) digestTreeSpec_own started (by kernel_rfl) Try.func4
    (ChangeSpec.witness6 (enc := enc) (C := Try.checked) false ⟨#[], #[.slice none 0 0, .int .i64 0, .int .i64 0, .agg (List.replicate 32 (Value.int .u8 0)).toArray], []⟩ 8 (by kernel_rfl) (by kernel_rfl) (by kernel_rfl) (by kernel_rfl)) ?_
  intro W base args ds gs before hval0 hW hcnd _
  have hval : ∀ (j : Nat) t v, Try.f4.params[j]? = some t → args[j]? = some v → Value.okWide Try.prog W .any base t v := hval0
  have hW' := hW
  obtain ⟨p, q, hA0, hV, rfl, hfz, hnd⟩ := hW
  have hA : DataW.TrodAll enc Try.prog W 0 (fun _ => true) true Try.f4.params.toList args.toList ds p := hA0
  rw [Try.params4] at hA hval
  obtain ⟨v0, vs0, d0, ds0, p0, q0, hargs, rfl, rfl, h0, r0⟩ := trodAll_cons hA
  obtain ⟨v1, vs1, d1, ds1, p1, q1, rfl, rfl, rfl, h1, r1⟩ := trodAll_cons r0
  obtain ⟨v2, vs2, d2, ds2, p2, q2, rfl, rfl, rfl, h2, r2⟩ := trodAll_cons r1
  obtain ⟨v3, vs3, d3, ds3, p3, q3, rfl, rfl, rfl, h3, r3⟩ := trodAll_cons r2
  obtain ⟨rfl, rfl, rfl⟩ := trodAll_nil r3
  obtain rfl : args = #[v0, v1, v2, v3] := by cases args; simp_all
  obtain ⟨rfl, rfl⟩ := trodVars_none hV
  obtain ⟨A0, n0, c0, xs0, rfl, l0, nc0, cm0, g0, w0⟩ := open_intslice Try.underlying22 Try.underlying5 (by kernel_rfl) (hval 0 22 v0 rfl rfl) h0
  obtain ⟨a1, rfl, rfl, rfl, w1⟩ := open_int Try.underlying3 (hval 1 3 v1 rfl rfl) h1
  obtain ⟨a2, rfl, rfl, rfl, w2⟩ := open_int Try.underlying3 (hval 2 3 v2 rfl rfl) h2
  obtain ⟨D3, rfl, k3⟩ := open_digest (hval 3 26 v3 rfl rfl)
  refine (DigestTreeSpec_walk W A0 n0 c0 xs0 l0 nc0 cm0 g0 w0 a1 w1 a2 w2 D3 k3).mono fun e W' ⟨he, hb⟩ => ?_
  subst he
  simp only [List.append_nil] at hW'
  refine ⟨_, rfl, law_post digestTreeSpec_laidOut ?_ (by kernel_rfl) Try.underlying4 rfl hW' rfl rfl rfl hb⟩
  intro t ht
  have hr := List.all_eq_true.1 digestTreeSpec_readable t ht
  rw [Bool.and_eq_true] at hr
  exact ⟨hr.1, of_decide_eq_true hr.2⟩
theorem digestTreeSpec_over : Rows.digestTreeSpecRow.holds Try.pinned (OpenSpec.ofChange Rows.digestTreeSpecSpec) :=
  OpenClaim.holds_of_wide 4 Try.f4 rfl rfl rfl rfl rfl rfl rfl ⟨rfl, rfl, rfl, rfl, rfl⟩ rfl rfl rfl rfl rfl (by kernel_rfl) Try.func4 (by kernel_rfl)
    (of_decide_eq_true (by kernel_rfl)) (by unfold Func.isWrapper; rw [if_neg (of_decide_eq_false (by kernel_rfl))]; exact ⟨rfl, rfl⟩)
    (fun os started H enc _ => digestTreeSpec_lifted os started H enc)
theorem digestTreeSpec_proved : Rows.DigestTreeSpecSaid := digestTreeSpec_over
#print axioms digestTreeSpec_proved
end Go.Proofs.Ytibcmlcjpoemoaa
