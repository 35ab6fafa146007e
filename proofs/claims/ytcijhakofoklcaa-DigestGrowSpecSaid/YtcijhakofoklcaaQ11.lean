/- The statement DigestGrowSpecSaid: Grow and Grew answer as the document's, also for other lengths, digests and growths; no condition beside the row's own. -/
import Derived.Test.YtcijhakofoklcaaRow2
import Derived.Test.YtcijhakofoklcaaRGrew
import Derived.Deep.DeepCutAuto
namespace Go.Proofs.Ytcijhakofoklcaa
open Go.RowKit Go.WideShapes Go.ChangeShapes Go.ChangeAt
set_option linter.unusedVariables false in
set_option linter.unusedSimpArgs false in
set_option maxRecDepth 100000 in
set_option maxHeartbeats 16000000 in
theorem DigestGrowSpec_walk (w : World) (A : Option Addr) (n c : Nat) (xs : List Int) (hl : xs.length = n) (hnc : n ≤ c) (hcm : c ≤ maxLen) (hA0 : Cells w A (xs.map (Value.int .u8))) (hw : ∀ x ∈ xs, (Lit.int .u8 x).wf = true)
    (i : Int) (_hi : (Lit.int .i64 i).wf = true) (y : Int) (_hy : (Lit.int .i64 y).wf = true) (d : List Nat) (hd : IsD d) :
    Calls Try.prog 11 #[.slice A n c, .int .i64 i, .int .i64 y, .agg (arrK .u8 d)] w (Fine w) := by
  obtain ⟨b, hb, h8, hA⟩ := open_bytes hA0 hw
  have HD := Lib.hid (fun W (h : Cells W A (bytesV b)) => digestsOf_any A n c b W h (hb.trans hl) h8 (Nat.le_trans hnc hcm))
  have HA := Lib.hid hA
  have Dd := Lib.hid hd
  have lz := Lib.hid z32_length
  clear hA0 hw hl hb h8 hA _hi _hy hd
  go_enter Try.func11, Try.ntmps11
  go_wp2_with (fail)
  generalize hge : World.alloc _ _ = wa
  have HX := Lib.hid (show Blk wa w.heap.size 37 (arrK .u8 d) by subst hge; exact Blk.new _ _ _)
  have HBa := Lib.hid (show Below w.heap.size w wa by subst hge; exact (Below.refl _ _).alloc (Nat.le_refl _) _)
  clear hge
  refine (sane_any _).mono ?_
  rintro e w0 ⟨rfl, hb0⟩
  have HX0 := Lib.hid (HX.out.below hb0)
  have HB0 := Lib.hid (below_of HBa.out hb0 HBa.out.size)
  clear hb0
  go_wp2_with (fail)
  refine (HD.out _ (HA.out.below HB0.out)).mono ?_
  rintro e w1 ⟨A', m, c', l, rfl, hlm, hm24, hmc, hcm', hL, hC, hb1⟩
  have HB1 := Lib.hid (below_of HB0.out hb1 HB0.out.size)
  have HX1 := Lib.hid (HX0.out.below hb1)
  have Hl := Lib.hid hlm
  have HL := Lib.hid hL
  have HC := Lib.hid hC
  have Hcm' := Lib.hid hcm'
  clear hb1 hlm hL hC hcm'
  have HT2 := Lib.hid (fun W (h : Cells W A' (bytesV l.flatten)) => rtree_any m l A' c' W Hl.out HL.out hmc (by omega) h)
  have Dr := Lib.hid (treeS_isD l)
  generalize treeS l = r at *
  go_wp2_with (fail)
  obtain ⟨G, hG⟩ : ∃ G, w1.heap.size = G := ⟨_, rfl⟩
  generalize hx2 : bits BinOp.and IntKind.i64 i 31 = x2
  generalize hge : World.alloc _ _ = w4
  have HI := Lib.hid (show Blk w4 G 3 #[.int .i64 i, .int .i64 x2] by subst hge; rw [← hG]; exact Blk.new _ _ _)
  have hb4 : Below w1.heap.size w1 w4 := by subst hge; exact (Below.refl _ _).alloc (Nat.le_refl _) _
  have HC4 := Lib.hid (HC.out.below hb4)
  have HX4 := Lib.hid (HX1.out.below hb4)
  have HB4 := Lib.hid (below_of HB1.out hb4 HB1.out.size)
  rw [hG]
  clear hge hG hb4 hx2
  obtain ⟨g0, hg0⟩ : ∃ g, w.heap.size = g := ⟨_, rfl⟩
  rw [hg0] at HX4
  rw [hg0]
  go_loopw [32] (fun i wr => ∃ k : Nat, k ≤ 2 ∧ i = .int .i64 k ∧ Hid (Below w4.heap.size w4 wr)) (fun i _ => 2 - (intOf i).toNat)
  case atStart => exact ⟨0, by omega, rfl, Below.refl _ _⟩
  case round =>
    obtain ⟨k, hk, rfl, Hbr⟩ := hrel
    by_cases hk2 : k < 2
    · have hdk : decide ((k : Int) < 2) = true := by simp; omega
      have hkI : (k : Int) < 2 := by omega
      have HCr := Lib.hid (HC4.out.below Hbr.out)
      have HXr := Lib.hid (HX4.out.below Hbr.out)
      have HIr := HI.out.below Hbr.out
      obtain ⟨v, ev⟩ : ∃ v : Int, wr.cell? ⟨G, k, none⟩ = some (.int .i64 v) := by
        match k, hk2 with
        | 0, _ => exact ⟨i, HIr.cell 0⟩
        | 1, _ => exact ⟨x2, HIr.cell 1⟩
      clear HIr
      go_wp2_with (fail)
      refine (grow_out l v m A' c' _ Hl.out HL.out hmc (by omega) HCr.out).mono ?_
      rintro e w5 ⟨Ap, q, cp, rfl, hpq, hqc, hcpm, hcp, hb5⟩
      have HCp := Lib.hid hcp
      have HC5 := Lib.hid (HCr.out.below hb5)
      have HX5 := Lib.hid (HXr.out.below hb5)
      have HB5 := Lib.hid (below_of Hbr.out hb5 Hbr.out.size)
      have hq5 : q ≤ 6 := by rw [← hpq]; exact growR_len (by rw [Hl.out]; exact hm24) v
      have HpL := Lib.hid (growR_isL l v)
      have Hpq := Lib.hid hpq
      clear hpq hcp hb5 ev
      go_wp2_with (fail)
      refine (rgrow_out l v m A' c' _ Hl.out HL.out hmc (by omega) HC5.out).mono ?_
      rintro e w6 ⟨Aq, q', cq, rfl, hpq', hqc', hcqm, hcq, hb6⟩
      obtain rfl : q' = q := by rw [← hpq', Hpq.out]
      have HCq := Lib.hid hcq
      have HCp6 := Lib.hid (HCp.out.below hb6)
      have HX6 := Lib.hid (HX5.out.below hb6)
      have HC6 := Lib.hid (HC5.out.below hb6)
      have HB6 := Lib.hid (below_of HB5.out hb6 HB5.out.size)
      obtain ⟨ok, hok⟩ : ∃ ok, okGrow l v = ok := ⟨_, rfl⟩
      have Hok := Lib.hid hok
      rw [hok]
      obtain ⟨ε, hεe⟩ : ∃ ε, errArg ok = ε := ⟨_, rfl⟩
      rw [hεe]
      have Hε := Lib.hid hεe
      have hε : (ε != ε) = false := by simp
      generalize growR l v = p at *
      have Hcqm := Lib.hid hcqm
      clear hpq' hcq hb6 hcpm hcqm HCp hok hεe
      go_wp2_with (fail)
      refine (same_any p q' Ap Aq cp cq _ Hpq.out HpL.out (by omega) HCp6.out HCq.out).mono ?_
      rintro e w7 ⟨rfl, hb7⟩
      have HCq7 := Lib.hid (HCq.out.below hb7)
      have HX7 := Lib.hid (HX6.out.below hb7)
      have HC7 := Lib.hid (HC6.out.below hb7)
      have HB7 := Lib.hid (below_of HB6.out hb7 HB6.out.size)
      clear hb7 HCq HX6 HC6 HB6 HCp6 HX5 HC5 HB5 HCr HXr
      go_upto_region 11 with (fail)
      go_cut [16, 17] (fun s16 s17 wx => ∃ (g16 g17 : Nat), s16 = .pointer (some ⟨g16, 0, none⟩) ∧ s17 = .pointer (some ⟨g17, 0, none⟩) ∧ g16 ≠ g17 ∧ w7.heap.size ≤ g16 ∧ Blk wx g16 37 (arrK .u8 d) ∧ Blk wx g17 37 (arrK .u8 r) ∧ Below w7.heap.size w7 wx)
      case first =>
        refine wp_region_held_drew (S := fun W => Below w7.heap.size w7 W) (by kernel_rfl) (below_drewN (Below.refl _ _) 1) (fun Hd => ?_)
        have Hd : Below w7.heap.size w7 w7.drew := below_drewN (Below.refl _ _) 1
        have Zd : w7.heap.size ≤ w7.drew.heap.size := Nat.le_refl _
        generalize World.drew w7 = wd at *
        refine wpAnyH_take (i := 0) (v := .agg (arrK .u8 d)) rfl (by kernel_rfl) (by kernel_rfl) (by kernel_rfl) (fun _ _ _ h => h) (yields_load_blk (by rfl) _ _ rfl (g0) rfl 37 (arrK .u8 d) (.array 32 5) (fun W hW => HX7.out.below hW) (by kernel_rfl) rfl (info32 Dd.out.1)) Hd ?_
        try simp only [List.getElem_toArray, List.getElem_cons_zero, List.getElem_cons_succ, Act.put, List.setIfInBounds_toArray, List.set_cons_zero, List.set_cons_succ]
        refine wpAnyH_take (i := 1) (v := ?_) rfl (by kernel_rfl) (by kernel_rfl) (by kernel_rfl) (fun _ _ _ h => h) (Or.inl ⟨by rfl, ?_⟩) Hd ?_
        rotate_left
        · intro wS hSw
          go_simp
          try with_reducible rfl
        try simp only [List.getElem_toArray, List.getElem_cons_zero, List.getElem_cons_succ, Act.put, List.setIfInBounds_toArray, List.set_cons_zero, List.set_cons_succ]
        refine wpAnyH_ready (rs := [2, 3, 4]) (by kernel_rfl) (by simp) (AllReadyH.cons rfl (fun K hK => ?_) (AllReadyH.cons rfl (fun K hK => ?_) (AllReadyH.cons rfl (fun K hK => ?_) AllReadyH.nil)))
        · go_simp
          refine (HT2.out _ (HC7.out.below Hd)).mono ?_
          rintro e w1_ ⟨rfl, hb1⟩
          have Hb1 : Below w7.heap.size w7 w1_ := below_of Hd hb1 Hd.size
          have Zb1 : w7.heap.size ≤ w1_.heap.size := Nat.le_trans Zd hb1.size
          go_wp2_with (fail)
          refine hK.out _ _ Hb1 fun _ => ?_
          clear hK K
          try simp only [List.getElem_toArray, List.getElem_cons_zero, List.getElem_cons_succ, Act.put, List.setIfInBounds_toArray, List.set_cons_zero, List.set_cons_succ]
          refine wpAnyH_ready (rs := [3, 4]) (by kernel_rfl) (by simp) (AllReadyH.cons rfl (fun K hK => ?_) (AllReadyH.cons rfl (fun K hK => ?_) AllReadyH.nil))
          · go_simp
            generalize hge : World.alloc _ _ = w2_
            have fx2 : Blk w2_ w1_.heap.size 37 (arrK .u8 z32) := by subst hge; exact Blk.new _ _ _
            have hb2 : Below w1_.heap.size w1_ w2_ := by subst hge; exact (Below.refl _ _).alloc (Nat.le_refl _) _
            clear hge
            have lox2 : w7.heap.size ≤ w1_.heap.size := Zb1
            have Hb2 : Below w7.heap.size w7 w2_ := below_of Hb1 hb2 Hb1.size
            have Zb2 : w7.heap.size ≤ w2_.heap.size := Nat.le_trans Zb1 hb2.size
            refine hK.out _ _ Hb2 fun _ => ?_
            clear hK K
            try simp only [List.getElem_toArray, List.getElem_cons_zero, List.getElem_cons_succ, Act.put, List.setIfInBounds_toArray, List.set_cons_zero, List.set_cons_succ]
            refine wpAnyH_ready (rs := [4]) (by kernel_rfl) (by simp) (AllReadyH.cons rfl (fun K hK => ?_) AllReadyH.nil)
            go_simp
            generalize hge : World.alloc _ _ = w3_
            have ft3 : Blk w3_ w2_.heap.size 37 (arrK .u8 z32) := by subst hge; exact Blk.new _ _ _
            have hb3 : Below w2_.heap.size w2_ w3_ := by subst hge; exact (Below.refl _ _).alloc (Nat.le_refl _) _
            clear hge
            have fx3 := fx2.below hb3
            have ltxt3 := fx2.lt
            have lot3 : w7.heap.size ≤ w2_.heap.size := Zb2
            have Hb3 : Below w7.heap.size w7 w3_ := below_of Hb2 hb3 Hb2.size
            have Zb3 : w7.heap.size ≤ w3_.heap.size := Nat.le_trans Zb2 hb3.size
            refine hK.out _ _ Hb3 fun _ => ?_
            clear hK K
            try simp only [List.getElem_toArray, List.getElem_cons_zero, List.getElem_cons_succ, Act.put, List.setIfInBounds_toArray, List.set_cons_zero, List.set_cons_succ]
            refine wpAnyH_ready (rs := [5]) (by kernel_rfl) (by simp) (AllReadyH.cons rfl (fun K hK => ?_) AllReadyH.nil)
            refine step_put_blk (by rfl) _ _ _ (by rfl) (w1_.heap.size) (arrK .u8 (d)) (by rfl) (by rfl) _ _ fx3 (info32 Dd.out.1) (by rw [len32 Dd.out.1, len32 z32_length]) (arrK_all _ _) ?_
            intro w4_ fx4 hg4 hz4
            have net4 := ft3.lt
            have ft4 := ft3.grown hg4 (by first | (simp; done) | (simp; omega))
            have Hb4 : Below w7.heap.size w7 w4_ := below_grown Hb3 hg4 Hb3.size (by first | (simp; done) | (simp; omega))
            have Zb4 : w7.heap.size ≤ w4_.heap.size := Nat.le_trans Zb3 hg4.size
            refine hK.out _ _ Hb4 fun _ => ?_
            clear hK K
            try simp only [List.getElem_toArray, List.getElem_cons_zero, List.getElem_cons_succ, Act.put, List.setIfInBounds_toArray, List.set_cons_zero, List.set_cons_succ]
            refine wpAnyH_ready (rs := [6]) (by kernel_rfl) (by simp) (AllReadyH.cons rfl (fun K hK => ?_) AllReadyH.nil)
            refine step_put_blk (by rfl) _ _ _ (by rfl) (w2_.heap.size) (arrK .u8 (r)) (by rfl) (by rfl) _ _ ft4 (info32 Dr.out.1) (by rw [len32 Dr.out.1, len32 z32_length]) (arrK_all _ _) ?_
            intro w5_ ft5 hg5 hz5
            have nex5 := fx4.lt
            have fx5 := fx4.grown hg5 (by first | (simp; done) | (simp; omega))
            have Hb5 : Below w7.heap.size w7 w5_ := below_grown Hb4 hg5 Hb4.size (by first | (simp; done) | (simp; omega))
            have Zb5 : w7.heap.size ≤ w5_.heap.size := Nat.le_trans Zb4 hg5.size
            refine hK.out _ _ Hb5 fun _ => ?_
            clear hK K
            try simp only [List.getElem_toArray, List.getElem_cons_zero, List.getElem_cons_succ, Act.put, List.setIfInBounds_toArray, List.set_cons_zero, List.set_cons_succ]
            refine wpAnyH_done (by kernel_rfl) ?_ _
            go_wp2_with (fail)
            go_meet
            exact ⟨w1_.heap.size, w2_.heap.size, rfl, rfl, by first | (simp; done) | omega, lox2, fx5, ft5, Hb5⟩
          · go_simp
            generalize hge : World.alloc _ _ = w2_
            have ft2 : Blk w2_ w1_.heap.size 37 (arrK .u8 z32) := by subst hge; exact Blk.new _ _ _
            have hb2 : Below w1_.heap.size w1_ w2_ := by subst hge; exact (Below.refl _ _).alloc (Nat.le_refl _) _
            clear hge
            have lot2 : w7.heap.size ≤ w1_.heap.size := Zb1
            have Hb2 : Below w7.heap.size w7 w2_ := below_of Hb1 hb2 Hb1.size
            have Zb2 : w7.heap.size ≤ w2_.heap.size := Nat.le_trans Zb1 hb2.size
            refine hK.out _ _ Hb2 fun _ => ?_
            clear hK K
            try simp only [List.getElem_toArray, List.getElem_cons_zero, List.getElem_cons_succ, Act.put, List.setIfInBounds_toArray, List.set_cons_zero, List.set_cons_succ]
            refine wpAnyH_ready (rs := [3]) (by kernel_rfl) (by simp) (AllReadyH.cons rfl (fun K hK => ?_) AllReadyH.nil)
            go_simp
            generalize hge : World.alloc _ _ = w3_
            have fx3 : Blk w3_ w2_.heap.size 37 (arrK .u8 z32) := by subst hge; exact Blk.new _ _ _
            have hb3 : Below w2_.heap.size w2_ w3_ := by subst hge; exact (Below.refl _ _).alloc (Nat.le_refl _) _
            clear hge
            have ft3 := ft2.below hb3
            have lttx3 := ft2.lt
            have lox3 : w7.heap.size ≤ w2_.heap.size := Zb2
            have Hb3 : Below w7.heap.size w7 w3_ := below_of Hb2 hb3 Hb2.size
            have Zb3 : w7.heap.size ≤ w3_.heap.size := Nat.le_trans Zb2 hb3.size
            refine hK.out _ _ Hb3 fun _ => ?_
            clear hK K
            try simp only [List.getElem_toArray, List.getElem_cons_zero, List.getElem_cons_succ, Act.put, List.setIfInBounds_toArray, List.set_cons_zero, List.set_cons_succ]
            refine wpAnyH_ready (rs := [5]) (by kernel_rfl) (by simp) (AllReadyH.cons rfl (fun K hK => ?_) AllReadyH.nil)
            refine step_put_blk (by rfl) _ _ _ (by rfl) (w2_.heap.size) (arrK .u8 (d)) (by rfl) (by rfl) _ _ fx3 (info32 Dd.out.1) (by rw [len32 Dd.out.1, len32 z32_length]) (arrK_all _ _) ?_
            intro w4_ fx4 hg4 hz4
            have net4 := ft3.lt
            have ft4 := ft3.grown hg4 (by first | (simp; done) | (simp; omega))
            have Hb4 : Below w7.heap.size w7 w4_ := below_grown Hb3 hg4 Hb3.size (by first | (simp; done) | (simp; omega))
            have Zb4 : w7.heap.size ≤ w4_.heap.size := Nat.le_trans Zb3 hg4.size
            refine hK.out _ _ Hb4 fun _ => ?_
            clear hK K
            try simp only [List.getElem_toArray, List.getElem_cons_zero, List.getElem_cons_succ, Act.put, List.setIfInBounds_toArray, List.set_cons_zero, List.set_cons_succ]
            refine wpAnyH_ready (rs := [6]) (by kernel_rfl) (by simp) (AllReadyH.cons rfl (fun K hK => ?_) AllReadyH.nil)
            refine step_put_blk (by rfl) _ _ _ (by rfl) (w1_.heap.size) (arrK .u8 (r)) (by rfl) (by rfl) _ _ ft4 (info32 Dr.out.1) (by rw [len32 Dr.out.1, len32 z32_length]) (arrK_all _ _) ?_
            intro w5_ ft5 hg5 hz5
            have nex5 := fx4.lt
            have fx5 := fx4.grown hg5 (by first | (simp; done) | (simp; omega))
            have Hb5 : Below w7.heap.size w7 w5_ := below_grown Hb4 hg5 Hb4.size (by first | (simp; done) | (simp; omega))
            have Zb5 : w7.heap.size ≤ w5_.heap.size := Nat.le_trans Zb4 hg5.size
            refine hK.out _ _ Hb5 fun _ => ?_
            clear hK K
            try simp only [List.getElem_toArray, List.getElem_cons_zero, List.getElem_cons_succ, Act.put, List.setIfInBounds_toArray, List.set_cons_zero, List.set_cons_succ]
            refine wpAnyH_done (by kernel_rfl) ?_ _
            go_wp2_with (fail)
            go_meet
            exact ⟨w2_.heap.size, w1_.heap.size, rfl, rfl, by first | (simp; done) | omega, lox3, fx5, ft5, Hb5⟩
        · go_simp
          generalize hge : World.alloc _ _ = w1_
          have fx1 : Blk w1_ wd.heap.size 37 (arrK .u8 z32) := by subst hge; exact Blk.new _ _ _
          have hb1 : Below wd.heap.size wd w1_ := by subst hge; exact (Below.refl _ _).alloc (Nat.le_refl _) _
          clear hge
          have lox1 : w7.heap.size ≤ wd.heap.size := Zd
          have Hb1 : Below w7.heap.size w7 w1_ := below_of Hd hb1 Hd.size
          have Zb1 : w7.heap.size ≤ w1_.heap.size := Nat.le_trans Zd hb1.size
          refine hK.out _ _ Hb1 fun _ => ?_
          clear hK K
          try simp only [List.getElem_toArray, List.getElem_cons_zero, List.getElem_cons_succ, Act.put, List.setIfInBounds_toArray, List.set_cons_zero, List.set_cons_succ]
          refine wpAnyH_ready (rs := [2, 4]) (by kernel_rfl) (by simp) (AllReadyH.cons rfl (fun K hK => ?_) (AllReadyH.cons rfl (fun K hK => ?_) AllReadyH.nil))
          · go_simp
            refine (HT2.out _ (HC7.out.below Hb1)).mono ?_
            rintro e w2_ ⟨rfl, hb2⟩
            have fx2 := fx1.below hb2
            have Hb2 : Below w7.heap.size w7 w2_ := below_of Hb1 hb2 Hb1.size
            have Zb2 : w7.heap.size ≤ w2_.heap.size := Nat.le_trans Zb1 hb2.size
            go_wp2_with (fail)
            refine hK.out _ _ Hb2 fun _ => ?_
            clear hK K
            try simp only [List.getElem_toArray, List.getElem_cons_zero, List.getElem_cons_succ, Act.put, List.setIfInBounds_toArray, List.set_cons_zero, List.set_cons_succ]
            refine wpAnyH_ready (rs := [4]) (by kernel_rfl) (by simp) (AllReadyH.cons rfl (fun K hK => ?_) AllReadyH.nil)
            go_simp
            generalize hge : World.alloc _ _ = w3_
            have ft3 : Blk w3_ w2_.heap.size 37 (arrK .u8 z32) := by subst hge; exact Blk.new _ _ _
            have hb3 : Below w2_.heap.size w2_ w3_ := by subst hge; exact (Below.refl _ _).alloc (Nat.le_refl _) _
            clear hge
            have fx3 := fx2.below hb3
            have ltxt3 := fx2.lt
            have lot3 : w7.heap.size ≤ w2_.heap.size := Zb2
            have Hb3 : Below w7.heap.size w7 w3_ := below_of Hb2 hb3 Hb2.size
            have Zb3 : w7.heap.size ≤ w3_.heap.size := Nat.le_trans Zb2 hb3.size
            refine hK.out _ _ Hb3 fun _ => ?_
            clear hK K
            try simp only [List.getElem_toArray, List.getElem_cons_zero, List.getElem_cons_succ, Act.put, List.setIfInBounds_toArray, List.set_cons_zero, List.set_cons_succ]
            refine wpAnyH_ready (rs := [5]) (by kernel_rfl) (by simp) (AllReadyH.cons rfl (fun K hK => ?_) AllReadyH.nil)
            refine step_put_blk (by rfl) _ _ _ (by rfl) (wd.heap.size) (arrK .u8 (d)) (by rfl) (by rfl) _ _ fx3 (info32 Dd.out.1) (by rw [len32 Dd.out.1, len32 z32_length]) (arrK_all _ _) ?_
            intro w4_ fx4 hg4 hz4
            have net4 := ft3.lt
            have ft4 := ft3.grown hg4 (by first | (simp; done) | (simp; omega))
            have Hb4 : Below w7.heap.size w7 w4_ := below_grown Hb3 hg4 Hb3.size (by first | (simp; done) | (simp; omega))
            have Zb4 : w7.heap.size ≤ w4_.heap.size := Nat.le_trans Zb3 hg4.size
            refine hK.out _ _ Hb4 fun _ => ?_
            clear hK K
            try simp only [List.getElem_toArray, List.getElem_cons_zero, List.getElem_cons_succ, Act.put, List.setIfInBounds_toArray, List.set_cons_zero, List.set_cons_succ]
            refine wpAnyH_ready (rs := [6]) (by kernel_rfl) (by simp) (AllReadyH.cons rfl (fun K hK => ?_) AllReadyH.nil)
            refine step_put_blk (by rfl) _ _ _ (by rfl) (w2_.heap.size) (arrK .u8 (r)) (by rfl) (by rfl) _ _ ft4 (info32 Dr.out.1) (by rw [len32 Dr.out.1, len32 z32_length]) (arrK_all _ _) ?_
            intro w5_ ft5 hg5 hz5
            have nex5 := fx4.lt
            have fx5 := fx4.grown hg5 (by first | (simp; done) | (simp; omega))
            have Hb5 : Below w7.heap.size w7 w5_ := below_grown Hb4 hg5 Hb4.size (by first | (simp; done) | (simp; omega))
            have Zb5 : w7.heap.size ≤ w5_.heap.size := Nat.le_trans Zb4 hg5.size
            refine hK.out _ _ Hb5 fun _ => ?_
            clear hK K
            try simp only [List.getElem_toArray, List.getElem_cons_zero, List.getElem_cons_succ, Act.put, List.setIfInBounds_toArray, List.set_cons_zero, List.set_cons_succ]
            refine wpAnyH_done (by kernel_rfl) ?_ _
            go_wp2_with (fail)
            go_meet
            exact ⟨wd.heap.size, w2_.heap.size, rfl, rfl, by first | (simp; done) | omega, lox1, fx5, ft5, Hb5⟩
          · go_simp
            generalize hge : World.alloc _ _ = w2_
            have ft2 : Blk w2_ w1_.heap.size 37 (arrK .u8 z32) := by subst hge; exact Blk.new _ _ _
            have hb2 : Below w1_.heap.size w1_ w2_ := by subst hge; exact (Below.refl _ _).alloc (Nat.le_refl _) _
            clear hge
            have fx2 := fx1.below hb2
            have ltxt2 := fx1.lt
            have lot2 : w7.heap.size ≤ w1_.heap.size := Zb1
            have Hb2 : Below w7.heap.size w7 w2_ := below_of Hb1 hb2 Hb1.size
            have Zb2 : w7.heap.size ≤ w2_.heap.size := Nat.le_trans Zb1 hb2.size
            refine hK.out _ _ Hb2 fun _ => ?_
            clear hK K
            try simp only [List.getElem_toArray, List.getElem_cons_zero, List.getElem_cons_succ, Act.put, List.setIfInBounds_toArray, List.set_cons_zero, List.set_cons_succ]
            refine wpAnyH_ready (rs := [2]) (by kernel_rfl) (by simp) (AllReadyH.cons rfl (fun K hK => ?_) AllReadyH.nil)
            go_simp
            refine (HT2.out _ (HC7.out.below Hb2)).mono ?_
            rintro e w3_ ⟨rfl, hb3⟩
            have fx3 := fx2.below hb3
            have ft3 := ft2.below hb3
            have Hb3 : Below w7.heap.size w7 w3_ := below_of Hb2 hb3 Hb2.size
            have Zb3 : w7.heap.size ≤ w3_.heap.size := Nat.le_trans Zb2 hb3.size
            go_wp2_with (fail)
            refine hK.out _ _ Hb3 fun _ => ?_
            clear hK K
            try simp only [List.getElem_toArray, List.getElem_cons_zero, List.getElem_cons_succ, Act.put, List.setIfInBounds_toArray, List.set_cons_zero, List.set_cons_succ]
            refine wpAnyH_ready (rs := [5]) (by kernel_rfl) (by simp) (AllReadyH.cons rfl (fun K hK => ?_) AllReadyH.nil)
            refine step_put_blk (by rfl) _ _ _ (by rfl) (wd.heap.size) (arrK .u8 (d)) (by rfl) (by rfl) _ _ fx3 (info32 Dd.out.1) (by rw [len32 Dd.out.1, len32 z32_length]) (arrK_all _ _) ?_
            intro w4_ fx4 hg4 hz4
            have net4 := ft3.lt
            have ft4 := ft3.grown hg4 (by first | (simp; done) | (simp; omega))
            have Hb4 : Below w7.heap.size w7 w4_ := below_grown Hb3 hg4 Hb3.size (by first | (simp; done) | (simp; omega))
            have Zb4 : w7.heap.size ≤ w4_.heap.size := Nat.le_trans Zb3 hg4.size
            refine hK.out _ _ Hb4 fun _ => ?_
            clear hK K
            try simp only [List.getElem_toArray, List.getElem_cons_zero, List.getElem_cons_succ, Act.put, List.setIfInBounds_toArray, List.set_cons_zero, List.set_cons_succ]
            refine wpAnyH_ready (rs := [6]) (by kernel_rfl) (by simp) (AllReadyH.cons rfl (fun K hK => ?_) AllReadyH.nil)
            refine step_put_blk (by rfl) _ _ _ (by rfl) (w1_.heap.size) (arrK .u8 (r)) (by rfl) (by rfl) _ _ ft4 (info32 Dr.out.1) (by rw [len32 Dr.out.1, len32 z32_length]) (arrK_all _ _) ?_
            intro w5_ ft5 hg5 hz5
            have nex5 := fx4.lt
            have fx5 := fx4.grown hg5 (by first | (simp; done) | (simp; omega))
            have Hb5 : Below w7.heap.size w7 w5_ := below_grown Hb4 hg5 Hb4.size (by first | (simp; done) | (simp; omega))
            have Zb5 : w7.heap.size ≤ w5_.heap.size := Nat.le_trans Zb4 hg5.size
            refine hK.out _ _ Hb5 fun _ => ?_
            clear hK K
            try simp only [List.getElem_toArray, List.getElem_cons_zero, List.getElem_cons_succ, Act.put, List.setIfInBounds_toArray, List.set_cons_zero, List.set_cons_succ]
            refine wpAnyH_done (by kernel_rfl) ?_ _
            go_wp2_with (fail)
            go_meet
            exact ⟨wd.heap.size, w1_.heap.size, rfl, rfl, by first | (simp; done) | omega, lox1, fx5, ft5, Hb5⟩
        · go_simp
          generalize hge : World.alloc _ _ = w1_
          have ft1 : Blk w1_ wd.heap.size 37 (arrK .u8 z32) := by subst hge; exact Blk.new _ _ _
          have hb1 : Below wd.heap.size wd w1_ := by subst hge; exact (Below.refl _ _).alloc (Nat.le_refl _) _
          clear hge
          have lot1 : w7.heap.size ≤ wd.heap.size := Zd
          have Hb1 : Below w7.heap.size w7 w1_ := below_of Hd hb1 Hd.size
          have Zb1 : w7.heap.size ≤ w1_.heap.size := Nat.le_trans Zd hb1.size
          refine hK.out _ _ Hb1 fun _ => ?_
          clear hK K
          try simp only [List.getElem_toArray, List.getElem_cons_zero, List.getElem_cons_succ, Act.put, List.setIfInBounds_toArray, List.set_cons_zero, List.set_cons_succ]
          refine wpAnyH_ready (rs := [2, 3]) (by kernel_rfl) (by simp) (AllReadyH.cons rfl (fun K hK => ?_) (AllReadyH.cons rfl (fun K hK => ?_) AllReadyH.nil))
          · go_simp
            refine (HT2.out _ (HC7.out.below Hb1)).mono ?_
            rintro e w2_ ⟨rfl, hb2⟩
            have ft2 := ft1.below hb2
            have Hb2 : Below w7.heap.size w7 w2_ := below_of Hb1 hb2 Hb1.size
            have Zb2 : w7.heap.size ≤ w2_.heap.size := Nat.le_trans Zb1 hb2.size
            go_wp2_with (fail)
            refine hK.out _ _ Hb2 fun _ => ?_
            clear hK K
            try simp only [List.getElem_toArray, List.getElem_cons_zero, List.getElem_cons_succ, Act.put, List.setIfInBounds_toArray, List.set_cons_zero, List.set_cons_succ]
            refine wpAnyH_ready (rs := [3]) (by kernel_rfl) (by simp) (AllReadyH.cons rfl (fun K hK => ?_) AllReadyH.nil)
            go_simp
            generalize hge : World.alloc _ _ = w3_
            have fx3 : Blk w3_ w2_.heap.size 37 (arrK .u8 z32) := by subst hge; exact Blk.new _ _ _
            have hb3 : Below w2_.heap.size w2_ w3_ := by subst hge; exact (Below.refl _ _).alloc (Nat.le_refl _) _
            clear hge
            have ft3 := ft2.below hb3
            have lttx3 := ft2.lt
            have lox3 : w7.heap.size ≤ w2_.heap.size := Zb2
            have Hb3 : Below w7.heap.size w7 w3_ := below_of Hb2 hb3 Hb2.size
            have Zb3 : w7.heap.size ≤ w3_.heap.size := Nat.le_trans Zb2 hb3.size
            refine hK.out _ _ Hb3 fun _ => ?_
            clear hK K
            try simp only [List.getElem_toArray, List.getElem_cons_zero, List.getElem_cons_succ, Act.put, List.setIfInBounds_toArray, List.set_cons_zero, List.set_cons_succ]
            refine wpAnyH_ready (rs := [5]) (by kernel_rfl) (by simp) (AllReadyH.cons rfl (fun K hK => ?_) AllReadyH.nil)
            refine step_put_blk (by rfl) _ _ _ (by rfl) (w2_.heap.size) (arrK .u8 (d)) (by rfl) (by rfl) _ _ fx3 (info32 Dd.out.1) (by rw [len32 Dd.out.1, len32 z32_length]) (arrK_all _ _) ?_
            intro w4_ fx4 hg4 hz4
            have net4 := ft3.lt
            have ft4 := ft3.grown hg4 (by first | (simp; done) | (simp; omega))
            have Hb4 : Below w7.heap.size w7 w4_ := below_grown Hb3 hg4 Hb3.size (by first | (simp; done) | (simp; omega))
            have Zb4 : w7.heap.size ≤ w4_.heap.size := Nat.le_trans Zb3 hg4.size
            refine hK.out _ _ Hb4 fun _ => ?_
            clear hK K
            try simp only [List.getElem_toArray, List.getElem_cons_zero, List.getElem_cons_succ, Act.put, List.setIfInBounds_toArray, List.set_cons_zero, List.set_cons_succ]
            refine wpAnyH_ready (rs := [6]) (by kernel_rfl) (by simp) (AllReadyH.cons rfl (fun K hK => ?_) AllReadyH.nil)
            refine step_put_blk (by rfl) _ _ _ (by rfl) (wd.heap.size) (arrK .u8 (r)) (by rfl) (by rfl) _ _ ft4 (info32 Dr.out.1) (by rw [len32 Dr.out.1, len32 z32_length]) (arrK_all _ _) ?_
            intro w5_ ft5 hg5 hz5
            have nex5 := fx4.lt
            have fx5 := fx4.grown hg5 (by first | (simp; done) | (simp; omega))
            have Hb5 : Below w7.heap.size w7 w5_ := below_grown Hb4 hg5 Hb4.size (by first | (simp; done) | (simp; omega))
            have Zb5 : w7.heap.size ≤ w5_.heap.size := Nat.le_trans Zb4 hg5.size
            refine hK.out _ _ Hb5 fun _ => ?_
            clear hK K
            try simp only [List.getElem_toArray, List.getElem_cons_zero, List.getElem_cons_succ, Act.put, List.setIfInBounds_toArray, List.set_cons_zero, List.set_cons_succ]
            refine wpAnyH_done (by kernel_rfl) ?_ _
            go_wp2_with (fail)
            go_meet
            exact ⟨w2_.heap.size, wd.heap.size, rfl, rfl, by first | (simp; done) | omega, lox3, fx5, ft5, Hb5⟩
          · go_simp
            generalize hge : World.alloc _ _ = w2_
            have fx2 : Blk w2_ w1_.heap.size 37 (arrK .u8 z32) := by subst hge; exact Blk.new _ _ _
            have hb2 : Below w1_.heap.size w1_ w2_ := by subst hge; exact (Below.refl _ _).alloc (Nat.le_refl _) _
            clear hge
            have ft2 := ft1.below hb2
            have lttx2 := ft1.lt
            have lox2 : w7.heap.size ≤ w1_.heap.size := Zb1
            have Hb2 : Below w7.heap.size w7 w2_ := below_of Hb1 hb2 Hb1.size
            have Zb2 : w7.heap.size ≤ w2_.heap.size := Nat.le_trans Zb1 hb2.size
            refine hK.out _ _ Hb2 fun _ => ?_
            clear hK K
            try simp only [List.getElem_toArray, List.getElem_cons_zero, List.getElem_cons_succ, Act.put, List.setIfInBounds_toArray, List.set_cons_zero, List.set_cons_succ]
            refine wpAnyH_ready (rs := [2]) (by kernel_rfl) (by simp) (AllReadyH.cons rfl (fun K hK => ?_) AllReadyH.nil)
            go_simp
            refine (HT2.out _ (HC7.out.below Hb2)).mono ?_
            rintro e w3_ ⟨rfl, hb3⟩
            have ft3 := ft2.below hb3
            have fx3 := fx2.below hb3
            have Hb3 : Below w7.heap.size w7 w3_ := below_of Hb2 hb3 Hb2.size
            have Zb3 : w7.heap.size ≤ w3_.heap.size := Nat.le_trans Zb2 hb3.size
            go_wp2_with (fail)
            refine hK.out _ _ Hb3 fun _ => ?_
            clear hK K
            try simp only [List.getElem_toArray, List.getElem_cons_zero, List.getElem_cons_succ, Act.put, List.setIfInBounds_toArray, List.set_cons_zero, List.set_cons_succ]
            refine wpAnyH_ready (rs := [5]) (by kernel_rfl) (by simp) (AllReadyH.cons rfl (fun K hK => ?_) AllReadyH.nil)
            refine step_put_blk (by rfl) _ _ _ (by rfl) (w1_.heap.size) (arrK .u8 (d)) (by rfl) (by rfl) _ _ fx3 (info32 Dd.out.1) (by rw [len32 Dd.out.1, len32 z32_length]) (arrK_all _ _) ?_
            intro w4_ fx4 hg4 hz4
            have net4 := ft3.lt
            have ft4 := ft3.grown hg4 (by first | (simp; done) | (simp; omega))
            have Hb4 : Below w7.heap.size w7 w4_ := below_grown Hb3 hg4 Hb3.size (by first | (simp; done) | (simp; omega))
            have Zb4 : w7.heap.size ≤ w4_.heap.size := Nat.le_trans Zb3 hg4.size
            refine hK.out _ _ Hb4 fun _ => ?_
            clear hK K
            try simp only [List.getElem_toArray, List.getElem_cons_zero, List.getElem_cons_succ, Act.put, List.setIfInBounds_toArray, List.set_cons_zero, List.set_cons_succ]
            refine wpAnyH_ready (rs := [6]) (by kernel_rfl) (by simp) (AllReadyH.cons rfl (fun K hK => ?_) AllReadyH.nil)
            refine step_put_blk (by rfl) _ _ _ (by rfl) (wd.heap.size) (arrK .u8 (r)) (by rfl) (by rfl) _ _ ft4 (info32 Dr.out.1) (by rw [len32 Dr.out.1, len32 z32_length]) (arrK_all _ _) ?_
            intro w5_ ft5 hg5 hz5
            have nex5 := fx4.lt
            have fx5 := fx4.grown hg5 (by first | (simp; done) | (simp; omega))
            have Hb5 : Below w7.heap.size w7 w5_ := below_grown Hb4 hg5 Hb4.size (by first | (simp; done) | (simp; omega))
            have Zb5 : w7.heap.size ≤ w5_.heap.size := Nat.le_trans Zb4 hg5.size
            refine hK.out _ _ Hb5 fun _ => ?_
            clear hK K
            try simp only [List.getElem_toArray, List.getElem_cons_zero, List.getElem_cons_succ, Act.put, List.setIfInBounds_toArray, List.set_cons_zero, List.set_cons_succ]
            refine wpAnyH_done (by kernel_rfl) ?_ _
            go_wp2_with (fail)
            go_meet
            exact ⟨w1_.heap.size, wd.heap.size, rfl, rfl, by first | (simp; done) | omega, lox2, fx5, ft5, Hb5⟩
      case rest =>
        obtain ⟨g16, g17, rfl, rfl, hne, hz16, H16, H17, Hw⟩ := hcut
        have HXc := Lib.hid (HX7.out.below Hw)
        have HCc := Lib.hid (HC7.out.below Hw)
        have HCqc := Lib.hid (HCq7.out.below Hw)
        have HBc := Lib.hid (below_of HB7.out Hw HB7.out.size)
        have H16c := Lib.hid H16
        have H17c := Lib.hid H17
        have l0 := HX7.out.lt
        have hz17 : g17 < wc.heap.size := H17c.out.lt
        have Hwc := Lib.hid Hw
        clear H16 H17 Hw
        go_upto_if 61 with (fail)
        go_cut [16] (fun s16 wx => ∃ bd : List Nat, s16 = .pointer (some ⟨g16, 0, none⟩) ∧ IsD bd ∧ Blk wx g16 37 (arrK .u8 bd) ∧ Blk wx g17 37 (arrK .u8 r) ∧ Below w7.heap.size w7 wx)
        case first =>
          cases ok with
          | false =>
            have e1 : ((ε : Int) == 0) = false := by rw [← Hε.out, errArg_false]; rfl
            go_wp2_with (fail)
            go_meet
            exact ⟨d, rfl, Dd.out, H16c.out, H17c.out, Hwc.out⟩
          | true =>
            have e1 : ((ε : Int) == 0) = true := by rw [← Hε.out, errArg_true]; rfl
            have hv := Hok.out
            unfold okGrow at hv
            have hv := of_decide_eq_true hv
            rw [Hl.out] at hv
            obtain ⟨kv, rfl⟩ := Int.eq_ofNat_of_zero_le (show 0 ≤ v by omega)
            have hv1 : (kv : Int) ≤ (m : Int) := by omega
            have hv2 : (kv : Int) ≤ (c' : Int) := by omega
            have hv3 : (m : Int) ≤ (c' : Int) := by omega
            obtain ⟨pb, po, rfl, -, -⟩ := Cells.addr HCc.out (by rw [bytesV_length, HL.out.flat_length, Hl.out]; omega)
            have HTb := Lib.hid (rtree_any kv (l.take kv) (some ⟨pb, po, none⟩) c' wc (by rw [List.length_take, Hl.out]; omega) (fun x hx => HL.out x (List.mem_of_mem_take hx)) (by omega) (by omega) (by
              rw [HL.out.flat_take kv]
              have := HCc.out.take_ (kv * 32)
              rwa [show (bytesV l.flatten).take (kv * 32) = bytesV (l.flatten.take (kv * 32)) by unfold bytesV; rw [List.map_take]] at this))
            have Db := Lib.hid (treeS_isD (l.take kv))
            generalize treeS (l.take kv) = tb at *
            clear hv
            go_wp2_with (fail)
            refine HTb.out.mono ?_
            rintro e w8 ⟨rfl, hb8⟩
            have H16d := Lib.hid (H16c.out.below hb8)
            have H17d := Lib.hid (H17c.out.below hb8)
            have Hwd := Lib.hid (Hwc.out.trans (hb8.mono Hwc.out.size))
            clear hb8
            go_wp2_with (
              (refine wpList_put_blk rfl 37 (.tmp 16) (.tmp 65) rfl g16 (arrK .u8 tb) rfl rfl 37 (arrK .u8 d) H16d.out (info32 Db.out.1) (by rw [len32 Db.out.1, len32 Dd.out.1]) (arrK_all _ _) ?_
               intro w9 HX9 hg9 hz9
               have H16e := Lib.hid HX9
               have H17e := Lib.hid (H17d.out.grown hg9 (fun e => hne (Option.some.inj e).symm))
               have Hwe := Lib.hid (show Below w7.heap.size w7 w9 from below_grown Hwd.out hg9 Hwd.out.size (fun k hk => by cases hk; exact hz16))
               clear HX9 hg9 hz9))
            go_meet
            exact ⟨tb, rfl, Db.out, H16e.out, H17e.out, Hwe.out⟩
        case rest =>
          obtain ⟨bd, rfl, hbd, H16, H17, Hw⟩ := hcut
          have Db := Lib.hid hbd
          have H16f := Lib.hid H16
          have H17f := Lib.hid H17
          have HXf := Lib.hid (HX7.out.below Hw)
          have HCf := Lib.hid (HC7.out.below Hw)
          have HCqf := Lib.hid (HCq7.out.below Hw)
          have HBf := Lib.hid (below_of HB7.out Hw HB7.out.size)
          clear H16 H17 Hw hbd H16c H17c HXc HCc HCqc HBc Hwc hz17
          go_upto_region 14 with (fail)
          go_cut [18] (fun s18 wx => ∃ (A2 : Option Addr) (c2 Q : Nat), s18 = .slice A2 Q c2 ∧ q' + 1 = Q ∧ Q ≤ c2 ∧ c2 ≤ maxLen ∧ Cells wx A2 (bytesV (([] ++ p) ++ [d]).flatten) ∧ Below wc.heap.size wc wx)
          case first =>
            refine wp_region_held_drew (S := fun W => Below wc.heap.size wc W) (by kernel_rfl) (below_drewN (Below.refl _ _) 1) (fun Hd => ?_)
            have Hd : Below wc.heap.size wc wc.drew := below_drewN (Below.refl _ _) 1
            have Zd : wc.heap.size ≤ wc.drew.heap.size := Nat.le_refl _
            generalize World.drew wc = wd at *
            refine wpAnyH_take (i := 1) (v := ?_) rfl (by kernel_rfl) (by kernel_rfl) (by kernel_rfl) (fun _ _ _ h => h) (Or.inl ⟨by rfl, ?_⟩) Hd ?_
            rotate_left
            · intro wS hSw
              go_simp
              try with_reducible rfl
            try simp only [List.getElem_toArray, List.getElem_cons_zero, List.getElem_cons_succ, Act.put, List.setIfInBounds_toArray, List.set_cons_zero, List.set_cons_succ]
            refine wpAnyH_take (i := 3) (v := .agg (arrK .u8 d)) rfl (by kernel_rfl) (by kernel_rfl) (by kernel_rfl) (fun _ _ _ h => h) (yields_load_blk (by rfl) _ _ rfl (g0) rfl 37 (arrK .u8 d) (.array 32 5) (fun W hW => HXf.out.below hW) (by kernel_rfl) rfl (info32 Dd.out.1)) Hd ?_
            try simp only [List.getElem_toArray, List.getElem_cons_zero, List.getElem_cons_succ, Act.put, List.setIfInBounds_toArray, List.set_cons_zero, List.set_cons_succ]
            refine wpAnyH_ready (rs := [0, 4]) (by kernel_rfl) (by simp) (AllReadyH.cons rfl (fun K hK => ?_) (AllReadyH.cons rfl (fun K hK => ?_) AllReadyH.nil))
            · go_simp
              generalize hge : World.alloc _ _ = w1_
              have fo1 : w1_.ownsRow (wc.heap.size) 37 32 (.slice (some ⟨wd.heap.size, 0, none⟩) 0 0) 0 (bytesV ([] : List (List Nat)).flatten) := by subst hge; exact ownD_empty wd _ Zd
              have hb1 : Below wd.heap.size wd w1_ := by subst hge; exact (Below.refl _ _).alloc (Nat.le_refl _) _
              clear hge
              have Hb1 : Below wc.heap.size wc w1_ := below_of Hd hb1 Hd.size
              have Zb1 : wc.heap.size ≤ w1_.heap.size := Nat.le_trans Zd hb1.size
              refine hK.out _ _ Hb1 fun _ => ?_
              clear hK K
              try simp only [List.getElem_toArray, List.getElem_cons_zero, List.getElem_cons_succ, Act.put, List.setIfInBounds_toArray, List.set_cons_zero, List.set_cons_succ]
              refine wpAnyH_ready (rs := [2, 4]) (by kernel_rfl) (by simp) (AllReadyH.cons rfl (fun K hK => ?_) (AllReadyH.cons rfl (fun K hK => ?_) AllReadyH.nil))
              · refine step_addDs (by rfl) (.tmp 66) (.tmp 67) (by rfl) (wc.heap.size) (.slice (some ⟨wd.heap.size, 0, none⟩) 0 0) (0) (([] : List (List Nat))) fo1 (by rfl) Aq q' cq p Hpq.out HpL.out (HCqf.out.below Hb1) (by rfl) (by omega) Zb1 ?_
                intro v2 w2_ fo2 hg2 st2
                have Hb2 : Below wc.heap.size wc w2_ := below_grown Hb1 hg2 Hb1.size (own_base fo1)
                have Zb2 : wc.heap.size ≤ w2_.heap.size := Nat.le_trans Zb1 hg2.size
                obtain ⟨A2, c2, rfl, le2, lm2, -⟩ := own_form fo2
                rw [Nat.zero_add] at fo2 le2 
                simp only [Nat.zero_add]
                refine hK.out _ _ Hb2 fun _ => ?_
                clear hK K
                try simp only [List.getElem_toArray, List.getElem_cons_zero, List.getElem_cons_succ, Act.put, List.setIfInBounds_toArray, List.set_cons_zero, List.set_cons_succ]
                refine wpAnyH_ready (rs := [4]) (by kernel_rfl) (by simp) (AllReadyH.cons rfl (fun K hK => ?_) AllReadyH.nil)
                refine step_oneD (by rfl) _ (by rfl) (d) Dd.out (by rfl) ?_
                generalize hge : World.alloc _ _ = w3_
                have fx3 : Blk w3_ w2_.heap.size 37 (arrK .u8 (d)) := by subst hge; exact Blk.new _ _ _
                have hb3 : Below w2_.heap.size w2_ w3_ := by subst hge; exact (Below.refl _ _).alloc (Nat.le_refl _) _
                clear hge
                have fo3 := own_below fo2 hb3
                have apox3 := apart_new fo2
                have lox3 : wc.heap.size ≤ w2_.heap.size := Zb2
                have Hb3 : Below wc.heap.size wc w3_ := below_of Hb2 hb3 Hb2.size
                have Zb3 : wc.heap.size ≤ w3_.heap.size := Nat.le_trans Zb2 hb3.size
                refine hK.out _ _ Hb3 fun _ => ?_
                clear hK K
                try simp only [List.getElem_toArray, List.getElem_cons_zero, List.getElem_cons_succ, Act.put, List.setIfInBounds_toArray, List.set_cons_zero, List.set_cons_succ]
                refine wpAnyH_ready (rs := [5]) (by kernel_rfl) (by simp) (AllReadyH.cons rfl (fun K hK => ?_) AllReadyH.nil)
                refine step_pushDs (by rfl) (.tmp 68) (.tmp 70) (by rfl) (wc.heap.size) (.slice A2 (q') c2) (q') ((([] : List (List Nat)) ++ p)) (d) fo3 (by rfl) (w2_.heap.size) fx3 Dd.out (by rfl) (by omega) Zb3 ?_
                intro v4 w4_ fo4 hg4 st4
                have apox4 := apart_sits st4 apox3 fx3.lt
                have fx4 := fx3.grown hg4 (fun e => apox3 e.symm)
                have Hb4 : Below wc.heap.size wc w4_ := below_grown Hb3 hg4 Hb3.size (own_base fo3)
                have Zb4 : wc.heap.size ≤ w4_.heap.size := Nat.le_trans Zb3 hg4.size
                obtain ⟨A4, c4, rfl, le4, lm4, -⟩ := own_form fo4
                refine hK.out _ _ Hb4 fun _ => ?_
                clear hK K
                try simp only [List.getElem_toArray, List.getElem_cons_zero, List.getElem_cons_succ, Act.put, List.setIfInBounds_toArray, List.set_cons_zero, List.set_cons_succ]
                refine wpAnyH_take (i := 6) (v := ?_) rfl (by kernel_rfl) (by kernel_rfl) (by kernel_rfl) (fun _ _ _ h => h) (Or.inl ⟨by rfl, ?_⟩) Hb4 ?_
                rotate_left
                · intro wS hSw
                  go_simp
                  try with_reducible rfl
                try simp only [List.getElem_toArray, List.getElem_cons_zero, List.getElem_cons_succ, Act.put, List.setIfInBounds_toArray, List.set_cons_zero, List.set_cons_succ]
                refine wpAnyH_done (by kernel_rfl) ?_ _
                go_wp2_with (fail)
                go_meet
                exact ⟨A4, c4, _, rfl, rfl, le4, lm4, Cells.own fo4, Hb4⟩
              · refine step_oneD (by rfl) _ (by rfl) (d) Dd.out (by rfl) ?_
                generalize hge : World.alloc _ _ = w2_
                have fx2 : Blk w2_ w1_.heap.size 37 (arrK .u8 (d)) := by subst hge; exact Blk.new _ _ _
                have hb2 : Below w1_.heap.size w1_ w2_ := by subst hge; exact (Below.refl _ _).alloc (Nat.le_refl _) _
                clear hge
                have fo2 := own_below fo1 hb2
                have apox2 := apart_new fo1
                have lox2 : wc.heap.size ≤ w1_.heap.size := Zb1
                have Hb2 : Below wc.heap.size wc w2_ := below_of Hb1 hb2 Hb1.size
                have Zb2 : wc.heap.size ≤ w2_.heap.size := Nat.le_trans Zb1 hb2.size
                refine hK.out _ _ Hb2 fun _ => ?_
                clear hK K
                try simp only [List.getElem_toArray, List.getElem_cons_zero, List.getElem_cons_succ, Act.put, List.setIfInBounds_toArray, List.set_cons_zero, List.set_cons_succ]
                refine wpAnyH_ready (rs := [2]) (by kernel_rfl) (by simp) (AllReadyH.cons rfl (fun K hK => ?_) AllReadyH.nil)
                refine step_addDs (by rfl) (.tmp 66) (.tmp 67) (by rfl) (wc.heap.size) (.slice (some ⟨wd.heap.size, 0, none⟩) 0 0) (0) (([] : List (List Nat))) fo2 (by rfl) Aq q' cq p Hpq.out HpL.out (HCqf.out.below Hb2) (by rfl) (by omega) Zb2 ?_
                intro v3 w3_ fo3 hg3 st3
                have apox3 := apart_sits st3 apox2 fx2.lt
                have fx3 := fx2.grown hg3 (fun e => apox2 e.symm)
                have Hb3 : Below wc.heap.size wc w3_ := below_grown Hb2 hg3 Hb2.size (own_base fo2)
                have Zb3 : wc.heap.size ≤ w3_.heap.size := Nat.le_trans Zb2 hg3.size
                obtain ⟨A3, c3, rfl, le3, lm3, -⟩ := own_form fo3
                rw [Nat.zero_add] at fo3 le3 apox3
                simp only [Nat.zero_add]
                refine hK.out _ _ Hb3 fun _ => ?_
                clear hK K
                try simp only [List.getElem_toArray, List.getElem_cons_zero, List.getElem_cons_succ, Act.put, List.setIfInBounds_toArray, List.set_cons_zero, List.set_cons_succ]
                refine wpAnyH_ready (rs := [5]) (by kernel_rfl) (by simp) (AllReadyH.cons rfl (fun K hK => ?_) AllReadyH.nil)
                refine step_pushDs (by rfl) (.tmp 68) (.tmp 70) (by rfl) (wc.heap.size) (.slice A3 (q') c3) (q') ((([] : List (List Nat)) ++ p)) (d) fo3 (by rfl) (w1_.heap.size) fx3 Dd.out (by rfl) (by omega) Zb3 ?_
                intro v4 w4_ fo4 hg4 st4
                have apox4 := apart_sits st4 apox3 fx3.lt
                have fx4 := fx3.grown hg4 (fun e => apox3 e.symm)
                have Hb4 : Below wc.heap.size wc w4_ := below_grown Hb3 hg4 Hb3.size (own_base fo3)
                have Zb4 : wc.heap.size ≤ w4_.heap.size := Nat.le_trans Zb3 hg4.size
                obtain ⟨A4, c4, rfl, le4, lm4, -⟩ := own_form fo4
                refine hK.out _ _ Hb4 fun _ => ?_
                clear hK K
                try simp only [List.getElem_toArray, List.getElem_cons_zero, List.getElem_cons_succ, Act.put, List.setIfInBounds_toArray, List.set_cons_zero, List.set_cons_succ]
                refine wpAnyH_take (i := 6) (v := ?_) rfl (by kernel_rfl) (by kernel_rfl) (by kernel_rfl) (fun _ _ _ h => h) (Or.inl ⟨by rfl, ?_⟩) Hb4 ?_
                rotate_left
                · intro wS hSw
                  go_simp
                  try with_reducible rfl
                try simp only [List.getElem_toArray, List.getElem_cons_zero, List.getElem_cons_succ, Act.put, List.setIfInBounds_toArray, List.set_cons_zero, List.set_cons_succ]
                refine wpAnyH_done (by kernel_rfl) ?_ _
                go_wp2_with (fail)
                go_meet
                exact ⟨A4, c4, _, rfl, rfl, le4, lm4, Cells.own fo4, Hb4⟩
            · refine step_oneD (by rfl) _ (by rfl) (d) Dd.out (by rfl) ?_
              generalize hge : World.alloc _ _ = w1_
              have fx1 : Blk w1_ wd.heap.size 37 (arrK .u8 (d)) := by subst hge; exact Blk.new _ _ _
              have hb1 : Below wd.heap.size wd w1_ := by subst hge; exact (Below.refl _ _).alloc (Nat.le_refl _) _
              clear hge
              have lox1 : wc.heap.size ≤ wd.heap.size := Zd
              have Hb1 : Below wc.heap.size wc w1_ := below_of Hd hb1 Hd.size
              have Zb1 : wc.heap.size ≤ w1_.heap.size := Nat.le_trans Zd hb1.size
              refine hK.out _ _ Hb1 fun _ => ?_
              clear hK K
              try simp only [List.getElem_toArray, List.getElem_cons_zero, List.getElem_cons_succ, Act.put, List.setIfInBounds_toArray, List.set_cons_zero, List.set_cons_succ]
              refine wpAnyH_ready (rs := [0]) (by kernel_rfl) (by simp) (AllReadyH.cons rfl (fun K hK => ?_) AllReadyH.nil)
              go_simp
              generalize hge : World.alloc _ _ = w2_
              have fo2 : w2_.ownsRow (wc.heap.size) 37 32 (.slice (some ⟨w1_.heap.size, 0, none⟩) 0 0) 0 (bytesV ([] : List (List Nat)).flatten) := by subst hge; exact ownD_empty w1_ _ Zb1
              have hb2 : Below w1_.heap.size w1_ w2_ := by subst hge; exact (Below.refl _ _).alloc (Nat.le_refl _) _
              clear hge
              have fx2 := fx1.below hb2
              have apox2 : Apart (.slice (some ⟨w1_.heap.size, 0, none⟩) 0 0) (wd.heap.size) := apart_lit fx1.lt
              have Hb2 : Below wc.heap.size wc w2_ := below_of Hb1 hb2 Hb1.size
              have Zb2 : wc.heap.size ≤ w2_.heap.size := Nat.le_trans Zb1 hb2.size
              refine hK.out _ _ Hb2 fun _ => ?_
              clear hK K
              try simp only [List.getElem_toArray, List.getElem_cons_zero, List.getElem_cons_succ, Act.put, List.setIfInBounds_toArray, List.set_cons_zero, List.set_cons_succ]
              refine wpAnyH_ready (rs := [2]) (by kernel_rfl) (by simp) (AllReadyH.cons rfl (fun K hK => ?_) AllReadyH.nil)
              refine step_addDs (by rfl) (.tmp 66) (.tmp 67) (by rfl) (wc.heap.size) (.slice (some ⟨w1_.heap.size, 0, none⟩) 0 0) (0) (([] : List (List Nat))) fo2 (by rfl) Aq q' cq p Hpq.out HpL.out (HCqf.out.below Hb2) (by rfl) (by omega) Zb2 ?_
              intro v3 w3_ fo3 hg3 st3
              have apox3 := apart_sits st3 apox2 fx2.lt
              have fx3 := fx2.grown hg3 (fun e => apox2 e.symm)
              have Hb3 : Below wc.heap.size wc w3_ := below_grown Hb2 hg3 Hb2.size (own_base fo2)
              have Zb3 : wc.heap.size ≤ w3_.heap.size := Nat.le_trans Zb2 hg3.size
              obtain ⟨A3, c3, rfl, le3, lm3, -⟩ := own_form fo3
              rw [Nat.zero_add] at fo3 le3 apox3
              simp only [Nat.zero_add]
              refine hK.out _ _ Hb3 fun _ => ?_
              clear hK K
              try simp only [List.getElem_toArray, List.getElem_cons_zero, List.getElem_cons_succ, Act.put, List.setIfInBounds_toArray, List.set_cons_zero, List.set_cons_succ]
              refine wpAnyH_ready (rs := [5]) (by kernel_rfl) (by simp) (AllReadyH.cons rfl (fun K hK => ?_) AllReadyH.nil)
              refine step_pushDs (by rfl) (.tmp 68) (.tmp 70) (by rfl) (wc.heap.size) (.slice A3 (q') c3) (q') ((([] : List (List Nat)) ++ p)) (d) fo3 (by rfl) (wd.heap.size) fx3 Dd.out (by rfl) (by omega) Zb3 ?_
              intro v4 w4_ fo4 hg4 st4
              have apox4 := apart_sits st4 apox3 fx3.lt
              have fx4 := fx3.grown hg4 (fun e => apox3 e.symm)
              have Hb4 : Below wc.heap.size wc w4_ := below_grown Hb3 hg4 Hb3.size (own_base fo3)
              have Zb4 : wc.heap.size ≤ w4_.heap.size := Nat.le_trans Zb3 hg4.size
              obtain ⟨A4, c4, rfl, le4, lm4, -⟩ := own_form fo4
              refine hK.out _ _ Hb4 fun _ => ?_
              clear hK K
              try simp only [List.getElem_toArray, List.getElem_cons_zero, List.getElem_cons_succ, Act.put, List.setIfInBounds_toArray, List.set_cons_zero, List.set_cons_succ]
              refine wpAnyH_take (i := 6) (v := ?_) rfl (by kernel_rfl) (by kernel_rfl) (by kernel_rfl) (fun _ _ _ h => h) (Or.inl ⟨by rfl, ?_⟩) Hb4 ?_
              rotate_left
              · intro wS hSw
                go_simp
                try with_reducible rfl
              try simp only [List.getElem_toArray, List.getElem_cons_zero, List.getElem_cons_succ, Act.put, List.setIfInBounds_toArray, List.set_cons_zero, List.set_cons_succ]
              refine wpAnyH_done (by kernel_rfl) ?_ _
              go_wp2_with (fail)
              go_meet
              exact ⟨A4, c4, _, rfl, rfl, le4, lm4, Cells.own fo4, Hb4⟩
          case rest =>
            obtain ⟨A2, c2, Q, rfl, hQ, hc2, hm2, HC2', Hw⟩ := hcut
            have HXg := Lib.hid (HXf.out.below Hw)
            have HCqg := Lib.hid (HCqf.out.below Hw)
            have H16g := Lib.hid (H16f.out.below Hw)
            have H17g := Lib.hid (H17f.out.below Hw)
            have HBg := Lib.hid (below_of HBf.out Hw HBf.out.size)
            have HC2g := Lib.hid HC2'
            have Hm2 := Lib.hid hm2
            have HQ := Lib.hid hQ
            have sm : IntKind.i64.wrap ((m : Int) + 1) = (m : Int) + 1 := IntWalk.i64_in _ (by omega)
            have hQ7 : Q ≤ 7 := by omega
            have LO := Lib.hid (show IsL (([] ++ p) ++ [d]) from HpL.out.snoc Dd.out)
            clear HC2' Hw hm2 hQ HXf HCqf H16f H17f HBf HCf
            go_wp2_with (fail)
            obtain ⟨G2, hG2⟩ : ∃ G, wc.heap.size = G := ⟨_, rfl⟩
            generalize hge : World.alloc _ _ = w8
            have HJ := Lib.hid (show Blk w8 G2 3 #[.int .i64 y, .int .i64 (m : Int), .int .i64 ((m : Int) + 1)] by subst hge; rw [← hG2]; exact Blk.new _ _ _)
            have hb8 : Below wc.heap.size wc w8 := by subst hge; exact (Below.refl _ _).alloc (Nat.le_refl _) _
            have HX8 := Lib.hid (HXg.out.below hb8)
            have HCq8 := Lib.hid (HCqg.out.below hb8)
            have H168 := Lib.hid (H16g.out.below hb8)
            have H178 := Lib.hid (H17g.out.below hb8)
            have HC28 := Lib.hid (HC2g.out.below hb8)
            have HB8 := Lib.hid (below_of HBg.out hb8 HBg.out.size)
            rw [hG2]
            clear hge hG2 hb8 HXg HCqg H16g H17g HC2g HBg
            obtain ⟨h, hh⟩ : ∃ h, Q / 2 = h := ⟨_, rfl⟩
            have hhq : h ≤ Q := by omega
            have hd1 : (Q : Int) / 2 = (h : Int) := by omega
            have hd2 : (Q : Int).tdiv 2 = (h : Int) := by rw [Int.tdiv_eq_ediv_of_nonneg (by omega)]; exact hd1
            have hd3 : IntKind.i64.wrap (h : Int) = (h : Int) := IntWalk.i64_in _ (by omega)
            have hd4 : (h : Int) ≤ (Q : Int) := by omega
            have hd5 : (h : Int) ≤ (c2 : Int) := by omega
            clear hh
            go_loopw [80] (fun i wr => ∃ k : Nat, k ≤ 3 ∧ i = .int .i64 k ∧ Hid (Below w8.heap.size w8 wr)) (fun i _ => 3 - (intOf i).toNat)
            case atStart => exact ⟨0, by omega, rfl, Below.refl _ _⟩
            case round =>
              obtain ⟨k2, hk22, rfl, Hbr2⟩ := hrel
              by_cases hj2 : k2 < 3
              · have hdk2 : decide ((k2 : Int) < 3) = true := by simp; omega
                have hkI2 : (k2 : Int) < 3 := by omega
                have HXr2 := Lib.hid (HX8.out.below Hbr2.out)
                have HCqr := Lib.hid (HCq8.out.below Hbr2.out)
                have H16r := Lib.hid (H168.out.below Hbr2.out)
                have H17r := Lib.hid (H178.out.below Hbr2.out)
                have HC2r := Lib.hid (HC28.out.below Hbr2.out)
                have HJr := HJ.out.below Hbr2.out
                obtain ⟨z, ez⟩ : ∃ z : Int, wr.cell? ⟨G2, k2, none⟩ = some (.int .i64 z) := by
                  match k2, hj2 with
                  | 0, _ => exact ⟨y, HJr.cell 0⟩
                  | 1, _ => exact ⟨m, HJr.cell 1⟩
                  | 2, _ => exact ⟨m + 1, HJr.cell 2⟩
                clear HJr
                obtain ⟨wo, hwo⟩ : ∃ wo : World, wr = wo := ⟨_, rfl⟩
                rw [hwo] at HXr2 HCqr H16r H17r HC2r ez Hbr2
                rw [hwo]
                clear hwo
                go_wp2_with (fail)
                obtain ⟨G3, hG3⟩ : ∃ G, wo.heap.size = G := ⟨_, rfl⟩
                generalize hge : World.alloc _ _ = w9
                have HK := Lib.hid (show Blk w9 G3 28 #[.slice Aq q' cq, .slice A2 Q c2, .slice A2 h c2] by subst hge; rw [← hG3]; exact Blk.new _ _ _)
                have hb9 : Below wo.heap.size wo w9 := by subst hge; exact (Below.refl _ _).alloc (Nat.le_refl _) _
                have HX9 := Lib.hid (HXr2.out.below hb9)
                have HCq9 := Lib.hid (HCqr.out.below hb9)
                have H169 := Lib.hid (H16r.out.below hb9)
                have H179 := Lib.hid (H17r.out.below hb9)
                have HC29 := Lib.hid (HC2r.out.below hb9)
                have HB9 := Lib.hid (below_of Hbr2.out hb9 Hbr2.out.size)
                rw [hG3]
                clear hge hG3 hb9 ez HXr2 HCqr H16r H17r HC2r
                go_loopw [93] (fun i wr => ∃ t : Nat, t ≤ 3 ∧ i = .int .i64 t ∧ Hid (Below w9.heap.size w9 wr)) (fun i _ => 3 - (intOf i).toNat)
                case atStart => exact ⟨0, by omega, rfl, Below.refl _ _⟩
                case round =>
                  obtain ⟨t, ht, rfl, Hbr3⟩ := hrel
                  by_cases ht3 : t < 3
                  · have hdt : decide ((t : Int) < 3) = true := by simp; omega
                    have hkt : (t : Int) < 3 := by omega
                    have HXt := Lib.hid (HX9.out.below Hbr3.out)
                    have H16t := Lib.hid (H169.out.below Hbr3.out)
                    have H17t := Lib.hid (H179.out.below Hbr3.out)
                    have HKr := HK.out.below Hbr3.out
                    obtain ⟨A3, n3, c3, p3, ev3, hp3, hnc3, hcm3, hP3, hC3⟩ : ∃ (A3 : Option Addr) (n3 c3 : Nat) (p3 : List (List Nat)), wr.cell? ⟨G3, t, none⟩ = some (.slice A3 n3 c3) ∧ p3.length = n3 ∧ n3 ≤ c3 ∧ c3 ≤ maxLen ∧ IsL p3 ∧ Cells wr A3 (bytesV p3.flatten) := by
                      match t, ht3 with
                      | 0, _ => exact ⟨Aq, q', cq, p, HKr.cell 0, Hpq.out, hqc', Hcqm.out, HpL.out, HCq9.out.below Hbr3.out⟩
                      | 1, _ => exact ⟨A2, Q, c2, ([] ++ p) ++ [d], HKr.cell 1, by rw [← HQ.out]; simp [Hpq.out], hc2, Hm2.out, LO.out, HC29.out.below Hbr3.out⟩
                      | 2, _ =>
                        refine ⟨A2, h, c2, (([] ++ p) ++ [d]).take h, HKr.cell 2, by rw [List.length_take]; have := HQ.out; have := Hpq.out; simp; omega, by omega, Hm2.out, LO.out.take h, ?_⟩
                        rw [LO.out.flat_take h]
                        have := (HC29.out.below Hbr3.out).take_ (h * 32)
                        rwa [show ∀ x : List Nat, (bytesV x).take (h * 32) = bytesV (x.take (h * 32)) from fun x => by unfold bytesV; rw [List.map_take]] at this
                    have C1 := Lib.hid (fun W (hb : Below wr.heap.size wr W) => grew_any bd r v z A3 n3 c3 p3 W Db.out Dr.out hp3 hP3 hnc3 (hC3.below hb))
                    have C2 := Lib.hid (fun W (hb : Below wr.heap.size wr W) => rgrew_any bd r v z A3 n3 c3 p3 W Db.out Dr.out hp3 hP3 hnc3 hcm3 (hC3.below hb))
                    have C3 := Lib.hid (fun W (hb : Below wr.heap.size wr W) => grew_any d r v z A3 n3 c3 p3 W Dd.out Dr.out hp3 hP3 hnc3 (hC3.below hb))
                    have C4 := Lib.hid (fun W (hb : Below wr.heap.size wr W) => rgrew_any d r v z A3 n3 c3 p3 W Dd.out Dr.out hp3 hP3 hnc3 hcm3 (hC3.below hb))
                    clear HKr hC3 hp3 hP3 hcm3
                    generalize grewR bd r v z p3 = b1 at *
                    generalize grewR d r v z p3 = b2 at *
                    have hb1 : (b1 != b1) = false := by simp
                    have hb2 : (b2 != b2) = false := by simp
                    obtain ⟨wz, hwz⟩ : ∃ wz : World, wr = wz := ⟨_, rfl⟩
                    rw [hwz] at HXt H16t H17t ev3 C1 C2 C3 C4 Hbr3
                    rw [hwz]
                    clear hwz
                    go_upto_region 21 with (fail)
                    refine wp_region_held_drew (S := fun W => Below wz.heap.size wz W) (by kernel_rfl) (below_drewN (Below.refl _ _) 1) (fun Hd => ?_)
                    have Hd : Below wz.heap.size wz wz.drew := below_drewN (Below.refl _ _) 1
                    have Zd : wz.heap.size ≤ wz.drew.heap.size := Nat.le_refl _
                    generalize World.drew wz = wd at *
                    refine wpAnyH_take (i := 0) (v := .agg (arrK .u8 bd)) rfl (by kernel_rfl) (by kernel_rfl) (by kernel_rfl) (fun _ _ _ h => h) (yields_load_blk (by rfl) _ _ rfl (g16) rfl 37 (arrK .u8 bd) (.array 32 5) (fun W hW => H16t.out.below hW) (by kernel_rfl) rfl (info32 Db.out.1)) Hd ?_
                    try simp only [List.getElem_toArray, List.getElem_cons_zero, List.getElem_cons_succ, Act.put, List.setIfInBounds_toArray, List.set_cons_zero, List.set_cons_succ]
                    refine wpAnyH_take (i := 1) (v := .agg (arrK .u8 r)) rfl (by kernel_rfl) (by kernel_rfl) (by kernel_rfl) (fun _ _ _ h => h) (yields_load_blk (by rfl) _ _ rfl (g17) rfl 37 (arrK .u8 r) (.array 32 5) (fun W hW => H17t.out.below hW) (by kernel_rfl) rfl (info32 Dr.out.1)) Hd ?_
                    try simp only [List.getElem_toArray, List.getElem_cons_zero, List.getElem_cons_succ, Act.put, List.setIfInBounds_toArray, List.set_cons_zero, List.set_cons_succ]
                    refine wpAnyH_take (i := 2) (v := ?_) rfl (by kernel_rfl) (by kernel_rfl) (by kernel_rfl) (fun _ _ _ h => h) (Or.inl ⟨by rfl, ?_⟩) Hd ?_
                    rotate_left
                    · intro wS hSw
                      go_simp
                      try with_reducible rfl
                    try simp only [List.getElem_toArray, List.getElem_cons_zero, List.getElem_cons_succ, Act.put, List.setIfInBounds_toArray, List.set_cons_zero, List.set_cons_succ]
                    refine wpAnyH_take (i := 3) (v := ?_) rfl (by kernel_rfl) (by kernel_rfl) (by kernel_rfl) (fun _ _ _ h => h) (Or.inl ⟨by rfl, ?_⟩) Hd ?_
                    rotate_left
                    · intro wS hSw
                      go_simp
                      try with_reducible rfl
                    try simp only [List.getElem_toArray, List.getElem_cons_zero, List.getElem_cons_succ, Act.put, List.setIfInBounds_toArray, List.set_cons_zero, List.set_cons_succ]
                    refine wpAnyH_take (i := 4) (v := ?_) rfl (by kernel_rfl) (by kernel_rfl) (by kernel_rfl) (fun _ _ _ h => h) (Or.inl ⟨by rfl, ?_⟩) Hd ?_
                    rotate_left
                    · intro wS hSw
                      go_simp
                      try with_reducible rfl
                    try simp only [List.getElem_toArray, List.getElem_cons_zero, List.getElem_cons_succ, Act.put, List.setIfInBounds_toArray, List.set_cons_zero, List.set_cons_succ]
                    refine wpAnyH_take (i := 6) (v := .agg (arrK .u8 bd)) rfl (by kernel_rfl) (by kernel_rfl) (by kernel_rfl) (fun _ _ _ h => h) (yields_load_blk (by rfl) _ _ rfl (g16) rfl 37 (arrK .u8 bd) (.array 32 5) (fun W hW => H16t.out.below hW) (by kernel_rfl) rfl (info32 Db.out.1)) Hd ?_
                    try simp only [List.getElem_toArray, List.getElem_cons_zero, List.getElem_cons_succ, Act.put, List.setIfInBounds_toArray, List.set_cons_zero, List.set_cons_succ]
                    refine wpAnyH_take (i := 7) (v := .agg (arrK .u8 r)) rfl (by kernel_rfl) (by kernel_rfl) (by kernel_rfl) (fun _ _ _ h => h) (yields_load_blk (by rfl) _ _ rfl (g17) rfl 37 (arrK .u8 r) (.array 32 5) (fun W hW => H17t.out.below hW) (by kernel_rfl) rfl (info32 Dr.out.1)) Hd ?_
                    try simp only [List.getElem_toArray, List.getElem_cons_zero, List.getElem_cons_succ, Act.put, List.setIfInBounds_toArray, List.set_cons_zero, List.set_cons_succ]
                    refine wpAnyH_take (i := 8) (v := ?_) rfl (by kernel_rfl) (by kernel_rfl) (by kernel_rfl) (fun _ _ _ h => h) (Or.inl ⟨by rfl, ?_⟩) Hd ?_
                    rotate_left
                    · intro wS hSw
                      go_simp
                      try with_reducible rfl
                    try simp only [List.getElem_toArray, List.getElem_cons_zero, List.getElem_cons_succ, Act.put, List.setIfInBounds_toArray, List.set_cons_zero, List.set_cons_succ]
                    refine wpAnyH_take (i := 9) (v := ?_) rfl (by kernel_rfl) (by kernel_rfl) (by kernel_rfl) (fun _ _ _ h => h) (Or.inl ⟨by rfl, ?_⟩) Hd ?_
                    rotate_left
                    · intro wS hSw
                      go_simp
                      try with_reducible rfl
                    try simp only [List.getElem_toArray, List.getElem_cons_zero, List.getElem_cons_succ, Act.put, List.setIfInBounds_toArray, List.set_cons_zero, List.set_cons_succ]
                    refine wpAnyH_take (i := 10) (v := ?_) rfl (by kernel_rfl) (by kernel_rfl) (by kernel_rfl) (fun _ _ _ h => h) (Or.inl ⟨by rfl, ?_⟩) Hd ?_
                    rotate_left
                    · intro wS hSw
                      go_simp
                      try with_reducible rfl
                    try simp only [List.getElem_toArray, List.getElem_cons_zero, List.getElem_cons_succ, Act.put, List.setIfInBounds_toArray, List.set_cons_zero, List.set_cons_succ]
                    refine wpAnyH_ready (rs := [5]) (by kernel_rfl) (by simp) (AllReadyH.cons rfl (fun K hK => ?_) AllReadyH.nil)
                    go_simp
                    refine (C1.out _ Hd).mono ?_
                    rintro e w1_ ⟨rfl, hb1⟩
                    have Hb1 : Below wz.heap.size wz w1_ := below_of Hd hb1 Hd.size
                    have Zb1 : wz.heap.size ≤ w1_.heap.size := Nat.le_trans Zd hb1.size
                    go_wp2_with (fail)
                    refine hK.out _ _ Hb1 fun _ => ?_
                    clear hK K
                    try simp only [List.getElem_toArray, List.getElem_cons_zero, List.getElem_cons_succ, Act.put, List.setIfInBounds_toArray, List.set_cons_zero, List.set_cons_succ]
                    refine wpAnyH_ready (rs := [11]) (by kernel_rfl) (by simp) (AllReadyH.cons rfl (fun K hK => ?_) AllReadyH.nil)
                    go_simp
                    refine (C2.out _ Hb1).mono ?_
                    rintro e w2_ ⟨rfl, hb2⟩
                    have Hb2 : Below wz.heap.size wz w2_ := below_of Hb1 hb2 Hb1.size
                    have Zb2 : wz.heap.size ≤ w2_.heap.size := Nat.le_trans Zb1 hb2.size
                    go_wp2_with (fail)
                    refine hK.out _ _ Hb2 fun _ => ?_
                    clear hK K
                    try simp only [List.getElem_toArray, List.getElem_cons_zero, List.getElem_cons_succ, Act.put, List.setIfInBounds_toArray, List.set_cons_zero, List.set_cons_succ]
                    refine wpAnyH_take (i := 12) (v := ?_) rfl (by kernel_rfl) (by kernel_rfl) (by kernel_rfl) (fun _ _ _ h => h) (Or.inl ⟨by rfl, ?_⟩) Hb2 ?_
                    rotate_left
                    · intro wS hSw
                      go_simp
                      try with_reducible rfl
                    try simp only [List.getElem_toArray, List.getElem_cons_zero, List.getElem_cons_succ, Act.put, List.setIfInBounds_toArray, List.set_cons_zero, List.set_cons_succ]
                    refine wpAnyH_take (i := 13) (v := ?_) rfl (by kernel_rfl) (by kernel_rfl) (by kernel_rfl) (fun _ _ _ h => h) (Or.inl ⟨by rfl, ?_⟩) Hb2 ?_
                    rotate_left
                    · intro wS hSw
                      go_simp
                      try with_reducible rfl
                    try simp only [List.getElem_toArray, List.getElem_cons_zero, List.getElem_cons_succ, Act.put, List.setIfInBounds_toArray, List.set_cons_zero, List.set_cons_succ]
                    refine wpAnyH_take (i := 14) (v := .agg (arrK .u8 d)) rfl (by kernel_rfl) (by kernel_rfl) (by kernel_rfl) (fun _ _ _ h => h) (yields_load_blk (by rfl) _ _ rfl (g0) rfl 37 (arrK .u8 d) (.array 32 5) (fun W hW => HXt.out.below hW) (by kernel_rfl) rfl (info32 Dd.out.1)) Hb2 ?_
                    try simp only [List.getElem_toArray, List.getElem_cons_zero, List.getElem_cons_succ, Act.put, List.setIfInBounds_toArray, List.set_cons_zero, List.set_cons_succ]
                    refine wpAnyH_take (i := 15) (v := .agg (arrK .u8 r)) rfl (by kernel_rfl) (by kernel_rfl) (by kernel_rfl) (fun _ _ _ h => h) (yields_load_blk (by rfl) _ _ rfl (g17) rfl 37 (arrK .u8 r) (.array 32 5) (fun W hW => H17t.out.below hW) (by kernel_rfl) rfl (info32 Dr.out.1)) Hb2 ?_
                    try simp only [List.getElem_toArray, List.getElem_cons_zero, List.getElem_cons_succ, Act.put, List.setIfInBounds_toArray, List.set_cons_zero, List.set_cons_succ]
                    refine wpAnyH_take (i := 16) (v := ?_) rfl (by kernel_rfl) (by kernel_rfl) (by kernel_rfl) (fun _ _ _ h => h) (Or.inl ⟨by rfl, ?_⟩) Hb2 ?_
                    rotate_left
                    · intro wS hSw
                      go_simp
                      try with_reducible rfl
                    try simp only [List.getElem_toArray, List.getElem_cons_zero, List.getElem_cons_succ, Act.put, List.setIfInBounds_toArray, List.set_cons_zero, List.set_cons_succ]
                    refine wpAnyH_take (i := 17) (v := ?_) rfl (by kernel_rfl) (by kernel_rfl) (by kernel_rfl) (fun _ _ _ h => h) (Or.inl ⟨by rfl, ?_⟩) Hb2 ?_
                    rotate_left
                    · intro wS hSw
                      go_simp
                      try with_reducible rfl
                    try simp only [List.getElem_toArray, List.getElem_cons_zero, List.getElem_cons_succ, Act.put, List.setIfInBounds_toArray, List.set_cons_zero, List.set_cons_succ]
                    refine wpAnyH_take (i := 18) (v := ?_) rfl (by kernel_rfl) (by kernel_rfl) (by kernel_rfl) (fun _ _ _ h => h) (Or.inl ⟨by rfl, ?_⟩) Hb2 ?_
                    rotate_left
                    · intro wS hSw
                      go_simp
                      try with_reducible rfl
                    try simp only [List.getElem_toArray, List.getElem_cons_zero, List.getElem_cons_succ, Act.put, List.setIfInBounds_toArray, List.set_cons_zero, List.set_cons_succ]
                    refine wpAnyH_take (i := 20) (v := .agg (arrK .u8 d)) rfl (by kernel_rfl) (by kernel_rfl) (by kernel_rfl) (fun _ _ _ h => h) (yields_load_blk (by rfl) _ _ rfl (g0) rfl 37 (arrK .u8 d) (.array 32 5) (fun W hW => HXt.out.below hW) (by kernel_rfl) rfl (info32 Dd.out.1)) Hb2 ?_
                    try simp only [List.getElem_toArray, List.getElem_cons_zero, List.getElem_cons_succ, Act.put, List.setIfInBounds_toArray, List.set_cons_zero, List.set_cons_succ]
                    refine wpAnyH_take (i := 21) (v := .agg (arrK .u8 r)) rfl (by kernel_rfl) (by kernel_rfl) (by kernel_rfl) (fun _ _ _ h => h) (yields_load_blk (by rfl) _ _ rfl (g17) rfl 37 (arrK .u8 r) (.array 32 5) (fun W hW => H17t.out.below hW) (by kernel_rfl) rfl (info32 Dr.out.1)) Hb2 ?_
                    try simp only [List.getElem_toArray, List.getElem_cons_zero, List.getElem_cons_succ, Act.put, List.setIfInBounds_toArray, List.set_cons_zero, List.set_cons_succ]
                    refine wpAnyH_take (i := 22) (v := ?_) rfl (by kernel_rfl) (by kernel_rfl) (by kernel_rfl) (fun _ _ _ h => h) (Or.inl ⟨by rfl, ?_⟩) Hb2 ?_
                    rotate_left
                    · intro wS hSw
                      go_simp
                      try with_reducible rfl
                    try simp only [List.getElem_toArray, List.getElem_cons_zero, List.getElem_cons_succ, Act.put, List.setIfInBounds_toArray, List.set_cons_zero, List.set_cons_succ]
                    refine wpAnyH_take (i := 23) (v := ?_) rfl (by kernel_rfl) (by kernel_rfl) (by kernel_rfl) (fun _ _ _ h => h) (Or.inl ⟨by rfl, ?_⟩) Hb2 ?_
                    rotate_left
                    · intro wS hSw
                      go_simp
                      try with_reducible rfl
                    try simp only [List.getElem_toArray, List.getElem_cons_zero, List.getElem_cons_succ, Act.put, List.setIfInBounds_toArray, List.set_cons_zero, List.set_cons_succ]
                    refine wpAnyH_take (i := 24) (v := ?_) rfl (by kernel_rfl) (by kernel_rfl) (by kernel_rfl) (fun _ _ _ h => h) (Or.inl ⟨by rfl, ?_⟩) Hb2 ?_
                    rotate_left
                    · intro wS hSw
                      go_simp
                      try with_reducible rfl
                    try simp only [List.getElem_toArray, List.getElem_cons_zero, List.getElem_cons_succ, Act.put, List.setIfInBounds_toArray, List.set_cons_zero, List.set_cons_succ]
                    refine wpAnyH_ready (rs := [19]) (by kernel_rfl) (by simp) (AllReadyH.cons rfl (fun K hK => ?_) AllReadyH.nil)
                    go_simp
                    refine (C3.out _ Hb2).mono ?_
                    rintro e w3_ ⟨rfl, hb3⟩
                    have Hb3 : Below wz.heap.size wz w3_ := below_of Hb2 hb3 Hb2.size
                    have Zb3 : wz.heap.size ≤ w3_.heap.size := Nat.le_trans Zb2 hb3.size
                    go_wp2_with (fail)
                    refine hK.out _ _ Hb3 fun _ => ?_
                    clear hK K
                    try simp only [List.getElem_toArray, List.getElem_cons_zero, List.getElem_cons_succ, Act.put, List.setIfInBounds_toArray, List.set_cons_zero, List.set_cons_succ]
                    refine wpAnyH_ready (rs := [25]) (by kernel_rfl) (by simp) (AllReadyH.cons rfl (fun K hK => ?_) AllReadyH.nil)
                    go_simp
                    refine (C4.out _ Hb3).mono ?_
                    rintro e w4_ ⟨rfl, hb4⟩
                    have Hb4 : Below wz.heap.size wz w4_ := below_of Hb3 hb4 Hb3.size
                    have Zb4 : wz.heap.size ≤ w4_.heap.size := Nat.le_trans Zb3 hb4.size
                    go_wp2_with (fail)
                    refine hK.out _ _ Hb4 fun _ => ?_
                    clear hK K
                    try simp only [List.getElem_toArray, List.getElem_cons_zero, List.getElem_cons_succ, Act.put, List.setIfInBounds_toArray, List.set_cons_zero, List.set_cons_succ]
                    refine wpAnyH_take (i := 26) (v := ?_) rfl (by kernel_rfl) (by kernel_rfl) (by kernel_rfl) (fun _ _ _ h => h) (Or.inl ⟨by rfl, ?_⟩) Hb4 ?_
                    rotate_left
                    · intro wS hSw
                      go_simp
                      try with_reducible rfl
                    try simp only [List.getElem_toArray, List.getElem_cons_zero, List.getElem_cons_succ, Act.put, List.setIfInBounds_toArray, List.set_cons_zero, List.set_cons_succ]
                    refine wpAnyH_take (i := 27) (v := ?_) rfl (by kernel_rfl) (by kernel_rfl) (by kernel_rfl) (fun _ _ _ h => h) (Or.inl ⟨by rfl, ?_⟩) Hb4 ?_
                    rotate_left
                    · intro wS hSw
                      go_simp
                      try with_reducible rfl
                    try simp only [List.getElem_toArray, List.getElem_cons_zero, List.getElem_cons_succ, Act.put, List.setIfInBounds_toArray, List.set_cons_zero, List.set_cons_succ]
                    refine wpAnyH_done (by kernel_rfl) ?_ _
                    go_wp2_with (fail)
                    go_roundw
                    case rel => exact ⟨t + 1, by omega, by go_num, Hbr3.out.trans (Hb4.mono Hbr3.out.size)⟩
                    case measure => simp [intOf]; omega
                  · have hdt : decide ((t : Int) < 3) = false := by simp; omega
                    go_wp2_with (fail)
                    go_roundw
                    case rel => exact ⟨k2 + 1, by omega, by go_num, HB9.out.trans (Hbr3.out.mono HB9.out.size)⟩
                    case measure => simp [intOf]; omega
              · have hdk2 : decide ((k2 : Int) < 3) = false := by simp; omega
                go_wp2_with (fail)
                go_roundw
                case rel => exact ⟨k + 1, by omega, by go_num, HB8.out.trans (Hbr2.out.mono HB8.out.size)⟩
                case measure => simp [intOf]; omega
    · have hdk : decide ((k : Int) < 2) = false := by simp; omega
      go_wp2_with (fail)
      go_ret
      exact ⟨rfl, below_of HB4.out Hbr.out HB4.out.size⟩
-- the row
theorem digestGrowSpec_own : ownKnob Try.prog.godebug = none := by kernel_rfl
theorem digestGrowSpec_laidOut : laidOutB Try.prog = true := by kernel_rfl
theorem digestGrowSpec_readable : (Try.f11.params.toList.all fun t => Try.prog.readableRec t && decide (t < Try.prog.types.size)) = true := by kernel_rfl
set_option maxRecDepth 100000 in
theorem digestGrowSpec_lifted (os : Os) (started : os.Started) (H : Type) (enc : TypeId × Value → H) :
    ReturnsInHanded {} Try.checked os 11 .any (Rows.digestGrowSpecSpec.pre6 enc Try.prog Try.f11 Rows.digestGrowSpecRow.domain false) (Rows.digestGrowSpecSpec.post enc Try.prog Try.f11 false true false false) := by
  refine returnsInHanded_of_change (C := Try.checked) digestGrowSpec_own started (by kernel_rfl) Try.func11
    (ChangeSpec.witness6 (enc := enc) (C := Try.checked) false ⟨#[], #[.slice none 0 0, .int .i64 0, .int .i64 0, .agg (List.replicate 32 (Value.int .u8 0)).toArray], []⟩ 8 (by kernel_rfl) (by kernel_rfl) (by kernel_rfl) (by kernel_rfl)) ?_
  intro W base args ds gs before hval0 hW hcnd _
  have hval : ∀ (j : Nat) t v, Try.f11.params[j]? = some t → args[j]? = some v → Value.okWide Try.prog W .any base t v := hval0
  have hW' := hW
  obtain ⟨p, q, hA0, hV, rfl, hfz, hnd⟩ := hW
  have hA : DataW.TrodAll enc Try.prog W 0 (fun _ => true) true Try.f11.params.toList args.toList ds p := hA0
  rw [Try.params11] at hA hval
  obtain ⟨v0, vs0, d0, ds0, p0, q0, hargs, rfl, rfl, h0, r0⟩ := trodAll_cons hA
  obtain ⟨v1, vs1, d1, ds1, p1, q1, rfl, rfl, rfl, h1, r1⟩ := trodAll_cons r0
  obtain ⟨v2, vs2, d2, ds2, p2, q2, rfl, rfl, rfl, h2, r2⟩ := trodAll_cons r1
  obtain ⟨v3, vs3, d3, ds3, p3, q3, rfl, rfl, rfl, h3, r3⟩ := trodAll_cons r2
  obtain ⟨rfl, rfl, rfl⟩ := trodAll_nil r3
  obtain rfl : args = #[v0, v1, v2, v3] := by cases args; simp_all
  obtain ⟨rfl, rfl⟩ := trodVars_none hV
  obtain ⟨A0, n0, c0, xs0, rfl, l0, nc0, cm0, g0, w0⟩ := open_intslice Try.underlying22 Try.underlying5 (by kernel_rfl) (hval 0 22 v0 rfl rfl) h0
  obtain ⟨a1, rfl, rfl, rfl, w1⟩ := open_int Try.underlying3 (hval 1 3 v1 rfl rfl) h1
  obtain ⟨a2, rfl, rfl, rfl, w2⟩ := open_int Try.underlying3 (hval 2 3 v2 rfl rfl) h2
  obtain ⟨D3, rfl, k3⟩ := open_digest (hval 3 37 v3 rfl rfl)
  refine (DigestGrowSpec_walk W A0 n0 c0 xs0 l0 nc0 cm0 g0 w0 a1 w1 a2 w2 D3 k3).mono fun e W' ⟨he, hb⟩ => ?_
  subst he
  simp only [List.append_nil] at hW'
  refine ⟨_, rfl, law_post digestGrowSpec_laidOut ?_ (by kernel_rfl) Try.underlying4 rfl hW' rfl rfl rfl hb⟩
  intro t ht
  have hr := List.all_eq_true.1 digestGrowSpec_readable t ht
  rw [Bool.and_eq_true] at hr
  exact ⟨hr.1, of_decide_eq_true hr.2⟩
theorem digestGrowSpec_over : Rows.digestGrowSpecRow.holds Try.pinned (OpenSpec.ofChange Rows.digestGrowSpecSpec) :=
  OpenClaim.holds_of_wide 11 Try.f11 rfl rfl rfl rfl rfl rfl rfl ⟨rfl, rfl, rfl, rfl, rfl⟩ rfl rfl rfl rfl rfl (by kernel_rfl) Try.func11 (by kernel_rfl)
    (of_decide_eq_true (by kernel_rfl)) (by unfold Func.isWrapper; rw [if_neg (of_decide_eq_false (by kernel_rfl))]; exact ⟨rfl, rfl⟩)
    (fun os started H enc _ => digestGrowSpec_lifted os started H enc)
theorem digestGrowSpec_proved : Rows.DigestGrowSpecSaid := digestGrowSpec_over
#print axioms digestGrowSpec_proved
end Go.Proofs.Ytcijhakofoklcaa
