/- The statement DigestGrowsSaid: the growth of a list from each of its beginnings is accepted for the digests of both and is short, and one of another length is not; no condition beside the row's own. -/
import Derived.Test.YtcijhakofoklcaaWGrew
import Derived.Test.YtcijhakofoklcaaRow
import Derived.Deep.DeepCutAuto
namespace Go.Proofs.Ytcijhakofoklcaa
open Go.RowKit Go.WideShapes Go.ChangeShapes Go.ChangeAt
theorem grewR_grow {l : List (List Nat)} {k m : Nat} (hl : l.length = m) (h1 : 1 ≤ k) (hk : k ≤ m) (hm : m ≤ 24) : grewR (treeS (l.take k)) (treeS l) (k : Int) (m : Int) (growS l k true) = true := by
  unfold grewR
  rw [decide_eq_true (by omega), Bool.true_and, Int.toNat_natCast, Int.toNat_natCast, ← hl]
  exact grewS_grow h1 (by omega)
theorem grewR_more {l : List (List Nat)} {k m : Nat} (hl : l.length = m) (h1 : 1 ≤ k) (hk : k ≤ m) (a b d : List Nat) : grewR a b (k : Int) (m : Int) (growS l k true ++ [d]) = false := by
  unfold grewR
  rw [Int.toNat_natCast, Int.toNat_natCast, ← hl, grewS_more h1 (by omega), Bool.and_false]
theorem growR_in {l : List (List Nat)} {k m : Nat} (hl : l.length = m) (h1 : 1 ≤ k) (hk : k ≤ m) : growR l (k : Int) = growS l k true ∧ okGrow l (k : Int) = true := by
  have h : 1 ≤ (k : Int) ∧ (k : Int) ≤ (l.length : Int) := by omega
  exact ⟨by unfold growR; rw [if_pos h, Int.toNat_natCast], by unfold okGrow; rw [decide_eq_true h]⟩
set_option linter.unusedVariables false in
set_option linter.unusedSimpArgs false in
set_option maxRecDepth 100000 in
set_option maxHeartbeats 8000000 in
theorem DigestGrows_walk (w : World) (A : Option Addr) (n c : Nat) (xs : List Int) (hl : xs.length = n) (hnc : n ≤ c) (hcm : c ≤ maxLen) (hA0 : Cells w A (xs.map (Value.int .u8))) (hw : ∀ x ∈ xs, (Lit.int .u8 x).wf = true) :
    Calls Try.prog 12 #[.slice A n c] w (Fine w) := by
  obtain ⟨b, hb, h8, hA⟩ := open_bytes hA0 hw
  have HD := Lib.hid (fun W (h : Cells W A (bytesV b)) => digestsOf_any A n c b W h (hb.trans hl) h8 (Nat.le_trans hnc hcm))
  have HA := Lib.hid hA
  clear hA0 hw hl hb h8 hA
  go_enter Try.func12, Try.ntmps12
  go_wp2_with (fail)
  refine (sane_any _).mono ?_
  rintro e w0 ⟨rfl, hb0⟩
  go_wp2_with (fail)
  refine (HD.out _ (HA.out.below hb0)).mono ?_
  rintro e w1 ⟨A', m, c', l, rfl, hlm, hm24, hmc, hcm', hL, hC, hb1⟩
  have HB1 := Lib.hid (hb0.trans (hb1.mono hb0.size))
  have Hl := Lib.hid hlm
  have HL := Lib.hid hL
  have HC := Lib.hid hC
  have Hcm' := Lib.hid hcm'
  clear hb0 hb1 hlm hL hC hcm'
  have HT := Lib.hid (fun W (h : Cells W A' (bytesV l.flatten)) => tree_any m l A' c' W Hl.out HL.out hmc (by omega) h)
  have hmI : (m : Int) ≤ 24 := by omega
  obtain ⟨r, hr⟩ : ∃ r, treeS l = r := ⟨_, rfl⟩
  have Dr := Lib.hid (show IsD r by rw [← hr]; exact treeS_isD _)
  rw [hr] at HT
  have Hr := Lib.hid hr
  clear hr
  go_wp2_with (fail)
  refine (HT.out _ HC.out).mono ?_
  rintro e w2 ⟨rfl, hb2⟩
  have HC2 := Lib.hid (HC.out.below hb2)
  have HB2 := Lib.hid (below_of HB1.out hb2 HB1.out.size)
  clear hb2
  go_wp2_with (
    (refine wpList_put_blk rfl 37 (.tmp 4) (.tmp 13) rfl w2.heap.size (arrK .u8 r) rfl rfl 37 (arrK .u8 z32) (Blk.new w2 37 (arrK .u8 z32)) (info32 Dr.out.1) (by rw [len32 Dr.out.1, len32 z32_length]) (arrK_all _ _) ?_
     intro w3 HX3 hg3 hz3
     have HX := Lib.hid HX3
     have hb3 : Below w2.heap.size w2 w3 := below_grown ((Below.refl w2.heap.size w2).alloc (Nat.le_refl _) (.cells (arrK .u8 z32) 37)) hg3 (by simp) (by simp)
     have HC3 := Lib.hid (HC2.out.below hb3)
     have HB3 := Lib.hid (below_of HB2.out hb3 HB2.out.size)
     clear hg3 hz3 hb3 HX3))
  obtain ⟨G, hG⟩ : ∃ G, w2.heap.size = G := ⟨_, rfl⟩
  rw [hG] at HX
  rw [hG]
  clear hG
  go_loopw [5] (fun i wr => ∃ k : Nat, 1 ≤ k ∧ k ≤ m + 1 ∧ i = .int .i64 k ∧ Hid (Below w3.heap.size w3 wr)) (fun i _ => m + 1 - (intOf i).toNat)
  case atStart => exact ⟨1, by omega, by omega, rfl, Below.refl _ _⟩
  case round =>
    obtain ⟨k, hk1, hk, rfl, Hbr⟩ := hrel
    by_cases hkm : k ≤ m
    · have hdk : decide ((k : Int) ≤ (m : Int)) = true := by simp; omega
      have hdk2 : decide (k ≤ m) = true := by simp; omega
      have hkI : (k : Int) ≤ (m : Int) := by omega
      have hkc : (k : Int) ≤ (c' : Int) := by omega
      have hmc2 : (m : Int) ≤ (c' : Int) := by omega
      obtain ⟨pb, po, rfl, -, -⟩ := Cells.addr HC3.out (by rw [bytesV_length, HL.out.flat_length, Hl.out]; omega)
      have HCr := Lib.hid (HC3.out.below Hbr.out)
      have HXr := Lib.hid (HX.out.below Hbr.out)
      have HBr := Lib.hid (below_of HB3.out Hbr.out HB3.out.size)
      have HP := Lib.hid (grow_out l (k : Int) m (some ⟨pb, po, none⟩) c' wr Hl.out HL.out hmc (by omega) HCr.out)
      have hgl := growR_len (l := l) (by rw [Hl.out]; exact hm24) (k : Int)
      obtain ⟨e1, e2⟩ := growR_in Hl.out hk1 hkm
      rw [e1] at hgl
      rw [e1, e2, errArg_true] at HP
      have R1 := Lib.hid (grewR_grow Hl.out hk1 hkm hm24)
      have R2 := Lib.hid (fun a b d => grewR_more Hl.out hk1 hkm a b d)
      have HpL := Lib.hid (growS_isL m l k true Hl.out)
      have Htk := Lib.hid (show (l.take k).length = k by rw [List.length_take, Hl.out]; omega)
      have HtL := Lib.hid (show IsL (l.take k) from fun x hx => HL.out x (List.mem_of_mem_take hx))
      have Dt := Lib.hid (treeS_isD (l.take k))
      have HCt := Lib.hid (show Cells w3 (some ⟨pb, po, none⟩) (bytesV (l.take k).flatten) by
        rw [HL.out.flat_take k]
        have := HC3.out.take_ (k * 32)
        rwa [show (bytesV l.flatten).take (k * 32) = bytesV (l.flatten.take (k * 32)) by unfold bytesV; rw [List.map_take]] at this)
      have HTt := Lib.hid (fun W (h : Below w3.heap.size w3 W) => tree_any k (l.take k) (some ⟨pb, po, none⟩) c' W Htk.out HtL.out (by omega) (by omega) (HCt.out.below h))
      rw [Hr.out] at R1
      generalize growS l k true = p at *
      generalize treeS (l.take k) = tk at *
      clear e1 e2
      go_wp2_with (fail)
      refine HP.out.mono ?_
      rintro e w6 ⟨Ap, q, cp, rfl, hpq, hqc, hcpm, hcp, hb6⟩
      have Hpq := Lib.hid hpq
      have HCp := Lib.hid hcp
      have Hcpm := Lib.hid hcpm
      have hq6 : q ≤ 6 := by omega
      have hd7 : decide ((7 : Int) < (q : Int)) = false := by simp; omega
      have hd72 : decide (7 < q) = false := by simp; omega
      have HX6 := Lib.hid (HXr.out.below hb6)
      have HB6 := Lib.hid (below_of Hbr.out hb6 Hbr.out.size)
      have HG1 := Lib.hid (fun W (h : Below w6.heap.size w6 W) => grew_any tk r k m Ap q cp p W Dt.out Dr.out Hpq.out HpL.out hqc (HCp.out.below h))
      rw [R1.out] at HG1
      have HG2 := Lib.hid (fun A2 c2 W (hc2 : q + 1 ≤ c2) (h : Cells W A2 (bytesV (([] ++ p) ++ [r]).flatten)) => grew_any tk r k m A2 (q + 1) c2 (([] ++ p) ++ [r]) W Dt.out Dr.out (by simp [Hpq.out]) (by rw [List.nil_append]; exact HpL.out.snoc Dr.out) hc2 h)
      rw [List.nil_append, R2.out] at HG2
      have hHx := Lib.hid (fun W (h : Below w6.heap.size w6 W) => below_of HB6.out h HB6.out.size)
      clear hpq hcpm hcp hb6 R1 R2 HP
      go_upto_region 9 with (fail)
      refine wp_region_held_drew (S := fun W => Below w6.heap.size w6 W) (by kernel_rfl) (below_drewN (Below.refl _ _) 1) (fun Hd => ?_)
      have Hd : Below w6.heap.size w6 w6.drew := below_drewN (Below.refl _ _) 1
      have Zd : w6.heap.size ≤ w6.drew.heap.size := Nat.le_refl _
      generalize World.drew w6 = wd at *
      refine wpAnyH_take (i := 0) (v := ?_) rfl (by kernel_rfl) (by kernel_rfl) (by kernel_rfl) (fun _ _ _ h => h) (Or.inl ⟨by rfl, ?_⟩) Hd ?_
      rotate_left
      · intro wS hSw
        go_simp
        try with_reducible rfl
      try simp only [List.getElem_toArray, List.getElem_cons_zero, List.getElem_cons_succ, Act.put, List.setIfInBounds_toArray, List.set_cons_zero, List.set_cons_succ]
      refine wpAnyH_take (i := 1) (v := ?_) rfl (by kernel_rfl) (by kernel_rfl) (by kernel_rfl) (fun _ _ _ h => h) (Or.inl ⟨by rfl, ?_⟩) Hd ?_
      rotate_left
      · intro wS hSw
        go_simp
        try with_reducible rfl
      try simp only [List.getElem_toArray, List.getElem_cons_zero, List.getElem_cons_succ, Act.put, List.setIfInBounds_toArray, List.set_cons_zero, List.set_cons_succ]
      refine wpAnyH_take (i := 2) (v := ?_) rfl (by kernel_rfl) (by kernel_rfl) (by kernel_rfl) (fun _ _ _ h => h) (Or.inl ⟨by rfl, ?_⟩) Hd ?_
      rotate_left
      · intro wS hSw
        go_simp
        try with_reducible rfl
      try simp only [List.getElem_toArray, List.getElem_cons_zero, List.getElem_cons_succ, Act.put, List.setIfInBounds_toArray, List.set_cons_zero, List.set_cons_succ]
      refine wpAnyH_take (i := 3) (v := ?_) rfl (by kernel_rfl) (by kernel_rfl) (by kernel_rfl) (fun _ _ _ h => h) (Or.inl ⟨by rfl, ?_⟩) Hd ?_
      rotate_left
      · intro wS hSw
        go_simp
        try with_reducible rfl
      try simp only [List.getElem_toArray, List.getElem_cons_zero, List.getElem_cons_succ, Act.put, List.setIfInBounds_toArray, List.set_cons_zero, List.set_cons_succ]
      refine wpAnyH_take (i := 4) (v := ?_) rfl (by kernel_rfl) (by kernel_rfl) (by kernel_rfl) (fun _ _ _ h => h) (Or.inl ⟨by rfl, ?_⟩) Hd ?_
      rotate_left
      · intro wS hSw
        go_simp
        try with_reducible rfl
      try simp only [List.getElem_toArray, List.getElem_cons_zero, List.getElem_cons_succ, Act.put, List.setIfInBounds_toArray, List.set_cons_zero, List.set_cons_succ]
      refine wpAnyH_take (i := 5) (v := ?_) rfl (by kernel_rfl) (by kernel_rfl) (by kernel_rfl) (fun _ _ _ h => h) (Or.inl ⟨by rfl, ?_⟩) Hd ?_
      rotate_left
      · intro wS hSw
        go_simp
        try with_reducible rfl
      try simp only [List.getElem_toArray, List.getElem_cons_zero, List.getElem_cons_succ, Act.put, List.setIfInBounds_toArray, List.set_cons_zero, List.set_cons_succ]
      refine wpAnyH_take (i := 6) (v := ?_) rfl (by kernel_rfl) (by kernel_rfl) (by kernel_rfl) (fun _ _ _ h => h) (Or.inl ⟨by rfl, ?_⟩) Hd ?_
      rotate_left
      · intro wS hSw
        go_simp
        try with_reducible rfl
      try simp only [List.getElem_toArray, List.getElem_cons_zero, List.getElem_cons_succ, Act.put, List.setIfInBounds_toArray, List.set_cons_zero, List.set_cons_succ]
      refine wpAnyH_take (i := 7) (v := ?_) rfl (by kernel_rfl) (by kernel_rfl) (by kernel_rfl) (fun _ _ _ h => h) (Or.inl ⟨by rfl, ?_⟩) Hd ?_
      rotate_left
      · intro wS hSw
        go_simp
        try with_reducible rfl
      try simp only [List.getElem_toArray, List.getElem_cons_zero, List.getElem_cons_succ, Act.put, List.setIfInBounds_toArray, List.set_cons_zero, List.set_cons_succ]
      refine wpAnyH_take (i := 8) (v := ?_) rfl (by kernel_rfl) (by kernel_rfl) (by kernel_rfl) (fun _ _ _ h => h) (Or.inl ⟨by rfl, ?_⟩) Hd ?_
      rotate_left
      · intro wS hSw
        go_simp
        try with_reducible rfl
      try simp only [List.getElem_toArray, List.getElem_cons_zero, List.getElem_cons_succ, Act.put, List.setIfInBounds_toArray, List.set_cons_zero, List.set_cons_succ]
      refine wpAnyH_take (i := 9) (v := ?_) rfl (by kernel_rfl) (by kernel_rfl) (by kernel_rfl) (fun _ _ _ h => h) (Or.inl ⟨by rfl, ?_⟩) Hd ?_
      rotate_left
      · intro wS hSw
        go_simp
        try with_reducible rfl
      try simp only [List.getElem_toArray, List.getElem_cons_zero, List.getElem_cons_succ, Act.put, List.setIfInBounds_toArray, List.set_cons_zero, List.set_cons_succ]
      refine wpAnyH_take (i := 10) (v := ?_) rfl (by kernel_rfl) (by kernel_rfl) (by kernel_rfl) (fun _ _ _ h => h) (Or.inl ⟨by rfl, ?_⟩) Hd ?_
      rotate_left
      · intro wS hSw
        go_simp
        try with_reducible rfl
      try simp only [List.getElem_toArray, List.getElem_cons_zero, List.getElem_cons_succ, Act.put, List.setIfInBounds_toArray, List.set_cons_zero, List.set_cons_succ]
      refine wpAnyH_take (i := 12) (v := .agg (arrK .u8 r)) rfl (by kernel_rfl) (by kernel_rfl) (by kernel_rfl) (fun _ _ _ h => h) (yields_load_blk (by rfl) _ _ rfl (G) rfl 37 (arrK .u8 r) (.array 32 5) (fun W hW => HX6.out.below hW) (by kernel_rfl) rfl (info32 Dr.out.1)) Hd ?_
      try simp only [List.getElem_toArray, List.getElem_cons_zero, List.getElem_cons_succ, Act.put, List.setIfInBounds_toArray, List.set_cons_zero, List.set_cons_succ]
      refine wpAnyH_take (i := 13) (v := ?_) rfl (by kernel_rfl) (by kernel_rfl) (by kernel_rfl) (fun _ _ _ h => h) (Or.inl ⟨by rfl, ?_⟩) Hd ?_
      rotate_left
      · intro wS hSw
        go_simp
        try with_reducible rfl
      try simp only [List.getElem_toArray, List.getElem_cons_zero, List.getElem_cons_succ, Act.put, List.setIfInBounds_toArray, List.set_cons_zero, List.set_cons_succ]
      refine wpAnyH_take (i := 14) (v := ?_) rfl (by kernel_rfl) (by kernel_rfl) (by kernel_rfl) (fun _ _ _ h => h) (Or.inl ⟨by rfl, ?_⟩) Hd ?_
      rotate_left
      · intro wS hSw
        go_simp
        try with_reducible rfl
      try simp only [List.getElem_toArray, List.getElem_cons_zero, List.getElem_cons_succ, Act.put, List.setIfInBounds_toArray, List.set_cons_zero, List.set_cons_succ]
      refine wpAnyH_take (i := 15) (v := ?_) rfl (by kernel_rfl) (by kernel_rfl) (by kernel_rfl) (fun _ _ _ h => h) (Or.inl ⟨by rfl, ?_⟩) Hd ?_
      rotate_left
      · intro wS hSw
        go_simp
        try with_reducible rfl
      try simp only [List.getElem_toArray, List.getElem_cons_zero, List.getElem_cons_succ, Act.put, List.setIfInBounds_toArray, List.set_cons_zero, List.set_cons_succ]
      refine wpAnyH_take (i := 16) (v := ?_) rfl (by kernel_rfl) (by kernel_rfl) (by kernel_rfl) (fun _ _ _ h => h) (Or.inl ⟨by rfl, ?_⟩) Hd ?_
      rotate_left
      · intro wS hSw
        go_simp
        try with_reducible rfl
      try simp only [List.getElem_toArray, List.getElem_cons_zero, List.getElem_cons_succ, Act.put, List.setIfInBounds_toArray, List.set_cons_zero, List.set_cons_succ]
      refine wpAnyH_ready (rs := [11]) (by kernel_rfl) (by simp) (AllReadyH.cons rfl (fun K hK => ?_) AllReadyH.nil)
      go_simp
      refine (HTt.out _ (hHx.out _ Hd)).mono ?_
      rintro e w1_ ⟨rfl, hb1⟩
      have Hb1 : Below w6.heap.size w6 w1_ := below_of Hd hb1 Hd.size
      have Zb1 : w6.heap.size ≤ w1_.heap.size := Nat.le_trans Zd hb1.size
      go_wp2_with (fail)
      refine hK.out _ _ Hb1 fun _ => ?_
      clear hK K
      try simp only [List.getElem_toArray, List.getElem_cons_zero, List.getElem_cons_succ, Act.put, List.setIfInBounds_toArray, List.set_cons_zero, List.set_cons_succ]
      refine wpAnyH_ready (rs := [17]) (by kernel_rfl) (by simp) (AllReadyH.cons rfl (fun K hK => ?_) AllReadyH.nil)
      go_simp
      refine (HG1.out _ Hb1).mono ?_
      rintro e w2_ ⟨rfl, hb2⟩
      have Hb2 : Below w6.heap.size w6 w2_ := below_of Hb1 hb2 Hb1.size
      have Zb2 : w6.heap.size ≤ w2_.heap.size := Nat.le_trans Zb1 hb2.size
      go_wp2_with (fail)
      refine hK.out _ _ Hb2 fun _ => ?_
      clear hK K
      try simp only [List.getElem_toArray, List.getElem_cons_zero, List.getElem_cons_succ, Act.put, List.setIfInBounds_toArray, List.set_cons_zero, List.set_cons_succ]
      refine wpAnyH_take (i := 18) (v := ?_) rfl (by kernel_rfl) (by kernel_rfl) (by kernel_rfl) (fun _ _ _ h => h) (Or.inl ⟨by rfl, ?_⟩) Hb2 ?_
      rotate_left
      · intro wS hSw
        go_simp
        try with_reducible rfl
      try simp only [List.getElem_toArray, List.getElem_cons_zero, List.getElem_cons_succ, Act.put, List.setIfInBounds_toArray, List.set_cons_zero, List.set_cons_succ]
      refine wpAnyH_take (i := 19) (v := ?_) rfl (by kernel_rfl) (by kernel_rfl) (by kernel_rfl) (fun _ _ _ h => h) (Or.inl ⟨by rfl, ?_⟩) Hb2 ?_
      rotate_left
      · intro wS hSw
        go_simp
        try with_reducible rfl
      try simp only [List.getElem_toArray, List.getElem_cons_zero, List.getElem_cons_succ, Act.put, List.setIfInBounds_toArray, List.set_cons_zero, List.set_cons_succ]
      refine wpAnyH_done (by kernel_rfl) ?_ _
      obtain ⟨w9, hw9⟩ : ∃ w9, w9 = w2_ := ⟨_, rfl⟩
      subst hw9
      have HX9 := Lib.hid (HX6.out.below Hb2)
      have HCp9 := Lib.hid (HCp.out.below Hb2)
      have HB9 := Lib.hid (hHx.out _ Hb2)
      have hHx9 := Lib.hid (fun W (h : Below w9.heap.size w9 W) => below_of HB9.out h HB9.out.size)
      clear Hd HX6 HCp hHx
      have hHx := hHx9
      go_upto_region 11 with (fail)
      refine wp_region_held_drew (S := fun W => Below w9.heap.size w9 W) (by kernel_rfl) (below_drewN (Below.refl _ _) 1) (fun Hd => ?_)
      have Hd : Below w9.heap.size w9 w9.drew := below_drewN (Below.refl _ _) 1
      have Zd : w9.heap.size ≤ w9.drew.heap.size := Nat.le_refl _
      generalize World.drew w9 = wd at *
      refine wpAnyH_take (i := 0) (v := ?_) rfl (by kernel_rfl) (by kernel_rfl) (by kernel_rfl) (fun _ _ _ h => h) (Or.inl ⟨by rfl, ?_⟩) Hd ?_
      rotate_left
      · intro wS hSw
        go_simp
        try with_reducible rfl
      try simp only [List.getElem_toArray, List.getElem_cons_zero, List.getElem_cons_succ, Act.put, List.setIfInBounds_toArray, List.set_cons_zero, List.set_cons_succ]
      refine wpAnyH_take (i := 1) (v := ?_) rfl (by kernel_rfl) (by kernel_rfl) (by kernel_rfl) (fun _ _ _ h => h) (Or.inl ⟨by rfl, ?_⟩) Hd ?_
      rotate_left
      · intro wS hSw
        go_simp
        try with_reducible rfl
      try simp only [List.getElem_toArray, List.getElem_cons_zero, List.getElem_cons_succ, Act.put, List.setIfInBounds_toArray, List.set_cons_zero, List.set_cons_succ]
      refine wpAnyH_take (i := 2) (v := ?_) rfl (by kernel_rfl) (by kernel_rfl) (by kernel_rfl) (fun _ _ _ h => h) (Or.inl ⟨by rfl, ?_⟩) Hd ?_
      rotate_left
      · intro wS hSw
        go_simp
        try with_reducible rfl
      try simp only [List.getElem_toArray, List.getElem_cons_zero, List.getElem_cons_succ, Act.put, List.setIfInBounds_toArray, List.set_cons_zero, List.set_cons_succ]
      refine wpAnyH_take (i := 4) (v := .agg (arrK .u8 r)) rfl (by kernel_rfl) (by kernel_rfl) (by kernel_rfl) (fun _ _ _ h => h) (yields_load_blk (by rfl) _ _ rfl (G) rfl 37 (arrK .u8 r) (.array 32 5) (fun W hW => HX9.out.below hW) (by kernel_rfl) rfl (info32 Dr.out.1)) Hd ?_
      try simp only [List.getElem_toArray, List.getElem_cons_zero, List.getElem_cons_succ, Act.put, List.setIfInBounds_toArray, List.set_cons_zero, List.set_cons_succ]
      refine wpAnyH_take (i := 5) (v := ?_) rfl (by kernel_rfl) (by kernel_rfl) (by kernel_rfl) (fun _ _ _ h => h) (Or.inl ⟨by rfl, ?_⟩) Hd ?_
      rotate_left
      · intro wS hSw
        go_simp
        try with_reducible rfl
      try simp only [List.getElem_toArray, List.getElem_cons_zero, List.getElem_cons_succ, Act.put, List.setIfInBounds_toArray, List.set_cons_zero, List.set_cons_succ]
      refine wpAnyH_take (i := 6) (v := ?_) rfl (by kernel_rfl) (by kernel_rfl) (by kernel_rfl) (fun _ _ _ h => h) (Or.inl ⟨by rfl, ?_⟩) Hd ?_
      rotate_left
      · intro wS hSw
        go_simp
        try with_reducible rfl
      try simp only [List.getElem_toArray, List.getElem_cons_zero, List.getElem_cons_succ, Act.put, List.setIfInBounds_toArray, List.set_cons_zero, List.set_cons_succ]
      refine wpAnyH_take (i := 7) (v := ?_) rfl (by kernel_rfl) (by kernel_rfl) (by kernel_rfl) (fun _ _ _ h => h) (Or.inl ⟨by rfl, ?_⟩) Hd ?_
      rotate_left
      · intro wS hSw
        go_simp
        try with_reducible rfl
      try simp only [List.getElem_toArray, List.getElem_cons_zero, List.getElem_cons_succ, Act.put, List.setIfInBounds_toArray, List.set_cons_zero, List.set_cons_succ]
      refine wpAnyH_take (i := 9) (v := ?_) rfl (by kernel_rfl) (by kernel_rfl) (by kernel_rfl) (fun _ _ _ h => h) (Or.inl ⟨by rfl, ?_⟩) Hd ?_
      rotate_left
      · intro wS hSw
        go_simp
        try with_reducible rfl
      try simp only [List.getElem_toArray, List.getElem_cons_zero, List.getElem_cons_succ, Act.put, List.setIfInBounds_toArray, List.set_cons_zero, List.set_cons_succ]
      refine wpAnyH_take (i := 11) (v := .agg (arrK .u8 r)) rfl (by kernel_rfl) (by kernel_rfl) (by kernel_rfl) (fun _ _ _ h => h) (yields_load_blk (by rfl) _ _ rfl (G) rfl 37 (arrK .u8 r) (.array 32 5) (fun W hW => HX9.out.below hW) (by kernel_rfl) rfl (info32 Dr.out.1)) Hd ?_
      try simp only [List.getElem_toArray, List.getElem_cons_zero, List.getElem_cons_succ, Act.put, List.setIfInBounds_toArray, List.set_cons_zero, List.set_cons_succ]
      refine wpAnyH_ready (rs := [3, 8, 12]) (by kernel_rfl) (by simp) (AllReadyH.cons rfl (fun K hK => ?_) (AllReadyH.cons rfl (fun K hK => ?_) (AllReadyH.cons rfl (fun K hK => ?_) AllReadyH.nil)))
      · go_simp
        refine (HTt.out _ (hHx.out _ Hd)).mono ?_
        rintro e w1_ ⟨rfl, hb1⟩
        have Hb1 : Below w9.heap.size w9 w1_ := below_of Hd hb1 Hd.size
        have Zb1 : w9.heap.size ≤ w1_.heap.size := Nat.le_trans Zd hb1.size
        go_wp2_with (fail)
        refine hK.out _ _ Hb1 fun _ => ?_
        clear hK K
        try simp only [List.getElem_toArray, List.getElem_cons_zero, List.getElem_cons_succ, Act.put, List.setIfInBounds_toArray, List.set_cons_zero, List.set_cons_succ]
        refine wpAnyH_ready (rs := [8, 12]) (by kernel_rfl) (by simp) (AllReadyH.cons rfl (fun K hK => ?_) (AllReadyH.cons rfl (fun K hK => ?_) AllReadyH.nil))
        · go_simp
          generalize hge : World.alloc _ _ = w2_
          have fo2 : w2_.ownsRow (w9.heap.size) 37 32 (.slice (some ⟨w1_.heap.size, 0, none⟩) 0 0) 0 (bytesV ([] : List (List Nat)).flatten) := by subst hge; exact ownD_empty w1_ _ Zb1
          have hb2 : Below w1_.heap.size w1_ w2_ := by subst hge; exact (Below.refl _ _).alloc (Nat.le_refl _) _
          clear hge
          have Hb2 : Below w9.heap.size w9 w2_ := below_of Hb1 hb2 Hb1.size
          have Zb2 : w9.heap.size ≤ w2_.heap.size := Nat.le_trans Zb1 hb2.size
          refine hK.out _ _ Hb2 fun _ => ?_
          clear hK K
          try simp only [List.getElem_toArray, List.getElem_cons_zero, List.getElem_cons_succ, Act.put, List.setIfInBounds_toArray, List.set_cons_zero, List.set_cons_succ]
          refine wpAnyH_ready (rs := [10, 12]) (by kernel_rfl) (by simp) (AllReadyH.cons rfl (fun K hK => ?_) (AllReadyH.cons rfl (fun K hK => ?_) AllReadyH.nil))
          · refine step_addDs (by rfl) (.tmp 54) (.tmp 55) (by rfl) (w9.heap.size) (.slice (some ⟨w1_.heap.size, 0, none⟩) 0 0) (0) (([] : List (List Nat))) fo2 (by rfl) Ap q cp p Hpq.out HpL.out (HCp9.out.below Hb2) (by rfl) (by omega) Zb2 ?_
            intro v3 w3_ fo3 hg3 st3
            have Hb3 : Below w9.heap.size w9 w3_ := below_grown Hb2 hg3 Hb2.size (own_base fo2)
            have Zb3 : w9.heap.size ≤ w3_.heap.size := Nat.le_trans Zb2 hg3.size
            obtain ⟨A3, c3, rfl, le3, lm3, -⟩ := own_form fo3
            rw [Nat.zero_add] at fo3 le3 
            simp only [Nat.zero_add]
            refine hK.out _ _ Hb3 fun _ => ?_
            clear hK K
            try simp only [List.getElem_toArray, List.getElem_cons_zero, List.getElem_cons_succ, Act.put, List.setIfInBounds_toArray, List.set_cons_zero, List.set_cons_succ]
            refine wpAnyH_ready (rs := [12]) (by kernel_rfl) (by simp) (AllReadyH.cons rfl (fun K hK => ?_) AllReadyH.nil)
            refine step_oneD (by rfl) _ (by rfl) (r) Dr.out (by rfl) ?_
            generalize hge : World.alloc _ _ = w4_
            have fx4 : Blk w4_ w3_.heap.size 37 (arrK .u8 (r)) := by subst hge; exact Blk.new _ _ _
            have hb4 : Below w3_.heap.size w3_ w4_ := by subst hge; exact (Below.refl _ _).alloc (Nat.le_refl _) _
            clear hge
            have fo4 := own_below fo3 hb4
            have apox4 := apart_new fo3
            have lox4 : w9.heap.size ≤ w3_.heap.size := Zb3
            have Hb4 : Below w9.heap.size w9 w4_ := below_of Hb3 hb4 Hb3.size
            have Zb4 : w9.heap.size ≤ w4_.heap.size := Nat.le_trans Zb3 hb4.size
            refine hK.out _ _ Hb4 fun _ => ?_
            clear hK K
            try simp only [List.getElem_toArray, List.getElem_cons_zero, List.getElem_cons_succ, Act.put, List.setIfInBounds_toArray, List.set_cons_zero, List.set_cons_succ]
            refine wpAnyH_ready (rs := [13]) (by kernel_rfl) (by simp) (AllReadyH.cons rfl (fun K hK => ?_) AllReadyH.nil)
            refine step_pushDs (by rfl) (.tmp 56) (.tmp 58) (by rfl) (w9.heap.size) (.slice A3 (q) c3) (q) ((([] : List (List Nat)) ++ p)) (r) fo4 (by rfl) (w3_.heap.size) fx4 Dr.out (by rfl) (by omega) Zb4 ?_
            intro v5 w5_ fo5 hg5 st5
            have apox5 := apart_sits st5 apox4 fx4.lt
            have fx5 := fx4.grown hg5 (fun e => apox4 e.symm)
            have Hb5 : Below w9.heap.size w9 w5_ := below_grown Hb4 hg5 Hb4.size (own_base fo4)
            have Zb5 : w9.heap.size ≤ w5_.heap.size := Nat.le_trans Zb4 hg5.size
            obtain ⟨A5, c5, rfl, le5, lm5, -⟩ := own_form fo5
            refine hK.out _ _ Hb5 fun _ => ?_
            clear hK K
            try simp only [List.getElem_toArray, List.getElem_cons_zero, List.getElem_cons_succ, Act.put, List.setIfInBounds_toArray, List.set_cons_zero, List.set_cons_succ]
            refine wpAnyH_ready (rs := [14]) (by kernel_rfl) (by simp) (AllReadyH.cons rfl (fun K hK => ?_) AllReadyH.nil)
            go_simp
            refine (HG2.out A5 c5 _ (by omega) (by have := Cells.own fo5; rwa [List.nil_append] at this)).mono ?_
            rintro e w6_ ⟨rfl, hb6⟩
            have fx6 := fx5.below hb6
            have fo6 := own_below fo5 hb6
            have Hb6 : Below w9.heap.size w9 w6_ := below_of Hb5 hb6 Hb5.size
            have Zb6 : w9.heap.size ≤ w6_.heap.size := Nat.le_trans Zb5 hb6.size
            go_wp2_with (fail)
            refine hK.out _ _ Hb6 fun _ => ?_
            clear hK K
            try simp only [List.getElem_toArray, List.getElem_cons_zero, List.getElem_cons_succ, Act.put, List.setIfInBounds_toArray, List.set_cons_zero, List.set_cons_succ]
            refine wpAnyH_done (by kernel_rfl) ?_ _
            go_wp2_with (fail)
            go_roundw
            case rel => exact ⟨k + 1, by omega, by omega, by go_num, HB9.out.trans (Hb6.mono HB9.out.size)⟩
            case measure => simp [intOf]; omega
          · refine step_oneD (by rfl) _ (by rfl) (r) Dr.out (by rfl) ?_
            generalize hge : World.alloc _ _ = w3_
            have fx3 : Blk w3_ w2_.heap.size 37 (arrK .u8 (r)) := by subst hge; exact Blk.new _ _ _
            have hb3 : Below w2_.heap.size w2_ w3_ := by subst hge; exact (Below.refl _ _).alloc (Nat.le_refl _) _
            clear hge
            have fo3 := own_below fo2 hb3
            have apox3 := apart_new fo2
            have lox3 : w9.heap.size ≤ w2_.heap.size := Zb2
            have Hb3 : Below w9.heap.size w9 w3_ := below_of Hb2 hb3 Hb2.size
            have Zb3 : w9.heap.size ≤ w3_.heap.size := Nat.le_trans Zb2 hb3.size
            refine hK.out _ _ Hb3 fun _ => ?_
            clear hK K
            try simp only [List.getElem_toArray, List.getElem_cons_zero, List.getElem_cons_succ, Act.put, List.setIfInBounds_toArray, List.set_cons_zero, List.set_cons_succ]
            refine wpAnyH_ready (rs := [10]) (by kernel_rfl) (by simp) (AllReadyH.cons rfl (fun K hK => ?_) AllReadyH.nil)
            refine step_addDs (by rfl) (.tmp 54) (.tmp 55) (by rfl) (w9.heap.size) (.slice (some ⟨w1_.heap.size, 0, none⟩) 0 0) (0) (([] : List (List Nat))) fo3 (by rfl) Ap q cp p Hpq.out HpL.out (HCp9.out.below Hb3) (by rfl) (by omega) Zb3 ?_
            intro v4 w4_ fo4 hg4 st4
            have apox4 := apart_sits st4 apox3 fx3.lt
            have fx4 := fx3.grown hg4 (fun e => apox3 e.symm)
            have Hb4 : Below w9.heap.size w9 w4_ := below_grown Hb3 hg4 Hb3.size (own_base fo3)
            have Zb4 : w9.heap.size ≤ w4_.heap.size := Nat.le_trans Zb3 hg4.size
            obtain ⟨A4, c4, rfl, le4, lm4, -⟩ := own_form fo4
            rw [Nat.zero_add] at fo4 le4 apox4
            simp only [Nat.zero_add]
            refine hK.out _ _ Hb4 fun _ => ?_
            clear hK K
            try simp only [List.getElem_toArray, List.getElem_cons_zero, List.getElem_cons_succ, Act.put, List.setIfInBounds_toArray, List.set_cons_zero, List.set_cons_succ]
            refine wpAnyH_ready (rs := [13]) (by kernel_rfl) (by simp) (AllReadyH.cons rfl (fun K hK => ?_) AllReadyH.nil)
            refine step_pushDs (by rfl) (.tmp 56) (.tmp 58) (by rfl) (w9.heap.size) (.slice A4 (q) c4) (q) ((([] : List (List Nat)) ++ p)) (r) fo4 (by rfl) (w2_.heap.size) fx4 Dr.out (by rfl) (by omega) Zb4 ?_
            intro v5 w5_ fo5 hg5 st5
            have apox5 := apart_sits st5 apox4 fx4.lt
            have fx5 := fx4.grown hg5 (fun e => apox4 e.symm)
            have Hb5 : Below w9.heap.size w9 w5_ := below_grown Hb4 hg5 Hb4.size (own_base fo4)
            have Zb5 : w9.heap.size ≤ w5_.heap.size := Nat.le_trans Zb4 hg5.size
            obtain ⟨A5, c5, rfl, le5, lm5, -⟩ := own_form fo5
            refine hK.out _ _ Hb5 fun _ => ?_
            clear hK K
            try simp only [List.getElem_toArray, List.getElem_cons_zero, List.getElem_cons_succ, Act.put, List.setIfInBounds_toArray, List.set_cons_zero, List.set_cons_succ]
            refine wpAnyH_ready (rs := [14]) (by kernel_rfl) (by simp) (AllReadyH.cons rfl (fun K hK => ?_) AllReadyH.nil)
            go_simp
            refine (HG2.out A5 c5 _ (by omega) (by have := Cells.own fo5; rwa [List.nil_append] at this)).mono ?_
            rintro e w6_ ⟨rfl, hb6⟩
            have fx6 := fx5.below hb6
            have fo6 := own_below fo5 hb6
            have Hb6 : Below w9.heap.size w9 w6_ := below_of Hb5 hb6 Hb5.size
            have Zb6 : w9.heap.size ≤ w6_.heap.size := Nat.le_trans Zb5 hb6.size
            go_wp2_with (fail)
            refine hK.out _ _ Hb6 fun _ => ?_
            clear hK K
            try simp only [List.getElem_toArray, List.getElem_cons_zero, List.getElem_cons_succ, Act.put, List.setIfInBounds_toArray, List.set_cons_zero, List.set_cons_succ]
            refine wpAnyH_done (by kernel_rfl) ?_ _
            go_wp2_with (fail)
            go_roundw
            case rel => exact ⟨k + 1, by omega, by omega, by go_num, HB9.out.trans (Hb6.mono HB9.out.size)⟩
            case measure => simp [intOf]; omega
        · refine step_oneD (by rfl) _ (by rfl) (r) Dr.out (by rfl) ?_
          generalize hge : World.alloc _ _ = w2_
          have fx2 : Blk w2_ w1_.heap.size 37 (arrK .u8 (r)) := by subst hge; exact Blk.new _ _ _
          have hb2 : Below w1_.heap.size w1_ w2_ := by subst hge; exact (Below.refl _ _).alloc (Nat.le_refl _) _
          clear hge
          have lox2 : w9.heap.size ≤ w1_.heap.size := Zb1
          have Hb2 : Below w9.heap.size w9 w2_ := below_of Hb1 hb2 Hb1.size
          have Zb2 : w9.heap.size ≤ w2_.heap.size := Nat.le_trans Zb1 hb2.size
          refine hK.out _ _ Hb2 fun _ => ?_
          clear hK K
          try simp only [List.getElem_toArray, List.getElem_cons_zero, List.getElem_cons_succ, Act.put, List.setIfInBounds_toArray, List.set_cons_zero, List.set_cons_succ]
          refine wpAnyH_ready (rs := [8]) (by kernel_rfl) (by simp) (AllReadyH.cons rfl (fun K hK => ?_) AllReadyH.nil)
          go_simp
          generalize hge : World.alloc _ _ = w3_
          have fo3 : w3_.ownsRow (w9.heap.size) 37 32 (.slice (some ⟨w2_.heap.size, 0, none⟩) 0 0) 0 (bytesV ([] : List (List Nat)).flatten) := by subst hge; exact ownD_empty w2_ _ Zb2
          have hb3 : Below w2_.heap.size w2_ w3_ := by subst hge; exact (Below.refl _ _).alloc (Nat.le_refl _) _
          clear hge
          have fx3 := fx2.below hb3
          have apox3 : Apart (.slice (some ⟨w2_.heap.size, 0, none⟩) 0 0) (w1_.heap.size) := apart_lit fx2.lt
          have Hb3 : Below w9.heap.size w9 w3_ := below_of Hb2 hb3 Hb2.size
          have Zb3 : w9.heap.size ≤ w3_.heap.size := Nat.le_trans Zb2 hb3.size
          refine hK.out _ _ Hb3 fun _ => ?_
          clear hK K
          try simp only [List.getElem_toArray, List.getElem_cons_zero, List.getElem_cons_succ, Act.put, List.setIfInBounds_toArray, List.set_cons_zero, List.set_cons_succ]
          refine wpAnyH_ready (rs := [10]) (by kernel_rfl) (by simp) (AllReadyH.cons rfl (fun K hK => ?_) AllReadyH.nil)
          refine step_addDs (by rfl) (.tmp 54) (.tmp 55) (by rfl) (w9.heap.size) (.slice (some ⟨w2_.heap.size, 0, none⟩) 0 0) (0) (([] : List (List Nat))) fo3 (by rfl) Ap q cp p Hpq.out HpL.out (HCp9.out.below Hb3) (by rfl) (by omega) Zb3 ?_
          intro v4 w4_ fo4 hg4 st4
          have apox4 := apart_sits st4 apox3 fx3.lt
          have fx4 := fx3.grown hg4 (fun e => apox3 e.symm)
          have Hb4 : Below w9.heap.size w9 w4_ := below_grown Hb3 hg4 Hb3.size (own_base fo3)
          have Zb4 : w9.heap.size ≤ w4_.heap.size := Nat.le_trans Zb3 hg4.size
          obtain ⟨A4, c4, rfl, le4, lm4, -⟩ := own_form fo4
          rw [Nat.zero_add] at fo4 le4 apox4
          simp only [Nat.zero_add]
          refine hK.out _ _ Hb4 fun _ => ?_
          clear hK K
          try simp only [List.getElem_toArray, List.getElem_cons_zero, List.getElem_cons_succ, Act.put, List.setIfInBounds_toArray, List.set_cons_zero, List.set_cons_succ]
          refine wpAnyH_ready (rs := [13]) (by kernel_rfl) (by simp) (AllReadyH.cons rfl (fun K hK => ?_) AllReadyH.nil)
          refine step_pushDs (by rfl) (.tmp 56) (.tmp 58) (by rfl) (w9.heap.size) (.slice A4 (q) c4) (q) ((([] : List (List Nat)) ++ p)) (r) fo4 (by rfl) (w1_.heap.size) fx4 Dr.out (by rfl) (by omega) Zb4 ?_
          intro v5 w5_ fo5 hg5 st5
          have apox5 := apart_sits st5 apox4 fx4.lt
          have fx5 := fx4.grown hg5 (fun e => apox4 e.symm)
          have Hb5 : Below w9.heap.size w9 w5_ := below_grown Hb4 hg5 Hb4.size (own_base fo4)
          have Zb5 : w9.heap.size ≤ w5_.heap.size := Nat.le_trans Zb4 hg5.size
          obtain ⟨A5, c5, rfl, le5, lm5, -⟩ := own_form fo5
          refine hK.out _ _ Hb5 fun _ => ?_
          clear hK K
          try simp only [List.getElem_toArray, List.getElem_cons_zero, List.getElem_cons_succ, Act.put, List.setIfInBounds_toArray, List.set_cons_zero, List.set_cons_succ]
          refine wpAnyH_ready (rs := [14]) (by kernel_rfl) (by simp) (AllReadyH.cons rfl (fun K hK => ?_) AllReadyH.nil)
          go_simp
          refine (HG2.out A5 c5 _ (by omega) (by have := Cells.own fo5; rwa [List.nil_append] at this)).mono ?_
          rintro e w6_ ⟨rfl, hb6⟩
          have fx6 := fx5.below hb6
          have fo6 := own_below fo5 hb6
          have Hb6 : Below w9.heap.size w9 w6_ := below_of Hb5 hb6 Hb5.size
          have Zb6 : w9.heap.size ≤ w6_.heap.size := Nat.le_trans Zb5 hb6.size
          go_wp2_with (fail)
          refine hK.out _ _ Hb6 fun _ => ?_
          clear hK K
          try simp only [List.getElem_toArray, List.getElem_cons_zero, List.getElem_cons_succ, Act.put, List.setIfInBounds_toArray, List.set_cons_zero, List.set_cons_succ]
          refine wpAnyH_done (by kernel_rfl) ?_ _
          go_wp2_with (fail)
          go_roundw
          case rel => exact ⟨k + 1, by omega, by omega, by go_num, HB9.out.trans (Hb6.mono HB9.out.size)⟩
          case measure => simp [intOf]; omega
      · go_simp
        generalize hge : World.alloc _ _ = w1_
        have fo1 : w1_.ownsRow (w9.heap.size) 37 32 (.slice (some ⟨wd.heap.size, 0, none⟩) 0 0) 0 (bytesV ([] : List (List Nat)).flatten) := by subst hge; exact ownD_empty wd _ Zd
        have hb1 : Below wd.heap.size wd w1_ := by subst hge; exact (Below.refl _ _).alloc (Nat.le_refl _) _
        clear hge
        have Hb1 : Below w9.heap.size w9 w1_ := below_of Hd hb1 Hd.size
        have Zb1 : w9.heap.size ≤ w1_.heap.size := Nat.le_trans Zd hb1.size
        refine hK.out _ _ Hb1 fun _ => ?_
        clear hK K
        try simp only [List.getElem_toArray, List.getElem_cons_zero, List.getElem_cons_succ, Act.put, List.setIfInBounds_toArray, List.set_cons_zero, List.set_cons_succ]
        refine wpAnyH_ready (rs := [3, 12]) (by kernel_rfl) (by simp) (AllReadyH.cons rfl (fun K hK => ?_) (AllReadyH.cons rfl (fun K hK => ?_) AllReadyH.nil))
        · go_simp
          refine (HTt.out _ (hHx.out _ Hb1)).mono ?_
          rintro e w2_ ⟨rfl, hb2⟩
          have fo2 := own_below fo1 hb2
          have Hb2 : Below w9.heap.size w9 w2_ := below_of Hb1 hb2 Hb1.size
          have Zb2 : w9.heap.size ≤ w2_.heap.size := Nat.le_trans Zb1 hb2.size
          go_wp2_with (fail)
          refine hK.out _ _ Hb2 fun _ => ?_
          clear hK K
          try simp only [List.getElem_toArray, List.getElem_cons_zero, List.getElem_cons_succ, Act.put, List.setIfInBounds_toArray, List.set_cons_zero, List.set_cons_succ]
          refine wpAnyH_ready (rs := [10, 12]) (by kernel_rfl) (by simp) (AllReadyH.cons rfl (fun K hK => ?_) (AllReadyH.cons rfl (fun K hK => ?_) AllReadyH.nil))
          · refine step_addDs (by rfl) (.tmp 54) (.tmp 55) (by rfl) (w9.heap.size) (.slice (some ⟨wd.heap.size, 0, none⟩) 0 0) (0) (([] : List (List Nat))) fo2 (by rfl) Ap q cp p Hpq.out HpL.out (HCp9.out.below Hb2) (by rfl) (by omega) Zb2 ?_
            intro v3 w3_ fo3 hg3 st3
            have Hb3 : Below w9.heap.size w9 w3_ := below_grown Hb2 hg3 Hb2.size (own_base fo2)
            have Zb3 : w9.heap.size ≤ w3_.heap.size := Nat.le_trans Zb2 hg3.size
            obtain ⟨A3, c3, rfl, le3, lm3, -⟩ := own_form fo3
            rw [Nat.zero_add] at fo3 le3 
            simp only [Nat.zero_add]
            refine hK.out _ _ Hb3 fun _ => ?_
            clear hK K
            try simp only [List.getElem_toArray, List.getElem_cons_zero, List.getElem_cons_succ, Act.put, List.setIfInBounds_toArray, List.set_cons_zero, List.set_cons_succ]
            refine wpAnyH_ready (rs := [12]) (by kernel_rfl) (by simp) (AllReadyH.cons rfl (fun K hK => ?_) AllReadyH.nil)
            refine step_oneD (by rfl) _ (by rfl) (r) Dr.out (by rfl) ?_
            generalize hge : World.alloc _ _ = w4_
            have fx4 : Blk w4_ w3_.heap.size 37 (arrK .u8 (r)) := by subst hge; exact Blk.new _ _ _
            have hb4 : Below w3_.heap.size w3_ w4_ := by subst hge; exact (Below.refl _ _).alloc (Nat.le_refl _) _
            clear hge
            have fo4 := own_below fo3 hb4
            have apox4 := apart_new fo3
            have lox4 : w9.heap.size ≤ w3_.heap.size := Zb3
            have Hb4 : Below w9.heap.size w9 w4_ := below_of Hb3 hb4 Hb3.size
            have Zb4 : w9.heap.size ≤ w4_.heap.size := Nat.le_trans Zb3 hb4.size
            refine hK.out _ _ Hb4 fun _ => ?_
            clear hK K
            try simp only [List.getElem_toArray, List.getElem_cons_zero, List.getElem_cons_succ, Act.put, List.setIfInBounds_toArray, List.set_cons_zero, List.set_cons_succ]
            refine wpAnyH_ready (rs := [13]) (by kernel_rfl) (by simp) (AllReadyH.cons rfl (fun K hK => ?_) AllReadyH.nil)
            refine step_pushDs (by rfl) (.tmp 56) (.tmp 58) (by rfl) (w9.heap.size) (.slice A3 (q) c3) (q) ((([] : List (List Nat)) ++ p)) (r) fo4 (by rfl) (w3_.heap.size) fx4 Dr.out (by rfl) (by omega) Zb4 ?_
            intro v5 w5_ fo5 hg5 st5
            have apox5 := apart_sits st5 apox4 fx4.lt
            have fx5 := fx4.grown hg5 (fun e => apox4 e.symm)
            have Hb5 : Below w9.heap.size w9 w5_ := below_grown Hb4 hg5 Hb4.size (own_base fo4)
            have Zb5 : w9.heap.size ≤ w5_.heap.size := Nat.le_trans Zb4 hg5.size
            obtain ⟨A5, c5, rfl, le5, lm5, -⟩ := own_form fo5
            refine hK.out _ _ Hb5 fun _ => ?_
            clear hK K
            try simp only [List.getElem_toArray, List.getElem_cons_zero, List.getElem_cons_succ, Act.put, List.setIfInBounds_toArray, List.set_cons_zero, List.set_cons_succ]
            refine wpAnyH_ready (rs := [14]) (by kernel_rfl) (by simp) (AllReadyH.cons rfl (fun K hK => ?_) AllReadyH.nil)
            go_simp
            refine (HG2.out A5 c5 _ (by omega) (by have := Cells.own fo5; rwa [List.nil_append] at this)).mono ?_
            rintro e w6_ ⟨rfl, hb6⟩
            have fx6 := fx5.below hb6
            have fo6 := own_below fo5 hb6
            have Hb6 : Below w9.heap.size w9 w6_ := below_of Hb5 hb6 Hb5.size
            have Zb6 : w9.heap.size ≤ w6_.heap.size := Nat.le_trans Zb5 hb6.size
            go_wp2_with (fail)
            refine hK.out _ _ Hb6 fun _ => ?_
            clear hK K
            try simp only [List.getElem_toArray, List.getElem_cons_zero, List.getElem_cons_succ, Act.put, List.setIfInBounds_toArray, List.set_cons_zero, List.set_cons_succ]
            refine wpAnyH_done (by kernel_rfl) ?_ _
            go_wp2_with (fail)
            go_roundw
            case rel => exact ⟨k + 1, by omega, by omega, by go_num, HB9.out.trans (Hb6.mono HB9.out.size)⟩
            case measure => simp [intOf]; omega
          · refine step_oneD (by rfl) _ (by rfl) (r) Dr.out (by rfl) ?_
            generalize hge : World.alloc _ _ = w3_
            have fx3 : Blk w3_ w2_.heap.size 37 (arrK .u8 (r)) := by subst hge; exact Blk.new _ _ _
            have hb3 : Below w2_.heap.size w2_ w3_ := by subst hge; exact (Below.refl _ _).alloc (Nat.le_refl _) _
            clear hge
            have fo3 := own_below fo2 hb3
            have apox3 := apart_new fo2
            have lox3 : w9.heap.size ≤ w2_.heap.size := Zb2
            have Hb3 : Below w9.heap.size w9 w3_ := below_of Hb2 hb3 Hb2.size
            have Zb3 : w9.heap.size ≤ w3_.heap.size := Nat.le_trans Zb2 hb3.size
            refine hK.out _ _ Hb3 fun _ => ?_
            clear hK K
            try simp only [List.getElem_toArray, List.getElem_cons_zero, List.getElem_cons_succ, Act.put, List.setIfInBounds_toArray, List.set_cons_zero, List.set_cons_succ]
            refine wpAnyH_ready (rs := [10]) (by kernel_rfl) (by simp) (AllReadyH.cons rfl (fun K hK => ?_) AllReadyH.nil)
            refine step_addDs (by rfl) (.tmp 54) (.tmp 55) (by rfl) (w9.heap.size) (.slice (some ⟨wd.heap.size, 0, none⟩) 0 0) (0) (([] : List (List Nat))) fo3 (by rfl) Ap q cp p Hpq.out HpL.out (HCp9.out.below Hb3) (by rfl) (by omega) Zb3 ?_
            intro v4 w4_ fo4 hg4 st4
            have apox4 := apart_sits st4 apox3 fx3.lt
            have fx4 := fx3.grown hg4 (fun e => apox3 e.symm)
            have Hb4 : Below w9.heap.size w9 w4_ := below_grown Hb3 hg4 Hb3.size (own_base fo3)
            have Zb4 : w9.heap.size ≤ w4_.heap.size := Nat.le_trans Zb3 hg4.size
            obtain ⟨A4, c4, rfl, le4, lm4, -⟩ := own_form fo4
            rw [Nat.zero_add] at fo4 le4 apox4
            simp only [Nat.zero_add]
            refine hK.out _ _ Hb4 fun _ => ?_
            clear hK K
            try simp only [List.getElem_toArray, List.getElem_cons_zero, List.getElem_cons_succ, Act.put, List.setIfInBounds_toArray, List.set_cons_zero, List.set_cons_succ]
            refine wpAnyH_ready (rs := [13]) (by kernel_rfl) (by simp) (AllReadyH.cons rfl (fun K hK => ?_) AllReadyH.nil)
            refine step_pushDs (by rfl) (.tmp 56) (.tmp 58) (by rfl) (w9.heap.size) (.slice A4 (q) c4) (q) ((([] : List (List Nat)) ++ p)) (r) fo4 (by rfl) (w2_.heap.size) fx4 Dr.out (by rfl) (by omega) Zb4 ?_
            intro v5 w5_ fo5 hg5 st5
            have apox5 := apart_sits st5 apox4 fx4.lt
            have fx5 := fx4.grown hg5 (fun e => apox4 e.symm)
            have Hb5 : Below w9.heap.size w9 w5_ := below_grown Hb4 hg5 Hb4.size (own_base fo4)
            have Zb5 : w9.heap.size ≤ w5_.heap.size := Nat.le_trans Zb4 hg5.size
            obtain ⟨A5, c5, rfl, le5, lm5, -⟩ := own_form fo5
            refine hK.out _ _ Hb5 fun _ => ?_
            clear hK K
            try simp only [List.getElem_toArray, List.getElem_cons_zero, List.getElem_cons_succ, Act.put, List.setIfInBounds_toArray, List.set_cons_zero, List.set_cons_succ]
            refine wpAnyH_ready (rs := [14]) (by kernel_rfl) (by simp) (AllReadyH.cons rfl (fun K hK => ?_) AllReadyH.nil)
            go_simp
            refine (HG2.out A5 c5 _ (by omega) (by have := Cells.own fo5; rwa [List.nil_append] at this)).mono ?_
            rintro e w6_ ⟨rfl, hb6⟩
            have fx6 := fx5.below hb6
            have fo6 := own_below fo5 hb6
            have Hb6 : Below w9.heap.size w9 w6_ := below_of Hb5 hb6 Hb5.size
            have Zb6 : w9.heap.size ≤ w6_.heap.size := Nat.le_trans Zb5 hb6.size
            go_wp2_with (fail)
            refine hK.out _ _ Hb6 fun _ => ?_
            clear hK K
            try simp only [List.getElem_toArray, List.getElem_cons_zero, List.getElem_cons_succ, Act.put, List.setIfInBounds_toArray, List.set_cons_zero, List.set_cons_succ]
            refine wpAnyH_done (by kernel_rfl) ?_ _
            go_wp2_with (fail)
            go_roundw
            case rel => exact ⟨k + 1, by omega, by omega, by go_num, HB9.out.trans (Hb6.mono HB9.out.size)⟩
            case measure => simp [intOf]; omega
        · refine step_oneD (by rfl) _ (by rfl) (r) Dr.out (by rfl) ?_
          generalize hge : World.alloc _ _ = w2_
          have fx2 : Blk w2_ w1_.heap.size 37 (arrK .u8 (r)) := by subst hge; exact Blk.new _ _ _
          have hb2 : Below w1_.heap.size w1_ w2_ := by subst hge; exact (Below.refl _ _).alloc (Nat.le_refl _) _
          clear hge
          have fo2 := own_below fo1 hb2
          have apox2 := apart_new fo1
          have lox2 : w9.heap.size ≤ w1_.heap.size := Zb1
          have Hb2 : Below w9.heap.size w9 w2_ := below_of Hb1 hb2 Hb1.size
          have Zb2 : w9.heap.size ≤ w2_.heap.size := Nat.le_trans Zb1 hb2.size
          refine hK.out _ _ Hb2 fun _ => ?_
          clear hK K
          try simp only [List.getElem_toArray, List.getElem_cons_zero, List.getElem_cons_succ, Act.put, List.setIfInBounds_toArray, List.set_cons_zero, List.set_cons_succ]
          refine wpAnyH_ready (rs := [3]) (by kernel_rfl) (by simp) (AllReadyH.cons rfl (fun K hK => ?_) AllReadyH.nil)
          go_simp
          refine (HTt.out _ (hHx.out _ Hb2)).mono ?_
          rintro e w3_ ⟨rfl, hb3⟩
          have fo3 := own_below fo2 hb3
          have fx3 := fx2.below hb3
          have Hb3 : Below w9.heap.size w9 w3_ := below_of Hb2 hb3 Hb2.size
          have Zb3 : w9.heap.size ≤ w3_.heap.size := Nat.le_trans Zb2 hb3.size
          go_wp2_with (fail)
          refine hK.out _ _ Hb3 fun _ => ?_
          clear hK K
          try simp only [List.getElem_toArray, List.getElem_cons_zero, List.getElem_cons_succ, Act.put, List.setIfInBounds_toArray, List.set_cons_zero, List.set_cons_succ]
          refine wpAnyH_ready (rs := [10]) (by kernel_rfl) (by simp) (AllReadyH.cons rfl (fun K hK => ?_) AllReadyH.nil)
          refine step_addDs (by rfl) (.tmp 54) (.tmp 55) (by rfl) (w9.heap.size) (.slice (some ⟨wd.heap.size, 0, none⟩) 0 0) (0) (([] : List (List Nat))) fo3 (by rfl) Ap q cp p Hpq.out HpL.out (HCp9.out.below Hb3) (by rfl) (by omega) Zb3 ?_
          intro v4 w4_ fo4 hg4 st4
          have apox4 := apart_sits st4 apox2 fx3.lt
          have fx4 := fx3.grown hg4 (fun e => apox2 e.symm)
          have Hb4 : Below w9.heap.size w9 w4_ := below_grown Hb3 hg4 Hb3.size (own_base fo3)
          have Zb4 : w9.heap.size ≤ w4_.heap.size := Nat.le_trans Zb3 hg4.size
          obtain ⟨A4, c4, rfl, le4, lm4, -⟩ := own_form fo4
          rw [Nat.zero_add] at fo4 le4 apox4
          simp only [Nat.zero_add]
          refine hK.out _ _ Hb4 fun _ => ?_
          clear hK K
          try simp only [List.getElem_toArray, List.getElem_cons_zero, List.getElem_cons_succ, Act.put, List.setIfInBounds_toArray, List.set_cons_zero, List.set_cons_succ]
          refine wpAnyH_ready (rs := [13]) (by kernel_rfl) (by simp) (AllReadyH.cons rfl (fun K hK => ?_) AllReadyH.nil)
          refine step_pushDs (by rfl) (.tmp 56) (.tmp 58) (by rfl) (w9.heap.size) (.slice A4 (q) c4) (q) ((([] : List (List Nat)) ++ p)) (r) fo4 (by rfl) (w1_.heap.size) fx4 Dr.out (by rfl) (by omega) Zb4 ?_
          intro v5 w5_ fo5 hg5 st5
          have apox5 := apart_sits st5 apox4 fx4.lt
          have fx5 := fx4.grown hg5 (fun e => apox4 e.symm)
          have Hb5 : Below w9.heap.size w9 w5_ := below_grown Hb4 hg5 Hb4.size (own_base fo4)
          have Zb5 : w9.heap.size ≤ w5_.heap.size := Nat.le_trans Zb4 hg5.size
          obtain ⟨A5, c5, rfl, le5, lm5, -⟩ := own_form fo5
          refine hK.out _ _ Hb5 fun _ => ?_
          clear hK K
          try simp only [List.getElem_toArray, List.getElem_cons_zero, List.getElem_cons_succ, Act.put, List.setIfInBounds_toArray, List.set_cons_zero, List.set_cons_succ]
          refine wpAnyH_ready (rs := [14]) (by kernel_rfl) (by simp) (AllReadyH.cons rfl (fun K hK => ?_) AllReadyH.nil)
          go_simp
          refine (HG2.out A5 c5 _ (by omega) (by have := Cells.own fo5; rwa [List.nil_append] at this)).mono ?_
          rintro e w6_ ⟨rfl, hb6⟩
          have fx6 := fx5.below hb6
          have fo6 := own_below fo5 hb6
          have Hb6 : Below w9.heap.size w9 w6_ := below_of Hb5 hb6 Hb5.size
          have Zb6 : w9.heap.size ≤ w6_.heap.size := Nat.le_trans Zb5 hb6.size
          go_wp2_with (fail)
          refine hK.out _ _ Hb6 fun _ => ?_
          clear hK K
          try simp only [List.getElem_toArray, List.getElem_cons_zero, List.getElem_cons_succ, Act.put, List.setIfInBounds_toArray, List.set_cons_zero, List.set_cons_succ]
          refine wpAnyH_done (by kernel_rfl) ?_ _
          go_wp2_with (fail)
          go_roundw
          case rel => exact ⟨k + 1, by omega, by omega, by go_num, HB9.out.trans (Hb6.mono HB9.out.size)⟩
          case measure => simp [intOf]; omega
      · refine step_oneD (by rfl) _ (by rfl) (r) Dr.out (by rfl) ?_
        generalize hge : World.alloc _ _ = w1_
        have fx1 : Blk w1_ wd.heap.size 37 (arrK .u8 (r)) := by subst hge; exact Blk.new _ _ _
        have hb1 : Below wd.heap.size wd w1_ := by subst hge; exact (Below.refl _ _).alloc (Nat.le_refl _) _
        clear hge
        have lox1 : w9.heap.size ≤ wd.heap.size := Zd
        have Hb1 : Below w9.heap.size w9 w1_ := below_of Hd hb1 Hd.size
        have Zb1 : w9.heap.size ≤ w1_.heap.size := Nat.le_trans Zd hb1.size
        refine hK.out _ _ Hb1 fun _ => ?_
        clear hK K
        try simp only [List.getElem_toArray, List.getElem_cons_zero, List.getElem_cons_succ, Act.put, List.setIfInBounds_toArray, List.set_cons_zero, List.set_cons_succ]
        refine wpAnyH_ready (rs := [3, 8]) (by kernel_rfl) (by simp) (AllReadyH.cons rfl (fun K hK => ?_) (AllReadyH.cons rfl (fun K hK => ?_) AllReadyH.nil))
        · go_simp
          refine (HTt.out _ (hHx.out _ Hb1)).mono ?_
          rintro e w2_ ⟨rfl, hb2⟩
          have fx2 := fx1.below hb2
          have Hb2 : Below w9.heap.size w9 w2_ := below_of Hb1 hb2 Hb1.size
          have Zb2 : w9.heap.size ≤ w2_.heap.size := Nat.le_trans Zb1 hb2.size
          go_wp2_with (fail)
          refine hK.out _ _ Hb2 fun _ => ?_
          clear hK K
          try simp only [List.getElem_toArray, List.getElem_cons_zero, List.getElem_cons_succ, Act.put, List.setIfInBounds_toArray, List.set_cons_zero, List.set_cons_succ]
          refine wpAnyH_ready (rs := [8]) (by kernel_rfl) (by simp) (AllReadyH.cons rfl (fun K hK => ?_) AllReadyH.nil)
          go_simp
          generalize hge : World.alloc _ _ = w3_
          have fo3 : w3_.ownsRow (w9.heap.size) 37 32 (.slice (some ⟨w2_.heap.size, 0, none⟩) 0 0) 0 (bytesV ([] : List (List Nat)).flatten) := by subst hge; exact ownD_empty w2_ _ Zb2
          have hb3 : Below w2_.heap.size w2_ w3_ := by subst hge; exact (Below.refl _ _).alloc (Nat.le_refl _) _
          clear hge
          have fx3 := fx2.below hb3
          have apox3 : Apart (.slice (some ⟨w2_.heap.size, 0, none⟩) 0 0) (wd.heap.size) := apart_lit fx2.lt
          have Hb3 : Below w9.heap.size w9 w3_ := below_of Hb2 hb3 Hb2.size
          have Zb3 : w9.heap.size ≤ w3_.heap.size := Nat.le_trans Zb2 hb3.size
          refine hK.out _ _ Hb3 fun _ => ?_
          clear hK K
          try simp only [List.getElem_toArray, List.getElem_cons_zero, List.getElem_cons_succ, Act.put, List.setIfInBounds_toArray, List.set_cons_zero, List.set_cons_succ]
          refine wpAnyH_ready (rs := [10]) (by kernel_rfl) (by simp) (AllReadyH.cons rfl (fun K hK => ?_) AllReadyH.nil)
          refine step_addDs (by rfl) (.tmp 54) (.tmp 55) (by rfl) (w9.heap.size) (.slice (some ⟨w2_.heap.size, 0, none⟩) 0 0) (0) (([] : List (List Nat))) fo3 (by rfl) Ap q cp p Hpq.out HpL.out (HCp9.out.below Hb3) (by rfl) (by omega) Zb3 ?_
          intro v4 w4_ fo4 hg4 st4
          have apox4 := apart_sits st4 apox3 fx3.lt
          have fx4 := fx3.grown hg4 (fun e => apox3 e.symm)
          have Hb4 : Below w9.heap.size w9 w4_ := below_grown Hb3 hg4 Hb3.size (own_base fo3)
          have Zb4 : w9.heap.size ≤ w4_.heap.size := Nat.le_trans Zb3 hg4.size
          obtain ⟨A4, c4, rfl, le4, lm4, -⟩ := own_form fo4
          rw [Nat.zero_add] at fo4 le4 apox4
          simp only [Nat.zero_add]
          refine hK.out _ _ Hb4 fun _ => ?_
          clear hK K
          try simp only [List.getElem_toArray, List.getElem_cons_zero, List.getElem_cons_succ, Act.put, List.setIfInBounds_toArray, List.set_cons_zero, List.set_cons_succ]
          refine wpAnyH_ready (rs := [13]) (by kernel_rfl) (by simp) (AllReadyH.cons rfl (fun K hK => ?_) AllReadyH.nil)
          refine step_pushDs (by rfl) (.tmp 56) (.tmp 58) (by rfl) (w9.heap.size) (.slice A4 (q) c4) (q) ((([] : List (List Nat)) ++ p)) (r) fo4 (by rfl) (wd.heap.size) fx4 Dr.out (by rfl) (by omega) Zb4 ?_
          intro v5 w5_ fo5 hg5 st5
          have apox5 := apart_sits st5 apox4 fx4.lt
          have fx5 := fx4.grown hg5 (fun e => apox4 e.symm)
          have Hb5 : Below w9.heap.size w9 w5_ := below_grown Hb4 hg5 Hb4.size (own_base fo4)
          have Zb5 : w9.heap.size ≤ w5_.heap.size := Nat.le_trans Zb4 hg5.size
          obtain ⟨A5, c5, rfl, le5, lm5, -⟩ := own_form fo5
          refine hK.out _ _ Hb5 fun _ => ?_
          clear hK K
          try simp only [List.getElem_toArray, List.getElem_cons_zero, List.getElem_cons_succ, Act.put, List.setIfInBounds_toArray, List.set_cons_zero, List.set_cons_succ]
          refine wpAnyH_ready (rs := [14]) (by kernel_rfl) (by simp) (AllReadyH.cons rfl (fun K hK => ?_) AllReadyH.nil)
          go_simp
          refine (HG2.out A5 c5 _ (by omega) (by have := Cells.own fo5; rwa [List.nil_append] at this)).mono ?_
          rintro e w6_ ⟨rfl, hb6⟩
          have fx6 := fx5.below hb6
          have fo6 := own_below fo5 hb6
          have Hb6 : Below w9.heap.size w9 w6_ := below_of Hb5 hb6 Hb5.size
          have Zb6 : w9.heap.size ≤ w6_.heap.size := Nat.le_trans Zb5 hb6.size
          go_wp2_with (fail)
          refine hK.out _ _ Hb6 fun _ => ?_
          clear hK K
          try simp only [List.getElem_toArray, List.getElem_cons_zero, List.getElem_cons_succ, Act.put, List.setIfInBounds_toArray, List.set_cons_zero, List.set_cons_succ]
          refine wpAnyH_done (by kernel_rfl) ?_ _
          go_wp2_with (fail)
          go_roundw
          case rel => exact ⟨k + 1, by omega, by omega, by go_num, HB9.out.trans (Hb6.mono HB9.out.size)⟩
          case measure => simp [intOf]; omega
        · go_simp
          generalize hge : World.alloc _ _ = w2_
          have fo2 : w2_.ownsRow (w9.heap.size) 37 32 (.slice (some ⟨w1_.heap.size, 0, none⟩) 0 0) 0 (bytesV ([] : List (List Nat)).flatten) := by subst hge; exact ownD_empty w1_ _ Zb1
          have hb2 : Below w1_.heap.size w1_ w2_ := by subst hge; exact (Below.refl _ _).alloc (Nat.le_refl _) _
          clear hge
          have fx2 := fx1.below hb2
          have apox2 : Apart (.slice (some ⟨w1_.heap.size, 0, none⟩) 0 0) (wd.heap.size) := apart_lit fx1.lt
          have Hb2 : Below w9.heap.size w9 w2_ := below_of Hb1 hb2 Hb1.size
          have Zb2 : w9.heap.size ≤ w2_.heap.size := Nat.le_trans Zb1 hb2.size
          refine hK.out _ _ Hb2 fun _ => ?_
          clear hK K
          try simp only [List.getElem_toArray, List.getElem_cons_zero, List.getElem_cons_succ, Act.put, List.setIfInBounds_toArray, List.set_cons_zero, List.set_cons_succ]
          refine wpAnyH_ready (rs := [3]) (by kernel_rfl) (by simp) (AllReadyH.cons rfl (fun K hK => ?_) AllReadyH.nil)
          go_simp
          refine (HTt.out _ (hHx.out _ Hb2)).mono ?_
          rintro e w3_ ⟨rfl, hb3⟩
          have fx3 := fx2.below hb3
          have fo3 := own_below fo2 hb3
          have Hb3 : Below w9.heap.size w9 w3_ := below_of Hb2 hb3 Hb2.size
          have Zb3 : w9.heap.size ≤ w3_.heap.size := Nat.le_trans Zb2 hb3.size
          go_wp2_with (fail)
          refine hK.out _ _ Hb3 fun _ => ?_
          clear hK K
          try simp only [List.getElem_toArray, List.getElem_cons_zero, List.getElem_cons_succ, Act.put, List.setIfInBounds_toArray, List.set_cons_zero, List.set_cons_succ]
          refine wpAnyH_ready (rs := [10]) (by kernel_rfl) (by simp) (AllReadyH.cons rfl (fun K hK => ?_) AllReadyH.nil)
          refine step_addDs (by rfl) (.tmp 54) (.tmp 55) (by rfl) (w9.heap.size) (.slice (some ⟨w1_.heap.size, 0, none⟩) 0 0) (0) (([] : List (List Nat))) fo3 (by rfl) Ap q cp p Hpq.out HpL.out (HCp9.out.below Hb3) (by rfl) (by omega) Zb3 ?_
          intro v4 w4_ fo4 hg4 st4
          have apox4 := apart_sits st4 apox2 fx3.lt
          have fx4 := fx3.grown hg4 (fun e => apox2 e.symm)
          have Hb4 : Below w9.heap.size w9 w4_ := below_grown Hb3 hg4 Hb3.size (own_base fo3)
          have Zb4 : w9.heap.size ≤ w4_.heap.size := Nat.le_trans Zb3 hg4.size
          obtain ⟨A4, c4, rfl, le4, lm4, -⟩ := own_form fo4
          rw [Nat.zero_add] at fo4 le4 apox4
          simp only [Nat.zero_add]
          refine hK.out _ _ Hb4 fun _ => ?_
          clear hK K
          try simp only [List.getElem_toArray, List.getElem_cons_zero, List.getElem_cons_succ, Act.put, List.setIfInBounds_toArray, List.set_cons_zero, List.set_cons_succ]
          refine wpAnyH_ready (rs := [13]) (by kernel_rfl) (by simp) (AllReadyH.cons rfl (fun K hK => ?_) AllReadyH.nil)
          refine step_pushDs (by rfl) (.tmp 56) (.tmp 58) (by rfl) (w9.heap.size) (.slice A4 (q) c4) (q) ((([] : List (List Nat)) ++ p)) (r) fo4 (by rfl) (wd.heap.size) fx4 Dr.out (by rfl) (by omega) Zb4 ?_
          intro v5 w5_ fo5 hg5 st5
          have apox5 := apart_sits st5 apox4 fx4.lt
          have fx5 := fx4.grown hg5 (fun e => apox4 e.symm)
          have Hb5 : Below w9.heap.size w9 w5_ := below_grown Hb4 hg5 Hb4.size (own_base fo4)
          have Zb5 : w9.heap.size ≤ w5_.heap.size := Nat.le_trans Zb4 hg5.size
          obtain ⟨A5, c5, rfl, le5, lm5, -⟩ := own_form fo5
          refine hK.out _ _ Hb5 fun _ => ?_
          clear hK K
          try simp only [List.getElem_toArray, List.getElem_cons_zero, List.getElem_cons_succ, Act.put, List.setIfInBounds_toArray, List.set_cons_zero, List.set_cons_succ]
          refine wpAnyH_ready (rs := [14]) (by kernel_rfl) (by simp) (AllReadyH.cons rfl (fun K hK => ?_) AllReadyH.nil)
          go_simp
          refine (HG2.out A5 c5 _ (by omega) (by have := Cells.own fo5; rwa [List.nil_append] at this)).mono ?_
          rintro e w6_ ⟨rfl, hb6⟩
          have fx6 := fx5.below hb6
          have fo6 := own_below fo5 hb6
          have Hb6 : Below w9.heap.size w9 w6_ := below_of Hb5 hb6 Hb5.size
          have Zb6 : w9.heap.size ≤ w6_.heap.size := Nat.le_trans Zb5 hb6.size
          go_wp2_with (fail)
          refine hK.out _ _ Hb6 fun _ => ?_
          clear hK K
          try simp only [List.getElem_toArray, List.getElem_cons_zero, List.getElem_cons_succ, Act.put, List.setIfInBounds_toArray, List.set_cons_zero, List.set_cons_succ]
          refine wpAnyH_done (by kernel_rfl) ?_ _
          go_wp2_with (fail)
          go_roundw
          case rel => exact ⟨k + 1, by omega, by omega, by go_num, HB9.out.trans (Hb6.mono HB9.out.size)⟩
          case measure => simp [intOf]; omega
    · have hdk : decide ((k : Int) ≤ (m : Int)) = false := by simp; omega
      have hdk2 : decide (k ≤ m) = false := by simp; omega
      go_wp2_with (fail)
      go_ret
      exact ⟨rfl, below_of HB3.out Hbr.out HB3.out.size⟩
-- the row
theorem digestGrows_own : ownKnob Try.prog.godebug = none := by kernel_rfl
theorem digestGrows_laidOut : laidOutB Try.prog = true := by kernel_rfl
theorem digestGrows_readable : (Try.f12.params.toList.all fun t => Try.prog.readableRec t && decide (t < Try.prog.types.size)) = true := by kernel_rfl
set_option maxRecDepth 100000 in
theorem digestGrows_lifted (os : Os) (started : os.Started) (H : Type) (enc : TypeId × Value → H) :
    ReturnsInHanded {} Try.checked os 12 .any (Rows.digestGrowsSpec.pre6 enc Try.prog Try.f12 Rows.digestGrowsRow.domain false) (Rows.digestGrowsSpec.post enc Try.prog Try.f12 false true false false) := by
  refine returnsInHanded_of_change (C := Try.checked) digestGrows_own started (by kernel_rfl) Try.func12
    (ChangeSpec.witness6 (enc := enc) (C := Try.checked) false ⟨#[], #[.slice none 0 0], []⟩ 8 (by kernel_rfl) (by kernel_rfl) (by kernel_rfl) (by kernel_rfl)) ?_
  intro W base args ds gs before hval0 hW hcnd _
  have hval : ∀ (j : Nat) t v, Try.f12.params[j]? = some t → args[j]? = some v → Value.okWide Try.prog W .any base t v := hval0
  have hW' := hW
  obtain ⟨p, q, hA0, hV, rfl, hfz, hnd⟩ := hW
  have hA : DataW.TrodAll enc Try.prog W 0 (fun _ => true) true Try.f12.params.toList args.toList ds p := hA0
  rw [Try.params12] at hA hval
  obtain ⟨v0, vs0, d0, ds0, p0, q0, hargs, rfl, rfl, h0, r0⟩ := trodAll_cons hA
  obtain ⟨rfl, rfl, rfl⟩ := trodAll_nil r0
  obtain rfl : args = #[v0] := by cases args; simp_all
  obtain ⟨rfl, rfl⟩ := trodVars_none hV
  obtain ⟨A0, n0, c0, xs0, rfl, l0, nc0, cm0, g0, w0⟩ := open_intslice Try.underlying22 Try.underlying5 (by kernel_rfl) (hval 0 22 v0 rfl rfl) h0
  refine (DigestGrows_walk W A0 n0 c0 xs0 l0 nc0 cm0 g0 w0).mono fun e W' ⟨he, hb⟩ => ?_
  subst he
  simp only [List.append_nil] at hW'
  refine ⟨_, rfl, law_post digestGrows_laidOut ?_ (by kernel_rfl) Try.underlying4 rfl hW' rfl rfl rfl hb⟩
  intro t ht
  have hr := List.all_eq_true.1 digestGrows_readable t ht
  rw [Bool.and_eq_true] at hr
  exact ⟨hr.1, of_decide_eq_true hr.2⟩
theorem digestGrows_over : Rows.digestGrowsRow.holds Try.pinned (OpenSpec.ofChange Rows.digestGrowsSpec) :=
  OpenClaim.holds_of_wide 12 Try.f12 rfl rfl rfl rfl rfl rfl rfl ⟨rfl, rfl, rfl, rfl, rfl⟩ rfl rfl rfl rfl rfl (by kernel_rfl) Try.func12 (by kernel_rfl)
    (of_decide_eq_true (by kernel_rfl)) (by unfold Func.isWrapper; rw [if_neg (of_decide_eq_false (by kernel_rfl))]; exact ⟨rfl, rfl⟩)
    (fun os started H enc _ => digestGrows_lifted os started H enc)
theorem digestGrows_proved : Rows.DigestGrowsSaid := digestGrows_over
#print axioms digestGrows_proved
end Go.Proofs.Ytcijhakofoklcaa
