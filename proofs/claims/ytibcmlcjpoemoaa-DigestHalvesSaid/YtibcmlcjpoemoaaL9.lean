/- The statement DigestHalvesSaid: for every list, its digest is that of the node of both of its halves; no condition beside the row's own. -/
import Derived.Test.YtibcmlcjpoemoaaSane2
import Derived.Test.YtibcmlcjpoemoaaRow
import Derived.Test.YtibcmlcjpoemoaaDig
import Derived.Deep.DeepCutAuto
import Derived.Deep.DeepCutAuto
import Derived.Deep.DeepCutAuto
namespace Go.Proofs.Ytibcmlcjpoemoaa
open Go.RowKit Go.WideShapes Go.ChangeShapes Go.ChangeAt
set_option linter.unusedSimpArgs false in
set_option maxRecDepth 100000 in
set_option maxHeartbeats 4000000 in
theorem DigestHalves_walk (w : World) (A : Option Addr) (n c : Nat) (xs : List Int) (hl : xs.length = n) (hnc : n ≤ c) (hcm : c ≤ maxLen) (hA0 : Cells w A (xs.map (Value.int .u8))) (hw : ∀ x ∈ xs, (Lit.int .u8 x).wf = true) :
    Calls Try.prog 9 #[.slice A n c] w (Fine w) := by
  obtain ⟨b, hb, h8, hA⟩ := open_bytes hA0 hw
  have HD := Lib.hid (fun W (h : Cells W A (bytesV b)) => digestsOf_any A n c b W h (hb.trans hl) h8 (Nat.le_trans hnc hcm))
  have HA := Lib.hid hA
  clear hA0 hw hl hb h8 hA
  go_enter Try.func9, Try.ntmps9
  go_wp2_with (fail)
  refine (sane_any _).mono ?_
  rintro e w0 ⟨rfl, hb0⟩
  go_wp2_with (fail)
  refine (HD.out _ (HA.out.below hb0)).mono ?_
  rintro e w1 ⟨A', m, c', l, rfl, hlm, hm24, hmc, hcm', hL, hC, hb1⟩
  have HB1 := Lib.hid (hb0.trans (hb1.mono hb0.size))
  have Hl := Lib.hid hlm
  have HL := Lib.hid hL
  have HC := Lib.hid hC
  clear hb0 hb1 hlm hL hC
  have HT := Lib.hid (fun W (h : Cells W A' (bytesV l.flatten)) => tree_any m l A' c' W Hl.out HL.out hmc (by omega) h)
  have hmI : (m : Int) ≤ 24 := by omega
  obtain ⟨r, hr⟩ : ∃ r, treeS l = r := ⟨_, rfl⟩
  have Dr := Lib.hid (show IsD r by rw [← hr]; exact treeS_isD _)
  have hEq : ∀ W, (Op.equalIn 10000 26 (.agg (arrK .u8 r)) (.agg (arrK .u8 r))).run Try.prog W = .ok true W := fun W => by
    have := run_eqD Dr.out Dr.out W
    simpa using this
  rw [hr] at HT
  have Hr := Lib.hid hr
  clear hr
  by_cases h0 : m = 0
  · have hq : ((m : Int) == 0) = true := by simp; omega
    have HE := Lib.hid (fun W => tagged_any ⟨#[101, 109, 112, 116, 121]⟩ none 0 0 [] W (.inl (by unfold bytesV; rfl)) rfl (by omega) (fun _ => by simp) (by decide))
    rw [← emptyT_eq, ← treeS_nil, ← List.eq_nil_of_length_eq_zero (Hl.out.trans h0), Hr.out] at HE
    clear h0
    go_wp2_with (fail)
    refine (HT.out _ HC.out).mono ?_
    rintro e w2 ⟨rfl, hb2⟩
    go_wp2_with (fail)
    refine (HE.out _).mono ?_
    rintro e w3 ⟨rfl, hb3⟩
    go_wp2_with (fail)
    go_ret
    exact ⟨rfl, HB1.out.trans ((hb2.trans (hb3.mono hb2.size)).mono HB1.out.size)⟩
  have hpos : 0 < m := by omega
  obtain ⟨b', off, rfl, hbl, hcell⟩ := Cells.addr HC.out (by rw [bytesV_length, HL.out.flat_length, Hl.out]; omega)
  clear hcell
  by_cases h1 : m = 1
  · have hq0 : ((m : Int) == 0) = false := by simp; omega
    have hq1 : ((m : Int) == 1) = true := by simp; omega
    have hmI2 : (0 : Int) < (m : Int) := by omega
    obtain ⟨d, hd⟩ : ∃ d, l = [d] := by
      match l, Hl.out.trans h1 with
      | [d], _ => exact ⟨d, rfl⟩
    have Dd := Lib.hid (show IsD d from HL.out d (by rw [hd]; simp))
    have HC1 := Lib.hid (show Cells w1 (some ⟨b', off, none⟩) (bytesV d) by
      have := HC.out
      rw [hd] at this
      simpa using this)
    have HLf := Lib.hid (fun W (h : Cells W (some ⟨b', off, none⟩) (bytesV d)) => tagged_any ⟨#[108, 101, 97, 102]⟩ (some ⟨b', off, none⟩) 32 32 d W h Dd.out.1 (by omega) Dd.out.2 (by decide))
    rw [← leafS_eq, ← treeS_one, ← hd, Hr.out] at HLf
    clear h0 h1 hd
    go_wp2_with (fail)
    go_region_held3 (fun W => Below w1.heap.size w1 W) (first | assumption | exact below_drewN (Below.refl _ _) 1 | exact Below.alloc (by assumption) (Below.size (by assumption)) _)
      (first
        | (go_at_call 16; refine (HT.out _ (HC.out.below (by assumption))).mono ?_; rintro e w2 ⟨rfl, hb2⟩; have hb2' : Below w1.heap.size w1 w2 := below_of (by assumption) hb2 (Below.size (by assumption)))
        | (go_at_call 13; refine (HLf.out _ (HC1.out.below (by assumption))).mono ?_; rintro e w3 ⟨rfl, hb3⟩; have hb3' : Below w1.heap.size w1 w3 := below_of (by assumption) hb3 (Below.size (by assumption)))
        | (fail))
    all_goals
      go_wp2_with (fail)
      go_ret
      exact ⟨rfl, below_of HB1.out (by assumption) HB1.out.size⟩
  have h2 : 2 ≤ m := by omega
  have hq0 : ((m : Int) == 0) = false := by simp; omega
  have hq1 : ((m : Int) == 1) = false := by simp; omega
  clear h0 h1
  go_wp2_with (fail)
  go_loopw [4] (fun v wr => ∃ k j : Nat, v = .int .i64 k ∧ Hid (k = 2 ^ j) ∧ k < m ∧ 1 ≤ k ∧ wr = w1) (fun v _ => m - (intOf v).toNat)
  case atStart => exact ⟨1, 0, rfl, rfl, by omega, by omega, rfl⟩
  case round =>
    obtain ⟨k, j, rfl, hk, hkn, hk1, rfl⟩ := hrel
    by_cases hlt : 2 * k < m
    · have hd : decide (2 * (k : Int) < (m : Int)) = true := by simp; omega
      have hkI : (k : Int) ≤ 24 := by omega
      have hcm2 : (k : Int) * 2 = ((2 * k : Nat) : Int) := by omega
      go_wp2_with (fail)
      go_roundw
      case rel => exact ⟨2 * k, j + 1, by go_num, by show _ = _; rw [Nat.pow_succ, hk.out]; omega, by omega, by omega, trivial⟩
      case measure => simp [intOf]; omega
    · have hd : decide (2 * (k : Int) < (m : Int)) = false := by simp; omega
      have hkI : (k : Int) ≤ 24 := by omega
      have hkh := half_unique h2 (a := j) (by rw [← hk.out]; exact hkn) (by rw [← hk.out]; omega)
      rw [← hk.out] at hkh
      have hs := treeS_two (l := l) (by rw [Hl.out]; exact h2)
      rw [Hl.out, ← hkh, Hr.out] at hs
      have T1 := Lib.hid (fun W (h : Cells W (some ⟨b', off, none⟩) (bytesV (l.take k).flatten)) => tree_any k (l.take k) (some ⟨b', off, none⟩) c' W (by rw [List.length_take, Hl.out]; omega) (HL.out.take k) (by omega) (by omega) h)
      have T2 := Lib.hid (fun W (h : Cells W (some ⟨b', off + k * 32, none⟩) (bytesV (l.drop k).flatten)) => tree_any (m - k) (l.drop k) (some ⟨b', off + k * 32, none⟩) (c' - k) W (by rw [List.length_drop, Hl.out]) (HL.out.drop k) (by omega) (by omega) h)
      have C1 := Lib.hid (show Cells wr (some ⟨b', off, none⟩) (bytesV (l.take k).flatten) by
        rw [HL.out.flat_take k]
        have := HC.out.take_ (k * 32)
        rwa [show (bytesV l.flatten).take (k * 32) = bytesV (l.flatten.take (k * 32)) by unfold bytesV; rw [List.map_take]] at this)
      have C2 := Lib.hid (show Cells wr (some ⟨b', off + k * 32, none⟩) (bytesV (l.drop k).flatten) by
        rw [HL.out.flat_drop k, bytesV_drop]
        exact HC.out.drop_ (k * 32))
      have d1 := Lib.hid (treeS_isD (l.take k))
      have d2 := Lib.hid (treeS_isD (l.drop k))
      generalize treeS (l.take k) = ta at *
      generalize treeS (l.drop k) = tb at *
      have Hs := Lib.hid hs
      have hkm : (k : Int) ≤ (m : Int) := by omega
      have hkc : (k : Int) ≤ (c' : Int) := by omega
      have hmc' : (m : Int) ≤ (c' : Int) := by omega
      have hck : ¬ c' = k := by omega
      have hck2 : (c' == k) = false := by simp; omega
      clear hs hkh hlt
      go_upto_region 12 with (fail)
      go_cut [5, 6] (fun s5 s6 wx => ∃ ga gb : Nat, s5 = .pointer (some ⟨ga, 0, none⟩) ∧ s6 = .pointer (some ⟨gb, 0, none⟩) ∧ Blk wx ga 26 (arrK .u8 ta) ∧ Blk wx gb 26 (arrK .u8 tb) ∧ Below wr.heap.size wr wx)
      case first =>
        refine wp_region_held_drew (S := fun W => Below wr.heap.size wr W) (by kernel_rfl) (below_drewN (Below.refl _ _) 1) (fun Hd => ?_)
        replace Hd : Below wr.heap.size wr wr.drew := Hd
        generalize World.drew wr = wd at *
        refine wpAnyH_take (i := 0) (v := ?_) rfl (by kernel_rfl) (by kernel_rfl) (by kernel_rfl) (fun _ _ _ h => h) (Or.inl ⟨by rfl, ?_⟩) Hd ?_
        rotate_left
        · intro w hSw; go_simp; try with_reducible rfl
        simp only [List.getElem_toArray, List.getElem_cons_zero, List.getElem_cons_succ, Act.put, List.setIfInBounds_toArray, List.set_cons_zero, List.set_cons_succ]
        refine wpAnyH_take (i := 1) (v := ?_) rfl (by kernel_rfl) (by kernel_rfl) (by kernel_rfl) (fun _ _ _ h => h) (Or.inl ⟨by rfl, ?_⟩) Hd ?_
        rotate_left
        · intro w hSw; go_simp; try with_reducible rfl
        simp only [List.getElem_toArray, List.getElem_cons_zero, List.getElem_cons_succ, Act.put, List.setIfInBounds_toArray, List.set_cons_zero, List.set_cons_succ]
        refine wpAnyH_take (i := 2) (v := ?_) rfl (by kernel_rfl) (by kernel_rfl) (by kernel_rfl) (fun _ _ _ h => h) (Or.inl ⟨by rfl, ?_⟩) Hd ?_
        rotate_left
        · intro w hSw; go_simp; try with_reducible rfl
        simp only [List.getElem_toArray, List.getElem_cons_zero, List.getElem_cons_succ, Act.put, List.setIfInBounds_toArray, List.set_cons_zero, List.set_cons_succ]
        refine wpAnyH_take (i := 4) (v := ?_) rfl (by kernel_rfl) (by kernel_rfl) (by kernel_rfl) (fun _ _ _ h => h) (Or.inl ⟨by rfl, ?_⟩) Hd ?_
        rotate_left
        · intro w hSw; go_simp; try with_reducible rfl
        simp only [List.getElem_toArray, List.getElem_cons_zero, List.getElem_cons_succ, Act.put, List.setIfInBounds_toArray, List.set_cons_zero, List.set_cons_succ]
        refine wpAnyH_take (i := 5) (v := ?_) rfl (by kernel_rfl) (by kernel_rfl) (by kernel_rfl) (fun _ _ _ h => h) (Or.inl ⟨by rfl, ?_⟩) Hd ?_
        rotate_left
        · intro w hSw; go_simp; try with_reducible rfl
        simp only [List.getElem_toArray, List.getElem_cons_zero, List.getElem_cons_succ, Act.put, List.setIfInBounds_toArray, List.set_cons_zero, List.set_cons_succ]
        refine wpAnyH_take (i := 6) (v := ?_) rfl (by kernel_rfl) (by kernel_rfl) (by kernel_rfl) (fun _ _ _ h => h) (Or.inl ⟨by rfl, ?_⟩) Hd ?_
        rotate_left
        · intro w hSw; go_simp; try with_reducible rfl
        simp only [List.getElem_toArray, List.getElem_cons_zero, List.getElem_cons_succ, Act.put, List.setIfInBounds_toArray, List.set_cons_zero, List.set_cons_succ]
        refine wpAnyH_ready (rs := [3, 8, 9]) (by kernel_rfl) (by simp) (AllReadyH.cons rfl (fun K hK => ?_) (AllReadyH.cons rfl (fun K hK => ?_) (AllReadyH.cons rfl (fun K hK => ?_) AllReadyH.nil)))
        · go_simp
          refine (T1.out wd (C1.out.below Hd)).mono ?_
          rintro e w1_ ⟨rfl, hb1⟩
          have Hb1 : Below wr.heap.size wr w1_ := below_of Hd hb1 Hd.size
          go_wp2_with (fail)
          refine hK.out _ _ Hb1 fun _ => ?_
          clear hK K
          try simp only [List.getElem_toArray, List.getElem_cons_zero, List.getElem_cons_succ, Act.put, List.setIfInBounds_toArray, List.set_cons_zero, List.set_cons_succ]
          refine wpAnyH_ready (rs := [7, 8, 9]) (by kernel_rfl) (by simp) (AllReadyH.cons rfl (fun K hK => ?_) (AllReadyH.cons rfl (fun K hK => ?_) (AllReadyH.cons rfl (fun K hK => ?_) AllReadyH.nil)))
          · go_simp
            refine (T2.out w1_ (C2.out.below Hb1)).mono ?_
            rintro e w2_ ⟨rfl, hb2⟩
            have Hb2 : Below wr.heap.size wr w2_ := below_of Hb1 hb2 Hb1.size
            go_wp2_with (fail)
            refine hK.out _ _ Hb2 fun _ => ?_
            clear hK K
            try simp only [List.getElem_toArray, List.getElem_cons_zero, List.getElem_cons_succ, Act.put, List.setIfInBounds_toArray, List.set_cons_zero, List.set_cons_succ]
            refine wpAnyH_ready (rs := [8, 9]) (by kernel_rfl) (by simp) (AllReadyH.cons rfl (fun K hK => ?_) (AllReadyH.cons rfl (fun K hK => ?_) AllReadyH.nil))
            · go_simp
              generalize hge : World.alloc _ _ = w3_
              have fa3 : Blk w3_ w2_.heap.size 26 (arrK .u8 z32) := by subst hge; exact Blk.new _ _ _
              have hb3 : Below w2_.heap.size w2_ w3_ := by subst hge; exact (Below.refl _ _).alloc (Nat.le_refl _) _
              clear hge
              have Hb3 : Below wr.heap.size wr w3_ := below_of Hb2 hb3 Hb2.size
              have ga := Hb2.size
              refine hK.out _ _ Hb3 fun _ => ?_
              clear hK K
              try simp only [List.getElem_toArray, List.getElem_cons_zero, List.getElem_cons_succ, Act.put, List.setIfInBounds_toArray, List.set_cons_zero, List.set_cons_succ]
              refine wpAnyH_ready (rs := [9]) (by kernel_rfl) (by simp) (AllReadyH.cons rfl (fun K hK => ?_) AllReadyH.nil)
              go_simp
              generalize hge : World.alloc _ _ = w4_
              have fb4 : Blk w4_ w3_.heap.size 26 (arrK .u8 z32) := by subst hge; exact Blk.new _ _ _
              have hb4 : Below w3_.heap.size w3_ w4_ := by subst hge; exact (Below.refl _ _).alloc (Nat.le_refl _) _
              clear hge
              have nab := fa3.lt
              have fa4 := fa3.below hb4
              have Hb4 : Below wr.heap.size wr w4_ := below_of Hb3 hb4 Hb3.size
              have gb := Hb3.size
              refine hK.out _ _ Hb4 fun _ => ?_
              clear hK K
              try simp only [List.getElem_toArray, List.getElem_cons_zero, List.getElem_cons_succ, Act.put, List.setIfInBounds_toArray, List.set_cons_zero, List.set_cons_succ]
              refine wpAnyH_ready (rs := [10]) (by kernel_rfl) (by simp) (AllReadyH.cons rfl (fun K hK => ?_) AllReadyH.nil)
              refine step_put_blk (by rfl) _ _ _ (by rfl) (w2_.heap.size) (arrK .u8 ta) (by rfl) (by rfl) _ _ fa4 (info32 d1.out.1) (by rw [len32 d1.out.1, len32 z32_length]) (arrK_all _ _) ?_
              intro w5_ fa5 hg5 hz5
              have fb5 := fb4.grown hg5 (by simp; omega)
              have Hb5 : Below wr.heap.size wr w5_ := below_grown Hb4 hg5 Hb4.size (by simp; exact ga)
              refine hK.out _ _ Hb5 fun _ => ?_
              clear hK K
              try simp only [List.getElem_toArray, List.getElem_cons_zero, List.getElem_cons_succ, Act.put, List.setIfInBounds_toArray, List.set_cons_zero, List.set_cons_succ]
              refine wpAnyH_ready (rs := [11]) (by kernel_rfl) (by simp) (AllReadyH.cons rfl (fun K hK => ?_) AllReadyH.nil)
              refine step_put_blk (by rfl) _ _ _ (by rfl) (w3_.heap.size) (arrK .u8 tb) (by rfl) (by rfl) _ _ fb5 (info32 d2.out.1) (by rw [len32 d2.out.1, len32 z32_length]) (arrK_all _ _) ?_
              intro w6_ fb6 hg6 hz6
              have fa6 := fa5.grown hg6 (by simp; omega)
              have Hb6 : Below wr.heap.size wr w6_ := below_grown Hb5 hg6 Hb5.size (by simp; exact gb)
              refine hK.out _ _ Hb6 fun _ => ?_
              clear hK K
              try simp only [List.getElem_toArray, List.getElem_cons_zero, List.getElem_cons_succ, Act.put, List.setIfInBounds_toArray, List.set_cons_zero, List.set_cons_succ]
              refine wpAnyH_done (by kernel_rfl) ?_ _
              go_wp2_with (fail)
              go_meet
              exact ⟨_, _, rfl, rfl, fa6, fb6, Hb6⟩
            · go_simp
              generalize hge : World.alloc _ _ = w3_
              have fb3 : Blk w3_ w2_.heap.size 26 (arrK .u8 z32) := by subst hge; exact Blk.new _ _ _
              have hb3 : Below w2_.heap.size w2_ w3_ := by subst hge; exact (Below.refl _ _).alloc (Nat.le_refl _) _
              clear hge
              have Hb3 : Below wr.heap.size wr w3_ := below_of Hb2 hb3 Hb2.size
              have gb := Hb2.size
              refine hK.out _ _ Hb3 fun _ => ?_
              clear hK K
              try simp only [List.getElem_toArray, List.getElem_cons_zero, List.getElem_cons_succ, Act.put, List.setIfInBounds_toArray, List.set_cons_zero, List.set_cons_succ]
              refine wpAnyH_ready (rs := [8]) (by kernel_rfl) (by simp) (AllReadyH.cons rfl (fun K hK => ?_) AllReadyH.nil)
              go_simp
              generalize hge : World.alloc _ _ = w4_
              have fa4 : Blk w4_ w3_.heap.size 26 (arrK .u8 z32) := by subst hge; exact Blk.new _ _ _
              have hb4 : Below w3_.heap.size w3_ w4_ := by subst hge; exact (Below.refl _ _).alloc (Nat.le_refl _) _
              clear hge
              have nba := fb3.lt
              have fb4 := fb3.below hb4
              have Hb4 : Below wr.heap.size wr w4_ := below_of Hb3 hb4 Hb3.size
              have ga := Hb3.size
              refine hK.out _ _ Hb4 fun _ => ?_
              clear hK K
              try simp only [List.getElem_toArray, List.getElem_cons_zero, List.getElem_cons_succ, Act.put, List.setIfInBounds_toArray, List.set_cons_zero, List.set_cons_succ]
              refine wpAnyH_ready (rs := [10]) (by kernel_rfl) (by simp) (AllReadyH.cons rfl (fun K hK => ?_) AllReadyH.nil)
              refine step_put_blk (by rfl) _ _ _ (by rfl) (w3_.heap.size) (arrK .u8 ta) (by rfl) (by rfl) _ _ fa4 (info32 d1.out.1) (by rw [len32 d1.out.1, len32 z32_length]) (arrK_all _ _) ?_
              intro w5_ fa5 hg5 hz5
              have fb5 := fb4.grown hg5 (by simp; omega)
              have Hb5 : Below wr.heap.size wr w5_ := below_grown Hb4 hg5 Hb4.size (by simp; exact ga)
              refine hK.out _ _ Hb5 fun _ => ?_
              clear hK K
              try simp only [List.getElem_toArray, List.getElem_cons_zero, List.getElem_cons_succ, Act.put, List.setIfInBounds_toArray, List.set_cons_zero, List.set_cons_succ]
              refine wpAnyH_ready (rs := [11]) (by kernel_rfl) (by simp) (AllReadyH.cons rfl (fun K hK => ?_) AllReadyH.nil)
              refine step_put_blk (by rfl) _ _ _ (by rfl) (w2_.heap.size) (arrK .u8 tb) (by rfl) (by rfl) _ _ fb5 (info32 d2.out.1) (by rw [len32 d2.out.1, len32 z32_length]) (arrK_all _ _) ?_
              intro w6_ fb6 hg6 hz6
              have fa6 := fa5.grown hg6 (by simp; omega)
              have Hb6 : Below wr.heap.size wr w6_ := below_grown Hb5 hg6 Hb5.size (by simp; exact gb)
              refine hK.out _ _ Hb6 fun _ => ?_
              clear hK K
              try simp only [List.getElem_toArray, List.getElem_cons_zero, List.getElem_cons_succ, Act.put, List.setIfInBounds_toArray, List.set_cons_zero, List.set_cons_succ]
              refine wpAnyH_done (by kernel_rfl) ?_ _
              go_wp2_with (fail)
              go_meet
              exact ⟨_, _, rfl, rfl, fa6, fb6, Hb6⟩
          · go_simp
            generalize hge : World.alloc _ _ = w2_
            have fa2 : Blk w2_ w1_.heap.size 26 (arrK .u8 z32) := by subst hge; exact Blk.new _ _ _
            have hb2 : Below w1_.heap.size w1_ w2_ := by subst hge; exact (Below.refl _ _).alloc (Nat.le_refl _) _
            clear hge
            have Hb2 : Below wr.heap.size wr w2_ := below_of Hb1 hb2 Hb1.size
            have ga := Hb1.size
            refine hK.out _ _ Hb2 fun _ => ?_
            clear hK K
            try simp only [List.getElem_toArray, List.getElem_cons_zero, List.getElem_cons_succ, Act.put, List.setIfInBounds_toArray, List.set_cons_zero, List.set_cons_succ]
            refine wpAnyH_ready (rs := [7, 9]) (by kernel_rfl) (by simp) (AllReadyH.cons rfl (fun K hK => ?_) (AllReadyH.cons rfl (fun K hK => ?_) AllReadyH.nil))
            · go_simp
              refine (T2.out w2_ (C2.out.below Hb2)).mono ?_
              rintro e w3_ ⟨rfl, hb3⟩
              have fa3 := fa2.below hb3
              have Hb3 : Below wr.heap.size wr w3_ := below_of Hb2 hb3 Hb2.size
              go_wp2_with (fail)
              refine hK.out _ _ Hb3 fun _ => ?_
              clear hK K
              try simp only [List.getElem_toArray, List.getElem_cons_zero, List.getElem_cons_succ, Act.put, List.setIfInBounds_toArray, List.set_cons_zero, List.set_cons_succ]
              refine wpAnyH_ready (rs := [9]) (by kernel_rfl) (by simp) (AllReadyH.cons rfl (fun K hK => ?_) AllReadyH.nil)
              go_simp
              generalize hge : World.alloc _ _ = w4_
              have fb4 : Blk w4_ w3_.heap.size 26 (arrK .u8 z32) := by subst hge; exact Blk.new _ _ _
              have hb4 : Below w3_.heap.size w3_ w4_ := by subst hge; exact (Below.refl _ _).alloc (Nat.le_refl _) _
              clear hge
              have nab := fa3.lt
              have fa4 := fa3.below hb4
              have Hb4 : Below wr.heap.size wr w4_ := below_of Hb3 hb4 Hb3.size
              have gb := Hb3.size
              refine hK.out _ _ Hb4 fun _ => ?_
              clear hK K
              try simp only [List.getElem_toArray, List.getElem_cons_zero, List.getElem_cons_succ, Act.put, List.setIfInBounds_toArray, List.set_cons_zero, List.set_cons_succ]
              refine wpAnyH_ready (rs := [10]) (by kernel_rfl) (by simp) (AllReadyH.cons rfl (fun K hK => ?_) AllReadyH.nil)
              refine step_put_blk (by rfl) _ _ _ (by rfl) (w1_.heap.size) (arrK .u8 ta) (by rfl) (by rfl) _ _ fa4 (info32 d1.out.1) (by rw [len32 d1.out.1, len32 z32_length]) (arrK_all _ _) ?_
              intro w5_ fa5 hg5 hz5
              have fb5 := fb4.grown hg5 (by simp; omega)
              have Hb5 : Below wr.heap.size wr w5_ := below_grown Hb4 hg5 Hb4.size (by simp; exact ga)
              refine hK.out _ _ Hb5 fun _ => ?_
              clear hK K
              try simp only [List.getElem_toArray, List.getElem_cons_zero, List.getElem_cons_succ, Act.put, List.setIfInBounds_toArray, List.set_cons_zero, List.set_cons_succ]
              refine wpAnyH_ready (rs := [11]) (by kernel_rfl) (by simp) (AllReadyH.cons rfl (fun K hK => ?_) AllReadyH.nil)
              refine step_put_blk (by rfl) _ _ _ (by rfl) (w3_.heap.size) (arrK .u8 tb) (by rfl) (by rfl) _ _ fb5 (info32 d2.out.1) (by rw [len32 d2.out.1, len32 z32_length]) (arrK_all _ _) ?_
              intro w6_ fb6 hg6 hz6
              have fa6 := fa5.grown hg6 (by simp; omega)
              have Hb6 : Below wr.heap.size wr w6_ := below_grown Hb5 hg6 Hb5.size (by simp; exact gb)
              refine hK.out _ _ Hb6 fun _ => ?_
              clear hK K
              try simp only [List.getElem_toArray, List.getElem_cons_zero, List.getElem_cons_succ, Act.put, List.setIfInBounds_toArray, List.set_cons_zero, List.set_cons_succ]
              refine wpAnyH_done (by kernel_rfl) ?_ _
              go_wp2_with (fail)
              go_meet
              exact ⟨_, _, rfl, rfl, fa6, fb6, Hb6⟩
            · go_simp
              generalize hge : World.alloc _ _ = w3_
              have fb3 : Blk w3_ w2_.heap.size 26 (arrK .u8 z32) := by subst hge; exact Blk.new _ _ _
              have hb3 : Below w2_.heap.size w2_ w3_ := by subst hge; exact (Below.refl _ _).alloc (Nat.le_refl _) _
              clear hge
              have nab := fa2.lt
              have fa3 := fa2.below hb3
              have Hb3 : Below wr.heap.size wr w3_ := below_of Hb2 hb3 Hb2.size
              have gb := Hb2.size
              refine hK.out _ _ Hb3 fun _ => ?_
              clear hK K
              try simp only [List.getElem_toArray, List.getElem_cons_zero, List.getElem_cons_succ, Act.put, List.setIfInBounds_toArray, List.set_cons_zero, List.set_cons_succ]
              refine wpAnyH_ready (rs := [7]) (by kernel_rfl) (by simp) (AllReadyH.cons rfl (fun K hK => ?_) AllReadyH.nil)
              go_simp
              refine (T2.out w3_ (C2.out.below Hb3)).mono ?_
              rintro e w4_ ⟨rfl, hb4⟩
              have fa4 := fa3.below hb4
              have fb4 := fb3.below hb4
              have Hb4 : Below wr.heap.size wr w4_ := below_of Hb3 hb4 Hb3.size
              go_wp2_with (fail)
              refine hK.out _ _ Hb4 fun _ => ?_
              clear hK K
              try simp only [List.getElem_toArray, List.getElem_cons_zero, List.getElem_cons_succ, Act.put, List.setIfInBounds_toArray, List.set_cons_zero, List.set_cons_succ]
              refine wpAnyH_ready (rs := [10]) (by kernel_rfl) (by simp) (AllReadyH.cons rfl (fun K hK => ?_) AllReadyH.nil)
              refine step_put_blk (by rfl) _ _ _ (by rfl) (w1_.heap.size) (arrK .u8 ta) (by rfl) (by rfl) _ _ fa4 (info32 d1.out.1) (by rw [len32 d1.out.1, len32 z32_length]) (arrK_all _ _) ?_
              intro w5_ fa5 hg5 hz5
              have fb5 := fb4.grown hg5 (by simp; omega)
              have Hb5 : Below wr.heap.size wr w5_ := below_grown Hb4 hg5 Hb4.size (by simp; exact ga)
              refine hK.out _ _ Hb5 fun _ => ?_
              clear hK K
              try simp only [List.getElem_toArray, List.getElem_cons_zero, List.getElem_cons_succ, Act.put, List.setIfInBounds_toArray, List.set_cons_zero, List.set_cons_succ]
              refine wpAnyH_ready (rs := [11]) (by kernel_rfl) (by simp) (AllReadyH.cons rfl (fun K hK => ?_) AllReadyH.nil)
              refine step_put_blk (by rfl) _ _ _ (by rfl) (w2_.heap.size) (arrK .u8 tb) (by rfl) (by rfl) _ _ fb5 (info32 d2.out.1) (by rw [len32 d2.out.1, len32 z32_length]) (arrK_all _ _) ?_
              intro w6_ fb6 hg6 hz6
              have fa6 := fa5.grown hg6 (by simp; omega)
              have Hb6 : Below wr.heap.size wr w6_ := below_grown Hb5 hg6 Hb5.size (by simp; exact gb)
              refine hK.out _ _ Hb6 fun _ => ?_
              clear hK K
              try simp only [List.getElem_toArray, List.getElem_cons_zero, List.getElem_cons_succ, Act.put, List.setIfInBounds_toArray, List.set_cons_zero, List.set_cons_succ]
              refine wpAnyH_done (by kernel_rfl) ?_ _
              go_wp2_with (fail)
              go_meet
              exact ⟨_, _, rfl, rfl, fa6, fb6, Hb6⟩
          · go_simp
            generalize hge : World.alloc _ _ = w2_
            have fb2 : Blk w2_ w1_.heap.size 26 (arrK .u8 z32) := by subst hge; exact Blk.new _ _ _
            have hb2 : Below w1_.heap.size w1_ w2_ := by subst hge; exact (Below.refl _ _).alloc (Nat.le_refl _) _
            clear hge
            have Hb2 : Below wr.heap.size wr w2_ := below_of Hb1 hb2 Hb1.size
            have gb := Hb1.size
            refine hK.out _ _ Hb2 fun _ => ?_
            clear hK K
            try simp only [List.getElem_toArray, List.getElem_cons_zero, List.getElem_cons_succ, Act.put, List.setIfInBounds_toArray, List.set_cons_zero, List.set_cons_succ]
            refine wpAnyH_ready (rs := [7, 8]) (by kernel_rfl) (by simp) (AllReadyH.cons rfl (fun K hK => ?_) (AllReadyH.cons rfl (fun K hK => ?_) AllReadyH.nil))
            · go_simp
              refine (T2.out w2_ (C2.out.below Hb2)).mono ?_
              rintro e w3_ ⟨rfl, hb3⟩
              have fb3 := fb2.below hb3
              have Hb3 : Below wr.heap.size wr w3_ := below_of Hb2 hb3 Hb2.size
              go_wp2_with (fail)
              refine hK.out _ _ Hb3 fun _ => ?_
              clear hK K
              try simp only [List.getElem_toArray, List.getElem_cons_zero, List.getElem_cons_succ, Act.put, List.setIfInBounds_toArray, List.set_cons_zero, List.set_cons_succ]
              refine wpAnyH_ready (rs := [8]) (by kernel_rfl) (by simp) (AllReadyH.cons rfl (fun K hK => ?_) AllReadyH.nil)
              go_simp
              generalize hge : World.alloc _ _ = w4_
              have fa4 : Blk w4_ w3_.heap.size 26 (arrK .u8 z32) := by subst hge; exact Blk.new _ _ _
              have hb4 : Below w3_.heap.size w3_ w4_ := by subst hge; exact (Below.refl _ _).alloc (Nat.le_refl _) _
              clear hge
              have nba := fb3.lt
              have fb4 := fb3.below hb4
              have Hb4 : Below wr.heap.size wr w4_ := below_of Hb3 hb4 Hb3.size
              have ga := Hb3.size
              refine hK.out _ _ Hb4 fun _ => ?_
              clear hK K
              try simp only [List.getElem_toArray, List.getElem_cons_zero, List.getElem_cons_succ, Act.put, List.setIfInBounds_toArray, List.set_cons_zero, List.set_cons_succ]
              refine wpAnyH_ready (rs := [10]) (by kernel_rfl) (by simp) (AllReadyH.cons rfl (fun K hK => ?_) AllReadyH.nil)
              refine step_put_blk (by rfl) _ _ _ (by rfl) (w3_.heap.size) (arrK .u8 ta) (by rfl) (by rfl) _ _ fa4 (info32 d1.out.1) (by rw [len32 d1.out.1, len32 z32_length]) (arrK_all _ _) ?_
              intro w5_ fa5 hg5 hz5
              have fb5 := fb4.grown hg5 (by simp; omega)
              have Hb5 : Below wr.heap.size wr w5_ := below_grown Hb4 hg5 Hb4.size (by simp; exact ga)
              refine hK.out _ _ Hb5 fun _ => ?_
              clear hK K
              try simp only [List.getElem_toArray, List.getElem_cons_zero, List.getElem_cons_succ, Act.put, List.setIfInBounds_toArray, List.set_cons_zero, List.set_cons_succ]
              refine wpAnyH_ready (rs := [11]) (by kernel_rfl) (by simp) (AllReadyH.cons rfl (fun K hK => ?_) AllReadyH.nil)
              refine step_put_blk (by rfl) _ _ _ (by rfl) (w1_.heap.size) (arrK .u8 tb) (by rfl) (by rfl) _ _ fb5 (info32 d2.out.1) (by rw [len32 d2.out.1, len32 z32_length]) (arrK_all _ _) ?_
              intro w6_ fb6 hg6 hz6
              have fa6 := fa5.grown hg6 (by simp; omega)
              have Hb6 : Below wr.heap.size wr w6_ := below_grown Hb5 hg6 Hb5.size (by simp; exact gb)
              refine hK.out _ _ Hb6 fun _ => ?_
              clear hK K
              try simp only [List.getElem_toArray, List.getElem_cons_zero, List.getElem_cons_succ, Act.put, List.setIfInBounds_toArray, List.set_cons_zero, List.set_cons_succ]
              refine wpAnyH_done (by kernel_rfl) ?_ _
              go_wp2_with (fail)
              go_meet
              exact ⟨_, _, rfl, rfl, fa6, fb6, Hb6⟩
            · go_simp
              generalize hge : World.alloc _ _ = w3_
              have fa3 : Blk w3_ w2_.heap.size 26 (arrK .u8 z32) := by subst hge; exact Blk.new _ _ _
              have hb3 : Below w2_.heap.size w2_ w3_ := by subst hge; exact (Below.refl _ _).alloc (Nat.le_refl _) _
              clear hge
              have nba := fb2.lt
              have fb3 := fb2.below hb3
              have Hb3 : Below wr.heap.size wr w3_ := below_of Hb2 hb3 Hb2.size
              have ga := Hb2.size
              refine hK.out _ _ Hb3 fun _ => ?_
              clear hK K
              try simp only [List.getElem_toArray, List.getElem_cons_zero, List.getElem_cons_succ, Act.put, List.setIfInBounds_toArray, List.set_cons_zero, List.set_cons_succ]
              refine wpAnyH_ready (rs := [7]) (by kernel_rfl) (by simp) (AllReadyH.cons rfl (fun K hK => ?_) AllReadyH.nil)
              go_simp
              refine (T2.out w3_ (C2.out.below Hb3)).mono ?_
              rintro e w4_ ⟨rfl, hb4⟩
              have fb4 := fb3.below hb4
              have fa4 := fa3.below hb4
              have Hb4 : Below wr.heap.size wr w4_ := below_of Hb3 hb4 Hb3.size
              go_wp2_with (fail)
              refine hK.out _ _ Hb4 fun _ => ?_
              clear hK K
              try simp only [List.getElem_toArray, List.getElem_cons_zero, List.getElem_cons_succ, Act.put, List.setIfInBounds_toArray, List.set_cons_zero, List.set_cons_succ]
              refine wpAnyH_ready (rs := [10]) (by kernel_rfl) (by simp) (AllReadyH.cons rfl (fun K hK => ?_) AllReadyH.nil)
              refine step_put_blk (by rfl) _ _ _ (by rfl) (w2_.heap.size) (arrK .u8 ta) (by rfl) (by rfl) _ _ fa4 (info32 d1.out.1) (by rw [len32 d1.out.1, len32 z32_length]) (arrK_all _ _) ?_
              intro w5_ fa5 hg5 hz5
              have fb5 := fb4.grown hg5 (by simp; omega)
              have Hb5 : Below wr.heap.size wr w5_ := below_grown Hb4 hg5 Hb4.size (by simp; exact ga)
              refine hK.out _ _ Hb5 fun _ => ?_
              clear hK K
              try simp only [List.getElem_toArray, List.getElem_cons_zero, List.getElem_cons_succ, Act.put, List.setIfInBounds_toArray, List.set_cons_zero, List.set_cons_succ]
              refine wpAnyH_ready (rs := [11]) (by kernel_rfl) (by simp) (AllReadyH.cons rfl (fun K hK => ?_) AllReadyH.nil)
              refine step_put_blk (by rfl) _ _ _ (by rfl) (w1_.heap.size) (arrK .u8 tb) (by rfl) (by rfl) _ _ fb5 (info32 d2.out.1) (by rw [len32 d2.out.1, len32 z32_length]) (arrK_all _ _) ?_
              intro w6_ fb6 hg6 hz6
              have fa6 := fa5.grown hg6 (by simp; omega)
              have Hb6 : Below wr.heap.size wr w6_ := below_grown Hb5 hg6 Hb5.size (by simp; exact gb)
              refine hK.out _ _ Hb6 fun _ => ?_
              clear hK K
              try simp only [List.getElem_toArray, List.getElem_cons_zero, List.getElem_cons_succ, Act.put, List.setIfInBounds_toArray, List.set_cons_zero, List.set_cons_succ]
              refine wpAnyH_done (by kernel_rfl) ?_ _
              go_wp2_with (fail)
              go_meet
              exact ⟨_, _, rfl, rfl, fa6, fb6, Hb6⟩
        · go_simp
          generalize hge : World.alloc _ _ = w1_
          have fa1 : Blk w1_ wd.heap.size 26 (arrK .u8 z32) := by subst hge; exact Blk.new _ _ _
          have hb1 : Below wd.heap.size wd w1_ := by subst hge; exact (Below.refl _ _).alloc (Nat.le_refl _) _
          clear hge
          have Hb1 : Below wr.heap.size wr w1_ := below_of Hd hb1 Hd.size
          have ga := Hd.size
          refine hK.out _ _ Hb1 fun _ => ?_
          clear hK K
          try simp only [List.getElem_toArray, List.getElem_cons_zero, List.getElem_cons_succ, Act.put, List.setIfInBounds_toArray, List.set_cons_zero, List.set_cons_succ]
          refine wpAnyH_ready (rs := [3, 9]) (by kernel_rfl) (by simp) (AllReadyH.cons rfl (fun K hK => ?_) (AllReadyH.cons rfl (fun K hK => ?_) AllReadyH.nil))
          · go_simp
            refine (T1.out w1_ (C1.out.below Hb1)).mono ?_
            rintro e w2_ ⟨rfl, hb2⟩
            have fa2 := fa1.below hb2
            have Hb2 : Below wr.heap.size wr w2_ := below_of Hb1 hb2 Hb1.size
            go_wp2_with (fail)
            refine hK.out _ _ Hb2 fun _ => ?_
            clear hK K
            try simp only [List.getElem_toArray, List.getElem_cons_zero, List.getElem_cons_succ, Act.put, List.setIfInBounds_toArray, List.set_cons_zero, List.set_cons_succ]
            refine wpAnyH_ready (rs := [7, 9]) (by kernel_rfl) (by simp) (AllReadyH.cons rfl (fun K hK => ?_) (AllReadyH.cons rfl (fun K hK => ?_) AllReadyH.nil))
            · go_simp
              refine (T2.out w2_ (C2.out.below Hb2)).mono ?_
              rintro e w3_ ⟨rfl, hb3⟩
              have fa3 := fa2.below hb3
              have Hb3 : Below wr.heap.size wr w3_ := below_of Hb2 hb3 Hb2.size
              go_wp2_with (fail)
              refine hK.out _ _ Hb3 fun _ => ?_
              clear hK K
              try simp only [List.getElem_toArray, List.getElem_cons_zero, List.getElem_cons_succ, Act.put, List.setIfInBounds_toArray, List.set_cons_zero, List.set_cons_succ]
              refine wpAnyH_ready (rs := [9]) (by kernel_rfl) (by simp) (AllReadyH.cons rfl (fun K hK => ?_) AllReadyH.nil)
              go_simp
              generalize hge : World.alloc _ _ = w4_
              have fb4 : Blk w4_ w3_.heap.size 26 (arrK .u8 z32) := by subst hge; exact Blk.new _ _ _
              have hb4 : Below w3_.heap.size w3_ w4_ := by subst hge; exact (Below.refl _ _).alloc (Nat.le_refl _) _
              clear hge
              have nab := fa3.lt
              have fa4 := fa3.below hb4
              have Hb4 : Below wr.heap.size wr w4_ := below_of Hb3 hb4 Hb3.size
              have gb := Hb3.size
              refine hK.out _ _ Hb4 fun _ => ?_
              clear hK K
              try simp only [List.getElem_toArray, List.getElem_cons_zero, List.getElem_cons_succ, Act.put, List.setIfInBounds_toArray, List.set_cons_zero, List.set_cons_succ]
              refine wpAnyH_ready (rs := [10]) (by kernel_rfl) (by simp) (AllReadyH.cons rfl (fun K hK => ?_) AllReadyH.nil)
              refine step_put_blk (by rfl) _ _ _ (by rfl) (wd.heap.size) (arrK .u8 ta) (by rfl) (by rfl) _ _ fa4 (info32 d1.out.1) (by rw [len32 d1.out.1, len32 z32_length]) (arrK_all _ _) ?_
              intro w5_ fa5 hg5 hz5
              have fb5 := fb4.grown hg5 (by simp; omega)
              have Hb5 : Below wr.heap.size wr w5_ := below_grown Hb4 hg5 Hb4.size (by simp; exact ga)
              refine hK.out _ _ Hb5 fun _ => ?_
              clear hK K
              try simp only [List.getElem_toArray, List.getElem_cons_zero, List.getElem_cons_succ, Act.put, List.setIfInBounds_toArray, List.set_cons_zero, List.set_cons_succ]
              refine wpAnyH_ready (rs := [11]) (by kernel_rfl) (by simp) (AllReadyH.cons rfl (fun K hK => ?_) AllReadyH.nil)
              refine step_put_blk (by rfl) _ _ _ (by rfl) (w3_.heap.size) (arrK .u8 tb) (by rfl) (by rfl) _ _ fb5 (info32 d2.out.1) (by rw [len32 d2.out.1, len32 z32_length]) (arrK_all _ _) ?_
              intro w6_ fb6 hg6 hz6
              have fa6 := fa5.grown hg6 (by simp; omega)
              have Hb6 : Below wr.heap.size wr w6_ := below_grown Hb5 hg6 Hb5.size (by simp; exact gb)
              refine hK.out _ _ Hb6 fun _ => ?_
              clear hK K
              try simp only [List.getElem_toArray, List.getElem_cons_zero, List.getElem_cons_succ, Act.put, List.setIfInBounds_toArray, List.set_cons_zero, List.set_cons_succ]
              refine wpAnyH_done (by kernel_rfl) ?_ _
              go_wp2_with (fail)
              go_meet
              exact ⟨_, _, rfl, rfl, fa6, fb6, Hb6⟩
            · go_simp
              generalize hge : World.alloc _ _ = w3_
              have fb3 : Blk w3_ w2_.heap.size 26 (arrK .u8 z32) := by subst hge; exact Blk.new _ _ _
              have hb3 : Below w2_.heap.size w2_ w3_ := by subst hge; exact (Below.refl _ _).alloc (Nat.le_refl _) _
              clear hge
              have nab := fa2.lt
              have fa3 := fa2.below hb3
              have Hb3 : Below wr.heap.size wr w3_ := below_of Hb2 hb3 Hb2.size
              have gb := Hb2.size
              refine hK.out _ _ Hb3 fun _ => ?_
              clear hK K
              try simp only [List.getElem_toArray, List.getElem_cons_zero, List.getElem_cons_succ, Act.put, List.setIfInBounds_toArray, List.set_cons_zero, List.set_cons_succ]
              refine wpAnyH_ready (rs := [7]) (by kernel_rfl) (by simp) (AllReadyH.cons rfl (fun K hK => ?_) AllReadyH.nil)
              go_simp
              refine (T2.out w3_ (C2.out.below Hb3)).mono ?_
              rintro e w4_ ⟨rfl, hb4⟩
              have fa4 := fa3.below hb4
              have fb4 := fb3.below hb4
              have Hb4 : Below wr.heap.size wr w4_ := below_of Hb3 hb4 Hb3.size
              go_wp2_with (fail)
              refine hK.out _ _ Hb4 fun _ => ?_
              clear hK K
              try simp only [List.getElem_toArray, List.getElem_cons_zero, List.getElem_cons_succ, Act.put, List.setIfInBounds_toArray, List.set_cons_zero, List.set_cons_succ]
              refine wpAnyH_ready (rs := [10]) (by kernel_rfl) (by simp) (AllReadyH.cons rfl (fun K hK => ?_) AllReadyH.nil)
              refine step_put_blk (by rfl) _ _ _ (by rfl) (wd.heap.size) (arrK .u8 ta) (by rfl) (by rfl) _ _ fa4 (info32 d1.out.1) (by rw [len32 d1.out.1, len32 z32_length]) (arrK_all _ _) ?_
              intro w5_ fa5 hg5 hz5
              have fb5 := fb4.grown hg5 (by simp; omega)
              have Hb5 : Below wr.heap.size wr w5_ := below_grown Hb4 hg5 Hb4.size (by simp; exact ga)
              refine hK.out _ _ Hb5 fun _ => ?_
              clear hK K
              try simp only [List.getElem_toArray, List.getElem_cons_zero, List.getElem_cons_succ, Act.put, List.setIfInBounds_toArray, List.set_cons_zero, List.set_cons_succ]
              refine wpAnyH_ready (rs := [11]) (by kernel_rfl) (by simp) (AllReadyH.cons rfl (fun K hK => ?_) AllReadyH.nil)
              refine step_put_blk (by rfl) _ _ _ (by rfl) (w2_.heap.size) (arrK .u8 tb) (by rfl) (by rfl) _ _ fb5 (info32 d2.out.1) (by rw [len32 d2.out.1, len32 z32_length]) (arrK_all _ _) ?_
              intro w6_ fb6 hg6 hz6
              have fa6 := fa5.grown hg6 (by simp; omega)
              have Hb6 : Below wr.heap.size wr w6_ := below_grown Hb5 hg6 Hb5.size (by simp; exact gb)
              refine hK.out _ _ Hb6 fun _ => ?_
              clear hK K
              try simp only [List.getElem_toArray, List.getElem_cons_zero, List.getElem_cons_succ, Act.put, List.setIfInBounds_toArray, List.set_cons_zero, List.set_cons_succ]
              refine wpAnyH_done (by kernel_rfl) ?_ _
              go_wp2_with (fail)
              go_meet
              exact ⟨_, _, rfl, rfl, fa6, fb6, Hb6⟩
          · go_simp
            generalize hge : World.alloc _ _ = w2_
            have fb2 : Blk w2_ w1_.heap.size 26 (arrK .u8 z32) := by subst hge; exact Blk.new _ _ _
            have hb2 : Below w1_.heap.size w1_ w2_ := by subst hge; exact (Below.refl _ _).alloc (Nat.le_refl _) _
            clear hge
            have nab := fa1.lt
            have fa2 := fa1.below hb2
            have Hb2 : Below wr.heap.size wr w2_ := below_of Hb1 hb2 Hb1.size
            have gb := Hb1.size
            refine hK.out _ _ Hb2 fun _ => ?_
            clear hK K
            try simp only [List.getElem_toArray, List.getElem_cons_zero, List.getElem_cons_succ, Act.put, List.setIfInBounds_toArray, List.set_cons_zero, List.set_cons_succ]
            refine wpAnyH_ready (rs := [3]) (by kernel_rfl) (by simp) (AllReadyH.cons rfl (fun K hK => ?_) AllReadyH.nil)
            go_simp
            refine (T1.out w2_ (C1.out.below Hb2)).mono ?_
            rintro e w3_ ⟨rfl, hb3⟩
            have fa3 := fa2.below hb3
            have fb3 := fb2.below hb3
            have Hb3 : Below wr.heap.size wr w3_ := below_of Hb2 hb3 Hb2.size
            go_wp2_with (fail)
            refine hK.out _ _ Hb3 fun _ => ?_
            clear hK K
            try simp only [List.getElem_toArray, List.getElem_cons_zero, List.getElem_cons_succ, Act.put, List.setIfInBounds_toArray, List.set_cons_zero, List.set_cons_succ]
            refine wpAnyH_ready (rs := [7]) (by kernel_rfl) (by simp) (AllReadyH.cons rfl (fun K hK => ?_) AllReadyH.nil)
            go_simp
            refine (T2.out w3_ (C2.out.below Hb3)).mono ?_
            rintro e w4_ ⟨rfl, hb4⟩
            have fa4 := fa3.below hb4
            have fb4 := fb3.below hb4
            have Hb4 : Below wr.heap.size wr w4_ := below_of Hb3 hb4 Hb3.size
            go_wp2_with (fail)
            refine hK.out _ _ Hb4 fun _ => ?_
            clear hK K
            try simp only [List.getElem_toArray, List.getElem_cons_zero, List.getElem_cons_succ, Act.put, List.setIfInBounds_toArray, List.set_cons_zero, List.set_cons_succ]
            refine wpAnyH_ready (rs := [10]) (by kernel_rfl) (by simp) (AllReadyH.cons rfl (fun K hK => ?_) AllReadyH.nil)
            refine step_put_blk (by rfl) _ _ _ (by rfl) (wd.heap.size) (arrK .u8 ta) (by rfl) (by rfl) _ _ fa4 (info32 d1.out.1) (by rw [len32 d1.out.1, len32 z32_length]) (arrK_all _ _) ?_
            intro w5_ fa5 hg5 hz5
            have fb5 := fb4.grown hg5 (by simp; omega)
            have Hb5 : Below wr.heap.size wr w5_ := below_grown Hb4 hg5 Hb4.size (by simp; exact ga)
            refine hK.out _ _ Hb5 fun _ => ?_
            clear hK K
            try simp only [List.getElem_toArray, List.getElem_cons_zero, List.getElem_cons_succ, Act.put, List.setIfInBounds_toArray, List.set_cons_zero, List.set_cons_succ]
            refine wpAnyH_ready (rs := [11]) (by kernel_rfl) (by simp) (AllReadyH.cons rfl (fun K hK => ?_) AllReadyH.nil)
            refine step_put_blk (by rfl) _ _ _ (by rfl) (w1_.heap.size) (arrK .u8 tb) (by rfl) (by rfl) _ _ fb5 (info32 d2.out.1) (by rw [len32 d2.out.1, len32 z32_length]) (arrK_all _ _) ?_
            intro w6_ fb6 hg6 hz6
            have fa6 := fa5.grown hg6 (by simp; omega)
            have Hb6 : Below wr.heap.size wr w6_ := below_grown Hb5 hg6 Hb5.size (by simp; exact gb)
            refine hK.out _ _ Hb6 fun _ => ?_
            clear hK K
            try simp only [List.getElem_toArray, List.getElem_cons_zero, List.getElem_cons_succ, Act.put, List.setIfInBounds_toArray, List.set_cons_zero, List.set_cons_succ]
            refine wpAnyH_done (by kernel_rfl) ?_ _
            go_wp2_with (fail)
            go_meet
            exact ⟨_, _, rfl, rfl, fa6, fb6, Hb6⟩
        · go_simp
          generalize hge : World.alloc _ _ = w1_
          have fb1 : Blk w1_ wd.heap.size 26 (arrK .u8 z32) := by subst hge; exact Blk.new _ _ _
          have hb1 : Below wd.heap.size wd w1_ := by subst hge; exact (Below.refl _ _).alloc (Nat.le_refl _) _
          clear hge
          have Hb1 : Below wr.heap.size wr w1_ := below_of Hd hb1 Hd.size
          have gb := Hd.size
          refine hK.out _ _ Hb1 fun _ => ?_
          clear hK K
          try simp only [List.getElem_toArray, List.getElem_cons_zero, List.getElem_cons_succ, Act.put, List.setIfInBounds_toArray, List.set_cons_zero, List.set_cons_succ]
          refine wpAnyH_ready (rs := [3, 8]) (by kernel_rfl) (by simp) (AllReadyH.cons rfl (fun K hK => ?_) (AllReadyH.cons rfl (fun K hK => ?_) AllReadyH.nil))
          · go_simp
            refine (T1.out w1_ (C1.out.below Hb1)).mono ?_
            rintro e w2_ ⟨rfl, hb2⟩
            have fb2 := fb1.below hb2
            have Hb2 : Below wr.heap.size wr w2_ := below_of Hb1 hb2 Hb1.size
            go_wp2_with (fail)
            refine hK.out _ _ Hb2 fun _ => ?_
            clear hK K
            try simp only [List.getElem_toArray, List.getElem_cons_zero, List.getElem_cons_succ, Act.put, List.setIfInBounds_toArray, List.set_cons_zero, List.set_cons_succ]
            refine wpAnyH_ready (rs := [7, 8]) (by kernel_rfl) (by simp) (AllReadyH.cons rfl (fun K hK => ?_) (AllReadyH.cons rfl (fun K hK => ?_) AllReadyH.nil))
            · go_simp
              refine (T2.out w2_ (C2.out.below Hb2)).mono ?_
              rintro e w3_ ⟨rfl, hb3⟩
              have fb3 := fb2.below hb3
              have Hb3 : Below wr.heap.size wr w3_ := below_of Hb2 hb3 Hb2.size
              go_wp2_with (fail)
              refine hK.out _ _ Hb3 fun _ => ?_
              clear hK K
              try simp only [List.getElem_toArray, List.getElem_cons_zero, List.getElem_cons_succ, Act.put, List.setIfInBounds_toArray, List.set_cons_zero, List.set_cons_succ]
              refine wpAnyH_ready (rs := [8]) (by kernel_rfl) (by simp) (AllReadyH.cons rfl (fun K hK => ?_) AllReadyH.nil)
              go_simp
              generalize hge : World.alloc _ _ = w4_
              have fa4 : Blk w4_ w3_.heap.size 26 (arrK .u8 z32) := by subst hge; exact Blk.new _ _ _
              have hb4 : Below w3_.heap.size w3_ w4_ := by subst hge; exact (Below.refl _ _).alloc (Nat.le_refl _) _
              clear hge
              have nba := fb3.lt
              have fb4 := fb3.below hb4
              have Hb4 : Below wr.heap.size wr w4_ := below_of Hb3 hb4 Hb3.size
              have ga := Hb3.size
              refine hK.out _ _ Hb4 fun _ => ?_
              clear hK K
              try simp only [List.getElem_toArray, List.getElem_cons_zero, List.getElem_cons_succ, Act.put, List.setIfInBounds_toArray, List.set_cons_zero, List.set_cons_succ]
              refine wpAnyH_ready (rs := [10]) (by kernel_rfl) (by simp) (AllReadyH.cons rfl (fun K hK => ?_) AllReadyH.nil)
              refine step_put_blk (by rfl) _ _ _ (by rfl) (w3_.heap.size) (arrK .u8 ta) (by rfl) (by rfl) _ _ fa4 (info32 d1.out.1) (by rw [len32 d1.out.1, len32 z32_length]) (arrK_all _ _) ?_
              intro w5_ fa5 hg5 hz5
              have fb5 := fb4.grown hg5 (by simp; omega)
              have Hb5 : Below wr.heap.size wr w5_ := below_grown Hb4 hg5 Hb4.size (by simp; exact ga)
              refine hK.out _ _ Hb5 fun _ => ?_
              clear hK K
              try simp only [List.getElem_toArray, List.getElem_cons_zero, List.getElem_cons_succ, Act.put, List.setIfInBounds_toArray, List.set_cons_zero, List.set_cons_succ]
              refine wpAnyH_ready (rs := [11]) (by kernel_rfl) (by simp) (AllReadyH.cons rfl (fun K hK => ?_) AllReadyH.nil)
              refine step_put_blk (by rfl) _ _ _ (by rfl) (wd.heap.size) (arrK .u8 tb) (by rfl) (by rfl) _ _ fb5 (info32 d2.out.1) (by rw [len32 d2.out.1, len32 z32_length]) (arrK_all _ _) ?_
              intro w6_ fb6 hg6 hz6
              have fa6 := fa5.grown hg6 (by simp; omega)
              have Hb6 : Below wr.heap.size wr w6_ := below_grown Hb5 hg6 Hb5.size (by simp; exact gb)
              refine hK.out _ _ Hb6 fun _ => ?_
              clear hK K
              try simp only [List.getElem_toArray, List.getElem_cons_zero, List.getElem_cons_succ, Act.put, List.setIfInBounds_toArray, List.set_cons_zero, List.set_cons_succ]
              refine wpAnyH_done (by kernel_rfl) ?_ _
              go_wp2_with (fail)
              go_meet
              exact ⟨_, _, rfl, rfl, fa6, fb6, Hb6⟩
            · go_simp
              generalize hge : World.alloc _ _ = w3_
              have fa3 : Blk w3_ w2_.heap.size 26 (arrK .u8 z32) := by subst hge; exact Blk.new _ _ _
              have hb3 : Below w2_.heap.size w2_ w3_ := by subst hge; exact (Below.refl _ _).alloc (Nat.le_refl _) _
              clear hge
              have nba := fb2.lt
              have fb3 := fb2.below hb3
              have Hb3 : Below wr.heap.size wr w3_ := below_of Hb2 hb3 Hb2.size
              have ga := Hb2.size
              refine hK.out _ _ Hb3 fun _ => ?_
              clear hK K
              try simp only [List.getElem_toArray, List.getElem_cons_zero, List.getElem_cons_succ, Act.put, List.setIfInBounds_toArray, List.set_cons_zero, List.set_cons_succ]
              refine wpAnyH_ready (rs := [7]) (by kernel_rfl) (by simp) (AllReadyH.cons rfl (fun K hK => ?_) AllReadyH.nil)
              go_simp
              refine (T2.out w3_ (C2.out.below Hb3)).mono ?_
              rintro e w4_ ⟨rfl, hb4⟩
              have fb4 := fb3.below hb4
              have fa4 := fa3.below hb4
              have Hb4 : Below wr.heap.size wr w4_ := below_of Hb3 hb4 Hb3.size
              go_wp2_with (fail)
              refine hK.out _ _ Hb4 fun _ => ?_
              clear hK K
              try simp only [List.getElem_toArray, List.getElem_cons_zero, List.getElem_cons_succ, Act.put, List.setIfInBounds_toArray, List.set_cons_zero, List.set_cons_succ]
              refine wpAnyH_ready (rs := [10]) (by kernel_rfl) (by simp) (AllReadyH.cons rfl (fun K hK => ?_) AllReadyH.nil)
              refine step_put_blk (by rfl) _ _ _ (by rfl) (w2_.heap.size) (arrK .u8 ta) (by rfl) (by rfl) _ _ fa4 (info32 d1.out.1) (by rw [len32 d1.out.1, len32 z32_length]) (arrK_all _ _) ?_
              intro w5_ fa5 hg5 hz5
              have fb5 := fb4.grown hg5 (by simp; omega)
              have Hb5 : Below wr.heap.size wr w5_ := below_grown Hb4 hg5 Hb4.size (by simp; exact ga)
              refine hK.out _ _ Hb5 fun _ => ?_
              clear hK K
              try simp only [List.getElem_toArray, List.getElem_cons_zero, List.getElem_cons_succ, Act.put, List.setIfInBounds_toArray, List.set_cons_zero, List.set_cons_succ]
              refine wpAnyH_ready (rs := [11]) (by kernel_rfl) (by simp) (AllReadyH.cons rfl (fun K hK => ?_) AllReadyH.nil)
              refine step_put_blk (by rfl) _ _ _ (by rfl) (wd.heap.size) (arrK .u8 tb) (by rfl) (by rfl) _ _ fb5 (info32 d2.out.1) (by rw [len32 d2.out.1, len32 z32_length]) (arrK_all _ _) ?_
              intro w6_ fb6 hg6 hz6
              have fa6 := fa5.grown hg6 (by simp; omega)
              have Hb6 : Below wr.heap.size wr w6_ := below_grown Hb5 hg6 Hb5.size (by simp; exact gb)
              refine hK.out _ _ Hb6 fun _ => ?_
              clear hK K
              try simp only [List.getElem_toArray, List.getElem_cons_zero, List.getElem_cons_succ, Act.put, List.setIfInBounds_toArray, List.set_cons_zero, List.set_cons_succ]
              refine wpAnyH_done (by kernel_rfl) ?_ _
              go_wp2_with (fail)
              go_meet
              exact ⟨_, _, rfl, rfl, fa6, fb6, Hb6⟩
          · go_simp
            generalize hge : World.alloc _ _ = w2_
            have fa2 : Blk w2_ w1_.heap.size 26 (arrK .u8 z32) := by subst hge; exact Blk.new _ _ _
            have hb2 : Below w1_.heap.size w1_ w2_ := by subst hge; exact (Below.refl _ _).alloc (Nat.le_refl _) _
            clear hge
            have nba := fb1.lt
            have fb2 := fb1.below hb2
            have Hb2 : Below wr.heap.size wr w2_ := below_of Hb1 hb2 Hb1.size
            have ga := Hb1.size
            refine hK.out _ _ Hb2 fun _ => ?_
            clear hK K
            try simp only [List.getElem_toArray, List.getElem_cons_zero, List.getElem_cons_succ, Act.put, List.setIfInBounds_toArray, List.set_cons_zero, List.set_cons_succ]
            refine wpAnyH_ready (rs := [3]) (by kernel_rfl) (by simp) (AllReadyH.cons rfl (fun K hK => ?_) AllReadyH.nil)
            go_simp
            refine (T1.out w2_ (C1.out.below Hb2)).mono ?_
            rintro e w3_ ⟨rfl, hb3⟩
            have fb3 := fb2.below hb3
            have fa3 := fa2.below hb3
            have Hb3 : Below wr.heap.size wr w3_ := below_of Hb2 hb3 Hb2.size
            go_wp2_with (fail)
            refine hK.out _ _ Hb3 fun _ => ?_
            clear hK K
            try simp only [List.getElem_toArray, List.getElem_cons_zero, List.getElem_cons_succ, Act.put, List.setIfInBounds_toArray, List.set_cons_zero, List.set_cons_succ]
            refine wpAnyH_ready (rs := [7]) (by kernel_rfl) (by simp) (AllReadyH.cons rfl (fun K hK => ?_) AllReadyH.nil)
            go_simp
            refine (T2.out w3_ (C2.out.below Hb3)).mono ?_
            rintro e w4_ ⟨rfl, hb4⟩
            have fb4 := fb3.below hb4
            have fa4 := fa3.below hb4
            have Hb4 : Below wr.heap.size wr w4_ := below_of Hb3 hb4 Hb3.size
            go_wp2_with (fail)
            refine hK.out _ _ Hb4 fun _ => ?_
            clear hK K
            try simp only [List.getElem_toArray, List.getElem_cons_zero, List.getElem_cons_succ, Act.put, List.setIfInBounds_toArray, List.set_cons_zero, List.set_cons_succ]
            refine wpAnyH_ready (rs := [10]) (by kernel_rfl) (by simp) (AllReadyH.cons rfl (fun K hK => ?_) AllReadyH.nil)
            refine step_put_blk (by rfl) _ _ _ (by rfl) (w1_.heap.size) (arrK .u8 ta) (by rfl) (by rfl) _ _ fa4 (info32 d1.out.1) (by rw [len32 d1.out.1, len32 z32_length]) (arrK_all _ _) ?_
            intro w5_ fa5 hg5 hz5
            have fb5 := fb4.grown hg5 (by simp; omega)
            have Hb5 : Below wr.heap.size wr w5_ := below_grown Hb4 hg5 Hb4.size (by simp; exact ga)
            refine hK.out _ _ Hb5 fun _ => ?_
            clear hK K
            try simp only [List.getElem_toArray, List.getElem_cons_zero, List.getElem_cons_succ, Act.put, List.setIfInBounds_toArray, List.set_cons_zero, List.set_cons_succ]
            refine wpAnyH_ready (rs := [11]) (by kernel_rfl) (by simp) (AllReadyH.cons rfl (fun K hK => ?_) AllReadyH.nil)
            refine step_put_blk (by rfl) _ _ _ (by rfl) (wd.heap.size) (arrK .u8 tb) (by rfl) (by rfl) _ _ fb5 (info32 d2.out.1) (by rw [len32 d2.out.1, len32 z32_length]) (arrK_all _ _) ?_
            intro w6_ fb6 hg6 hz6
            have fa6 := fa5.grown hg6 (by simp; omega)
            have Hb6 : Below wr.heap.size wr w6_ := below_grown Hb5 hg6 Hb5.size (by simp; exact gb)
            refine hK.out _ _ Hb6 fun _ => ?_
            clear hK K
            try simp only [List.getElem_toArray, List.getElem_cons_zero, List.getElem_cons_succ, Act.put, List.setIfInBounds_toArray, List.set_cons_zero, List.set_cons_succ]
            refine wpAnyH_done (by kernel_rfl) ?_ _
            go_wp2_with (fail)
            go_meet
            exact ⟨_, _, rfl, rfl, fa6, fb6, Hb6⟩
      case rest =>
        obtain ⟨ga, gb, rfl, rfl, Ha, Hb, Hw⟩ := hcut
        have CA := Lib.hid (bytes_lit ta Ha)
        have CB := Lib.hid (bytes_lit tb Hb)
        have HCc := Lib.hid (HC.out.below Hw)
        have HBc := Lib.hid (below_of HB1.out Hw HB1.out.size)
        have HN := Lib.hid (fun A' c'' mm W (h : Cells W A' (bytesV (ta ++ tb))) (hm : (ta ++ tb).length = mm) => tagged_any ⟨#[110, 111, 100, 101]⟩ A' mm c'' (ta ++ tb) W h hm (by rw [← hm, List.length_append, d1.out.1, d2.out.1]; omega) (d1.out.2.append d2.out.2) (by decide))
        rw [← nodeS_eq, ← Hs.out] at HN
        clear Ha Hb Hw
        go_wp2_with (fail)
        go_region_held3 (fun W => Below wc.heap.size wc W) (first | assumption | exact below_drewN (Below.refl _ _) 1 | exact Below.alloc (by assumption) (Below.size (by assumption)) _)
          (first
            | (go_at_call 13; refine (HN.out _ _ _ _ (by have := Cells.own Hown5.out; rwa [List.nil_append, ← bytesV_append] at this) (by rw [List.length_append, d1.out.1, d2.out.1])).mono ?_; rintro e w6 ⟨rfl, hb6⟩; have hb6' : Below wc.heap.size wc w6 := below_of (by assumption) hb6 (Below.size (by assumption)))
            | ((refine step_append_cells (by rfl) (.tmp 47) (.tmp 48) 22 (by rfl) wc.heap.size 5 (.int .u8 0) 1 1 (by kernel_rfl) (by kernel_rfl) rfl (by omega) v4 (0 + 32) ([] ++ bytesV ta) Hown4.out (by rfl) (some ⟨gb, 0, none⟩) 32 32 (bytesV tb) (by rfl) (by rw [bytesV_length, d2.out.1]) (by exact CB.out.below (by assumption)) (bytesV_one _) (by unfold maxLen; omega) (by omega) (Below.size (by assumption)) ?_; intro v5 w5 hown5 hg5 _; obtain ⟨A5, c5, rfl, -, -, -⟩ := own_form hown5; have hb5 : Below wc.heap.size wc w5 := below_grown (by assumption) hg5 (Below.size (by assumption)) (own_base Hown4.out); have Hown5 := Lib.hid hown5; clear hown5))
            | ((refine step_append_cells (by rfl) (.tmp 45) (.tmp 46) 22 (by rfl) wc.heap.size 5 (.int .u8 0) 1 1 (by kernel_rfl) (by kernel_rfl) rfl (by omega) (.slice (some ⟨w3.heap.size, 0, none⟩) 0 0) 0 [] (by exact World.ownsRow_lit (size := 1) _ #[] 0 (Below.size (by assumption)) (Nat.zero_le _) rfl) (by rfl) (some ⟨ga, 0, none⟩) 32 32 (bytesV ta) (by rfl) (by rw [bytesV_length, d1.out.1]) (by exact CA.out.below (by assumption)) (bytesV_one _) (by unfold maxLen; omega) (by omega) (Below.size (by assumption)) ?_; intro v4 w4 hown4 hg4 _; have hb4 : Below wc.heap.size wc w4 := below_grown (by assumption) hg4 (Below.size (by assumption)) (by intro k hk; simp [Value.ownBlock] at hk; have := hb3'.size; omega); have Hown4 := Lib.hid hown4; clear hown4))
            | ((refine step_append_cells (by rfl) (.tmp 45) (.tmp 46) 22 (by rfl) wc.heap.size 5 (.int .u8 0) 1 1 (by kernel_rfl) (by kernel_rfl) rfl (by omega) (.slice (some ⟨wc.heap.size, 0, none⟩) 0 0) 0 [] (by first | exact own_below (World.ownsRow.drew (World.ownsRow_lit (size := 1) wc #[] 0 (Nat.le_refl _) (Nat.zero_le _) rfl)) hb3 | exact own_below (World.ownsRow_lit (size := 1) _ #[] 0 (Nat.le_refl _) (Nat.zero_le _) rfl) hb3 | exact World.ownsRow_lit (size := 1) _ #[] 0 (Nat.le_refl _) (Nat.zero_le _) rfl) (by rfl) (some ⟨ga, 0, none⟩) 32 32 (bytesV ta) (by rfl) (by rw [bytesV_length, d1.out.1]) (by exact CA.out.below (by assumption)) (bytesV_one _) (by unfold maxLen; omega) (by omega) (Below.size (by assumption)) ?_; intro v4 w4 hown4 hg4 _; have hb4 : Below wc.heap.size wc w4 := below_grown (by assumption) hg4 (Below.size (by assumption)) (by intro k hk; simp [Value.ownBlock] at hk; omega); have Hown4 := Lib.hid hown4; clear hown4))
            | (go_at_call 16; refine (HT.out _ (HCc.out.below (by assumption))).mono ?_; rintro e w3 ⟨rfl, hb3⟩; have hb3' : Below wc.heap.size wc w3 := below_of (by assumption) hb3 (Below.size (by assumption)))
            | (fail))
        all_goals
          go_wp2_with (fail)
          go_ret
          exact ⟨rfl, below_of HBc.out (by assumption) HBc.out.size⟩
-- the row
theorem digestHalves_own : ownKnob Try.prog.godebug = none := by kernel_rfl
theorem digestHalves_laidOut : laidOutB Try.prog = true := by kernel_rfl
theorem digestHalves_readable : (Try.f9.params.toList.all fun t => Try.prog.readableRec t && decide (t < Try.prog.types.size)) = true := by kernel_rfl
set_option maxRecDepth 100000 in
theorem digestHalves_lifted (os : Os) (started : os.Started) (H : Type) (enc : TypeId × Value → H) :
    ReturnsInHanded {} Try.checked os 9 .any (Rows.digestHalvesSpec.pre6 enc Try.prog Try.f9 Rows.digestHalvesRow.domain false) (Rows.digestHalvesSpec.post enc Try.prog Try.f9 false true false false) := by
  refine returnsInHanded_of_change (C := Try.checked) digestHalves_own started (by kernel_rfl) Try.func9
    (ChangeSpec.witness6 (enc := enc) (C := Try.checked) false ⟨#[], #[.slice none 0 0], []⟩ 8 (by kernel_rfl) (by kernel_rfl) (by kernel_rfl) (by kernel_rfl)) ?_
  intro W base args ds gs before hval0 hW hcnd _
  have hval : ∀ (j : Nat) t v, Try.f9.params[j]? = some t → args[j]? = some v → Value.okWide Try.prog W .any base t v := hval0
  have hW' := hW
  obtain ⟨p, q, hA0, hV, rfl, hfz, hnd⟩ := hW
  have hA : DataW.TrodAll enc Try.prog W 0 (fun _ => true) true Try.f9.params.toList args.toList ds p := hA0
  rw [Try.params9] at hA hval
  obtain ⟨v0, vs0, d0, ds0, p0, q0, hargs, rfl, rfl, h0, r0⟩ := trodAll_cons hA
  obtain ⟨rfl, rfl, rfl⟩ := trodAll_nil r0
  obtain rfl : args = #[v0] := by cases args; simp_all
  obtain ⟨rfl, rfl⟩ := trodVars_none hV
  obtain ⟨A0, n0, c0, xs0, rfl, l0, nc0, cm0, g0, w0⟩ := open_intslice Try.underlying22 Try.underlying5 (by kernel_rfl) (hval 0 22 v0 rfl rfl) h0
  refine (DigestHalves_walk W A0 n0 c0 xs0 l0 nc0 cm0 g0 w0).mono fun e W' ⟨he, hb⟩ => ?_
  subst he
  simp only [List.append_nil] at hW'
  refine ⟨_, rfl, law_post digestHalves_laidOut ?_ (by kernel_rfl) Try.underlying4 rfl hW' rfl rfl rfl hb⟩
  intro t ht
  have hr := List.all_eq_true.1 digestHalves_readable t ht
  rw [Bool.and_eq_true] at hr
  exact ⟨hr.1, of_decide_eq_true hr.2⟩
theorem digestHalves_over : Rows.digestHalvesRow.holds Try.pinned (OpenSpec.ofChange Rows.digestHalvesSpec) :=
  OpenClaim.holds_of_wide 9 Try.f9 rfl rfl rfl rfl rfl rfl rfl ⟨rfl, rfl, rfl, rfl, rfl⟩ rfl rfl rfl rfl rfl (by kernel_rfl) Try.func9 (by kernel_rfl)
    (of_decide_eq_true (by kernel_rfl)) (by unfold Func.isWrapper; rw [if_neg (of_decide_eq_false (by kernel_rfl))]; exact ⟨rfl, rfl⟩)
    (fun os started H enc _ => digestHalves_lifted os started H enc)
theorem digestHalves_proved : Rows.DigestHalvesSaid := digestHalves_over
#print axioms digestHalves_proved
end Go.Proofs.Ytibcmlcjpoemoaa
