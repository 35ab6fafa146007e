/- The walks of growth and Grow of the reference. -/
import Derived.Test.YtcijhakofoklcaaGrowP
namespace Go.Proofs.Ytcijhakofoklcaa
open Go.RowKit
theorem ownD_one (w : World) (base : Nat) (d : List Nat) (hd : IsD d) (hb : base ≤ w.heap.size) : (w.alloc (.cells (arrK .u8 d) 37)).ownsRow base 37 32 (.slice (some ⟨w.heap.size, 0, none⟩) 1 1) 1 (bytesV [d].flatten) := by
  have := World.ownsRow_lit (base := base) (e := 37) (size := 32) w (arrK .u8 d) 1 hb (by unfold maxLen; omega) (by rw [len32 hd.1])
  rwa [arrK_bytesV, show bytesV d = bytesV [d].flatten by simp] at this
set_option linter.unusedSimpArgs false in
set_option maxRecDepth 100000 in
set_option maxHeartbeats 4000000 in
theorem rgrowth_any : ∀ (m : Nat) (l : List (List Nat)) (n : Nat) (wh : Bool) (A : Option Addr) (c : Nat) (w : World), l.length = m → IsL l → 1 ≤ n → n ≤ m → m ≤ c → m ≤ 1000000 → Cells w A (bytesV l.flatten) →
    Calls Try.prog 64 #[.slice A m c, .int .i64 n, .bool wh] w fun e w' => ∃ A' q c', e = .returned (.slice A' q c') ∧ (growS l n wh).length = q ∧ w'.ownsRow w.heap.size 37 32 (.slice A' q c') q (bytesV (growS l n wh).flatten) ∧ Below w.heap.size w w' := by
  intro m
  induction m using Nat.strongRecOn with
  | _ m ih =>
  intro l n wh A c w hl hL hn1 hn hmc hm hA
  have IH := Lib.hid ih
  have Hl := Lib.hid hl
  have HL := Lib.hid hL
  have HA := Lib.hid hA
  clear ih hl hL hA
  by_cases h0 : n = m
  · have hq1 : ((n : Int) == (m : Int)) = true := by simp; omega
    have hq2 : (n == m) = true := by simp; omega
    have HT := Lib.hid (rtree_any m l A c w Hl.out HL.out hmc hm HA.out)
    have Dt := Lib.hid (treeS_isD l)
    have gw := Lib.hid (growS_whole (l := l) (n := n) (by rw [Hl.out]; exact h0))
    have gp := Lib.hid (growS_part (l := l) (n := n) (by rw [Hl.out]; exact h0))
    clear h0
    cases wh
    · rw [gp.out]
      generalize treeS l = r at *
      clear gp gw
      go_enter Try.func64, Try.ntmps64
      go_wp2_with (fail)
      refine HT.out.mono ?_
      rintro e w1 ⟨rfl, hb1⟩
      have Hb1 := Lib.hid hb1
      clear hb1
      go_wp2_with (refine wpList_oneD rfl _ rfl r Dt.out rfl ?_)
      go_ret
      exact ⟨_, 1, _, rfl, rfl, ownD_one w1 _ r Dt.out Hb1.out.size, Hb1.out.alloc Hb1.out.size _⟩
    · rw [gw.out]
      clear gp gw
      go_enter Try.func64, Try.ntmps64
      go_wp2_with (fail)
      go_ret
      exact ⟨_, 0, _, rfl, rfl, ownD_empty w _ (Nat.le_refl _), (Below.refl _ _).alloc (Nat.le_refl _) _⟩
  have h2 : 2 ≤ m := by omega
  have hq1 : ((n : Int) == (m : Int)) = false := by simp; omega
  have hq2 : (n == m) = false := by simp; omega
  have hk1 := half_lt h2
  have hk2 := half_pos m
  have HH := Lib.hid (fun W => rhalf_any m W h2 (by omega))
  obtain ⟨b, off, rfl, hb, hcell⟩ := Cells.addr HA.out (by rw [bytesV_length, HL.out.flat_length, Hl.out]; omega)
  clear hcell
  have plo := Lib.hid (fun h => growS_lo (l := l) (n := n) wh (by rw [Hl.out]; exact h0) (by rw [Hl.out]; exact h2) h)
  have phi := Lib.hid (fun h => growS_hi (l := l) (n := n) wh (by rw [Hl.out]; exact h0) (by rw [Hl.out]; exact h2) h)
  have hpow := Lib.hid (fun (x y : Nat) (z : Bool) (h : y ≤ 1000000) => Nat.le_trans (grownS_pow 20 x y z (Nat.le_trans h (by decide))) (show 20 + 1 ≤ 1000000 by decide))
  rw [Hl.out] at plo phi
  generalize halfN m = k at *
  have C1 := Lib.hid (show Cells w (some ⟨b, off, none⟩) (bytesV (l.take k).flatten) by
    rw [HL.out.flat_take k]
    have := HA.out.take_ (k * 32)
    rwa [show (bytesV l.flatten).take (k * 32) = bytesV (l.flatten.take (k * 32)) by unfold bytesV; rw [List.map_take]] at this)
  have C2 := Lib.hid (show Cells w (some ⟨b, off + k * 32, none⟩) (bytesV (l.drop k).flatten) by
    rw [HL.out.flat_drop k, bytesV_drop]
    exact HA.out.drop_ (k * 32))
  have L1 := Lib.hid (show (l.take k).length = k by rw [List.length_take, Hl.out]; omega)
  have L2 := Lib.hid (show (l.drop k).length = m - k by rw [List.length_drop, Hl.out])
  have T1 := Lib.hid (fun W h => rtree_any k (l.take k) (some ⟨b, off, none⟩) c W L1.out (HL.out.take k) (by omega) (by omega) h)
  have T2 := Lib.hid (fun W h => rtree_any (m - k) (l.drop k) (some ⟨b, off + k * 32, none⟩) (c - k) W L2.out (HL.out.drop k) (by omega) (by omega) h)
  have hkm : (k : Int) ≤ (m : Int) := by omega
  have hkc : (k : Int) ≤ (c : Int) := by omega
  have hmc' : (m : Int) ≤ (c : Int) := by omega
  have hck : ¬ c = k := by omega
  have hck2 : (c == k) = false := by simp; omega
  clear HA
  by_cases hk : n ≤ k
  · have hdk : decide ((n : Int) ≤ (k : Int)) = true := by simp; omega
    have hdk2 : decide (n ≤ k) = true := by simp; omega
    have P1 := Lib.hid (fun W h => IH.out k hk1 (l.take k) n wh (some ⟨b, off, none⟩) c W L1.out (HL.out.take k) hn1 hk (by omega) (by omega) h)
    have HP := Lib.hid (plo.out hk)
    have Dt := Lib.hid (treeS_isD (l.drop k))
    have hpl := Lib.hid (show (growS (l.take k) n wh).length ≤ 1000000 by rw [growS_length k _ _ _ L1.out hn1 hk]; exact hpow.out _ _ _ (by omega))
    clear plo phi hk h0
    go_enter Try.func64, Try.ntmps64
    go_wp2_with (fail)
    refine (HH.out _).mono ?_
    rintro e w' ⟨rfl, rfl⟩
    go_wp2_with (fail)
    refine wp_region_held_drew (S := fun W => Below w.heap.size w W) (by kernel_rfl) (below_drewN (Below.refl _ _) 1) (fun Hd => ?_)
    replace Hd : Below w.heap.size w w.drew := Hd
    generalize World.drew w = wd at *
    refine wpAnyH_take (i := 0) (v := ?_) rfl (by kernel_rfl) (by kernel_rfl) (by kernel_rfl) (fun _ _ _ h => h) (Or.inl ⟨by rfl, ?_⟩) Hd ?_
    rotate_left
    · intro w hSw; go_simp; try with_reducible rfl
    simp only [List.getElem_toArray, List.getElem_cons_zero, List.getElem_cons_succ, Act.put, List.setIfInBounds_toArray, List.set_cons_zero, List.set_cons_succ]
    refine wpAnyH_take (i := 1) (v := ?_) rfl (by kernel_rfl) (by kernel_rfl) (by kernel_rfl) (fun _ _ _ h => h) (Or.inl ⟨by rfl, ?_⟩) Hd ?_
    rotate_left
    · intro w hSw; go_simp; try with_reducible rfl
    simp only [List.getElem_toArray, List.getElem_cons_zero, List.getElem_cons_succ, Act.put, List.setIfInBounds_toArray, List.set_cons_zero, List.set_cons_succ]
    refine wpAnyH_take (i := 2) (v := ?_) rfl (by kernel_rfl) (by kernel_rfl) (by kernel_rfl) (fun _ _ _ h => h) (Or.inl ⟨by rfl, ?_⟩) Hd ?_
    rotate_left
    · intro w hSw; go_simp; try with_reducible rfl
    simp only [List.getElem_toArray, List.getElem_cons_zero, List.getElem_cons_succ, Act.put, List.setIfInBounds_toArray, List.set_cons_zero, List.set_cons_succ]
    refine wpAnyH_take (i := 3) (v := ?_) rfl (by kernel_rfl) (by kernel_rfl) (by kernel_rfl) (fun _ _ _ h => h) (Or.inl ⟨by rfl, ?_⟩) Hd ?_
    rotate_left
    · intro w hSw; go_simp; try with_reducible rfl
    simp only [List.getElem_toArray, List.getElem_cons_zero, List.getElem_cons_succ, Act.put, List.setIfInBounds_toArray, List.set_cons_zero, List.set_cons_succ]
    refine wpAnyH_take (i := 4) (v := ?_) rfl (by kernel_rfl) (by kernel_rfl) (by kernel_rfl) (fun _ _ _ h => h) (Or.inl ⟨by rfl, ?_⟩) Hd ?_
    rotate_left
    · intro w hSw; go_simp; try with_reducible rfl
    simp only [List.getElem_toArray, List.getElem_cons_zero, List.getElem_cons_succ, Act.put, List.setIfInBounds_toArray, List.set_cons_zero, List.set_cons_succ]
    refine wpAnyH_take (i := 6) (v := ?_) rfl (by kernel_rfl) (by kernel_rfl) (by kernel_rfl) (fun _ _ _ h => h) (Or.inl ⟨by rfl, ?_⟩) Hd ?_
    rotate_left
    · intro w hSw; go_simp; try with_reducible rfl
    simp only [List.getElem_toArray, List.getElem_cons_zero, List.getElem_cons_succ, Act.put, List.setIfInBounds_toArray, List.set_cons_zero, List.set_cons_succ]
    refine wpAnyH_take (i := 7) (v := ?_) rfl (by kernel_rfl) (by kernel_rfl) (by kernel_rfl) (fun _ _ _ h => h) (Or.inl ⟨by rfl, ?_⟩) Hd ?_
    rotate_left
    · intro w hSw; go_simp; try with_reducible rfl
    simp only [List.getElem_toArray, List.getElem_cons_zero, List.getElem_cons_succ, Act.put, List.setIfInBounds_toArray, List.set_cons_zero, List.set_cons_succ]
    refine wpAnyH_take (i := 8) (v := ?_) rfl (by kernel_rfl) (by kernel_rfl) (by kernel_rfl) (fun _ _ _ h => h) (Or.inl ⟨by rfl, ?_⟩) Hd ?_
    rotate_left
    · intro w hSw; go_simp; try with_reducible rfl
    simp only [List.getElem_toArray, List.getElem_cons_zero, List.getElem_cons_succ, Act.put, List.setIfInBounds_toArray, List.set_cons_zero, List.set_cons_succ]
    refine wpAnyH_ready (rs := [5]) (by kernel_rfl) (by simp) (AllReadyH.cons rfl (fun K hK => ?_) AllReadyH.nil)
    go_simp
    refine (P1.out _ (C1.out.below Hd)).mono ?_
    rintro e w3 ⟨A3, q3, c3, rfl, hq3, hown3, hb3⟩
    have hb3' : Below w.heap.size w w3 := below_of Hd hb3 Hd.size
    have Hown3 := Lib.hid (own_mono hown3 Hd.size)
    have Hq3 := Lib.hid hq3
    clear hown3 hq3 hb3
    go_wp2_with (fail)
    refine hK.out _ _ hb3' fun _ => ?_
    clear hK K
    try simp only [List.getElem_toArray, List.getElem_cons_zero, List.getElem_cons_succ, Act.put, List.setIfInBounds_toArray, List.set_cons_zero, List.set_cons_succ]
    refine wpAnyH_ready (rs := [9]) (by kernel_rfl) (by simp) (AllReadyH.cons rfl (fun K hK => ?_) AllReadyH.nil)
    go_simp
    refine (T2.out _ (C2.out.below hb3')).mono ?_
    rintro e w4 ⟨rfl, hb4⟩
    have hb4' : Below w.heap.size w w4 := below_of hb3' hb4 hb3'.size
    have Hown4 := Lib.hid (own_below Hown3.out hb4)
    go_wp2_with (fail)
    refine hK.out _ _ hb4' fun _ => ?_
    clear hK K
    try simp only [List.getElem_toArray, List.getElem_cons_zero, List.getElem_cons_succ, Act.put, List.setIfInBounds_toArray, List.set_cons_zero, List.set_cons_succ]
    refine wpAnyH_ready (rs := [10]) (by kernel_rfl) (by simp) (AllReadyH.cons rfl (fun K hK => ?_) AllReadyH.nil)
    refine step_oneD (by rfl) _ (by rfl) _ Dt.out (by rfl) ?_
    have hbA : Below w.heap.size w (w4.alloc (.cells (arrK .u8 (treeS (l.drop k))) 37)) := hb4'.alloc hb4'.size _
    have HD := Lib.hid (Blk.new w4 37 (arrK .u8 (treeS (l.drop k))))
    have Hown5 := Lib.hid (Hown4.out.alloc (.cells (arrK .u8 (treeS (l.drop k))) 37))
    generalize World.alloc _ _ = w5 at *
    refine hK.out _ _ hbA fun _ => ?_
    clear hK K
    try simp only [List.getElem_toArray, List.getElem_cons_zero, List.getElem_cons_succ, Act.put, List.setIfInBounds_toArray, List.set_cons_zero, List.set_cons_succ]
    refine wpAnyH_ready (rs := [11]) (by kernel_rfl) (by simp) (AllReadyH.cons rfl (fun K hK => ?_) AllReadyH.nil)
    refine step_pushD (by rfl) (.tmp 34) (.tmp 39) (by rfl) w.heap.size (.slice A3 q3 c3) q3 (growS (l.take k) n wh) (treeS (l.drop k)) Hown5.out (by rfl) w4.heap.size HD.out Dt.out (by rfl) (by rw [← Hq3.out]; exact hpl.out) hbA.size ?_
    intro v6 w6 hown6 hg6
    obtain ⟨A6, c6, rfl, -, -, -⟩ := own_form hown6
    have hb6 : Below w.heap.size w w6 := below_grown hbA hg6 hbA.size (own_base Hown5.out)
    have Hown6 := Lib.hid hown6
    clear hown6 hg6
    refine hK.out _ _ hb6 fun _ => ?_
    clear hK K
    try simp only [List.getElem_toArray, List.getElem_cons_zero, List.getElem_cons_succ, Act.put, List.setIfInBounds_toArray, List.set_cons_zero, List.set_cons_succ]
    refine wpAnyH_take (i := 12) (v := ?_) rfl (by kernel_rfl) (by kernel_rfl) (by kernel_rfl) (fun _ _ _ h => h) (Or.inl ⟨by rfl, ?_⟩) hb6 ?_
    rotate_left
    · intro w hSw; go_simp; try with_reducible rfl
    simp only [List.getElem_toArray, List.getElem_cons_zero, List.getElem_cons_succ, Act.put, List.setIfInBounds_toArray, List.set_cons_zero, List.set_cons_succ]
    refine wpAnyH_done (by kernel_rfl) ?_ _
    go_wp2_with (fail)
    go_ret
    refine ⟨A6, q3 + 1, c6, rfl, ?_, ?_, hb6⟩
    · rw [HP.out, List.length_append, Hq3.out]; rfl
    · rw [HP.out]; exact Hown6.out
  · have hdk : decide ((n : Int) ≤ (k : Int)) = false := by simp; omega
    have hdk2 : decide (n ≤ k) = false := by simp; omega
    have P1 := Lib.hid (fun W h => IH.out (m - k) (by omega) (l.drop k) (n - k) false (some ⟨b, off + k * 32, none⟩) (c - k) W L2.out (HL.out.drop k) (by omega) (by omega) (by omega) (by omega) h)
    have HP := Lib.hid (phi.out hk)
    have Dt := Lib.hid (treeS_isD (l.take k))
    have hpl := Lib.hid (show (growS (l.drop k) (n - k) false).length ≤ 1000000 by rw [growS_length (m - k) _ _ _ L2.out (by omega) (by omega)]; exact hpow.out _ _ _ (by omega))
    have s1 : (n : Int) - (k : Int) = ((n - k : Nat) : Int) := by omega
    have s3 : IntKind.i64.wrap ((n - k : Nat) : Int) = ((n - k : Nat) : Int) := IntWalk.i64_in _ (by omega)
    clear plo phi hk h0
    go_enter Try.func64, Try.ntmps64
    go_wp2_with (fail)
    refine (HH.out _).mono ?_
    rintro e w' ⟨rfl, rfl⟩
    go_wp2_with (fail)
    refine wp_region_held_drew (S := fun W => Below w.heap.size w W) (by kernel_rfl) (below_drewN (Below.refl _ _) 1) (fun Hd => ?_)
    replace Hd : Below w.heap.size w w.drew := Hd
    generalize World.drew w = wd at *
    refine wpAnyH_take (i := 0) (v := ?_) rfl (by kernel_rfl) (by kernel_rfl) (by kernel_rfl) (fun _ _ _ h => h) (Or.inl ⟨by rfl, ?_⟩) Hd ?_
    rotate_left
    · intro w hSw; go_simp; try with_reducible rfl
    simp only [List.getElem_toArray, List.getElem_cons_zero, List.getElem_cons_succ, Act.put, List.setIfInBounds_toArray, List.set_cons_zero, List.set_cons_succ]
    refine wpAnyH_take (i := 1) (v := ?_) rfl (by kernel_rfl) (by kernel_rfl) (by kernel_rfl) (fun _ _ _ h => h) (Or.inl ⟨by rfl, ?_⟩) Hd ?_
    rotate_left
    · intro w hSw; go_simp; try with_reducible rfl
    simp only [List.getElem_toArray, List.getElem_cons_zero, List.getElem_cons_succ, Act.put, List.setIfInBounds_toArray, List.set_cons_zero, List.set_cons_succ]
    refine wpAnyH_take (i := 2) (v := ?_) rfl (by kernel_rfl) (by kernel_rfl) (by kernel_rfl) (fun _ _ _ h => h) (Or.inl ⟨by rfl, ?_⟩) Hd ?_
    rotate_left
    · intro w hSw; go_simp; try with_reducible rfl
    simp only [List.getElem_toArray, List.getElem_cons_zero, List.getElem_cons_succ, Act.put, List.setIfInBounds_toArray, List.set_cons_zero, List.set_cons_succ]
    refine wpAnyH_take (i := 3) (v := ?_) rfl (by kernel_rfl) (by kernel_rfl) (by kernel_rfl) (fun _ _ _ h => h) (Or.inl ⟨by rfl, ?_⟩) Hd ?_
    rotate_left
    · intro w hSw; go_simp; try with_reducible rfl
    simp only [List.getElem_toArray, List.getElem_cons_zero, List.getElem_cons_succ, Act.put, List.setIfInBounds_toArray, List.set_cons_zero, List.set_cons_succ]
    refine wpAnyH_take (i := 4) (v := ?_) rfl (by kernel_rfl) (by kernel_rfl) (by kernel_rfl) (fun _ _ _ h => h) (Or.inl ⟨by rfl, ?_⟩) Hd ?_
    rotate_left
    · intro w hSw; go_simp; try with_reducible rfl
    simp only [List.getElem_toArray, List.getElem_cons_zero, List.getElem_cons_succ, Act.put, List.setIfInBounds_toArray, List.set_cons_zero, List.set_cons_succ]
    refine wpAnyH_take (i := 5) (v := ?_) rfl (by kernel_rfl) (by kernel_rfl) (by kernel_rfl) (fun _ _ _ h => h) (Or.inl ⟨by rfl, ?_⟩) Hd ?_
    rotate_left
    · intro w hSw; go_simp; try with_reducible rfl
    simp only [List.getElem_toArray, List.getElem_cons_zero, List.getElem_cons_succ, Act.put, List.setIfInBounds_toArray, List.set_cons_zero, List.set_cons_succ]
    refine wpAnyH_take (i := 7) (v := ?_) rfl (by kernel_rfl) (by kernel_rfl) (by kernel_rfl) (fun _ _ _ h => h) (Or.inl ⟨by rfl, ?_⟩) Hd ?_
    rotate_left
    · intro w hSw; go_simp; try with_reducible rfl
    simp only [List.getElem_toArray, List.getElem_cons_zero, List.getElem_cons_succ, Act.put, List.setIfInBounds_toArray, List.set_cons_zero, List.set_cons_succ]
    refine wpAnyH_take (i := 8) (v := ?_) rfl (by kernel_rfl) (by kernel_rfl) (by kernel_rfl) (fun _ _ _ h => h) (Or.inl ⟨by rfl, ?_⟩) Hd ?_
    rotate_left
    · intro w hSw; go_simp; try with_reducible rfl
    simp only [List.getElem_toArray, List.getElem_cons_zero, List.getElem_cons_succ, Act.put, List.setIfInBounds_toArray, List.set_cons_zero, List.set_cons_succ]
    refine wpAnyH_take (i := 9) (v := ?_) rfl (by kernel_rfl) (by kernel_rfl) (by kernel_rfl) (fun _ _ _ h => h) (Or.inl ⟨by rfl, ?_⟩) Hd ?_
    rotate_left
    · intro w hSw; go_simp; try with_reducible rfl
    simp only [List.getElem_toArray, List.getElem_cons_zero, List.getElem_cons_succ, Act.put, List.setIfInBounds_toArray, List.set_cons_zero, List.set_cons_succ]
    refine wpAnyH_ready (rs := [6]) (by kernel_rfl) (by simp) (AllReadyH.cons rfl (fun K hK => ?_) AllReadyH.nil)
    go_simp
    refine (P1.out _ (C2.out.below Hd)).mono ?_
    rintro e w3 ⟨A3, q3, c3, rfl, hq3, hown3, hb3⟩
    have hb3' : Below w.heap.size w w3 := below_of Hd hb3 Hd.size
    have Hown3 := Lib.hid (own_mono hown3 Hd.size)
    have Hq3 := Lib.hid hq3
    clear hown3 hq3 hb3
    go_wp2_with (fail)
    refine hK.out _ _ hb3' fun _ => ?_
    clear hK K
    try simp only [List.getElem_toArray, List.getElem_cons_zero, List.getElem_cons_succ, Act.put, List.setIfInBounds_toArray, List.set_cons_zero, List.set_cons_succ]
    refine wpAnyH_ready (rs := [10]) (by kernel_rfl) (by simp) (AllReadyH.cons rfl (fun K hK => ?_) AllReadyH.nil)
    go_simp
    refine (T1.out _ (C1.out.below hb3')).mono ?_
    rintro e w4 ⟨rfl, hb4⟩
    have hb4' : Below w.heap.size w w4 := below_of hb3' hb4 hb3'.size
    have Hown4 := Lib.hid (own_below Hown3.out hb4)
    go_wp2_with (fail)
    refine hK.out _ _ hb4' fun _ => ?_
    clear hK K
    try simp only [List.getElem_toArray, List.getElem_cons_zero, List.getElem_cons_succ, Act.put, List.setIfInBounds_toArray, List.set_cons_zero, List.set_cons_succ]
    refine wpAnyH_ready (rs := [11]) (by kernel_rfl) (by simp) (AllReadyH.cons rfl (fun K hK => ?_) AllReadyH.nil)
    refine step_oneD (by rfl) _ (by rfl) _ Dt.out (by rfl) ?_
    have hbA : Below w.heap.size w (w4.alloc (.cells (arrK .u8 (treeS (l.take k))) 37)) := hb4'.alloc hb4'.size _
    have HD := Lib.hid (Blk.new w4 37 (arrK .u8 (treeS (l.take k))))
    have Hown5 := Lib.hid (Hown4.out.alloc (.cells (arrK .u8 (treeS (l.take k))) 37))
    generalize World.alloc _ _ = w5 at *
    refine hK.out _ _ hbA fun _ => ?_
    clear hK K
    try simp only [List.getElem_toArray, List.getElem_cons_zero, List.getElem_cons_succ, Act.put, List.setIfInBounds_toArray, List.set_cons_zero, List.set_cons_succ]
    refine wpAnyH_ready (rs := [12]) (by kernel_rfl) (by simp) (AllReadyH.cons rfl (fun K hK => ?_) AllReadyH.nil)
    refine step_pushD (by rfl) (.tmp 47) (.tmp 52) (by rfl) w.heap.size (.slice A3 q3 c3) q3 (growS (l.drop k) (n - k) false) (treeS (l.take k)) Hown5.out (by rfl) w4.heap.size HD.out Dt.out (by rfl) (by rw [← Hq3.out]; exact hpl.out) hbA.size ?_
    intro v6 w6 hown6 hg6
    obtain ⟨A6, c6, rfl, -, -, -⟩ := own_form hown6
    have hb6 : Below w.heap.size w w6 := below_grown hbA hg6 hbA.size (own_base Hown5.out)
    have Hown6 := Lib.hid hown6
    clear hown6 hg6
    refine hK.out _ _ hb6 fun _ => ?_
    clear hK K
    try simp only [List.getElem_toArray, List.getElem_cons_zero, List.getElem_cons_succ, Act.put, List.setIfInBounds_toArray, List.set_cons_zero, List.set_cons_succ]
    refine wpAnyH_take (i := 13) (v := ?_) rfl (by kernel_rfl) (by kernel_rfl) (by kernel_rfl) (fun _ _ _ h => h) (Or.inl ⟨by rfl, ?_⟩) hb6 ?_
    rotate_left
    · intro w hSw; go_simp; try with_reducible rfl
    simp only [List.getElem_toArray, List.getElem_cons_zero, List.getElem_cons_succ, Act.put, List.setIfInBounds_toArray, List.set_cons_zero, List.set_cons_succ]
    refine wpAnyH_done (by kernel_rfl) ?_ _
    go_wp2_with (fail)
    go_ret
    refine ⟨A6, q3 + 1, c6, rfl, ?_, ?_, hb6⟩
    · rw [HP.out, List.length_append, Hq3.out]; rfl
    · rw [HP.out]; exact Hown6.out
end Go.Proofs.Ytcijhakofoklcaa
