/- The reference's length, climb, Climb and Same. -/
import Derived.Test.YtcijhakofoklcaaOwn
namespace Go.Proofs.Ytcijhakofoklcaa
open Go.RowKit
set_option linter.unusedSimpArgs false in
set_option maxRecDepth 100000 in
set_option maxHeartbeats 4000000 in
theorem rlength_any : ∀ (n at_ : Nat) (w : World), at_ < n → n ≤ 1099511627776 →
    Calls Try.prog 76 #[.int .i64 at_, .int .i64 n] w fun e w' => e = .returned (.int .i64 ((dirsS at_ n).length : Nat)) ∧ w = w' := by
  intro n
  induction n using Nat.strongRecOn with
  | _ n ih =>
  intro at_ w hat hn
  have IH := Lib.hid ih
  clear ih
  by_cases h1 : n = 1
  · have hq1 : ((n : Int) == 1) = true := by simp; omega
    rw [dirsS_one at_ n (by omega)]
    go_enter Try.func76, Try.ntmps76
    go_wp2_with (fail)
    go_ret
    exact ⟨rfl, rfl⟩
  have h2 : 2 ≤ n := by omega
  have hq1 : ((n : Int) == 1) = false := by simp; omega
  have hk1 := half_lt h2
  have hk2 := half_pos n
  have HH := Lib.hid (fun W => rhalf_any n W h2 (by omega))
  have dlo := Lib.hid (fun h => dirsS_lo (at_ := at_) h2 h)
  have dhi := Lib.hid (fun h => dirsS_hi (at_ := at_) h2 h)
  generalize halfN n = k at *
  clear h1
  by_cases hk : at_ < k
  · have hdk : decide ((at_ : Int) < (k : Int)) = true := by simp; omega
    have hdk2 : decide (at_ < k) = true := by simp; omega
    have P := Lib.hid (fun W => IH.out k hk1 at_ W hk (by omega))
    have hb := dirsS_lt k at_ hk2
    rw [dlo.out hk, List.length_cons]
    generalize (dirsS at_ k).length = q at *
    have s1 : (1 : Int) + (q : Int) = ((q + 1 : Nat) : Int) := by omega
    have s2 : IntKind.i64.wrap ((q + 1 : Nat) : Int) = ((q + 1 : Nat) : Int) := IntWalk.i64_in _ (by omega)
    clear dlo dhi
    go_enter Try.func76, Try.ntmps76
    go_wp2_with (fail)
    refine (HH.out _).mono ?_
    rintro e w' ⟨rfl, rfl⟩
    go_wp2_with (go_at_call 76; refine (P.out _).mono ?_; rintro e w3 ⟨rfl, rfl⟩)
    go_ret
    exact ⟨ret_int (by omega), rfl⟩
  · have hdk : decide ((at_ : Int) < (k : Int)) = false := by simp; omega
    have hdk2 : decide (at_ < k) = false := by simp; omega
    have P := Lib.hid (fun W => IH.out (n - k) (by omega) (at_ - k) W (by omega) (by omega))
    have hb := dirsS_lt (n - k) (at_ - k) (by omega)
    rw [dhi.out hk, List.length_cons]
    generalize (dirsS (at_ - k) (n - k)).length = q at *
    have s1 : (1 : Int) + (q : Int) = ((q + 1 : Nat) : Int) := by omega
    have s2 : IntKind.i64.wrap ((q + 1 : Nat) : Int) = ((q + 1 : Nat) : Int) := IntWalk.i64_in _ (by omega)
    have s3 : (at_ : Int) - (k : Int) = ((at_ - k : Nat) : Int) := by omega
    have s4 : IntKind.i64.wrap ((at_ - k : Nat) : Int) = ((at_ - k : Nat) : Int) := IntWalk.i64_in _ (by omega)
    have s5 : (n : Int) - (k : Int) = ((n - k : Nat) : Int) := by omega
    have s6 : IntKind.i64.wrap ((n - k : Nat) : Int) = ((n - k : Nat) : Int) := IntWalk.i64_in _ (by omega)
    clear dlo dhi
    go_enter Try.func76, Try.ntmps76
    go_wp2_with (fail)
    refine (HH.out _).mono ?_
    rintro e w' ⟨rfl, rfl⟩
    go_wp2_with (go_at_call 76; refine (P.out _).mono ?_; rintro e w3 ⟨rfl, rfl⟩)
    go_ret
    exact ⟨ret_int (by omega), rfl⟩
theorem snoc_of {α : Type} (p : List α) (h : 1 ≤ p.length) : ∃ p' o, p = p' ++ [o] := ⟨p.dropLast, p.getLast (by intro e; rw [e] at h; simp at h), (List.dropLast_concat_getLast _).symm⟩
set_option linter.unusedSimpArgs false in
set_option maxRecDepth 100000 in
set_option maxHeartbeats 4000000 in
theorem rclimb_in : ∀ (n at_ q : Nat) (d : List Nat) (p : List (List Nat)) (A : Option Addr) (c : Nat) (w : World), at_ < n → n ≤ 1099511627776 → IsD d → p.length = q → IsL p → q = (dirsS at_ n).length → q ≤ c → Hid (c ≤ maxLen) → Cells w A (bytesV p.flatten) →
    Calls Try.prog 77 #[.agg (arrK .u8 d), .int .i64 at_, .int .i64 n, .slice A q c] w fun e w' => e = .returned (.agg (arrK .u8 (climbS d at_ n p))) ∧ Below w.heap.size w w' := by
  intro n
  induction n using Nat.strongRecOn with
  | _ n ih =>
  intro at_ q d p A c w hat hn hd hp hP hq hqc Hcm hA
  have IH := Lib.hid ih
  have HDd := Lib.hid hd
  have Hp := Lib.hid hp
  have HP := Lib.hid hP
  have HA := Lib.hid hA
  have hb := dirsS_lt n at_ (by omega)
  clear ih hd hp hP hA
  have hqI : q ≤ 1099511627776 := by omega
  by_cases h1 : n = 1
  · have hq1 : ((n : Int) == 1) = true := by simp; omega
    have he : climbS d at_ n p = leafS d := by subst h1; exact climbS_one d at_ p
    rw [he]
    have HL := Lib.hid (fun W A h => rtagged_any ⟨#[108, 101, 97, 102]⟩ A 32 32 d W h HDd.out.1 (by omega) HDd.out.2 (by decide))
    rw [← leafS_eq] at HL
    have lt := Lib.hid (leafS_isD d).1
    clear he hb hq h1
    go_enter Try.func77, Try.ntmps77
    go_wp2_with (fail)
    generalize hge : World.alloc _ _ = w1
    have H1 := (show Blk w1 w.heap.size 37 (arrK .u8 d) by subst hge; exact (blk_two w (arrK .u8 d) (arrK .u8 z32) 37 37).1)
    have HR := Lib.hid (show Blk w1 (w.heap.size + 1) 37 (arrK .u8 z32) by subst hge; exact (blk_two w (arrK .u8 d) (arrK .u8 z32) 37 37).2)
    have HB := Lib.hid (show Below w.heap.size w w1 by subst hge; exact ((Below.refl _ _).alloc (Nat.le_refl _) _).alloc (by simp) _)
    have C1 : Cells w1 (some ⟨w.heap.size, 0, none⟩) (bytesV d) := by have := cells_blk H1; rwa [arrK_bytesV] at this
    clear hge H1
    refine (HL.out _ _ C1).mono ?_
    rintro e w5 ⟨rfl, hb5⟩
    have HR5 := Lib.hid (HR.out.below hb5)
    have HB5 := Lib.hid (HB.out.trans (hb5.mono HB.out.size))
    clear hb5 C1
    go_wp2_with (
      (refine wpList_put_blk rfl 37 (.tmp 8) (.tmp 14) rfl (w.heap.size + 1) (arrK .u8 (leafS d)) rfl rfl 37 (arrK .u8 z32) HR5.out (info32 lt.out) (by rw [len32 lt.out, len32 z32_length]) (arrK_all _ _) ?_
       intro w6 HD6 hg6 hz6
       have HD6 := Lib.hid HD6
       have HB6 := below_grown HB5.out hg6 HB5.out.size (by simp)
       clear hg6 hz6))
    exact ret_row rfl (w.heap.size + 1) 37 (arrK .u8 (leafS d)) (.array 32 5) rfl HD6.out (by kernel_rfl) rfl (info32 lt.out) rfl ⟨rfl, HB6⟩
  have h2 : 2 ≤ n := by omega
  have hq1 : ((n : Int) == 1) = false := by simp; omega
  have hk1 := half_lt h2
  have hk2 := half_pos n
  have HH := Lib.hid (fun W => rhalf_any n W h2 (by omega))
  have dlo := Lib.hid (fun h => dirsS_lo (at_ := at_) h2 h)
  have dhi := Lib.hid (fun h => dirsS_hi (at_ := at_) h2 h)
  have clo := Lib.hid (fun h => climbS_lo (d := d) (at_ := at_) h2 h)
  have chi := Lib.hid (fun h => climbS_hi (d := d) (at_ := at_) h2 h)
  generalize halfN n = k at *
  have hq0 : 1 ≤ q := by
    rw [hq]
    by_cases hk : at_ < k
    · rw [dlo.out hk]; simp
    · rw [dhi.out hk]; simp
  obtain ⟨p', o, rfl⟩ := snoc_of p (by rw [Hp.out]; exact hq0)
  obtain ⟨j, rfl⟩ : ∃ j, q = j + 1 := ⟨q - 1, by omega⟩
  obtain ⟨q, hqj⟩ : ∃ q, j + 1 = q := ⟨_, rfl⟩
  have Hp' := Lib.hid (show p'.length = j by have := Hp.out; simp at this; omega)
  have Ho := Lib.hid (HP.out o (by simp))
  have HP' := Lib.hid (show IsL p' from fun x hx => HP.out x (by simp [hx]))
  obtain ⟨pb, po, rfl, -, -⟩ := Cells.addr HA.out (by rw [bytesV_length, HP.out.flat_length, Hp.out]; omega)
  have C1 := Lib.hid (show Cells w (some ⟨pb, po, none⟩) (bytesV p'.flatten) by
    have := HA.out.take_ (j * 32)
    rw [show (bytesV (p' ++ [o]).flatten).take (j * 32) = bytesV p'.flatten by
      rw [List.flatten_append, bytesV_append, List.take_append_of_le_length (by rw [bytesV_length, HP'.out.flat_length, Hp'.out]; exact Nat.le_refl _), List.take_of_length_le (by rw [bytesV_length, HP'.out.flat_length, Hp'.out]; exact Nat.le_refl _)]] at this
    exact this)
  have hlast : (p' ++ [o])[j]? = some o := by rw [← Hp'.out]; simp
  have HRo := Lib.hid (fun W (h : Below w.heap.size w W) => range_at (k := j) HP.out (HA.out.below h) hlast)
  have i1 : (q : Int) - 1 = (j : Int) := by omega
  have i2 : (j : Int) < (q : Int) := by omega
  have i3 : IntKind.i64.wrap (j : Int) = (j : Int) := IntWalk.i64_in _ (by omega)
  have i4 : (j : Int) ≤ (q : Int) := by omega
  have i5 : (j : Int) ≤ (c : Int) := by omega
  have i6 : (q : Int) ≤ (c : Int) := by omega
  have lz := Lib.hid z32_length
  rw [hqj] at hq hqc hqI ⊢
  clear hlast h1 hq0 Hp
  by_cases hk : at_ < k
  · have hdk : decide ((at_ : Int) < (k : Int)) = true := by simp; omega
    have hdk2 : decide (at_ < k) = true := by simp; omega
    have hj : j = (dirsS at_ k).length := by rw [dlo.out hk, List.length_cons] at hq; omega
    have P1 := Lib.hid (fun W h => IH.out k hk1 at_ j d p' (some ⟨pb, po, none⟩) c W hk (by omega) HDd.out Hp'.out HP'.out hj (by omega) Hcm h)
    rw [clo.out hk p' o (by rw [Hp'.out, hj])]
    have Dx := Lib.hid (climbS_isD d at_ k p')
    generalize climbS d at_ k p' = x at *
    have Dn := Lib.hid (nodeS_isD x o)
    clear dlo dhi clo chi hj hq hb
    go_enter Try.func77, Try.ntmps77
    go_wp2_with (fail)
    generalize hge : World.alloc _ _ = w1
    have HX := Lib.hid (show Blk w1 w.heap.size 37 (arrK .u8 d) by subst hge; exact (blk_two w (arrK .u8 d) (arrK .u8 z32) 37 37).1)
    have HR := Lib.hid (show Blk w1 (w.heap.size + 1) 37 (arrK .u8 z32) by subst hge; exact (blk_two w (arrK .u8 d) (arrK .u8 z32) 37 37).2)
    have HB := Lib.hid (show Below w.heap.size w w1 by subst hge; exact ((Below.refl _ _).alloc (Nat.le_refl _) _).alloc (by simp) _)
    clear hge
    refine (HH.out _).mono ?_
    rintro e w' ⟨rfl, rfl⟩
    have HRg := Lib.hid (HRo.out w1 HB.out)
    go_wp2_with (first
      | (refine wpList_put_blk rfl 37 (.tmp 10) (.tmp 22) rfl w1.heap.size (arrK .u8 o) rfl rfl 37 (arrK .u8 z32) (Blk.new w1 37 (arrK .u8 z32)) (info32 Ho.out.1) (by rw [len32 Ho.out.1, len32 z32_length]) (arrK_all _ _) ?_
         intro w5 HO5 hg5 hz5
         have hb5 : Below w1.heap.size w1 w5 := below_grown ((Below.refl w1.heap.size w1).alloc (Nat.le_refl _) (.cells (arrK .u8 z32) 37)) hg5 (by simp) (by simp)
         have HO5 := Lib.hid HO5
         have HX5 := Lib.hid (HX.out.below hb5)
         have HR5 := Lib.hid (HR.out.below hb5)
         have HB5 := Lib.hid (below_of HB.out hb5 HB.out.size)
         clear hg5 hz5 hb5)
      | (refine wpList_load_mid rfl 37 (.tmp 21) rfl pb (po + j * 32) rfl (o.map fun (n : Nat) => Value.int .u8 (n : Int)) (.array 32 5) HRg.out (by kernel_rfl) rfl (dV_info Ho.out.1) ?_))
    have hsG : w.heap.size + 1 < w1.heap.size := HR.out.lt
    obtain ⟨G, hG⟩ : ∃ G, w1.heap.size = G := ⟨_, rfl⟩
    rw [hG] at HO5 hsG
    rw [hG]
    clear hG
    refine wp_region_held_drew (S := fun W => Below w.heap.size w W ∧ Blk W w.heap.size 37 (arrK .u8 d) ∧ Blk W G 37 (arrK .u8 o)) (by kernel_rfl) (⟨HB5.out.trans (below_drewN (Below.refl _ _) 1), HX5.out.drewN 1, HO5.out.drewN 1⟩) (fun Hd => ?_)
    have Hd : Below w.heap.size w w5.drew := HB5.out.trans (below_drewN (Below.refl _ _) 1)
    have HXd := HX5.out.drewN 1
    have HRd := HR5.out.drewN 1
    have HOd := HO5.out.drewN 1
    replace HXd : Blk w5.drew w.heap.size 37 (arrK .u8 d) := HXd
    replace HRd : Blk w5.drew (w.heap.size + 1) 37 (arrK .u8 z32) := HRd
    replace HOd : Blk w5.drew G 37 (arrK .u8 o) := HOd
    clear HX5 HR5 HO5 HB5
    generalize World.drew w5 = wd at *
    refine wpAnyH_take (i := 0) (v := .agg (arrK .u8 d)) rfl (by kernel_rfl) (by kernel_rfl) (by kernel_rfl) (fun _ _ _ h => h) (yields_load_blk (by rfl) _ _ rfl (w.heap.size) rfl 37 (arrK .u8 d) (.array 32 5) (fun W hW => hW.2.1) (by kernel_rfl) rfl (info32 HDd.out.1)) ⟨Hd, HXd, HOd⟩ ?_
    simp only [List.getElem_toArray, List.getElem_cons_zero, List.getElem_cons_succ, Act.put, List.setIfInBounds_toArray, List.set_cons_zero, List.set_cons_succ]
    refine wpAnyH_take (i := 1) (v := ?_) rfl (by kernel_rfl) (by kernel_rfl) (by kernel_rfl) (fun _ _ _ h => h) (Or.inl ⟨by rfl, ?_⟩) ⟨Hd, HXd, HOd⟩ ?_
    rotate_left
    · intro w hSw; go_simp; try with_reducible rfl
    simp only [List.getElem_toArray, List.getElem_cons_zero, List.getElem_cons_succ, Act.put, List.setIfInBounds_toArray, List.set_cons_zero, List.set_cons_succ]
    refine wpAnyH_take (i := 2) (v := ?_) rfl (by kernel_rfl) (by kernel_rfl) (by kernel_rfl) (fun _ _ _ h => h) (Or.inl ⟨by rfl, ?_⟩) ⟨Hd, HXd, HOd⟩ ?_
    rotate_left
    · intro w hSw; go_simp; try with_reducible rfl
    simp only [List.getElem_toArray, List.getElem_cons_zero, List.getElem_cons_succ, Act.put, List.setIfInBounds_toArray, List.set_cons_zero, List.set_cons_succ]
    refine wpAnyH_take (i := 3) (v := ?_) rfl (by kernel_rfl) (by kernel_rfl) (by kernel_rfl) (fun _ _ _ h => h) (Or.inl ⟨by rfl, ?_⟩) ⟨Hd, HXd, HOd⟩ ?_
    rotate_left
    · intro w hSw; go_simp; try with_reducible rfl
    simp only [List.getElem_toArray, List.getElem_cons_zero, List.getElem_cons_succ, Act.put, List.setIfInBounds_toArray, List.set_cons_zero, List.set_cons_succ]
    refine wpAnyH_take (i := 4) (v := ?_) rfl (by kernel_rfl) (by kernel_rfl) (by kernel_rfl) (fun _ _ _ h => h) (Or.inl ⟨by rfl, ?_⟩) ⟨Hd, HXd, HOd⟩ ?_
    rotate_left
    · intro w hSw; go_simp; try with_reducible rfl
    simp only [List.getElem_toArray, List.getElem_cons_zero, List.getElem_cons_succ, Act.put, List.setIfInBounds_toArray, List.set_cons_zero, List.set_cons_succ]
    refine wpAnyH_take (i := 5) (v := ?_) rfl (by kernel_rfl) (by kernel_rfl) (by kernel_rfl) (fun _ _ _ h => h) (Or.inl ⟨by rfl, ?_⟩) ⟨Hd, HXd, HOd⟩ ?_
    rotate_left
    · intro w hSw; go_simp; try with_reducible rfl
    simp only [List.getElem_toArray, List.getElem_cons_zero, List.getElem_cons_succ, Act.put, List.setIfInBounds_toArray, List.set_cons_zero, List.set_cons_succ]
    refine wpAnyH_take (i := 6) (v := ?_) rfl (by kernel_rfl) (by kernel_rfl) (by kernel_rfl) (fun _ _ _ h => h) (Or.inl ⟨by rfl, ?_⟩) ⟨Hd, HXd, HOd⟩ ?_
    rotate_left
    · intro w hSw; go_simp; try with_reducible rfl
    simp only [List.getElem_toArray, List.getElem_cons_zero, List.getElem_cons_succ, Act.put, List.setIfInBounds_toArray, List.set_cons_zero, List.set_cons_succ]
    refine wpAnyH_take (i := 7) (v := ?_) rfl (by kernel_rfl) (by kernel_rfl) (by kernel_rfl) (fun _ _ _ h => h) (Or.inl ⟨by rfl, ?_⟩) ⟨Hd, HXd, HOd⟩ ?_
    rotate_left
    · intro w hSw; go_simp; try with_reducible rfl
    simp only [List.getElem_toArray, List.getElem_cons_zero, List.getElem_cons_succ, Act.put, List.setIfInBounds_toArray, List.set_cons_zero, List.set_cons_succ]
    refine wpAnyH_take (i := 9) (v := .agg (arrK .u8 o)) rfl (by kernel_rfl) (by kernel_rfl) (by kernel_rfl) (fun _ _ _ h => h) (yields_load_blk (by rfl) _ _ rfl (G) rfl 37 (arrK .u8 o) (.array 32 5) (fun W hW => hW.2.2) (by kernel_rfl) rfl (info32 Ho.out.1)) ⟨Hd, HXd, HOd⟩ ?_
    simp only [List.getElem_toArray, List.getElem_cons_zero, List.getElem_cons_succ, Act.put, List.setIfInBounds_toArray, List.set_cons_zero, List.set_cons_succ]
    refine wpAnyH_ready (rs := [8]) (by kernel_rfl) (by simp) (AllReadyH.cons rfl (fun K hK => ?_) AllReadyH.nil)
    go_simp
    refine (P1.out wd (C1.out.below Hd)).mono ?_
    rintro e w1_ ⟨rfl, hb1⟩
    have fX1 := HXd.below hb1
    have fR1 := HRd.below hb1
    have fO1 := HOd.below hb1
    have Hb1 : Below w.heap.size w w1_ := below_of Hd hb1 Hd.size
    go_wp2_with (fail)
    refine hK.out _ _ ⟨Hb1, fX1, fO1⟩ fun _ => ?_
    clear hK K
    try simp only [List.getElem_toArray, List.getElem_cons_zero, List.getElem_cons_succ, Act.put, List.setIfInBounds_toArray, List.set_cons_zero, List.set_cons_succ]
    refine wpAnyH_ready (rs := [10]) (by kernel_rfl) (by simp) (AllReadyH.cons rfl (fun K hK => ?_) AllReadyH.nil)
    go_simp
    refine (rnode_any x o w1_ Dx.out Ho.out).mono ?_
    rintro e w2_ ⟨rfl, hb2⟩
    have fX2 := fX1.below hb2
    have fR2 := fR1.below hb2
    have fO2 := fO1.below hb2
    have Hb2 : Below w.heap.size w w2_ := below_of Hb1 hb2 Hb1.size
    go_wp2_with (fail)
    refine hK.out _ _ ⟨Hb2, fX2, fO2⟩ fun _ => ?_
    clear hK K
    try simp only [List.getElem_toArray, List.getElem_cons_zero, List.getElem_cons_succ, Act.put, List.setIfInBounds_toArray, List.set_cons_zero, List.set_cons_succ]
    refine wpAnyH_ready (rs := [11]) (by kernel_rfl) (by simp) (AllReadyH.cons rfl (fun K hK => ?_) AllReadyH.nil)
    refine step_put_blk (by rfl) _ _ _ (by rfl) (w.heap.size + 1) (arrK .u8 (nodeS x o)) (by rfl) (by rfl) _ _ fR2 (info32 Dn.out.1) (by rw [len32 Dn.out.1, len32 lz.out]) (arrK_all _ _) ?_
    intro w3_ fR3 hg3 hz3
    have neX3 := fX2.lt
    have fX3 := fX2.grown hg3 (by first | (simp; done) | (simp; omega))
    have neO3 := fO2.lt
    have fO3 := fO2.grown hg3 (by first | (simp; done) | (simp; omega))
    have Hb3 : Below w.heap.size w w3_ := below_grown Hb2 hg3 Hb2.size (by first | (simp; done) | (simp; exact Nat.le_succ _))
    refine hK.out _ _ ⟨Hb3, fX3, fO3⟩ fun _ => ?_
    clear hK K
    try simp only [List.getElem_toArray, List.getElem_cons_zero, List.getElem_cons_succ, Act.put, List.setIfInBounds_toArray, List.set_cons_zero, List.set_cons_succ]
    refine wpAnyH_done (by kernel_rfl) ?_ _
    go_wp2_with (fail)
    exact ret_row rfl (w.heap.size + 1) 37 (arrK .u8 (nodeS x o)) (.array 32 5) rfl fR3 (by kernel_rfl) rfl (info32 Dn.out.1) rfl ⟨rfl, Hb3⟩
  · have hdk : decide ((at_ : Int) < (k : Int)) = false := by simp; omega
    have hdk2 : decide (at_ < k) = false := by simp; omega
    have hj : j = (dirsS (at_ - k) (n - k)).length := by rw [dhi.out hk, List.length_cons] at hq; omega
    have P1 := Lib.hid (fun W h => IH.out (n - k) (by omega) (at_ - k) j d p' (some ⟨pb, po, none⟩) c W (by omega) (by omega) HDd.out Hp'.out HP'.out hj (by omega) Hcm h)
    rw [chi.out hk p' o (by rw [Hp'.out, hj])]
    have Dx := Lib.hid (climbS_isD d (at_ - k) (n - k) p')
    generalize climbS d (at_ - k) (n - k) p' = x at *
    have Dn := Lib.hid (nodeS_isD o x)
    have s3 : (at_ : Int) - (k : Int) = ((at_ - k : Nat) : Int) := by omega
    have s4 : IntKind.i64.wrap ((at_ - k : Nat) : Int) = ((at_ - k : Nat) : Int) := IntWalk.i64_in _ (by omega)
    have s5 : (n : Int) - (k : Int) = ((n - k : Nat) : Int) := by omega
    have s6 : IntKind.i64.wrap ((n - k : Nat) : Int) = ((n - k : Nat) : Int) := IntWalk.i64_in _ (by omega)
    clear dlo dhi clo chi hj hq hb
    go_enter Try.func77, Try.ntmps77
    go_wp2_with (fail)
    generalize hge : World.alloc _ _ = w1
    have HX := Lib.hid (show Blk w1 w.heap.size 37 (arrK .u8 d) by subst hge; exact (blk_two w (arrK .u8 d) (arrK .u8 z32) 37 37).1)
    have HR := Lib.hid (show Blk w1 (w.heap.size + 1) 37 (arrK .u8 z32) by subst hge; exact (blk_two w (arrK .u8 d) (arrK .u8 z32) 37 37).2)
    have HB := Lib.hid (show Below w.heap.size w w1 by subst hge; exact ((Below.refl _ _).alloc (Nat.le_refl _) _).alloc (by simp) _)
    clear hge
    refine (HH.out _).mono ?_
    rintro e w' ⟨rfl, rfl⟩
    have HRg := Lib.hid (HRo.out w1 HB.out)
    go_wp2_with (first
      | (refine wpList_put_blk rfl 37 (.tmp 10) (.tmp 22) rfl w1.heap.size (arrK .u8 o) rfl rfl 37 (arrK .u8 z32) (Blk.new w1 37 (arrK .u8 z32)) (info32 Ho.out.1) (by rw [len32 Ho.out.1, len32 z32_length]) (arrK_all _ _) ?_
         intro w5 HO5 hg5 hz5
         have hb5 : Below w1.heap.size w1 w5 := below_grown ((Below.refl w1.heap.size w1).alloc (Nat.le_refl _) (.cells (arrK .u8 z32) 37)) hg5 (by simp) (by simp)
         have HO5 := Lib.hid HO5
         have HX5 := Lib.hid (HX.out.below hb5)
         have HR5 := Lib.hid (HR.out.below hb5)
         have HB5 := Lib.hid (below_of HB.out hb5 HB.out.size)
         clear hg5 hz5 hb5)
      | (refine wpList_load_mid rfl 37 (.tmp 21) rfl pb (po + j * 32) rfl (o.map fun (n : Nat) => Value.int .u8 (n : Int)) (.array 32 5) HRg.out (by kernel_rfl) rfl (dV_info Ho.out.1) ?_))
    have hsG : w.heap.size + 1 < w1.heap.size := HR.out.lt
    obtain ⟨G, hG⟩ : ∃ G, w1.heap.size = G := ⟨_, rfl⟩
    rw [hG] at HO5 hsG
    rw [hG]
    clear hG
    refine wp_region_held_drew (S := fun W => Below w.heap.size w W ∧ Blk W w.heap.size 37 (arrK .u8 d) ∧ Blk W G 37 (arrK .u8 o)) (by kernel_rfl) (⟨HB5.out.trans (below_drewN (Below.refl _ _) 1), HX5.out.drewN 1, HO5.out.drewN 1⟩) (fun Hd => ?_)
    have Hd : Below w.heap.size w w5.drew := HB5.out.trans (below_drewN (Below.refl _ _) 1)
    have HXd := HX5.out.drewN 1
    have HRd := HR5.out.drewN 1
    have HOd := HO5.out.drewN 1
    replace HXd : Blk w5.drew w.heap.size 37 (arrK .u8 d) := HXd
    replace HRd : Blk w5.drew (w.heap.size + 1) 37 (arrK .u8 z32) := HRd
    replace HOd : Blk w5.drew G 37 (arrK .u8 o) := HOd
    clear HX5 HR5 HO5 HB5
    generalize World.drew w5 = wd at *
    refine wpAnyH_take (i := 0) (v := .agg (arrK .u8 o)) rfl (by kernel_rfl) (by kernel_rfl) (by kernel_rfl) (fun _ _ _ h => h) (yields_load_blk (by rfl) _ _ rfl (G) rfl 37 (arrK .u8 o) (.array 32 5) (fun W hW => hW.2.2) (by kernel_rfl) rfl (info32 Ho.out.1)) ⟨Hd, HXd, HOd⟩ ?_
    simp only [List.getElem_toArray, List.getElem_cons_zero, List.getElem_cons_succ, Act.put, List.setIfInBounds_toArray, List.set_cons_zero, List.set_cons_succ]
    refine wpAnyH_take (i := 1) (v := .agg (arrK .u8 d)) rfl (by kernel_rfl) (by kernel_rfl) (by kernel_rfl) (fun _ _ _ h => h) (yields_load_blk (by rfl) _ _ rfl (w.heap.size) rfl 37 (arrK .u8 d) (.array 32 5) (fun W hW => hW.2.1) (by kernel_rfl) rfl (info32 HDd.out.1)) ⟨Hd, HXd, HOd⟩ ?_
    simp only [List.getElem_toArray, List.getElem_cons_zero, List.getElem_cons_succ, Act.put, List.setIfInBounds_toArray, List.set_cons_zero, List.set_cons_succ]
    refine wpAnyH_take (i := 2) (v := ?_) rfl (by kernel_rfl) (by kernel_rfl) (by kernel_rfl) (fun _ _ _ h => h) (Or.inl ⟨by rfl, ?_⟩) ⟨Hd, HXd, HOd⟩ ?_
    rotate_left
    · intro w hSw; go_simp; try with_reducible rfl
    simp only [List.getElem_toArray, List.getElem_cons_zero, List.getElem_cons_succ, Act.put, List.setIfInBounds_toArray, List.set_cons_zero, List.set_cons_succ]
    refine wpAnyH_take (i := 3) (v := ?_) rfl (by kernel_rfl) (by kernel_rfl) (by kernel_rfl) (fun _ _ _ h => h) (Or.inl ⟨by rfl, ?_⟩) ⟨Hd, HXd, HOd⟩ ?_
    rotate_left
    · intro w hSw; go_simp; try with_reducible rfl
    simp only [List.getElem_toArray, List.getElem_cons_zero, List.getElem_cons_succ, Act.put, List.setIfInBounds_toArray, List.set_cons_zero, List.set_cons_succ]
    refine wpAnyH_take (i := 4) (v := ?_) rfl (by kernel_rfl) (by kernel_rfl) (by kernel_rfl) (fun _ _ _ h => h) (Or.inl ⟨by rfl, ?_⟩) ⟨Hd, HXd, HOd⟩ ?_
    rotate_left
    · intro w hSw; go_simp; try with_reducible rfl
    simp only [List.getElem_toArray, List.getElem_cons_zero, List.getElem_cons_succ, Act.put, List.setIfInBounds_toArray, List.set_cons_zero, List.set_cons_succ]
    refine wpAnyH_take (i := 5) (v := ?_) rfl (by kernel_rfl) (by kernel_rfl) (by kernel_rfl) (fun _ _ _ h => h) (Or.inl ⟨by rfl, ?_⟩) ⟨Hd, HXd, HOd⟩ ?_
    rotate_left
    · intro w hSw; go_simp; try with_reducible rfl
    simp only [List.getElem_toArray, List.getElem_cons_zero, List.getElem_cons_succ, Act.put, List.setIfInBounds_toArray, List.set_cons_zero, List.set_cons_succ]
    refine wpAnyH_take (i := 6) (v := ?_) rfl (by kernel_rfl) (by kernel_rfl) (by kernel_rfl) (fun _ _ _ h => h) (Or.inl ⟨by rfl, ?_⟩) ⟨Hd, HXd, HOd⟩ ?_
    rotate_left
    · intro w hSw; go_simp; try with_reducible rfl
    simp only [List.getElem_toArray, List.getElem_cons_zero, List.getElem_cons_succ, Act.put, List.setIfInBounds_toArray, List.set_cons_zero, List.set_cons_succ]
    refine wpAnyH_take (i := 7) (v := ?_) rfl (by kernel_rfl) (by kernel_rfl) (by kernel_rfl) (fun _ _ _ h => h) (Or.inl ⟨by rfl, ?_⟩) ⟨Hd, HXd, HOd⟩ ?_
    rotate_left
    · intro w hSw; go_simp; try with_reducible rfl
    simp only [List.getElem_toArray, List.getElem_cons_zero, List.getElem_cons_succ, Act.put, List.setIfInBounds_toArray, List.set_cons_zero, List.set_cons_succ]
    refine wpAnyH_take (i := 8) (v := ?_) rfl (by kernel_rfl) (by kernel_rfl) (by kernel_rfl) (fun _ _ _ h => h) (Or.inl ⟨by rfl, ?_⟩) ⟨Hd, HXd, HOd⟩ ?_
    rotate_left
    · intro w hSw; go_simp; try with_reducible rfl
    simp only [List.getElem_toArray, List.getElem_cons_zero, List.getElem_cons_succ, Act.put, List.setIfInBounds_toArray, List.set_cons_zero, List.set_cons_succ]
    refine wpAnyH_take (i := 9) (v := ?_) rfl (by kernel_rfl) (by kernel_rfl) (by kernel_rfl) (fun _ _ _ h => h) (Or.inl ⟨by rfl, ?_⟩) ⟨Hd, HXd, HOd⟩ ?_
    rotate_left
    · intro w hSw; go_simp; try with_reducible rfl
    simp only [List.getElem_toArray, List.getElem_cons_zero, List.getElem_cons_succ, Act.put, List.setIfInBounds_toArray, List.set_cons_zero, List.set_cons_succ]
    refine wpAnyH_take (i := 10) (v := ?_) rfl (by kernel_rfl) (by kernel_rfl) (by kernel_rfl) (fun _ _ _ h => h) (Or.inl ⟨by rfl, ?_⟩) ⟨Hd, HXd, HOd⟩ ?_
    rotate_left
    · intro w hSw; go_simp; try with_reducible rfl
    simp only [List.getElem_toArray, List.getElem_cons_zero, List.getElem_cons_succ, Act.put, List.setIfInBounds_toArray, List.set_cons_zero, List.set_cons_succ]
    refine wpAnyH_take (i := 11) (v := ?_) rfl (by kernel_rfl) (by kernel_rfl) (by kernel_rfl) (fun _ _ _ h => h) (Or.inl ⟨by rfl, ?_⟩) ⟨Hd, HXd, HOd⟩ ?_
    rotate_left
    · intro w hSw; go_simp; try with_reducible rfl
    simp only [List.getElem_toArray, List.getElem_cons_zero, List.getElem_cons_succ, Act.put, List.setIfInBounds_toArray, List.set_cons_zero, List.set_cons_succ]
    refine wpAnyH_take (i := 12) (v := ?_) rfl (by kernel_rfl) (by kernel_rfl) (by kernel_rfl) (fun _ _ _ h => h) (Or.inl ⟨by rfl, ?_⟩) ⟨Hd, HXd, HOd⟩ ?_
    rotate_left
    · intro w hSw; go_simp; try with_reducible rfl
    simp only [List.getElem_toArray, List.getElem_cons_zero, List.getElem_cons_succ, Act.put, List.setIfInBounds_toArray, List.set_cons_zero, List.set_cons_succ]
    refine wpAnyH_ready (rs := [13]) (by kernel_rfl) (by simp) (AllReadyH.cons rfl (fun K hK => ?_) AllReadyH.nil)
    go_simp
    refine (P1.out wd (C1.out.below Hd)).mono ?_
    rintro e w1_ ⟨rfl, hb1⟩
    have fX1 := HXd.below hb1
    have fR1 := HRd.below hb1
    have fO1 := HOd.below hb1
    have Hb1 : Below w.heap.size w w1_ := below_of Hd hb1 Hd.size
    go_wp2_with (fail)
    refine hK.out _ _ ⟨Hb1, fX1, fO1⟩ fun _ => ?_
    clear hK K
    try simp only [List.getElem_toArray, List.getElem_cons_zero, List.getElem_cons_succ, Act.put, List.setIfInBounds_toArray, List.set_cons_zero, List.set_cons_succ]
    refine wpAnyH_ready (rs := [14]) (by kernel_rfl) (by simp) (AllReadyH.cons rfl (fun K hK => ?_) AllReadyH.nil)
    go_simp
    refine (rnode_any o x w1_ Ho.out Dx.out).mono ?_
    rintro e w2_ ⟨rfl, hb2⟩
    have fX2 := fX1.below hb2
    have fR2 := fR1.below hb2
    have fO2 := fO1.below hb2
    have Hb2 : Below w.heap.size w w2_ := below_of Hb1 hb2 Hb1.size
    go_wp2_with (fail)
    refine hK.out _ _ ⟨Hb2, fX2, fO2⟩ fun _ => ?_
    clear hK K
    try simp only [List.getElem_toArray, List.getElem_cons_zero, List.getElem_cons_succ, Act.put, List.setIfInBounds_toArray, List.set_cons_zero, List.set_cons_succ]
    refine wpAnyH_ready (rs := [15]) (by kernel_rfl) (by simp) (AllReadyH.cons rfl (fun K hK => ?_) AllReadyH.nil)
    refine step_put_blk (by rfl) _ _ _ (by rfl) (w.heap.size + 1) (arrK .u8 (nodeS o x)) (by rfl) (by rfl) _ _ fR2 (info32 Dn.out.1) (by rw [len32 Dn.out.1, len32 lz.out]) (arrK_all _ _) ?_
    intro w3_ fR3 hg3 hz3
    have neX3 := fX2.lt
    have fX3 := fX2.grown hg3 (by first | (simp; done) | (simp; omega))
    have neO3 := fO2.lt
    have fO3 := fO2.grown hg3 (by first | (simp; done) | (simp; omega))
    have Hb3 : Below w.heap.size w w3_ := below_grown Hb2 hg3 Hb2.size (by first | (simp; done) | (simp; exact Nat.le_succ _))
    refine hK.out _ _ ⟨Hb3, fX3, fO3⟩ fun _ => ?_
    clear hK K
    try simp only [List.getElem_toArray, List.getElem_cons_zero, List.getElem_cons_succ, Act.put, List.setIfInBounds_toArray, List.set_cons_zero, List.set_cons_succ]
    refine wpAnyH_done (by kernel_rfl) ?_ _
    go_wp2_with (fail)
    exact ret_row rfl (w.heap.size + 1) 37 (arrK .u8 (nodeS o x)) (.array 32 5) rfl fR3 (by kernel_rfl) rfl (info32 Dn.out.1) rfl ⟨rfl, Hb3⟩
end Go.Proofs.Ytcijhakofoklcaa
