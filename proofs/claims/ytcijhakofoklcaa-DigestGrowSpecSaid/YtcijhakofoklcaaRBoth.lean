/- The walk of both of the reference. -/
import Derived.Test.YtcijhakofoklcaaOne
import Derived.Deep.DeepCutAuto
namespace Go.Proofs.Ytcijhakofoklcaa
open Go.RowKit
set_option linter.unusedSimpArgs false in
set_option maxRecDepth 100000 in
set_option maxHeartbeats 4000000 in
theorem rboth_whole (n : Nat) (a : List Nat) (V : Value) (w : World) (ha : IsD a) :
    Calls Try.prog 71 #[.agg (arrK .u8 a), .int .i64 n, .int .i64 n, .bool true, V] w fun e w' => e = .returned (.tuple #[.agg (arrK .u8 a), .agg (arrK .u8 a)]) ∧ Below w.heap.size w w' := by
  have Da := Lib.hid ha
  have lz := Lib.hid z32_length
  have hq1 : ((n : Int) == (n : Int)) = true := by simp
  have hq2 : (n == n) = true := by simp
  clear ha
  · go_enter Try.func71, Try.ntmps71
    go_wp2_with (fail)
    generalize hge : World.alloc _ _ = w1
    have HX := Lib.hid (show Blk w1 w.heap.size 37 (arrK .u8 a) by subst hge; exact (blk_three w (arrK .u8 a) (arrK .u8 z32) (arrK .u8 z32) _ _ _).1)
    have HR := Lib.hid (show Blk w1 (w.heap.size + 1) 37 (arrK .u8 z32) by subst hge; exact (blk_three w (arrK .u8 a) (arrK .u8 z32) (arrK .u8 z32) _ _ _).2.1)
    have HR' := Lib.hid (show Blk w1 (w.heap.size + 2) 37 (arrK .u8 z32) by subst hge; exact (blk_three w (arrK .u8 a) (arrK .u8 z32) (arrK .u8 z32) _ _ _).2.2.1)
    have HB := Lib.hid (show Below w.heap.size w w1 by subst hge; exact (blk_three w (arrK .u8 a) (arrK .u8 z32) (arrK .u8 z32) _ _ _).2.2.2)
    clear hge
    refine wp_region_held_drew (S := fun W => Below w.heap.size w W ∧ Blk W w.heap.size 37 (arrK .u8 a)) (by kernel_rfl) (⟨HB.out.trans (below_drewN (Below.refl _ _) 1), HX.out.drewN 1⟩) (fun Hd => ?_)
    have Hd : Below w.heap.size w w1.drew := HB.out.trans (below_drewN (Below.refl _ _) 1)
    have HXd := HX.out.drewN 1
    have HRd := HR.out.drewN 1
    have HTd := HR'.out.drewN 1
    replace HXd : Blk w1.drew w.heap.size 37 (arrK .u8 a) := HXd
    replace HRd : Blk w1.drew (w.heap.size + 1) 37 (arrK .u8 z32) := HRd
    replace HTd : Blk w1.drew (w.heap.size + 2) 37 (arrK .u8 z32) := HTd
    clear HX HR HR' HB
    generalize World.drew w1 = wd at *
    refine wpAnyH_take (i := 0) (v := .agg (arrK .u8 a)) rfl (by kernel_rfl) (by kernel_rfl) (by kernel_rfl) (fun _ _ _ h => h) (yields_load_blk (by rfl) _ _ rfl (w.heap.size) rfl 37 (arrK .u8 a) (.array 32 5) (fun W hW => hW.2) (by kernel_rfl) rfl (info32 Da.out.1)) ⟨Hd, HXd⟩ ?_
    simp only [List.getElem_toArray, List.getElem_cons_zero, List.getElem_cons_succ, Act.put, List.setIfInBounds_toArray, List.set_cons_zero, List.set_cons_succ]
    refine wpAnyH_take (i := 1) (v := .agg (arrK .u8 a)) rfl (by kernel_rfl) (by kernel_rfl) (by kernel_rfl) (fun _ _ _ h => h) (yields_load_blk (by rfl) _ _ rfl (w.heap.size) rfl 37 (arrK .u8 a) (.array 32 5) (fun W hW => hW.2) (by kernel_rfl) rfl (info32 Da.out.1)) ⟨Hd, HXd⟩ ?_
    simp only [List.getElem_toArray, List.getElem_cons_zero, List.getElem_cons_succ, Act.put, List.setIfInBounds_toArray, List.set_cons_zero, List.set_cons_succ]
    refine wpAnyH_ready (rs := [2]) (by kernel_rfl) (by simp) (AllReadyH.cons rfl (fun K hK => ?_) AllReadyH.nil)
    refine step_put_blk (by rfl) _ _ _ (by rfl) (w.heap.size + 1) (arrK .u8 a) (by rfl) (by rfl) _ _ HRd (info32 Da.out.1) (by rw [len32 Da.out.1, len32 lz.out]) (arrK_all _ _) ?_
    intro w1_ fR1 hg1 hz1
    have neX1 := HXd.lt
    have fX1 := HXd.grown hg1 (by first | (simp; done) | (simp; omega))
    have neT1 := HTd.lt
    have fT1 := HTd.grown hg1 (by first | (simp; done) | (simp; omega))
    have Hb1 : Below w.heap.size w w1_ := below_grown Hd hg1 Hd.size (by first | (simp; done) | (simp; exact Nat.le_succ _))
    refine hK.out _ _ ⟨Hb1, fX1⟩ fun _ => ?_
    clear hK K
    try simp only [List.getElem_toArray, List.getElem_cons_zero, List.getElem_cons_succ, Act.put, List.setIfInBounds_toArray, List.set_cons_zero, List.set_cons_succ]
    refine wpAnyH_ready (rs := [3]) (by kernel_rfl) (by simp) (AllReadyH.cons rfl (fun K hK => ?_) AllReadyH.nil)
    refine step_put_blk (by rfl) _ _ _ (by rfl) (w.heap.size + 2) (arrK .u8 a) (by rfl) (by rfl) _ _ fT1 (info32 Da.out.1) (by rw [len32 Da.out.1, len32 lz.out]) (arrK_all _ _) ?_
    intro w2_ fT2 hg2 hz2
    have neX2 := fX1.lt
    have fX2 := fX1.grown hg2 (by first | (simp; done) | (simp; omega))
    have neR2 := fR1.lt
    have fR2 := fR1.grown hg2 (by first | (simp; done) | (simp; omega))
    have Hb2 : Below w.heap.size w w2_ := below_grown Hb1 hg2 Hb1.size (by first | (simp; done) | (simp; exact by omega))
    refine hK.out _ _ ⟨Hb2, fX2⟩ fun _ => ?_
    clear hK K
    try simp only [List.getElem_toArray, List.getElem_cons_zero, List.getElem_cons_succ, Act.put, List.setIfInBounds_toArray, List.set_cons_zero, List.set_cons_succ]
    refine wpAnyH_done (by kernel_rfl) ?_ _
    go_wp2_with (fail)
    exact ret_rows2 rfl (w.heap.size + 1) (w.heap.size + 2) 37 37 (arrK .u8 a) (arrK .u8 a) (.array 32 5) rfl rfl fR2 fT2 (by kernel_rfl) rfl (info32 Da.out.1) (info32 Da.out.1) rfl ⟨rfl, Hb2⟩
set_option linter.unusedSimpArgs false in
set_option maxRecDepth 100000 in
set_option maxHeartbeats 4000000 in
theorem rboth_any : ∀ (m n : Nat) (wh : Bool) (q : Nat) (a : List Nat) (p : List (List Nat)) (A : Option Addr) (c : Nat) (w : World), 1 ≤ n → n ≤ m → m ≤ 1099511627776 → IsD a → p.length = q → IsL p → q = grownS n m wh → q ≤ c → Hid (c ≤ maxLen) → Cells w A (bytesV p.flatten) →
    Calls Try.prog 71 #[.agg (arrK .u8 a), .int .i64 n, .int .i64 m, .bool wh, .slice A q c] w fun e w' => e = .returned (.tuple #[.agg (arrK .u8 (bothS a n m wh p).1), .agg (arrK .u8 (bothS a n m wh p).2)]) ∧ Below w.heap.size w w' := by
  intro m
  induction m using Nat.strongRecOn with
  | _ m ih =>
  intro n wh q a p A c w hn1 hn hm ha hp hP hq hqc Hcm hA
  by_cases hw : n = m ∧ wh = true
  · obtain ⟨h0, rfl⟩ := hw
    rw [bothS_whole _ h0]
    subst h0
    exact rboth_whole n a _ w ha
  have IH := Lib.hid ih
  have Da := Lib.hid ha
  have Hp := Lib.hid hp
  have HP := Lib.hid hP
  have HA := Lib.hid hA
  have lz := Lib.hid z32_length
  have hpw := grownS_pow 40 n m wh (Nat.le_trans hm (by decide))
  clear ih ha hp hP hA
  have hq0 : 1 ≤ q := by
    rw [hq]
    by_cases h0 : n = m
    · cases wh
      · rw [grownS_part h0]; exact Nat.le_refl _
      · exact absurd ⟨h0, rfl⟩ hw
    · by_cases hk : n ≤ halfN m
      · rw [grownS_lo wh h0 (by omega) hk]; omega
      · rw [grownS_hi wh h0 (by omega) hk]; omega
  have hqI : q ≤ 41 := by omega
  obtain ⟨p', o, rfl⟩ := snoc_of p (by rw [Hp.out]; exact hq0)
  obtain ⟨j, rfl⟩ : ∃ j, q = j + 1 := ⟨q - 1, by omega⟩
  obtain ⟨q, hqj⟩ : ∃ q, j + 1 = q := ⟨_, rfl⟩
  have Hp' := Lib.hid (show p'.length = j by have := Hp.out; simp at this; omega)
  have Ho := Lib.hid (HP.out o (by simp))
  have HP' := Lib.hid (show IsL p' from fun x hx => HP.out x (by simp [hx]))
  obtain ⟨pb, po, rfl, -, -⟩ := Cells.addr HA.out (by rw [bytesV_length, HP.out.flat_length, Hp.out]; omega)
  have C1 := Lib.hid (show Cells w (some ⟨pb, po, none⟩) (bytesV p'.flatten) by
    have := HA.out.take_ (j * 32)
    rw [show (bytesV (p' ++ [o]).flatten).take (j * 32) = bytesV p'.flatten by
      rw [List.flatten_append, bytesV_append, List.take_append_of_le_length (by rw [bytesV_length, HP'.out.flat_length, Hp'.out]; exact Nat.le_refl _), List.take_of_length_le (by rw [bytesV_length, HP'.out.flat_length, Hp'.out]; exact Nat.le_refl _)]] at this
    exact this)
  have hlast : (p' ++ [o])[j]? = some o := by rw [← Hp'.out]; simp
  have HRo := Lib.hid (fun W (h : Below w.heap.size w W) => range_at (k := j) HP.out (HA.out.below h) hlast)
  have i1 : (q : Int) - 1 = (j : Int) := by omega
  have i2 : (j : Int) < (q : Int) := by omega
  have i3 : IntKind.i64.wrap (j : Int) = (j : Int) := IntWalk.i64_in _ (by omega)
  have i4 : (j : Int) ≤ (q : Int) := by omega
  have i5 : (j : Int) ≤ (c : Int) := by omega
  have i6 : (q : Int) ≤ (c : Int) := by omega
  rw [hqj] at hq hqc hqI ⊢
  clear hlast hq0 Hp hpw
  by_cases h0 : n = m
  · have hwf : wh = false := by cases wh with
      | false => rfl
      | true => exact absurd ⟨h0, rfl⟩ hw
    subst hwf
    rw [bothS_part p' o h0]
    have hq1 : ((n : Int) == (m : Int)) = true := by simp; omega
    have hq2 : (n == m) = true := by simp; omega
    clear hw h0 hq
    go_enter Try.func71, Try.ntmps71
    go_upto_region 3 with (fail)
    generalize hge : World.alloc _ _ = w1
    have HX := Lib.hid (show Blk w1 w.heap.size 37 (arrK .u8 a) by subst hge; exact (blk_three w (arrK .u8 a) (arrK .u8 z32) (arrK .u8 z32) _ _ _).1)
    have HR := Lib.hid (show Blk w1 (w.heap.size + 1) 37 (arrK .u8 z32) by subst hge; exact (blk_three w (arrK .u8 a) (arrK .u8 z32) (arrK .u8 z32) _ _ _).2.1)
    have HR' := Lib.hid (show Blk w1 (w.heap.size + 2) 37 (arrK .u8 z32) by subst hge; exact (blk_three w (arrK .u8 a) (arrK .u8 z32) (arrK .u8 z32) _ _ _).2.2.1)
    have HB := Lib.hid (show Below w.heap.size w w1 by subst hge; exact (blk_three w (arrK .u8 a) (arrK .u8 z32) (arrK .u8 z32) _ _ _).2.2.2)
    clear hge
    have HRg := Lib.hid (HRo.out w1 HB.out)
    go_wp2_with (first
      | (refine wpList_put_blk rfl 37 (.tmp 12) (.tmp 32) rfl w1.heap.size (arrK .u8 o) rfl rfl 37 (arrK .u8 z32) (Blk.new w1 37 (arrK .u8 z32)) (info32 Ho.out.1) (by rw [len32 Ho.out.1, len32 z32_length]) (arrK_all _ _) ?_
         intro w5 HO5 hg5 hz5
         have hb5 : Below w1.heap.size w1 w5 := below_grown ((Below.refl w1.heap.size w1).alloc (Nat.le_refl _) (.cells (arrK .u8 z32) 37)) hg5 (by simp) (by simp)
         have HO5 := Lib.hid HO5
         have HX5 := Lib.hid (HX.out.below hb5)
         have HR5 := Lib.hid (HR.out.below hb5)
         have HT5 := Lib.hid (HR'.out.below hb5)
         have HB5 := Lib.hid (below_of HB.out hb5 HB.out.size)
         clear hg5 hz5 hb5)
      | (refine wpList_load_mid rfl 37 (.tmp 31) rfl pb (po + j * 32) rfl (o.map fun (n : Nat) => Value.int .u8 (n : Int)) (.array 32 5) HRg.out (by kernel_rfl) rfl (dV_info Ho.out.1) ?_))
    have hsG : w.heap.size + 2 < w1.heap.size := HR'.out.lt
    obtain ⟨G, hG⟩ : ∃ G, w1.heap.size = G := ⟨_, rfl⟩
    rw [hG] at HO5 hsG
    rw [hG]
    clear hG
    refine wp_region_held_drew (S := fun W => Below w.heap.size w W ∧ Blk W G 37 (arrK .u8 o)) (by kernel_rfl) (⟨HB5.out.trans (below_drewN (Below.refl _ _) 1), HO5.out.drewN 1⟩) (fun Hd => ?_)
    have Hd : Below w.heap.size w w5.drew := HB5.out.trans (below_drewN (Below.refl _ _) 1)
    have HOd := HO5.out.drewN 1
    have HRd := HR5.out.drewN 1
    have HTd := HT5.out.drewN 1
    replace HOd : Blk w5.drew G 37 (arrK .u8 o) := HOd
    replace HRd : Blk w5.drew (w.heap.size + 1) 37 (arrK .u8 z32) := HRd
    replace HTd : Blk w5.drew (w.heap.size + 2) 37 (arrK .u8 z32) := HTd
    clear HX5 HR5 HT5 HB5 HO5
    generalize World.drew w5 = wd at *
    refine wpAnyH_take (i := 0) (v := .agg (arrK .u8 o)) rfl (by kernel_rfl) (by kernel_rfl) (by kernel_rfl) (fun _ _ _ h => h) (yields_load_blk (by rfl) _ _ rfl (G) rfl 37 (arrK .u8 o) (.array 32 5) (fun W hW => hW.2) (by kernel_rfl) rfl (info32 Ho.out.1)) ⟨Hd, HOd⟩ ?_
    simp only [List.getElem_toArray, List.getElem_cons_zero, List.getElem_cons_succ, Act.put, List.setIfInBounds_toArray, List.set_cons_zero, List.set_cons_succ]
    refine wpAnyH_take (i := 1) (v := .agg (arrK .u8 o)) rfl (by kernel_rfl) (by kernel_rfl) (by kernel_rfl) (fun _ _ _ h => h) (yields_load_blk (by rfl) _ _ rfl (G) rfl 37 (arrK .u8 o) (.array 32 5) (fun W hW => hW.2) (by kernel_rfl) rfl (info32 Ho.out.1)) ⟨Hd, HOd⟩ ?_
    simp only [List.getElem_toArray, List.getElem_cons_zero, List.getElem_cons_succ, Act.put, List.setIfInBounds_toArray, List.set_cons_zero, List.set_cons_succ]
    refine wpAnyH_ready (rs := [2]) (by kernel_rfl) (by simp) (AllReadyH.cons rfl (fun K hK => ?_) AllReadyH.nil)
    refine step_put_blk (by rfl) _ _ _ (by rfl) (w.heap.size + 1) (arrK .u8 o) (by rfl) (by rfl) _ _ HRd (info32 Ho.out.1) (by rw [len32 Ho.out.1, len32 lz.out]) (arrK_all _ _) ?_
    intro w1_ fR1 hg1 hz1
    have neO1 := HOd.lt
    have fO1 := HOd.grown hg1 (by first | (simp; done) | (simp; omega))
    have neT1 := HTd.lt
    have fT1 := HTd.grown hg1 (by first | (simp; done) | (simp; omega))
    have Hb1 : Below w.heap.size w w1_ := below_grown Hd hg1 Hd.size (by first | (simp; done) | (simp; exact Nat.le_succ _))
    refine hK.out _ _ ⟨Hb1, fO1⟩ fun _ => ?_
    clear hK K
    try simp only [List.getElem_toArray, List.getElem_cons_zero, List.getElem_cons_succ, Act.put, List.setIfInBounds_toArray, List.set_cons_zero, List.set_cons_succ]
    refine wpAnyH_ready (rs := [3]) (by kernel_rfl) (by simp) (AllReadyH.cons rfl (fun K hK => ?_) AllReadyH.nil)
    refine step_put_blk (by rfl) _ _ _ (by rfl) (w.heap.size + 2) (arrK .u8 o) (by rfl) (by rfl) _ _ fT1 (info32 Ho.out.1) (by rw [len32 Ho.out.1, len32 lz.out]) (arrK_all _ _) ?_
    intro w2_ fT2 hg2 hz2
    have neO2 := fO1.lt
    have fO2 := fO1.grown hg2 (by first | (simp; done) | (simp; omega))
    have neR2 := fR1.lt
    have fR2 := fR1.grown hg2 (by first | (simp; done) | (simp; omega))
    have Hb2 : Below w.heap.size w w2_ := below_grown Hb1 hg2 Hb1.size (by first | (simp; done) | (simp; exact by omega))
    refine hK.out _ _ ⟨Hb2, fO2⟩ fun _ => ?_
    clear hK K
    try simp only [List.getElem_toArray, List.getElem_cons_zero, List.getElem_cons_succ, Act.put, List.setIfInBounds_toArray, List.set_cons_zero, List.set_cons_succ]
    refine wpAnyH_done (by kernel_rfl) ?_ _
    go_wp2_with (fail)
    exact ret_rows2 rfl (w.heap.size + 1) (w.heap.size + 2) 37 37 (arrK .u8 o) (arrK .u8 o) (.array 32 5) rfl rfl fR2 fT2 (by kernel_rfl) rfl (info32 Ho.out.1) (info32 Ho.out.1) rfl ⟨rfl, Hb2⟩
  have h2 : 2 ≤ m := by omega
  have q1 : ((n : Int) == (m : Int)) = false := by simp; omega
  have q2 : (n == m) = false := by simp; omega
  have hk1 := half_lt h2
  have hk2 := half_pos m
  have HH := Lib.hid (fun W => rhalf_any m W h2 (by omega))
  have dlo := Lib.hid (fun h => bothS_lo (a := a) (n := n) wh p' o h0 h2 h)
  have dhi := Lib.hid (fun h => bothS_hi (a := a) (n := n) wh p' o h0 h2 h)
  have glo := Lib.hid (fun h => grownS_lo (n := n) wh h0 h2 h)
  have ghi := Lib.hid (fun h => grownS_hi (n := n) wh h0 h2 h)
  generalize halfN m = k at *
  by_cases hk : n ≤ k
  · have hdk : decide ((n : Int) ≤ (k : Int)) = true := by simp; omega
    have hdk2 : decide (n ≤ k) = true := by simp; omega
    rw [dlo.out hk]
    have hq' : j = grownS n k wh := by have := glo.out hk; omega
    have P := Lib.hid (fun W h => IH.out k hk1 n wh j a p' (some ⟨pb, po, none⟩) c W hn1 hk (by omega) Da.out Hp'.out HP'.out hq' (by omega) Hcm h)
    obtain ⟨Dx0, Dy0⟩ := bothS_isD k n wh a p' Da.out HP'.out
    obtain ⟨⟨x, y⟩, hbs⟩ : ∃ r, bothS a n k wh p' = r := ⟨_, rfl⟩
    rw [hbs] at P Dx0 Dy0 ⊢
    simp only [] at P Dx0 Dy0 ⊢
    have Dx := Lib.hid Dx0
    have Dy := Lib.hid Dy0
    clear dlo dhi glo ghi hq' hq hbs Dx0 Dy0 h0 hw IH
    go_enter Try.func71, Try.ntmps71
    go_upto_region 3 with (fail)
    generalize hge : World.alloc _ _ = w1
    have HX := Lib.hid (show Blk w1 w.heap.size 37 (arrK .u8 a) by subst hge; exact (blk_three w (arrK .u8 a) (arrK .u8 z32) (arrK .u8 z32) _ _ _).1)
    have HR := Lib.hid (show Blk w1 (w.heap.size + 1) 37 (arrK .u8 z32) by subst hge; exact (blk_three w (arrK .u8 a) (arrK .u8 z32) (arrK .u8 z32) _ _ _).2.1)
    have HR' := Lib.hid (show Blk w1 (w.heap.size + 2) 37 (arrK .u8 z32) by subst hge; exact (blk_three w (arrK .u8 a) (arrK .u8 z32) (arrK .u8 z32) _ _ _).2.2.1)
    have HB := Lib.hid (show Below w.heap.size w w1 by subst hge; exact (blk_three w (arrK .u8 a) (arrK .u8 z32) (arrK .u8 z32) _ _ _).2.2.2)
    clear hge
    have HRg := Lib.hid (HRo.out w1 HB.out)
    go_wp2_with (first
      | (refine wpList_put_blk rfl 37 (.tmp 12) (.tmp 32) rfl w1.heap.size (arrK .u8 o) rfl rfl 37 (arrK .u8 z32) (Blk.new w1 37 (arrK .u8 z32)) (info32 Ho.out.1) (by rw [len32 Ho.out.1, len32 z32_length]) (arrK_all _ _) ?_
         intro w5 HO5 hg5 hz5
         have hb5 : Below w1.heap.size w1 w5 := below_grown ((Below.refl w1.heap.size w1).alloc (Nat.le_refl _) (.cells (arrK .u8 z32) 37)) hg5 (by simp) (by simp)
         have HO5 := Lib.hid HO5
         have HX5 := Lib.hid (HX.out.below hb5)
         have HR5 := Lib.hid (HR.out.below hb5)
         have HT5 := Lib.hid (HR'.out.below hb5)
         have HB5 := Lib.hid (below_of HB.out hb5 HB.out.size)
         clear hg5 hz5 hb5)
      | (refine wpList_load_mid rfl 37 (.tmp 31) rfl pb (po + j * 32) rfl (o.map fun (n : Nat) => Value.int .u8 (n : Int)) (.array 32 5) HRg.out (by kernel_rfl) rfl (dV_info Ho.out.1) ?_))
    refine (HH.out _).mono ?_
    rintro e w' ⟨rfl, rfl⟩
    go_wp2_with (first
      | (refine wpList_load_blk rfl 37 (.tmp 5) rfl w.heap.size rfl 37 (arrK .u8 a) (.array 32 5) HX5.out (by kernel_rfl) rfl (info32 Da.out.1) ?_))
    refine (P.out _ (C1.out.below HB5.out)).mono ?_
    rintro e w6 ⟨rfl, hb6⟩
    have hsG : w.heap.size + 2 < w1.heap.size := HR'.out.lt
    have HO6 := Lib.hid (HO5.out.below hb6)
    have HR6 := Lib.hid (HR5.out.below hb6)
    have HT6 := Lib.hid (HT5.out.below hb6)
    have HB6 := Lib.hid (below_of HB5.out hb6 HB5.out.size)
    have hsE : w1.heap.size < w6.heap.size := HO6.out.lt
    clear hb6 HX5 HB5 HX HR HR' HB HRg
    go_wp2_with (first
      | (refine wpList_put_blk rfl 37 (.tmp 16) (.tmp 56) rfl (w6.heap.size + 1) (arrK .u8 y) rfl rfl 37 (arrK .u8 z32) HV7.out (info32 Dy.out.1) (by rw [len32 Dy.out.1, len32 lz.out]) (arrK_all _ _) ?_
         intro w8 HV8 hg8 hz8
         have HV8 := Lib.hid HV8
         have HU8 := Lib.hid (HU7.out.grown hg8 (by simp))
         have hb8 := below_grown hb7.out hg8 hb7.out.size (by simp)
         have HO8 := Lib.hid (HO6.out.below hb8)
         have HR8 := Lib.hid (HR6.out.below hb8)
         have HT8 := Lib.hid (HT6.out.below hb8)
         have HB8 := Lib.hid (below_of HB6.out hb8 HB6.out.size)
         clear hg8 hz8 hb8)
      | (refine wpList_put_blk rfl 37 (.tmp 15) (.tmp 55) rfl w6.heap.size (arrK .u8 x) rfl rfl 37 (arrK .u8 z32) (blk_two w6 (arrK .u8 z32) (arrK .u8 z32) 37 37).1 (info32 Dx.out.1) (by rw [len32 Dx.out.1, len32 lz.out]) (arrK_all _ _) ?_
         intro w7 HU7 hg7 hz7
         have HU7 := Lib.hid HU7
         have HV7 := Lib.hid ((blk_two w6 (arrK .u8 z32) (arrK .u8 z32) 37 37).2.grown hg7 (by simp))
         have hb7 := Lib.hid (show Below w6.heap.size w6 w7 from below_grown (((Below.refl w6.heap.size w6).alloc (Nat.le_refl _) (.cells (arrK .u8 z32) 37)).alloc (by simp) (.cells (arrK .u8 z32) 37)) hg7 (by simp; omega) (by simp))
         clear hg7 hz7))
    obtain ⟨G, hG⟩ : ∃ G, w1.heap.size = G := ⟨_, rfl⟩
    rw [hG] at HO8 hsG hsE
    rw [hG]
    obtain ⟨E, hE⟩ : ∃ E, w6.heap.size = E := ⟨_, rfl⟩
    rw [hE] at HU8 HV8 hsE
    rw [hE]
    clear hG hE HO6 HR6 HT6 HB6 HU7 HV7 hb7 HO5 HR5 HT5
    refine wp_region_held_drew (S := fun W => Below w.heap.size w W ∧ Blk W G 37 (arrK .u8 o) ∧ Blk W E 37 (arrK .u8 x) ∧ Blk W (E + 1) 37 (arrK .u8 y)) (by kernel_rfl) (⟨below_drewN HB8.out 1, HO8.out, HU8.out, HV8.out⟩) (fun Hd => ?_)
    have Hd : Below w.heap.size w w8.drew := below_drewN HB8.out 1
    have Zd : w.heap.size ≤ w8.drew.heap.size := HB8.out.size
    have fO : Blk w8.drew (G) 37 (arrK .u8 o) := HO8.out
    have fU : Blk w8.drew (E) 37 (arrK .u8 x) := HU8.out
    have fV : Blk w8.drew (E + 1) 37 (arrK .u8 y) := HV8.out
    have fR : Blk w8.drew (w.heap.size + 1) 37 (arrK .u8 z32) := HR8.out
    have fT : Blk w8.drew (w.heap.size + 2) 37 (arrK .u8 z32) := HT8.out
    generalize World.drew w8 = wd at *
    refine wpAnyH_take (i := 0) (v := .agg (arrK .u8 x)) rfl (by kernel_rfl) (by kernel_rfl) (by kernel_rfl) (fun _ _ _ h => h) (yields_load_blk (by rfl) _ _ rfl (E) rfl 37 (arrK .u8 x) (.array 32 5) (fun W hW => hW.2.2.1) (by kernel_rfl) rfl (info32 Dx.out.1)) ⟨Hd, fO, fU, fV⟩ ?_
    try simp only [List.getElem_toArray, List.getElem_cons_zero, List.getElem_cons_succ, Act.put, List.setIfInBounds_toArray, List.set_cons_zero, List.set_cons_succ]
    refine wpAnyH_take (i := 1) (v := .agg (arrK .u8 y)) rfl (by kernel_rfl) (by kernel_rfl) (by kernel_rfl) (fun _ _ _ h => h) (yields_load_blk (by rfl) _ _ rfl (E + 1) rfl 37 (arrK .u8 y) (.array 32 5) (fun W hW => hW.2.2.2) (by kernel_rfl) rfl (info32 Dy.out.1)) ⟨Hd, fO, fU, fV⟩ ?_
    try simp only [List.getElem_toArray, List.getElem_cons_zero, List.getElem_cons_succ, Act.put, List.setIfInBounds_toArray, List.set_cons_zero, List.set_cons_succ]
    refine wpAnyH_take (i := 2) (v := .agg (arrK .u8 o)) rfl (by kernel_rfl) (by kernel_rfl) (by kernel_rfl) (fun _ _ _ h => h) (yields_load_blk (by rfl) _ _ rfl (G) rfl 37 (arrK .u8 o) (.array 32 5) (fun W hW => hW.2.1) (by kernel_rfl) rfl (info32 Ho.out.1)) ⟨Hd, fO, fU, fV⟩ ?_
    try simp only [List.getElem_toArray, List.getElem_cons_zero, List.getElem_cons_succ, Act.put, List.setIfInBounds_toArray, List.set_cons_zero, List.set_cons_succ]
    refine wpAnyH_ready (rs := [3]) (by kernel_rfl) (by simp) (AllReadyH.cons rfl (fun K hK => ?_) AllReadyH.nil)
    go_simp
    refine (rnode_any y o _ Dy.out Ho.out).mono ?_
    rintro e w1_ ⟨rfl, hb1⟩
    have fO1 := fO.below hb1
    have fU1 := fU.below hb1
    have fV1 := fV.below hb1
    have fR1 := fR.below hb1
    have fT1 := fT.below hb1
    have Hb1 : Below w.heap.size w w1_ := below_of Hd hb1 Hd.size
    have Zb1 : w.heap.size ≤ w1_.heap.size := Nat.le_trans Zd hb1.size
    go_wp2_with (fail)
    refine hK.out _ _ ⟨Hb1, fO1, fU1, fV1⟩ fun _ => ?_
    clear hK K
    try simp only [List.getElem_toArray, List.getElem_cons_zero, List.getElem_cons_succ, Act.put, List.setIfInBounds_toArray, List.set_cons_zero, List.set_cons_succ]
    refine wpAnyH_ready (rs := [4]) (by kernel_rfl) (by simp) (AllReadyH.cons rfl (fun K hK => ?_) AllReadyH.nil)
    refine step_put_blk (by rfl) _ _ _ (by rfl) (w.heap.size + 1) (arrK .u8 (x)) (by rfl) (by rfl) _ _ fR1 (info32 Dx.out.1) (by rw [len32 Dx.out.1, len32 lz.out]) (arrK_all _ _) ?_
    intro w2_ fR2 hg2 hz2
    have neO2 := fO1.lt
    have fO2 := fO1.grown hg2 (by first | (simp; done) | (simp; omega))
    have neU2 := fU1.lt
    have fU2 := fU1.grown hg2 (by first | (simp; done) | (simp; omega))
    have neV2 := fV1.lt
    have fV2 := fV1.grown hg2 (by first | (simp; done) | (simp; omega))
    have neT2 := fT1.lt
    have fT2 := fT1.grown hg2 (by first | (simp; done) | (simp; omega))
    have Hb2 : Below w.heap.size w w2_ := below_grown Hb1 hg2 Hb1.size (by first | (simp; done) | (simp; omega))
    have Zb2 : w.heap.size ≤ w2_.heap.size := Nat.le_trans Zb1 hg2.size
    refine hK.out _ _ ⟨Hb2, fO2, fU2, fV2⟩ fun _ => ?_
    clear hK K
    try simp only [List.getElem_toArray, List.getElem_cons_zero, List.getElem_cons_succ, Act.put, List.setIfInBounds_toArray, List.set_cons_zero, List.set_cons_succ]
    refine wpAnyH_ready (rs := [5]) (by kernel_rfl) (by simp) (AllReadyH.cons rfl (fun K hK => ?_) AllReadyH.nil)
    refine step_put_blk (by rfl) _ _ _ (by rfl) (w.heap.size + 2) (arrK .u8 (nodeS y o)) (by rfl) (by rfl) _ _ fT2 (info32 (nodeS_isD y o).1) (by rw [len32 (nodeS_isD y o).1, len32 lz.out]) (arrK_all _ _) ?_
    intro w3_ fT3 hg3 hz3
    have neR3 := fR2.lt
    have fR3 := fR2.grown hg3 (by first | (simp; done) | (simp; omega))
    have neO3 := fO2.lt
    have fO3 := fO2.grown hg3 (by first | (simp; done) | (simp; omega))
    have neU3 := fU2.lt
    have fU3 := fU2.grown hg3 (by first | (simp; done) | (simp; omega))
    have neV3 := fV2.lt
    have fV3 := fV2.grown hg3 (by first | (simp; done) | (simp; omega))
    have Hb3 : Below w.heap.size w w3_ := below_grown Hb2 hg3 Hb2.size (by first | (simp; done) | (simp; omega))
    have Zb3 : w.heap.size ≤ w3_.heap.size := Nat.le_trans Zb2 hg3.size
    refine hK.out _ _ ⟨Hb3, fO3, fU3, fV3⟩ fun _ => ?_
    clear hK K
    try simp only [List.getElem_toArray, List.getElem_cons_zero, List.getElem_cons_succ, Act.put, List.setIfInBounds_toArray, List.set_cons_zero, List.set_cons_succ]
    refine wpAnyH_done (by kernel_rfl) ?_ _
    go_wp2_with (fail)
    exact ret_rows2 rfl (w.heap.size + 1) (w.heap.size + 2) 37 37 (arrK .u8 (x)) (arrK .u8 (nodeS y o)) (.array 32 5) rfl rfl fR3 fT3 (by kernel_rfl) rfl (info32 Dx.out.1) (info32 (nodeS_isD y o).1) rfl ⟨rfl, Hb3⟩
  · have hdk : decide ((n : Int) ≤ (k : Int)) = false := by simp; omega
    have hdk2 : decide (n ≤ k) = false := by simp; omega
    rw [dhi.out hk]
    have hq' : j = grownS (n - k) (m - k) false := by have := ghi.out hk; omega
    have P := Lib.hid (fun W h => IH.out (m - k) (by omega) (n - k) false j a p' (some ⟨pb, po, none⟩) c W (by omega) (by omega) (by omega) Da.out Hp'.out HP'.out hq' (by omega) Hcm h)
    obtain ⟨Dx0, Dy0⟩ := bothS_isD (m - k) (n - k) false a p' Da.out HP'.out
    obtain ⟨⟨x, y⟩, hbs⟩ : ∃ r, bothS a (n - k) (m - k) false p' = r := ⟨_, rfl⟩
    have s3 : (n : Int) - (k : Int) = ((n - k : Nat) : Int) := by omega
    have s4 : IntKind.i64.wrap ((n - k : Nat) : Int) = ((n - k : Nat) : Int) := IntWalk.i64_in _ (by omega)
    have s5 : (m : Int) - (k : Int) = ((m - k : Nat) : Int) := by omega
    have s6 : IntKind.i64.wrap ((m - k : Nat) : Int) = ((m - k : Nat) : Int) := IntWalk.i64_in _ (by omega)
    rw [hbs] at P Dx0 Dy0 ⊢
    simp only [] at P Dx0 Dy0 ⊢
    have Dx := Lib.hid Dx0
    have Dy := Lib.hid Dy0
    clear dlo dhi glo ghi hq' hq hbs Dx0 Dy0 h0 hw IH
    go_enter Try.func71, Try.ntmps71
    go_upto_region 3 with (fail)
    generalize hge : World.alloc _ _ = w1
    have HX := Lib.hid (show Blk w1 w.heap.size 37 (arrK .u8 a) by subst hge; exact (blk_three w (arrK .u8 a) (arrK .u8 z32) (arrK .u8 z32) _ _ _).1)
    have HR := Lib.hid (show Blk w1 (w.heap.size + 1) 37 (arrK .u8 z32) by subst hge; exact (blk_three w (arrK .u8 a) (arrK .u8 z32) (arrK .u8 z32) _ _ _).2.1)
    have HR' := Lib.hid (show Blk w1 (w.heap.size + 2) 37 (arrK .u8 z32) by subst hge; exact (blk_three w (arrK .u8 a) (arrK .u8 z32) (arrK .u8 z32) _ _ _).2.2.1)
    have HB := Lib.hid (show Below w.heap.size w w1 by subst hge; exact (blk_three w (arrK .u8 a) (arrK .u8 z32) (arrK .u8 z32) _ _ _).2.2.2)
    clear hge
    have HRg := Lib.hid (HRo.out w1 HB.out)
    go_wp2_with (first
      | (refine wpList_put_blk rfl 37 (.tmp 12) (.tmp 32) rfl w1.heap.size (arrK .u8 o) rfl rfl 37 (arrK .u8 z32) (Blk.new w1 37 (arrK .u8 z32)) (info32 Ho.out.1) (by rw [len32 Ho.out.1, len32 z32_length]) (arrK_all _ _) ?_
         intro w5 HO5 hg5 hz5
         have hb5 : Below w1.heap.size w1 w5 := below_grown ((Below.refl w1.heap.size w1).alloc (Nat.le_refl _) (.cells (arrK .u8 z32) 37)) hg5 (by simp) (by simp)
         have HO5 := Lib.hid HO5
         have HX5 := Lib.hid (HX.out.below hb5)
         have HR5 := Lib.hid (HR.out.below hb5)
         have HT5 := Lib.hid (HR'.out.below hb5)
         have HB5 := Lib.hid (below_of HB.out hb5 HB.out.size)
         clear hg5 hz5 hb5)
      | (refine wpList_load_mid rfl 37 (.tmp 31) rfl pb (po + j * 32) rfl (o.map fun (n : Nat) => Value.int .u8 (n : Int)) (.array 32 5) HRg.out (by kernel_rfl) rfl (dV_info Ho.out.1) ?_))
    refine (HH.out _).mono ?_
    rintro e w' ⟨rfl, rfl⟩
    go_wp2_with (first
      | (refine wpList_load_blk rfl 37 (.tmp 5) rfl w.heap.size rfl 37 (arrK .u8 a) (.array 32 5) HX5.out (by kernel_rfl) rfl (info32 Da.out.1) ?_))
    refine (P.out _ (C1.out.below HB5.out)).mono ?_
    rintro e w6 ⟨rfl, hb6⟩
    have hsG : w.heap.size + 2 < w1.heap.size := HR'.out.lt
    have HO6 := Lib.hid (HO5.out.below hb6)
    have HR6 := Lib.hid (HR5.out.below hb6)
    have HT6 := Lib.hid (HT5.out.below hb6)
    have HB6 := Lib.hid (below_of HB5.out hb6 HB5.out.size)
    have hsE : w1.heap.size < w6.heap.size := HO6.out.lt
    clear hb6 HX5 HB5 HX HR HR' HB HRg
    go_wp2_with (first
      | (refine wpList_put_blk rfl 37 (.tmp 18) (.tmp 72) rfl (w6.heap.size + 1) (arrK .u8 y) rfl rfl 37 (arrK .u8 z32) HV7.out (info32 Dy.out.1) (by rw [len32 Dy.out.1, len32 lz.out]) (arrK_all _ _) ?_
         intro w8 HV8 hg8 hz8
         have HV8 := Lib.hid HV8
         have HU8 := Lib.hid (HU7.out.grown hg8 (by simp))
         have hb8 := below_grown hb7.out hg8 hb7.out.size (by simp)
         have HO8 := Lib.hid (HO6.out.below hb8)
         have HR8 := Lib.hid (HR6.out.below hb8)
         have HT8 := Lib.hid (HT6.out.below hb8)
         have HB8 := Lib.hid (below_of HB6.out hb8 HB6.out.size)
         clear hg8 hz8 hb8)
      | (refine wpList_put_blk rfl 37 (.tmp 17) (.tmp 71) rfl w6.heap.size (arrK .u8 x) rfl rfl 37 (arrK .u8 z32) (blk_two w6 (arrK .u8 z32) (arrK .u8 z32) 37 37).1 (info32 Dx.out.1) (by rw [len32 Dx.out.1, len32 lz.out]) (arrK_all _ _) ?_
         intro w7 HU7 hg7 hz7
         have HU7 := Lib.hid HU7
         have HV7 := Lib.hid ((blk_two w6 (arrK .u8 z32) (arrK .u8 z32) 37 37).2.grown hg7 (by simp))
         have hb7 := Lib.hid (show Below w6.heap.size w6 w7 from below_grown (((Below.refl w6.heap.size w6).alloc (Nat.le_refl _) (.cells (arrK .u8 z32) 37)).alloc (by simp) (.cells (arrK .u8 z32) 37)) hg7 (by simp; omega) (by simp))
         clear hg7 hz7))
    obtain ⟨G, hG⟩ : ∃ G, w1.heap.size = G := ⟨_, rfl⟩
    rw [hG] at HO8 hsG hsE
    rw [hG]
    obtain ⟨E, hE⟩ : ∃ E, w6.heap.size = E := ⟨_, rfl⟩
    rw [hE] at HU8 HV8 hsE
    rw [hE]
    clear hG hE HO6 HR6 HT6 HB6 HU7 HV7 hb7 HO5 HR5 HT5
    refine wp_region_held_drew (S := fun W => Below w.heap.size w W ∧ Blk W G 37 (arrK .u8 o) ∧ Blk W E 37 (arrK .u8 x) ∧ Blk W (E + 1) 37 (arrK .u8 y)) (by kernel_rfl) (⟨below_drewN HB8.out 1, HO8.out, HU8.out, HV8.out⟩) (fun Hd => ?_)
    have Hd : Below w.heap.size w w8.drew := below_drewN HB8.out 1
    have Zd : w.heap.size ≤ w8.drew.heap.size := HB8.out.size
    have fO : Blk w8.drew (G) 37 (arrK .u8 o) := HO8.out
    have fU : Blk w8.drew (E) 37 (arrK .u8 x) := HU8.out
    have fV : Blk w8.drew (E + 1) 37 (arrK .u8 y) := HV8.out
    have fR : Blk w8.drew (w.heap.size + 1) 37 (arrK .u8 z32) := HR8.out
    have fT : Blk w8.drew (w.heap.size + 2) 37 (arrK .u8 z32) := HT8.out
    generalize World.drew w8 = wd at *
    refine wpAnyH_take (i := 0) (v := .agg (arrK .u8 o)) rfl (by kernel_rfl) (by kernel_rfl) (by kernel_rfl) (fun _ _ _ h => h) (yields_load_blk (by rfl) _ _ rfl (G) rfl 37 (arrK .u8 o) (.array 32 5) (fun W hW => hW.2.1) (by kernel_rfl) rfl (info32 Ho.out.1)) ⟨Hd, fO, fU, fV⟩ ?_
    try simp only [List.getElem_toArray, List.getElem_cons_zero, List.getElem_cons_succ, Act.put, List.setIfInBounds_toArray, List.set_cons_zero, List.set_cons_succ]
    refine wpAnyH_take (i := 1) (v := .agg (arrK .u8 x)) rfl (by kernel_rfl) (by kernel_rfl) (by kernel_rfl) (fun _ _ _ h => h) (yields_load_blk (by rfl) _ _ rfl (E) rfl 37 (arrK .u8 x) (.array 32 5) (fun W hW => hW.2.2.1) (by kernel_rfl) rfl (info32 Dx.out.1)) ⟨Hd, fO, fU, fV⟩ ?_
    try simp only [List.getElem_toArray, List.getElem_cons_zero, List.getElem_cons_succ, Act.put, List.setIfInBounds_toArray, List.set_cons_zero, List.set_cons_succ]
    refine wpAnyH_take (i := 3) (v := .agg (arrK .u8 o)) rfl (by kernel_rfl) (by kernel_rfl) (by kernel_rfl) (fun _ _ _ h => h) (yields_load_blk (by rfl) _ _ rfl (G) rfl 37 (arrK .u8 o) (.array 32 5) (fun W hW => hW.2.1) (by kernel_rfl) rfl (info32 Ho.out.1)) ⟨Hd, fO, fU, fV⟩ ?_
    try simp only [List.getElem_toArray, List.getElem_cons_zero, List.getElem_cons_succ, Act.put, List.setIfInBounds_toArray, List.set_cons_zero, List.set_cons_succ]
    refine wpAnyH_take (i := 4) (v := .agg (arrK .u8 y)) rfl (by kernel_rfl) (by kernel_rfl) (by kernel_rfl) (fun _ _ _ h => h) (yields_load_blk (by rfl) _ _ rfl (E + 1) rfl 37 (arrK .u8 y) (.array 32 5) (fun W hW => hW.2.2.2) (by kernel_rfl) rfl (info32 Dy.out.1)) ⟨Hd, fO, fU, fV⟩ ?_
    try simp only [List.getElem_toArray, List.getElem_cons_zero, List.getElem_cons_succ, Act.put, List.setIfInBounds_toArray, List.set_cons_zero, List.set_cons_succ]
    refine wpAnyH_ready (rs := [2]) (by kernel_rfl) (by simp) (AllReadyH.cons rfl (fun K hK => ?_) AllReadyH.nil)
    go_simp
    refine (rnode_any o x _ Ho.out Dx.out).mono ?_
    rintro e w1_ ⟨rfl, hb1⟩
    have fO1 := fO.below hb1
    have fU1 := fU.below hb1
    have fV1 := fV.below hb1
    have fR1 := fR.below hb1
    have fT1 := fT.below hb1
    have Hb1 : Below w.heap.size w w1_ := below_of Hd hb1 Hd.size
    have Zb1 : w.heap.size ≤ w1_.heap.size := Nat.le_trans Zd hb1.size
    go_wp2_with (fail)
    refine hK.out _ _ ⟨Hb1, fO1, fU1, fV1⟩ fun _ => ?_
    clear hK K
    try simp only [List.getElem_toArray, List.getElem_cons_zero, List.getElem_cons_succ, Act.put, List.setIfInBounds_toArray, List.set_cons_zero, List.set_cons_succ]
    refine wpAnyH_ready (rs := [5]) (by kernel_rfl) (by simp) (AllReadyH.cons rfl (fun K hK => ?_) AllReadyH.nil)
    go_simp
    refine (rnode_any o y _ Ho.out Dy.out).mono ?_
    rintro e w2_ ⟨rfl, hb2⟩
    have fO2 := fO1.below hb2
    have fU2 := fU1.below hb2
    have fV2 := fV1.below hb2
    have fR2 := fR1.below hb2
    have fT2 := fT1.below hb2
    have Hb2 : Below w.heap.size w w2_ := below_of Hb1 hb2 Hb1.size
    have Zb2 : w.heap.size ≤ w2_.heap.size := Nat.le_trans Zb1 hb2.size
    go_wp2_with (fail)
    refine hK.out _ _ ⟨Hb2, fO2, fU2, fV2⟩ fun _ => ?_
    clear hK K
    try simp only [List.getElem_toArray, List.getElem_cons_zero, List.getElem_cons_succ, Act.put, List.setIfInBounds_toArray, List.set_cons_zero, List.set_cons_succ]
    refine wpAnyH_ready (rs := [6]) (by kernel_rfl) (by simp) (AllReadyH.cons rfl (fun K hK => ?_) AllReadyH.nil)
    refine step_put_blk (by rfl) _ _ _ (by rfl) (w.heap.size + 1) (arrK .u8 (nodeS o x)) (by rfl) (by rfl) _ _ fR2 (info32 (nodeS_isD o x).1) (by rw [len32 (nodeS_isD o x).1, len32 lz.out]) (arrK_all _ _) ?_
    intro w3_ fR3 hg3 hz3
    have neO3 := fO2.lt
    have fO3 := fO2.grown hg3 (by first | (simp; done) | (simp; omega))
    have neU3 := fU2.lt
    have fU3 := fU2.grown hg3 (by first | (simp; done) | (simp; omega))
    have neV3 := fV2.lt
    have fV3 := fV2.grown hg3 (by first | (simp; done) | (simp; omega))
    have neT3 := fT2.lt
    have fT3 := fT2.grown hg3 (by first | (simp; done) | (simp; omega))
    have Hb3 : Below w.heap.size w w3_ := below_grown Hb2 hg3 Hb2.size (by first | (simp; done) | (simp; omega))
    have Zb3 : w.heap.size ≤ w3_.heap.size := Nat.le_trans Zb2 hg3.size
    refine hK.out _ _ ⟨Hb3, fO3, fU3, fV3⟩ fun _ => ?_
    clear hK K
    try simp only [List.getElem_toArray, List.getElem_cons_zero, List.getElem_cons_succ, Act.put, List.setIfInBounds_toArray, List.set_cons_zero, List.set_cons_succ]
    refine wpAnyH_ready (rs := [7]) (by kernel_rfl) (by simp) (AllReadyH.cons rfl (fun K hK => ?_) AllReadyH.nil)
    refine step_put_blk (by rfl) _ _ _ (by rfl) (w.heap.size + 2) (arrK .u8 (nodeS o y)) (by rfl) (by rfl) _ _ fT3 (info32 (nodeS_isD o y).1) (by rw [len32 (nodeS_isD o y).1, len32 lz.out]) (arrK_all _ _) ?_
    intro w4_ fT4 hg4 hz4
    have neR4 := fR3.lt
    have fR4 := fR3.grown hg4 (by first | (simp; done) | (simp; omega))
    have neO4 := fO3.lt
    have fO4 := fO3.grown hg4 (by first | (simp; done) | (simp; omega))
    have neU4 := fU3.lt
    have fU4 := fU3.grown hg4 (by first | (simp; done) | (simp; omega))
    have neV4 := fV3.lt
    have fV4 := fV3.grown hg4 (by first | (simp; done) | (simp; omega))
    have Hb4 : Below w.heap.size w w4_ := below_grown Hb3 hg4 Hb3.size (by first | (simp; done) | (simp; omega))
    have Zb4 : w.heap.size ≤ w4_.heap.size := Nat.le_trans Zb3 hg4.size
    refine hK.out _ _ ⟨Hb4, fO4, fU4, fV4⟩ fun _ => ?_
    clear hK K
    try simp only [List.getElem_toArray, List.getElem_cons_zero, List.getElem_cons_succ, Act.put, List.setIfInBounds_toArray, List.set_cons_zero, List.set_cons_succ]
    refine wpAnyH_done (by kernel_rfl) ?_ _
    go_wp2_with (fail)
    exact ret_rows2 rfl (w.heap.size + 1) (w.heap.size + 2) 37 37 (arrK .u8 (nodeS o x)) (arrK .u8 (nodeS o y)) (.array 32 5) rfl rfl fR4 fT4 (by kernel_rfl) rfl (info32 (nodeS_isD o x).1) (info32 (nodeS_isD o y).1) rfl ⟨rfl, Hb4⟩
end Go.Proofs.Ytcijhakofoklcaa
