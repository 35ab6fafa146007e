/- Walks and plain laws that the statement rests on: SigR7. -/
import Derived.Test.YtkflpoiobpblhaaGreatP00
import Derived.Test.YtkflpoiobpblhaaGreatP22
import Derived.Test.YtkflpoiobpblhaaGreatP28
import Derived.Test.YtkflpoiobpblhaaGreatP46
import Derived.Test.YtkflpoiobpblhaaGreatPS
import Derived.Test.YtkflpoiobpblhaaGreatP44
set_option maxRecDepth 100000
set_option maxHeartbeats 16000000
set_option linter.unusedVariables false
set_option linter.unusedSimpArgs false
namespace Go.Proofs.YtkflpoiobpblhaaGreat
open Go.RowKit
theorem rVerify_bad (root : List Nat) (n at_ : Int) (A : Option Addr) (k c : Nat) (Ao Ac Ap : Option Addr) (no co nc cc q cp : Nat) (w : World) (hb : ¬ (1 ≤ n ∧ n ≤ 4096 ∧ 0 ≤ at_ ∧ at_ < n ∧ no = 64 ∧ nc = 64 ∧ k ≤ 65536)) :
    Calls Tryz.prog 40 #[.agg (arrK .u8 root), .int .i64 n, .slice A k c, .agg #[.int .i64 at_, .slice Ao no co, .slice Ac nc cc, .slice Ap q cp]] w fun e w' => e = .returned (.bool false) ∧ Below w.heap.size w w' := by
 have Hb := θ hb
 clear hb
 go_enter Tryz.func40, Tryz.ntmps40
 go_wp2_with fail
 all_goals first
  | (exfalso; have := Hb.out; omega)
  | (go_ret; exact ⟨rfl, ((Below.refl _ _).alloc (Nat.le_refl _) _).alloc (by simp) _⟩)
theorem rVerify_good (root : List Nat) (n at_ : Nat) (msg : List Nat) (A : Option Addr) (k c : Nat) (o cl p : List (List Nat)) (Ao Ac Ap : Option Addr) (co cc q cp : Nat) (w : World) (hr : IsD root) (h1 : 1 ≤ n) (h2 : n ≤ 4096) (h3 : at_ < n) (hA : Cells w A (bytesV msg)) (hm : msg.length = k) (hk : k ≤ 65536) (h8 : ByteL msg)
    (ho : o.length = 64) (hc : cl.length = 64) (hp : p.length = q) (hO : IsL o) (hC : IsL cl) (hP : IsL p) (hAo : Cells w Ao (bytesV o.flatten)) (hAc : Cells w Ac (bytesV cl.flatten)) (hAp : Cells w Ap (bytesV p.flatten)) (hqc : q ≤ cp) (hcm : cp ≤ maxLen) :
    Calls Tryz.prog 40 #[.agg (arrK .u8 root), .int .i64 n, .slice A k c, .agg #[.int .i64 at_, .slice Ao 64 co, .slice Ac 64 cc, .slice Ap q cp]] w fun e w' => e = .returned (.bool (verS root n at_ msg o cl p)) ∧ Below w.heap.size w w' := by
 obtain ⟨ob, oo, rfl, -, -⟩ := Cells.addr hAo (by rw [bytesV_length, hO.flat_length, ho]; omega)
 obtain ⟨cb, cO, rfl, -, -⟩ := Cells.addr hAc (by rw [bytesV_length, hC.flat_length, hc]; omega)
 have HA := θ hA
 have Hm := θ hm
 have Hm8 := θ h8
 have Hrt := θ hr
 have HO := θ hO
 have HCL := θ hC
 have HAo := θ hAo
 have HAc := θ hAc
 have HAp := θ hAp
 have Hlo := θ ho
 have Hlc := θ hc
 obtain ⟨x, hx⟩ := exq (bitL (msgS root at_ msg) 64)
 have hxI : bitsI root at_ msg = x := by unfold bitsI; rw [if_pos ⟨by omega, by omega⟩, ← hx]; rfl
 have Hlx := θ (show x.length = 64 by rw [← hx, bitL_length])
 have HBt := θ (fun W h => rBits_any root at_ msg A k c W hr h hm (by omega) h8)
 rw [hxI, Hlx.out] at HBt
 obtain ⟨dd, hdd⟩ := exq (climbR (pubS (verF x o cl)) at_ n p)
 have Ddd := θ (show IsD dd by rw [← hdd]; exact climbR_isD _ _ _ _)
 have HCc := θ (fun W h => rclimb_any (pubS (verF x o cl)) at_ n Ap q cp p W (pubS_isD _) hp hP hqc hcm h)
 rw [hdd] at HCc
 have hver : verS root n at_ msg o cl p = (okClimb at_ n q && decide (dd = root)) := by
  unfold verS
  rw [Int.toNat_natCast, hx, hdd, hp, ho, hc, hm, decide_eq_true (by omega), Bool.true_and]
 rw [hver]
 have h1I : (1 : Int) ≤ (n : Int) := by omega
 have h2I : (n : Int) ≤ 4096 := by omega
 have h3I : (at_ : Int) < (n : Int) := by omega
 have hkI : (k : Int) ≤ 65536 := by omega
 have HL5 := θ (bothL_isL (verF x o cl) 64 (fun j b _ => verF_isD x hC j b))
 clear hA hm h8 hr hO hC hP hAo hAc hAp ho hc hx hxI hdd hver
 generalize okClimb (at_ : Int) (n : Int) q = ok at *
 go_enter Tryz.func40, Tryz.ntmps40
 go_wp2_with (
  (refine wpList_load_blk rfl 29 (.tmp 4) rfl w.heap.size rfl 29 (arrK .u8 root) (.array 32 5) (blk_two w (arrK .u8 root) #[.int .i64 at_, .slice (some ⟨ob, oo, none⟩) 64 co, .slice (some ⟨cb, cO, none⟩) 64 cc, .slice Ap q cp] 29 32).1 (by kernel_rfl) rfl (info32 Hrt.out.1) ?_))
 generalize hge : World.alloc _ _ = w1
 have HRt := θ (show Blk w1 w.heap.size 29 (arrK .u8 root) by subst hge; exact (blk_two w (arrK .u8 root) #[.int .i64 at_, .slice (some ⟨ob, oo, none⟩) 64 co, .slice (some ⟨cb, cO, none⟩) 64 cc, .slice Ap q cp] 29 32).1)
 have HS := θ (show Blk w1 (w.heap.size + 1) 32 #[.int .i64 at_, .slice (some ⟨ob, oo, none⟩) 64 co, .slice (some ⟨cb, cO, none⟩) 64 cc, .slice Ap q cp] by subst hge; exact (blk_two w (arrK .u8 root) #[.int .i64 at_, .slice (some ⟨ob, oo, none⟩) 64 co, .slice (some ⟨cb, cO, none⟩) 64 cc, .slice Ap q cp] 29 32).2)
 have HB := θ (al2 hge)
 clear hge
 refine (HBt.out w1 (HA.out.below HB.out)).mono ?_
 rintro e w2 ⟨Ab, cb2, rfl, hBc, hb2⟩
 have HRt2 := θ (HRt.out.below hb2)
 have HS2 := θ (HS.out.below hb2)
 have HB2 := θ (bo HB hb2)
 have HX := θ hBc
 have ltS := HS2.out.lt
 have k0 := HS2.out.cellv (i := 0) rfl
 have k1 := HS2.out.cellv (i := 1) rfl
 have k2 := HS2.out.cellv (i := 2) rfl
 have k3 := HS2.out.cellv (i := 3) rfl
 clear hb2 hBc
 obtain ⟨xb, xo, rfl, hxl, hxc⟩ := Cells.addr HX.out (by rw [List.length_map, Hlx.out]; omega)
 have Hxc := θ hxc
 clear hxc HX HBt HRt HS HB
 go_wp2_with fail
 go_loopw [10, 11] (fun v jv wq => ∃ (j : Nat) (A5 : Option Addr) (c5 : Nat), j ≤ 64 ∧ jv = .int .i64 j ∧ v = .slice A5 (2 * j) c5 ∧ Hid (wq.ownsRow w2.heap.size 29 32 (.slice A5 (2 * j) c5) (2 * j) (bytesV (bothL (verF x o cl) j).flatten)) ∧ Hid (Below w2.heap.size w2 wq)) (fun _ jv _ => 64 - (intOf jv).toNat)
 case atStart => exact ⟨0, _, 0, by omega, rfl, rfl, (show World.ownsRow _ _ _ _ _ _ _ by rw [bothL_zero]; exact ownD_empty w2 _ (Nat.le_refl _)), (Below.refl _ _).alloc (Nat.le_refl _) _⟩
 obtain ⟨j, A5, c5, hj64, rfl, rfl, hli, hBi⟩ := hrel
 by_cases hj : j < 64
 · have hdj : decide ((j : Int) < 64) = true := by simp; omega
   have hjI : (j : Int) < 64 := by omega
   obtain ⟨wq, rfl⟩ : ∃ wq : World, wq = wr := ⟨_, rfl⟩
   obtain ⟨b, hb⟩ := getElem?_lt (l := x) (k := j) (by rw [Hlx.out]; exact hj)
   have hxj : x.getD j false = b := by simp [hb]
   have q0 : wq.cell? ⟨xb, xo + j, none⟩ = some (.bool b) := (hBi.out.cell (p := ⟨xb, xo + j, none⟩) (hxl)).trans (Hxc.out j _ (by rw [List.getElem?_map, hb]; rfl))
   have RC := θ (fun W (h : Below w.heap.size w W) => range_at HCL.out (HAc.out.below h) (getD_of (l := cl) (j := j) (by rw [Hlc.out]; exact hj)))
   have RO := θ (fun W (h : Below w.heap.size w W) => range_at HO.out (HAo.out.below h) (getD_of (l := o) (j := j) (by rw [Hlo.out]; exact hj)))
   have DC := θ (getD_isD HCL.out j)
   have DE := θ (getD_isD HO.out j)
   have F0 := θ (verF_eq x o cl j false)
   have F1 := θ (verF_eq x o cl j true)
   rw [hxj] at F0 F1
   clear hb hxj
   generalize cl.getD j z32 = C at *
   generalize o.getD j z32 = E at *
   cases b with
   | true =>
     rw [show (if true == false then hashS E else C) = C from rfl] at F0
     rw [show (if true == true then hashS E else C) = hashS E from rfl] at F1
     have L2 := θ (show IsL [C, hashS E] from (IsL.nil_.snoc DC.out).snoc (hashS_isD E))
     go_upto_region 9 with fail
     clear q0
     refine wp_region_held_drew (S := fun W => Below w2.heap.size w2 W) (by kernel_rfl) (below_drewN hBi.out 1) (fun Hd => ?_)
     have Hd : Below w2.heap.size w2 wq.drew := below_drewN hBi.out 1
     have Zd : w2.heap.size ≤ wq.drew.heap.size := hBi.out.size
     have fl : wq.drew.ownsRow (w2.heap.size) 29 32 (.slice A5 (2 * j) c5) (2 * j) (bytesV (bothL (verF x o cl) j).flatten) := hli.out
     generalize World.drew wq = wd at *
     refine tq 0 rfl Hd ?_
     refine tq 1 rfl Hd ?_
     try simp only [la, Act.put]
     refine ts 2 rfl Hd (fun wS hSw => by
      have c1 := (hSw.cell (p := ⟨w.heap.size + 1, 1, none⟩) ltS).trans k1
      have c2 := (hSw.cell (p := ⟨w.heap.size + 1, 2, none⟩) ltS).trans k2
      go_simp
      try with_reducible rfl) ?_
     refine tq 3 rfl Hd ?_
     try simp only [la, Act.put]
     refine tq 4 rfl Hd ?_
     refine tg 5 (.agg (arrK .u8 (C))) rfl (yieldsIf_load_mid (by rfl) _ _ rfl _ _ rfl ((C).map fun (n : Nat) => Value.int .u8 (n : Int)) (.array 32 5) (fun W hW => RC.out W (bo HB2 hW)) (by kernel_rfl) rfl (dV_info DC.out.1)) Hd ?_
     try simp only [la, Act.put]
     refine tq 6 rfl Hd ?_
     refine ts 7 rfl Hd (fun wS hSw => by
      have c1 := (hSw.cell (p := ⟨w.heap.size + 1, 1, none⟩) ltS).trans k1
      have c2 := (hSw.cell (p := ⟨w.heap.size + 1, 2, none⟩) ltS).trans k2
      go_simp
      try with_reducible rfl) ?_
     try simp only [la, Act.put]
     refine tq 8 rfl Hd ?_
     refine tq 9 rfl Hd ?_
     try simp only [la, Act.put]
     refine tg 10 (.agg (arrK .u8 (E))) rfl (yieldsIf_load_mid (by rfl) _ _ rfl _ _ rfl ((E).map fun (n : Nat) => Value.int .u8 (n : Int)) (.array 32 5) (fun W hW => RO.out W (bo HB2 hW)) (by kernel_rfl) rfl (dV_info DE.out.1)) Hd ?_
     try simp only [la, Act.put]
     refine ty 11 rfl (fun K hK => ?_)
     go_simp
     refine (rhash_any E _ DE.out).mono ?_
     rintro e w1_ ⟨rfl, hb1⟩
     have fl1 := own_below fl hb1
     have Hb1 := below_of Hd hb1 Hd.size
     have Zb1 := Nat.le_trans Zd hb1.size
     go_wp2_with fail
     refine hK.out _ _ Hb1 fun _ => ?_
     clear hK K
     try simp only [la, Act.put]
     refine ty 12 rfl (fun K hK => ?_)
     refine step_twoD (by rfl) _ _ (by rfl) (C) (hashS E) DC.out (hashS_isD E) (by rfl) (by rfl) ?_
     generalize hge : World.alloc _ _ = w2_
     have fb2 : Blk w2_ w1_.heap.size 29 (arrK .u8 (C ++ hashS E)) := by subst hge; exact Blk.new _ _ _
     have hb2 := al1 hge
     clear hge
     have fl2 := own_below fl1 hb2
     have aplb2 := apart_new fl1
     have lob2 : w2.heap.size ≤ w1_.heap.size := Zb1
     have Hb2 := below_of Hb1 hb2 Hb1.size
     have Zb2 := Nat.le_trans Zb1 hb2.size
     refine hK.out _ _ Hb2 fun _ => ?_
     clear hK K
     try simp only [la, Act.put]
     refine ty 13 rfl (fun K hK => ?_)
     refine step_addDs (by rfl) (.tmp 62) (.tmp 74) (by rfl) (w2.heap.size) (.slice A5 (2 * j) c5) (2 * j) (bothL (verF x o cl) j) fl2 (by rfl) (some ⟨w1_.heap.size, 0, none⟩) 2 2 [C, hashS E] rfl L2.out (two_cells fb2) (by rfl) (by omega) Zb2 ?_
     intro v3 w3_ fl3 hg3 st3
     have aplb3 := apart_sits st3 aplb2 fb2.lt
     have fb3 := fb2.grown hg3 (fun e => aplb2 e.symm)
     have Hb3 := below_grown Hb2 hg3 Hb2.size (own_base fl2)
     have Zb3 := Nat.le_trans Zb2 hg3.size
     obtain ⟨A3, c3, rfl, le3, lm3, -⟩ := own_form fl3
     refine hK.out _ _ Hb3 fun _ => ?_
     clear hK K
     try simp only [la, Act.put]
     refine tq 14 rfl Hb3 ?_
     try simp only [la, Act.put]
     refine td ?_ _
     go_wp2_with fail
     go_roundw
     case rel => exact ⟨j + 1, A3, c3, by omega, by go_num, by rw [show 2 * (j + 1) = 2 * j + 2 by omega], (show World.ownsRow _ _ _ _ _ _ _ by rw [bothL_succ, F0.out, F1.out, show 2 * (j + 1) = 2 * j + 2 by omega, List.append_assoc]; exact fl3), Hb3⟩
     case measure => simp [intOf]; omega
   | false =>
     rw [show (if false == false then hashS E else C) = hashS E from rfl] at F0
     rw [show (if false == true then hashS E else C) = C from rfl] at F1
     have L2 := θ (show IsL [hashS E, C] from (IsL.nil_.snoc (hashS_isD E)).snoc DC.out)
     go_upto_region 10 with fail
     clear q0
     refine wp_region_held_drew (S := fun W => Below w2.heap.size w2 W) (by kernel_rfl) (below_drewN hBi.out 1) (fun Hd => ?_)
     have Hd : Below w2.heap.size w2 wq.drew := below_drewN hBi.out 1
     have Zd : w2.heap.size ≤ wq.drew.heap.size := hBi.out.size
     have fl : wq.drew.ownsRow (w2.heap.size) 29 32 (.slice A5 (2 * j) c5) (2 * j) (bytesV (bothL (verF x o cl) j).flatten) := hli.out
     generalize World.drew wq = wd at *
     refine tq 0 rfl Hd ?_
     try simp only [la, Act.put]
     refine tq 1 rfl Hd ?_
     refine ts 2 rfl Hd (fun wS hSw => by
      have c1 := (hSw.cell (p := ⟨w.heap.size + 1, 1, none⟩) ltS).trans k1
      have c2 := (hSw.cell (p := ⟨w.heap.size + 1, 2, none⟩) ltS).trans k2
      go_simp
      try with_reducible rfl) ?_
     try simp only [la, Act.put]
     refine tq 3 rfl Hd ?_
     refine tq 4 rfl Hd ?_
     try simp only [la, Act.put]
     refine tg 5 (.agg (arrK .u8 (E))) rfl (yieldsIf_load_mid (by rfl) _ _ rfl _ _ rfl ((E).map fun (n : Nat) => Value.int .u8 (n : Int)) (.array 32 5) (fun W hW => RO.out W (bo HB2 hW)) (by kernel_rfl) rfl (dV_info DE.out.1)) Hd ?_
     refine tq 7 rfl Hd ?_
     try simp only [la, Act.put]
     refine ts 8 rfl Hd (fun wS hSw => by
      have c1 := (hSw.cell (p := ⟨w.heap.size + 1, 1, none⟩) ltS).trans k1
      have c2 := (hSw.cell (p := ⟨w.heap.size + 1, 2, none⟩) ltS).trans k2
      go_simp
      try with_reducible rfl) ?_
     refine tq 9 rfl Hd ?_
     try simp only [la, Act.put]
     refine tq 10 rfl Hd ?_
     refine tg 11 (.agg (arrK .u8 (C))) rfl (yieldsIf_load_mid (by rfl) _ _ rfl _ _ rfl ((C).map fun (n : Nat) => Value.int .u8 (n : Int)) (.array 32 5) (fun W hW => RC.out W (bo HB2 hW)) (by kernel_rfl) rfl (dV_info DC.out.1)) Hd ?_
     try simp only [la, Act.put]
     refine ty 6 rfl (fun K hK => ?_)
     go_simp
     refine (rhash_any E _ DE.out).mono ?_
     rintro e w1_ ⟨rfl, hb1⟩
     have fl1 := own_below fl hb1
     have Hb1 := below_of Hd hb1 Hd.size
     have Zb1 := Nat.le_trans Zd hb1.size
     go_wp2_with fail
     refine hK.out _ _ Hb1 fun _ => ?_
     clear hK K
     try simp only [la, Act.put]
     refine ty 12 rfl (fun K hK => ?_)
     refine step_twoD (by rfl) _ _ (by rfl) (hashS E) (C) (hashS_isD E) DC.out (by rfl) (by rfl) ?_
     generalize hge : World.alloc _ _ = w2_
     have fb2 : Blk w2_ w1_.heap.size 29 (arrK .u8 (hashS E ++ C)) := by subst hge; exact Blk.new _ _ _
     have hb2 := al1 hge
     clear hge
     have fl2 := own_below fl1 hb2
     have aplb2 := apart_new fl1
     have lob2 : w2.heap.size ≤ w1_.heap.size := Zb1
     have Hb2 := below_of Hb1 hb2 Hb1.size
     have Zb2 := Nat.le_trans Zb1 hb2.size
     refine hK.out _ _ Hb2 fun _ => ?_
     clear hK K
     try simp only [la, Act.put]
     refine ty 13 rfl (fun K hK => ?_)
     refine step_addDs (by rfl) (.tmp 76) (.tmp 88) (by rfl) (w2.heap.size) (.slice A5 (2 * j) c5) (2 * j) (bothL (verF x o cl) j) fl2 (by rfl) (some ⟨w1_.heap.size, 0, none⟩) 2 2 [hashS E, C] rfl L2.out (two_cells fb2) (by rfl) (by omega) Zb2 ?_
     intro v3 w3_ fl3 hg3 st3
     have aplb3 := apart_sits st3 aplb2 fb2.lt
     have fb3 := fb2.grown hg3 (fun e => aplb2 e.symm)
     have Hb3 := below_grown Hb2 hg3 Hb2.size (own_base fl2)
     have Zb3 := Nat.le_trans Zb2 hg3.size
     obtain ⟨A3, c3, rfl, le3, lm3, -⟩ := own_form fl3
     refine hK.out _ _ Hb3 fun _ => ?_
     clear hK K
     refine tq 14 rfl Hb3 ?_
     try simp only [la, Act.put]
     refine td ?_ _
     go_wp2_with fail
     go_roundw
     case rel => exact ⟨j + 1, A3, c3, by omega, by go_num, by rw [show 2 * (j + 1) = 2 * j + 2 by omega], (show World.ownsRow _ _ _ _ _ _ _ by rw [bothL_succ, F0.out, F1.out, show 2 * (j + 1) = 2 * j + 2 by omega, List.append_assoc]; exact fl3), Hb3⟩
     case measure => simp [intOf]; omega
 obtain rfl : j = 64 := by omega
 cases ok with
 | false =>
 rw [errArg_false] at HCc
 have Hver := θ (show false = (false && decide (dd = root)) from rfl)
 go_upto_region 11 with fail
 refine wp_region_held_drew (S := fun W => Below w2.heap.size w2 W) (by kernel_rfl) (below_drewN hBi.out 1) (fun Hd => ?_)
 have Hd : Below w2.heap.size w2 wr.drew := below_drewN hBi.out 1
 have Zd : w2.heap.size ≤ wr.drew.heap.size := hBi.out.size
 have fl : Cells wr.drew A5 (bytesV (bothL (verF x o cl) 64).flatten) := Cells.own hli.out
 generalize World.drew wr = wd at *
 refine tq 0 rfl Hd ?_
 refine tq 2 rfl Hd ?_
 try simp only [la, Act.put]
 refine ts 3 rfl Hd (fun wS hSw => by
  have c0 := (hSw.cell (p := ⟨w.heap.size + 1, 0, none⟩) ltS).trans k0
  have c3 := (hSw.cell (p := ⟨w.heap.size + 1, 3, none⟩) ltS).trans k3
  go_simp
  try with_reducible rfl) ?_
 refine tq 4 rfl Hd ?_
 try simp only [la, Act.put]
 refine tq 5 rfl Hd ?_
 refine ts 6 rfl Hd (fun wS hSw => by
  have c0 := (hSw.cell (p := ⟨w.heap.size + 1, 0, none⟩) ltS).trans k0
  have c3 := (hSw.cell (p := ⟨w.heap.size + 1, 3, none⟩) ltS).trans k3
  go_simp
  try with_reducible rfl) ?_
 try simp only [la, Act.put]
 refine tz 1 11 rfl rfl (fun K hK => ?_) (fun K hK => ?_)
 · go_simp
   refine (rone_any (bothL (verF x o cl) 64) (2 * 64) A5 c5 _ (bothL_length _ _) HL5.out (by omega) fl).mono ?_
   rintro e w1_ ⟨he, hb1⟩
   have he : e = .returned (.agg (arrK .u8 (pubS (verF x o cl)))) := by rw [pubS_eq]; rw [oneT_eq] at he; exact he
   subst he
   have fl1 := fl.below hb1
   have Hb1 := below_of Hd hb1 Hd.size
   have Zb1 := Nat.le_trans Zd hb1.size
   go_wp2_with fail
   refine hK.out _ _ Hb1 fun _ => ?_
   clear hK K
   try simp only [la, Act.put]
   refine tz 7 11 rfl rfl (fun K hK => ?_) (fun K hK => ?_)
   · go_simp
     refine (HCc.out _ (HAp.out.below (bo HB2 Hb1))).mono ?_
     rintro e w2_ ⟨rfl, hb2⟩
     have fl2 := fl1.below hb2
     have Hb2 := below_of Hb1 hb2 Hb1.size
     have Zb2 := Nat.le_trans Zb1 hb2.size
     go_wp2_with fail
     refine hK.out _ _ Hb2 fun _ => ?_
     clear hK K
     try simp only [la, Act.put]
     refine tq 8 rfl Hb2 ?_
     refine tq 9 rfl Hb2 ?_
     try simp only [la, Act.put]
     refine tq 10 rfl Hb2 ?_
     try simp only [la, Act.put]
     refine ty 11 rfl (fun K hK => ?_)
     go_simp
     generalize hge : World.alloc _ _ = w3_
     have fD3 : Blk w3_ w2_.heap.size 29 (arrK .u8 z32) := by subst hge; exact Blk.new _ _ _
     have hb3 := al1 hge
     clear hge
     have fl3 := fl2.below hb3
     have loD3 : w2.heap.size ≤ w2_.heap.size := Zb2
     have Hb3 := below_of Hb2 hb3 Hb2.size
     have Zb3 := Nat.le_trans Zb2 hb3.size
     refine hK.out _ _ Hb3 fun _ => ?_
     clear hK K
     try simp only [la, Act.put]
     refine ty 12 rfl (fun K hK => ?_)
     refine step_put_blk (by rfl) _ _ _ (by rfl) (w2_.heap.size) (arrK .u8 (dd)) (by rfl) (by rfl) _ _ fD3 (info32 Ddd.out.1) (by rw [len32 Ddd.out.1, len32 z32_length]) (arrK_all _ _) ?_
     intro w4_ fD4 hg4 hz4
     have Hb4 := bgx Hb3 hg4 Hb3.size
     have Zb4 := Nat.le_trans Zb3 hg4.size
     refine hK.out _ _ Hb4 fun _ => ?_
     clear hK K
     refine tq 13 rfl Hb4 ?_
     try simp only [la, Act.put]
     refine td ?_ _
     go_wp2_with fail
     go_ret
     exact ⟨ret_bool Hver.out, bo HB2 Hb4⟩
   go_simp
   generalize hge : World.alloc _ _ = w2_
   have fD2 : Blk w2_ w1_.heap.size 29 (arrK .u8 z32) := by subst hge; exact Blk.new _ _ _
   have hb2 := al1 hge
   clear hge
   have fl2 := fl1.below hb2
   have loD2 : w2.heap.size ≤ w1_.heap.size := Zb1
   have Hb2 := below_of Hb1 hb2 Hb1.size
   have Zb2 := Nat.le_trans Zb1 hb2.size
   refine hK.out _ _ Hb2 fun _ => ?_
   clear hK K
   try simp only [la, Act.put]
   refine ty 7 rfl (fun K hK => ?_)
   go_simp
   refine (HCc.out _ (HAp.out.below (bo HB2 Hb2))).mono ?_
   rintro e w3_ ⟨rfl, hb3⟩
   have fl3 := fl2.below hb3
   have fD3 := fD2.below hb3
   have Hb3 := below_of Hb2 hb3 Hb2.size
   have Zb3 := Nat.le_trans Zb2 hb3.size
   go_wp2_with fail
   refine hK.out _ _ Hb3 fun _ => ?_
   clear hK K
   try simp only [la, Act.put]
   refine tq 8 rfl Hb3 ?_
   refine tq 9 rfl Hb3 ?_
   try simp only [la, Act.put]
   refine tq 10 rfl Hb3 ?_
   try simp only [la, Act.put]
   refine ty 12 rfl (fun K hK => ?_)
   refine step_put_blk (by rfl) _ _ _ (by rfl) (w1_.heap.size) (arrK .u8 (dd)) (by rfl) (by rfl) _ _ fD3 (info32 Ddd.out.1) (by rw [len32 Ddd.out.1, len32 z32_length]) (arrK_all _ _) ?_
   intro w4_ fD4 hg4 hz4
   have Hb4 := bgx Hb3 hg4 Hb3.size
   have Zb4 := Nat.le_trans Zb3 hg4.size
   refine hK.out _ _ Hb4 fun _ => ?_
   clear hK K
   try simp only [la, Act.put]
   refine tq 13 rfl Hb4 ?_
   try simp only [la, Act.put]
   refine td ?_ _
   go_wp2_with fail
   go_ret
   exact ⟨ret_bool Hver.out, bo HB2 Hb4⟩
 · go_simp
   generalize hge : World.alloc _ _ = w1_
   have fD1 : Blk w1_ wd.heap.size 29 (arrK .u8 z32) := by subst hge; exact Blk.new _ _ _
   have hb1 := al1 hge
   clear hge
   have fl1 := fl.below hb1
   have loD1 : w2.heap.size ≤ wd.heap.size := Zd
   have Hb1 := below_of Hd hb1 Hd.size
   have Zb1 := Nat.le_trans Zd hb1.size
   refine hK.out _ _ Hb1 fun _ => ?_
   clear hK K
   try simp only [la, Act.put]
   refine ty 1 rfl (fun K hK => ?_)
   go_simp
   refine (rone_any (bothL (verF x o cl) 64) (2 * 64) A5 c5 _ (bothL_length _ _) HL5.out (by omega) fl1).mono ?_
   rintro e w2_ ⟨he, hb2⟩
   have he : e = .returned (.agg (arrK .u8 (pubS (verF x o cl)))) := by rw [pubS_eq]; rw [oneT_eq] at he; exact he
   subst he
   have fl2 := fl1.below hb2
   have fD2 := fD1.below hb2
   have Hb2 := below_of Hb1 hb2 Hb1.size
   have Zb2 := Nat.le_trans Zb1 hb2.size
   go_wp2_with fail
   refine hK.out _ _ Hb2 fun _ => ?_
   clear hK K
   try simp only [la, Act.put]
   refine ty 7 rfl (fun K hK => ?_)
   go_simp
   refine (HCc.out _ (HAp.out.below (bo HB2 Hb2))).mono ?_
   rintro e w3_ ⟨rfl, hb3⟩
   have fl3 := fl2.below hb3
   have fD3 := fD2.below hb3
   have Hb3 := below_of Hb2 hb3 Hb2.size
   have Zb3 := Nat.le_trans Zb2 hb3.size
   go_wp2_with fail
   refine hK.out _ _ Hb3 fun _ => ?_
   clear hK K
   try simp only [la, Act.put]
   refine tq 8 rfl Hb3 ?_
   refine tq 9 rfl Hb3 ?_
   try simp only [la, Act.put]
   refine tq 10 rfl Hb3 ?_
   try simp only [la, Act.put]
   refine ty 12 rfl (fun K hK => ?_)
   refine step_put_blk (by rfl) _ _ _ (by rfl) (wd.heap.size) (arrK .u8 (dd)) (by rfl) (by rfl) _ _ fD3 (info32 Ddd.out.1) (by rw [len32 Ddd.out.1, len32 z32_length]) (arrK_all _ _) ?_
   intro w4_ fD4 hg4 hz4
   have Hb4 := bgx Hb3 hg4 Hb3.size
   have Zb4 := Nat.le_trans Zb3 hg4.size
   refine hK.out _ _ Hb4 fun _ => ?_
   clear hK K
   try simp only [la, Act.put]
   refine tq 13 rfl Hb4 ?_
   try simp only [la, Act.put]
   refine td ?_ _
   go_wp2_with fail
   go_ret
   exact ⟨ret_bool Hver.out, bo HB2 Hb4⟩
 | true =>
 rw [errArg_true] at HCc
 obtain ⟨r, hr⟩ := exq (decide (dd = root))
 have Hver := θ (show r = (true && decide (dd = root)) by rw [hr]; rfl)
 have hEq : ∀ W, (Op.equalIn 10000 29 (.agg (arrK .u8 dd)) (.agg (arrK .u8 root))).run Tryz.prog W = .ok r W := fun W => by
  have := run_eqD Ddd.out Hrt.out W
  rwa [hr] at this
 clear hr
 go_upto_region 11 with fail
 refine wp_region_held_drew (S := fun W => Below w2.heap.size w2 W) (by kernel_rfl) (below_drewN hBi.out 1) (fun Hd => ?_)
 have Hd : Below w2.heap.size w2 wr.drew := below_drewN hBi.out 1
 have Zd : w2.heap.size ≤ wr.drew.heap.size := hBi.out.size
 have fl : Cells wr.drew A5 (bytesV (bothL (verF x o cl) 64).flatten) := Cells.own hli.out
 generalize World.drew wr = wd at *
 refine tq 0 rfl Hd ?_
 try simp only [la, Act.put]
 refine tq 2 rfl Hd ?_
 refine ts 3 rfl Hd (fun wS hSw => by
  have c0 := (hSw.cell (p := ⟨w.heap.size + 1, 0, none⟩) ltS).trans k0
  have c3 := (hSw.cell (p := ⟨w.heap.size + 1, 3, none⟩) ltS).trans k3
  go_simp
  try with_reducible rfl) ?_
 try simp only [la, Act.put]
 refine tq 4 rfl Hd ?_
 refine tq 5 rfl Hd ?_
 try simp only [la, Act.put]
 refine ts 6 rfl Hd (fun wS hSw => by
  have c0 := (hSw.cell (p := ⟨w.heap.size + 1, 0, none⟩) ltS).trans k0
  have c3 := (hSw.cell (p := ⟨w.heap.size + 1, 3, none⟩) ltS).trans k3
  go_simp
  try with_reducible rfl) ?_
 try simp only [la, Act.put]
 refine tz 1 11 rfl rfl (fun K hK => ?_) (fun K hK => ?_)
 · go_simp
   refine (rone_any (bothL (verF x o cl) 64) (2 * 64) A5 c5 _ (bothL_length _ _) HL5.out (by omega) fl).mono ?_
   rintro e w1_ ⟨he, hb1⟩
   have he : e = .returned (.agg (arrK .u8 (pubS (verF x o cl)))) := by rw [pubS_eq]; rw [oneT_eq] at he; exact he
   subst he
   have fl1 := fl.below hb1
   have Hb1 := below_of Hd hb1 Hd.size
   have Zb1 := Nat.le_trans Zd hb1.size
   go_wp2_with fail
   refine hK.out _ _ Hb1 fun _ => ?_
   clear hK K
   try simp only [la, Act.put]
   refine tz 7 11 rfl rfl (fun K hK => ?_) (fun K hK => ?_)
   · go_simp
     refine (HCc.out _ (HAp.out.below (bo HB2 Hb1))).mono ?_
     rintro e w2_ ⟨rfl, hb2⟩
     have fl2 := fl1.below hb2
     have Hb2 := below_of Hb1 hb2 Hb1.size
     have Zb2 := Nat.le_trans Zb1 hb2.size
     go_wp2_with fail
     refine hK.out _ _ Hb2 fun _ => ?_
     clear hK K
     refine tq 8 rfl Hb2 ?_
     try simp only [la, Act.put]
     refine tq 9 rfl Hb2 ?_
     refine tq 10 rfl Hb2 ?_
     try simp only [la, Act.put]
     refine ty 11 rfl (fun K hK => ?_)
     go_simp
     generalize hge : World.alloc _ _ = w3_
     have fD3 : Blk w3_ w2_.heap.size 29 (arrK .u8 z32) := by subst hge; exact Blk.new _ _ _
     have hb3 := al1 hge
     clear hge
     have fl3 := fl2.below hb3
     have loD3 : w2.heap.size ≤ w2_.heap.size := Zb2
     have Hb3 := below_of Hb2 hb3 Hb2.size
     have Zb3 := Nat.le_trans Zb2 hb3.size
     refine hK.out _ _ Hb3 fun _ => ?_
     clear hK K
     try simp only [la, Act.put]
     refine ty 12 rfl (fun K hK => ?_)
     refine step_put_blk (by rfl) _ _ _ (by rfl) (w2_.heap.size) (arrK .u8 (dd)) (by rfl) (by rfl) _ _ fD3 (info32 Ddd.out.1) (by rw [len32 Ddd.out.1, len32 z32_length]) (arrK_all _ _) ?_
     intro w4_ fD4 hg4 hz4
     have Hb4 := bgx Hb3 hg4 Hb3.size
     have Zb4 := Nat.le_trans Zb3 hg4.size
     refine hK.out _ _ Hb4 fun _ => ?_
     clear hK K
     try simp only [la, Act.put]
     refine tq 13 rfl Hb4 ?_
     try simp only [la, Act.put]
     refine td ?_ _
     have HDf := θ fD4
     have HBf := θ (HRt2.out.below Hb4)
     have HWf := θ (bo HB2 Hb4)
     go_wp2_with (first
      | (refine wpList_load_blk_g 29 (.tmp 12) (by rfl) (by kernel_rfl) (w2_.heap.size) rfl 29 (arrK .u8 dd) (.array 32 5) HDf.out (by kernel_rfl) rfl (info32 Ddd.out.1) ?_)
      | (refine wpList_load_blk_g 29 (.tmp 4) (by rfl) (by kernel_rfl) w.heap.size rfl 29 (arrK .u8 root) (.array 32 5) HBf.out (by kernel_rfl) rfl (info32 Hrt.out.1) ?_))
     go_ret
     exact ⟨ret_bool Hver.out, HWf.out⟩
   go_simp
   generalize hge : World.alloc _ _ = w2_
   have fD2 : Blk w2_ w1_.heap.size 29 (arrK .u8 z32) := by subst hge; exact Blk.new _ _ _
   have hb2 := al1 hge
   clear hge
   have fl2 := fl1.below hb2
   have loD2 : w2.heap.size ≤ w1_.heap.size := Zb1
   have Hb2 := below_of Hb1 hb2 Hb1.size
   have Zb2 := Nat.le_trans Zb1 hb2.size
   refine hK.out _ _ Hb2 fun _ => ?_
   clear hK K
   try simp only [la, Act.put]
   refine ty 7 rfl (fun K hK => ?_)
   go_simp
   refine (HCc.out _ (HAp.out.below (bo HB2 Hb2))).mono ?_
   rintro e w3_ ⟨rfl, hb3⟩
   have fl3 := fl2.below hb3
   have fD3 := fD2.below hb3
   have Hb3 := below_of Hb2 hb3 Hb2.size
   have Zb3 := Nat.le_trans Zb2 hb3.size
   go_wp2_with fail
   refine hK.out _ _ Hb3 fun _ => ?_
   clear hK K
   refine tq 8 rfl Hb3 ?_
   try simp only [la, Act.put]
   refine tq 9 rfl Hb3 ?_
   refine tq 10 rfl Hb3 ?_
   try simp only [la, Act.put]
   refine ty 12 rfl (fun K hK => ?_)
   refine step_put_blk (by rfl) _ _ _ (by rfl) (w1_.heap.size) (arrK .u8 (dd)) (by rfl) (by rfl) _ _ fD3 (info32 Ddd.out.1) (by rw [len32 Ddd.out.1, len32 z32_length]) (arrK_all _ _) ?_
   intro w4_ fD4 hg4 hz4
   have Hb4 := bgx Hb3 hg4 Hb3.size
   have Zb4 := Nat.le_trans Zb3 hg4.size
   refine hK.out _ _ Hb4 fun _ => ?_
   clear hK K
   refine tq 13 rfl Hb4 ?_
   try simp only [la, Act.put]
   refine td ?_ _
   have HDf := θ fD4
   have HBf := θ (HRt2.out.below Hb4)
   have HWf := θ (bo HB2 Hb4)
   go_wp2_with (first
    | (refine wpList_load_blk_g 29 (.tmp 12) (by rfl) (by kernel_rfl) (w1_.heap.size) rfl 29 (arrK .u8 dd) (.array 32 5) HDf.out (by kernel_rfl) rfl (info32 Ddd.out.1) ?_)
    | (refine wpList_load_blk_g 29 (.tmp 4) (by rfl) (by kernel_rfl) w.heap.size rfl 29 (arrK .u8 root) (.array 32 5) HBf.out (by kernel_rfl) rfl (info32 Hrt.out.1) ?_))
   go_ret
   exact ⟨ret_bool Hver.out, HWf.out⟩
 go_simp
 generalize hge : World.alloc _ _ = w1_
 have fD1 : Blk w1_ wd.heap.size 29 (arrK .u8 z32) := by subst hge; exact Blk.new _ _ _
 have hb1 := al1 hge
 clear hge
 have fl1 := fl.below hb1
 have loD1 : w2.heap.size ≤ wd.heap.size := Zd
 have Hb1 := below_of Hd hb1 Hd.size
 have Zb1 := Nat.le_trans Zd hb1.size
 refine hK.out _ _ Hb1 fun _ => ?_
 clear hK K
 try simp only [la, Act.put]
 refine ty 1 rfl (fun K hK => ?_)
 go_simp
 refine (rone_any (bothL (verF x o cl) 64) (2 * 64) A5 c5 _ (bothL_length _ _) HL5.out (by omega) fl1).mono ?_
 rintro e w2_ ⟨he, hb2⟩
 have he : e = .returned (.agg (arrK .u8 (pubS (verF x o cl)))) := by rw [pubS_eq]; rw [oneT_eq] at he; exact he
 subst he
 have fl2 := fl1.below hb2
 have fD2 := fD1.below hb2
 have Hb2 := below_of Hb1 hb2 Hb1.size
 have Zb2 := Nat.le_trans Zb1 hb2.size
 go_wp2_with fail
 refine hK.out _ _ Hb2 fun _ => ?_
 clear hK K
 try simp only [la, Act.put]
 refine ty 7 rfl (fun K hK => ?_)
 go_simp
 refine (HCc.out _ (HAp.out.below (bo HB2 Hb2))).mono ?_
 rintro e w3_ ⟨rfl, hb3⟩
 have fl3 := fl2.below hb3
 have fD3 := fD2.below hb3
 have Hb3 := below_of Hb2 hb3 Hb2.size
 have Zb3 := Nat.le_trans Zb2 hb3.size
 go_wp2_with fail
 refine hK.out _ _ Hb3 fun _ => ?_
 clear hK K
 refine tq 8 rfl Hb3 ?_
 try simp only [la, Act.put]
 refine tq 9 rfl Hb3 ?_
 refine tq 10 rfl Hb3 ?_
 try simp only [la, Act.put]
 refine ty 12 rfl (fun K hK => ?_)
 refine step_put_blk (by rfl) _ _ _ (by rfl) (wd.heap.size) (arrK .u8 (dd)) (by rfl) (by rfl) _ _ fD3 (info32 Ddd.out.1) (by rw [len32 Ddd.out.1, len32 z32_length]) (arrK_all _ _) ?_
 intro w4_ fD4 hg4 hz4
 have Hb4 := bgx Hb3 hg4 Hb3.size
 have Zb4 := Nat.le_trans Zb3 hg4.size
 refine hK.out _ _ Hb4 fun _ => ?_
 clear hK K
 refine tq 13 rfl Hb4 ?_
 try simp only [la, Act.put]
 refine td ?_ _
 have HDf := θ fD4
 have HBf := θ (HRt2.out.below Hb4)
 have HWf := θ (bo HB2 Hb4)
 go_wp2_with (first
  | (refine wpList_load_blk_g 29 (.tmp 12) (by rfl) (by kernel_rfl) (wd.heap.size) rfl 29 (arrK .u8 dd) (.array 32 5) HDf.out (by kernel_rfl) rfl (info32 Ddd.out.1) ?_)
  | (refine wpList_load_blk_g 29 (.tmp 4) (by rfl) (by kernel_rfl) w.heap.size rfl 29 (arrK .u8 root) (.array 32 5) HBf.out (by kernel_rfl) rfl (info32 Hrt.out.1) ?_))
 go_ret
 exact ⟨ret_bool Hver.out, HWf.out⟩
end Go.Proofs.YtkflpoiobpblhaaGreat
