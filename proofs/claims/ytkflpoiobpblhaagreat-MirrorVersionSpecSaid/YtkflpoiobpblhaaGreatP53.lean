/- Walks and plain laws that the statement rests on: MR7. -/
import Derived.Deep.RegionHeld3
import Derived.Test.YtkflpoiobpblhaaGreatP00
import Derived.Test.YtkflpoiobpblhaaGreatP38
import Derived.Test.YtkflpoiobpblhaaGreatP40
import Derived.Test.YtkflpoiobpblhaaGreatP47
import Derived.Test.YtkflpoiobpblhaaGreatP50
import Derived.Test.YtkflpoiobpblhaaGreatP51
import Derived.Test.YtkflpoiobpblhaaGreatPS
namespace Go.Proofs.YtkflpoiobpblhaaGreat
open Go.RowKit
set_option linter.unusedVariables false
set_option linter.unusedSimpArgs false
section
variable {P : Program} {md : Region.Mode} {ops : Array Oper} {Q : Exit → Act → World → Prop} {S : World → Prop} {fuel : Nat} {listed : Array Bool} {a : Act} {w : World}
def Each (P : Program) (md : Region.Mode) (ops : Array Oper) (Q : Exit → Act → World → Prop) (S : World → Prop) (fuel : Nat) (listed : Array Bool) (a : Act) (w : World) (i : Nat) (o : Oper) : Prop :=
 ∀ K' : Act → World → Prop, Shut (∀ a w, S w → (S w → wpAnyH P md ops Q S fuel (listed.setIfInBounds i true) a w) → K' a w) → if Region.wanted o (yielded ops a.tmps) = true then Oper.wp P o a w K' Q else K' (a.put o.dst undef) w
theorem g0 (i : Nat) {o : Oper} (h : Each P md ops Q S fuel listed a w i o) : Each P md ops Q S fuel listed a w i o := h
theorem g1 (i : Nat) {o : Oper} (ho : ops[i]? = some o) (h : Each P md ops Q S fuel listed a w i o) (hr : Region.ready md ops listed = [i] := by kernel_rfl) : wpAnyH P md ops Q S (fuel + 1) listed a w :=
 wpAnyH_ready hr (by simp) (AllReadyH.cons ho h AllReadyH.nil)
theorem g2 (i j : Nat) {o o' : Oper} (ho : ops[i]? = some o) (ho' : ops[j]? = some o') (h : Each P md ops Q S fuel listed a w i o) (h' : Each P md ops Q S fuel listed a w j o') (hr : Region.ready md ops listed = [i, j] := by kernel_rfl) : wpAnyH P md ops Q S (fuel + 1) listed a w :=
 wpAnyH_ready hr (by simp) (AllReadyH.cons ho h (AllReadyH.cons ho' h' AllReadyH.nil))
theorem g3 (i j l : Nat) {o o' o'' : Oper} (ho : ops[i]? = some o) (ho' : ops[j]? = some o') (ho'' : ops[l]? = some o'') (h : Each P md ops Q S fuel listed a w i o) (h' : Each P md ops Q S fuel listed a w j o') (h'' : Each P md ops Q S fuel listed a w l o'') (hr : Region.ready md ops listed = [i, j, l] := by kernel_rfl) : wpAnyH P md ops Q S (fuel + 1) listed a w :=
 wpAnyH_ready hr (by simp) (AllReadyH.cons ho h (AllReadyH.cons ho' h' (AllReadyH.cons ho'' h'' AllReadyH.nil)))
end
theorem cutm {G : Prop} (T : Prop) (main : T → G) (tl : T) : G := main tl
theorem wpList_put_four {P : Program} {w : World} {ops : Array Oper} {rest : List Oper} {o : Oper} {a : Act} {Q : Exit → Act → World → Prop} (hgd : o.guard = none) (ty : TypeId) (x y : Operand) (ho : o.op = .store ty x y) (b off : Nat) (v0 v1 v2 v3 : Value) (hx : a.eval x = .pointer (some ⟨b, off, none⟩)) (hy : a.eval y = .agg #[v0, v1, v2, v3])
    (t : TypeId) (cs : Array Value) (hg : Blk w b t cs) (hs : off + 4 ≤ cs.size) (hi : (P.info? ty).map (·.size) = some 4) (h1 : (#[v0, v1, v2, v3] : Array Value).all (·.oneCell') = true)
    (h : ∀ w', Blk w' b t ((((cs.setIfInBounds off v0).setIfInBounds (off + 1) v1).setIfInBounds (off + 2) v2).setIfInBounds (off + 3) v3) → w.grownBy w' (some b) → wpList P ops Q rest (a.put o.dst undef) w') : wpList P ops Q (o :: rest) a w :=
 wpList_step fun _ hK => step_put_four hgd ty x y ho b off v0 v1 v2 v3 hx hy t cs hg hs hi h1 fun w' h1 h2 _ => hK _ _ (h w' h1 h2)
theorem rsign_any (A : Option Addr) (n c m k : Nat) (s : List Nat) (Bm : Option Addr) (d : Nat) (msg : List Nat) (w : World) (hA : Cells w A (bytesV s)) (hs : s.length = n) (h8 : ByteL s) (hok : okKey n m k = true) (hM : Cells w Bm (bytesV msg)) (hm : msg.length = 72) (hm8 : ByteL msg) :
    Calls Tryz.prog 35 #[.agg #[.slice A n c, .int .i64 m, .int .i64 k], .slice Bm 72 d] w fun e w' => ∃ Sx, e = .returned (.tuple #[.agg (if k = m then ZK else #[.slice A n c, .int .i64 m, .int .i64 ((k : Int) + 1)]), .agg Sx, .int .i64 (if k = m then 40 else 0)]) ∧
     SgN w.heap.size w' (if k = m then ⟨0, [], [], []⟩ else ⟨k, openL s k (bitL (msgS (treeS (pubL s m)) k msg) 64) 64, closL s k (bitL (msgS (treeS (pubL s m)) k msg) 64) 64, pathR (pubL s m) k⟩) Sx ∧ Below w.heap.size w w' := by
 have ho := okKey_true hok
 by_cases hk : k = m
 · rw [if_pos hk, if_pos hk, if_pos hk]
   refine (rSign_bad A n c m k Bm 72 d w (.inr ⟨hok, by omega, by rw [hk]⟩)).mono ?_
   rintro e w' ⟨rfl, hb⟩
   exact ⟨_, rfl, SgN.zero _ _, hb⟩
 · rw [if_neg hk, if_neg hk, if_neg hk]
   refine (rSign_good A n c m k s Bm 72 d msg w hA hs h8 hok (by omega) hM hm (by omega) hm8).mono ?_
   rintro e w' ⟨Ao, co, Ac, cc, Ap, q, cp, rfl, h1, h2, h3, h4, h5, h6, h7, c1, c2, c3, n1, n2, n3, hb⟩
   exact ⟨_, rfl, SgN.of h1 h2 h3 h4 h5 h6 h7 c1 c2 c3 n1 n2 n3, hb⟩
set_option maxRecDepth 100000 in
set_option maxHeartbeats 16000000 in
theorem rmversion_any (A B I C : Option Addr) (n c k d ni ci mc cc : Nat) (m u : Int) (s : List Nat) (its : List Mir.It) (cs : List Mir.Ch) (w : World) (hA : Cells w A (bytesV s)) (hs : s.length = n) (h8 : ByteL s) (hI : ItemsC w I its) (hni : its.length = ni) (hC : ChangesC w C cs) (hmc : cs.length = mc)
    (hk : k ≤ 1000000) (hni2 : ni ≤ 1000000) (hsi : ∀ x ∈ its, x.2.length ≤ 900000) (hmc2 : mc ≤ 1000000) (hsc : ∀ x ∈ cs, x.1.2.length ≤ 900000) (hcc : mc ≤ cc) (hccm : cc ≤ maxLen) :
    Calls Tryz.prog 11 #[.agg #[.slice A n c, .int .i64 m, .int .i64 u], .slice B k d, .slice I ni ci, .slice C mc cc] w fun e w' => ∃ V' K', e = .returned (.tuple #[.agg V', .agg K', .int .i64 (Mir.vsnE n m u k its cs)]) ∧
     ((Mir.vsnE n m u k its cs = 0 ∧ K' = #[.slice A n c, .int .i64 m, .int .i64 (u + 1)] ∧ VerC w' (Mir.vsnV s m.toNat u.toNat its cs) V') ∨ (Mir.vsnE n m u k its cs ≠ 0 ∧ K' = ZK ∧ V' = Mir.ver0)) ∧ Below w.heap.size w w' := by
 have HP := Lib.hid (fun W h => rPublic_any A n c m u s W h hs h8)
 have HSt := Lib.hid (fun W h => rstate_any I ni ci its W hni hni2 h hsi)
 have HCv := Lib.hid (fun W h => rchanges_any C mc cc cs W hmc hmc2 h)
 have HA := Lib.hid hA
 have HI := Lib.hid hI
 have HC := Lib.hid hC
 have Hs := Lib.hid hs
 have H8 := Lib.hid h8
 have Hmc := Lib.hid hmc
 have Hsc := Lib.hid hsc
 have Hcc := Lib.hid (And.intro hcc hccm)
 obtain ⟨R, hR⟩ : ∃ R, Mir.vsnE n m u k its cs = R := ⟨_, rfl⟩
 rw [hR]
 obtain ⟨P, hP⟩ : ∃ P, pubR n m u s = P := ⟨_, rfl⟩
 have HPd := Lib.hid (show IsD P by rw [← hP]; exact pubR_isD n m u s)
 obtain ⟨ok, hok⟩ : ∃ b, okKey n m u = b := ⟨_, rfl⟩
 obtain ⟨E, hE⟩ : ∃ E, Mir.itE its = E := ⟨_, rfl⟩
 obtain ⟨S, hS⟩ : ∃ S, Mir.stS its = S := ⟨_, rfl⟩
 obtain ⟨cv, hcv⟩ : ∃ b, Mir.chOk cs = b := ⟨_, rfl⟩
 have HSd := Lib.hid (show IsD S by
  rw [← hS]; unfold Mir.stS
  by_cases h : Mir.itE its = 0
  · rw [if_pos h]; exact treeS_isD _
  · rw [if_neg h]; exact z32_isD)
 rw [hP, hok] at HP
 rw [hE, hS] at HSt
 rw [hcv] at HCv
 have HR : Hid (R = if ok = false then 40 else if u ≠ k then 450 else if E ≠ 0 then E else if cv = false then 430 else if u = m then 40 else 0) := Lib.hid (by rw [← hR, ← hok, ← hE, ← hcv]; rfl)
 have HS := Lib.hid hS
 have Hok := Lib.hid hok
 have Hcv := Lib.hid hcv
 clear hA hs h8 hI hni hC hmc hsi hsc hcc hccm hR hP hok hE hS hcv
 obtain ⟨Z, hZ⟩ : ∃ Z, Mir.ver0 = Z := ⟨_, rfl⟩
 have HZ := Lib.hid hZ
 have iZ := Lib.hid (show (Tryz.prog.info? 34).map (·.size) = some Z.size by rw [← hZ, Mir.ver0_size]; kernel_rfl)
 have zZ := Lib.hid (show Z.size = 38 by rw [← hZ]; exact Mir.ver0_size)
 have aZ := Lib.hid (show Z.all (·.oneCell') = true by rw [← hZ]; exact Mir.verA_all rfl rfl rfl rfl rfl)
 have bZ := Lib.hid (show Tryz.prog.built 34 [] = some Z by rw [← hZ]; kernel_rfl)
 have bK := Lib.hid (show Tryz.prog.built 24 [] = some ZK by kernel_rfl)
 clear hZ
 go_enter Tryz.func11, Tryz.ntmps11
 go_upto_region 1 with (fail)
 generalize hge : World.alloc (World.alloc (World.alloc _ _) _) _ = w1
 have b3 : Blk w1 w.heap.size 24 #[.slice A n c, .int .i64 m, .int .i64 u] ∧ Blk w1 (w.heap.size + 1) 34 Z ∧ Blk w1 (w.heap.size + 2) 24 ZK ∧ Below w.heap.size w w1 ∧ w.heap.size + 3 ≤ w1.heap.size := by
  rw [← HZ.out]
  exact blk_threeC w _ _ _ _ _ _ w1 hge
 have HK1 := Lib.hid b3.1
 have HV1 := Lib.hid b3.2.1
 have HZ1 := Lib.hid b3.2.2.1
 have HB1 := Lib.hid b3.2.2.2.1
 have hz1 := b3.2.2.2.2
 clear hge b3
 have k0 : w1.cell? ⟨w.heap.size, 0, none⟩ = some (.slice A n c) := HK1.out.cell 0
 have k1 : w1.cell? ⟨w.heap.size, 1, none⟩ = some (.int .i64 m) := HK1.out.cell 1
 have k2 : w1.cell? ⟨w.heap.size, 2, none⟩ = some (.int .i64 u) := HK1.out.cell 2
 go_wp2_with (fail)
 refine (HP.out w1 (HA.out.below HB1.out)).mono ?_
 rintro e w2 ⟨rfl, hb2⟩
 have HK2 := Lib.hid (HK1.out.below hb2)
 have HV2 := Lib.hid (HV1.out.below hb2)
 have HZ2 := Lib.hid (HZ1.out.below hb2)
 have HB2 := Lib.hid (below_of HB1.out hb2 HB1.out.size)
 have hz2 := Nat.le_trans hz1 hb2.size
 clear hb2 k0 k1 k2 HK1 HV1 HZ1 HB1 hz1
 go_upto_region 2 with (
  (refine wpList_put_blk rfl 29 (.tmp 11) (.tmp 22) rfl w2.heap.size (arrK .u8 P) rfl rfl 29 (arrK .u8 z32) (by exact Blk.new _ _ _) (info32 HPd.out.1) (by rw [len32 HPd.out.1, len32 z32_length]) (arrK_all _ _) ?_
   intro w3 HQ hg hz
   have hb3 := Lib.hid (below_put hg)
   clear HQ hg hz))
 have HK3 := Lib.hid (HK2.out.below hb3.out)
 have HV3 := Lib.hid (HV2.out.below hb3.out)
 have HZ3 := Lib.hid (HZ2.out.below hb3.out)
 have HB3 := Lib.hid (below_of HB2.out hb3.out HB2.out.size)
 have hz3 := Nat.le_trans hz2 hb3.out.size
 clear hb3 HK2 HV2 HZ2 HB2 hz2
 cases ok with
 | false =>
   have hr : R = 40 := by rw [HR.out]; rfl
   rw [show errKey false = 40 from rfl]
   subst hr
   go_wp2_with (first
    | (refine wpList_built rfl 34 #[] rfl [] (by simp) Z bZ.out ?_)
    | (refine wpList_built rfl 24 #[] rfl [] (by simp) ZK bK.out ?_)
    | (refine wpList_store_same rfl 34 (.tmp 8) (.tmp 26) rfl (w.heap.size + 1) Z rfl rfl 34 HV3.out iZ.out aZ.out ?_)
    | (refine wpList_store_same rfl 24 (.tmp 9) (.tmp 27) rfl (w.heap.size + 2) ZK rfl rfl 24 HZ3.out (by kernel_rfl) (by kernel_rfl) ?_))
   exact ret_row3 (u := .int .i64 40) rfl (w.heap.size + 1) (w.heap.size + 2) 34 24 Z ZK _ _ rfl rfl rfl HV3.out HZ3.out Tryz.underlying34 Tryz.underlying24 rfl rfl iZ.out (by kernel_rfl) rfl ⟨Z, ZK, rfl, by first | exact .inr ⟨by decide, rfl, HZ.out.symm⟩ | exact ⟨rfl, HZ.out.symm⟩ | exact ⟨by decide, rfl, HZ.out.symm⟩, HB3.out⟩
 | true =>
 rw [show errKey true = 0 from rfl]
 have c2 : w3.cell? ⟨w.heap.size, 2, none⟩ = some (.int .i64 u) := HK3.out.cell 2
 by_cases hu : u = (k : Int)
 rotate_left
 · have hr : R = 450 := by rw [HR.out, if_neg (by simp), if_pos hu]
   subst hr
   have du : (u == (k : Int)) = false := by simpa using hu
   have du2 : (u != (k : Int)) = true := by simpa using hu
   have du3 : decide (u = (k : Int)) = false := by simpa using hu
   go_wp2_with (first
    | (refine wpList_built rfl 34 #[] rfl [] (by simp) Z bZ.out ?_)
    | (refine wpList_built rfl 24 #[] rfl [] (by simp) ZK bK.out ?_)
    | (refine wpList_store_same rfl 34 (.tmp 8) (.tmp 34) rfl (w.heap.size + 1) Z rfl rfl 34 HV3.out iZ.out aZ.out ?_)
    | (refine wpList_store_same rfl 24 (.tmp 9) (.tmp 35) rfl (w.heap.size + 2) ZK rfl rfl 24 HZ3.out (by kernel_rfl) (by kernel_rfl) ?_))
   exact ret_row3 (u := .int .i64 450) rfl (w.heap.size + 1) (w.heap.size + 2) 34 24 Z ZK _ _ rfl rfl rfl HV3.out HZ3.out Tryz.underlying34 Tryz.underlying24 rfl rfl iZ.out (by kernel_rfl) rfl ⟨Z, ZK, rfl, by first | exact .inr ⟨by decide, rfl, HZ.out.symm⟩ | exact ⟨rfl, HZ.out.symm⟩ | exact ⟨by decide, rfl, HZ.out.symm⟩, HB3.out⟩
 subst hu
 have du : ((k : Int) == (k : Int)) = true := by simp
 have du2 : ((k : Int) != (k : Int)) = false := by simp
 go_wp2_with (fail)
 refine (HSt.out w3 (HI.out.below HB3.out)).mono ?_
 rintro e w4 ⟨rfl, hb4⟩
 have HK4 := Lib.hid (HK3.out.below hb4)
 have HV4 := Lib.hid (HV3.out.below hb4)
 have HZ4 := Lib.hid (HZ3.out.below hb4)
 have HB4 := Lib.hid (below_of HB3.out hb4 HB3.out.size)
 have hz4 := Nat.le_trans hz3 hb4.size
 clear hb4 c2 HK3 HV3 HZ3 HB3 hz3 du du2
 go_upto_region 7 with (
  (refine wpList_put_blk rfl 29 (.tmp 13) (.tmp 39) rfl w4.heap.size (arrK .u8 S) rfl rfl 29 (arrK .u8 z32) (by exact Blk.new _ _ _) (info32 HSd.out.1) (by rw [len32 HSd.out.1, len32 z32_length]) (arrK_all _ _) ?_
   intro w5 HQ hg hz
   have hb5 := Lib.hid (below_put hg)
   have HT5 := Lib.hid HQ
   clear HQ hg hz))
 have HK5 := Lib.hid (HK4.out.below hb5.out)
 have HV5 := Lib.hid (HV4.out.below hb5.out)
 have HZ5 := Lib.hid (HZ4.out.below hb5.out)
 have HB5 := Lib.hid (below_of HB4.out hb5.out HB4.out.size)
 have hz5 := Nat.le_trans hz4 hb5.out.size
 obtain ⟨t, ht⟩ : ∃ t, w4.heap.size = t := ⟨_, rfl⟩
 rw [ht] at HT5 ⊢
 clear hb5 HK4 HV4 HZ4 HB4 hz4 ht
 by_cases hE : E = 0
 rotate_left
 · have hr : R = E := by rw [HR.out, if_neg (by simp), if_neg (by simp), if_pos hE]
   subst hr
   have dE : decide (R = 0) = false := by simpa using hE
   have dE2 : (R != 0) = true := by simpa using hE
   go_wp2_with (first
    | (refine wpList_built rfl 34 #[] rfl [] (by simp) Z bZ.out ?_)
    | (refine wpList_built rfl 24 #[] rfl [] (by simp) ZK bK.out ?_)
    | (refine wpList_store_same rfl 34 (.tmp 8) (.tmp 43) rfl (w.heap.size + 1) Z rfl rfl 34 HV5.out iZ.out aZ.out ?_)
    | (refine wpList_store_same rfl 24 (.tmp 9) (.tmp 44) rfl (w.heap.size + 2) ZK rfl rfl 24 HZ5.out (by kernel_rfl) (by kernel_rfl) ?_))
   exact ret_row3 (u := .int .i64 R) rfl (w.heap.size + 1) (w.heap.size + 2) 34 24 Z ZK _ _ rfl rfl rfl HV5.out HZ5.out Tryz.underlying34 Tryz.underlying24 rfl rfl iZ.out (by kernel_rfl) rfl ⟨Z, ZK, rfl, by first | exact .inr ⟨hE, rfl, HZ.out.symm⟩ | exact ⟨rfl, HZ.out.symm⟩ | exact ⟨hE, rfl, HZ.out.symm⟩, HB5.out⟩
 subst hE
 go_wp2_with (fail)
 refine (HCv.out w5 (HC.out.below HB5.out)).mono ?_
 rintro e w6 ⟨rfl, hb6⟩
 have HK6 := Lib.hid (HK5.out.below hb6)
 have HV6 := Lib.hid (HV5.out.below hb6)
 have HZ6 := Lib.hid (HZ5.out.below hb6)
 have HT6 := Lib.hid (HT5.out.below hb6)
 have HB6 := Lib.hid (below_of HB5.out hb6 HB5.out.size)
 have hz6 := Nat.le_trans hz5 hb6.size
 clear hb6 HK5 HV5 HZ5 HB5 hz5 HT5
 cases cv with
 | false =>
   have hr : R = 430 := by rw [HR.out, if_neg (by simp), if_neg (by simp), if_neg (by simp), if_pos rfl]
   subst hr
   go_wp2_with (first
    | (refine wpList_built rfl 34 #[] rfl [] (by simp) Z bZ.out ?_)
    | (refine wpList_built rfl 24 #[] rfl [] (by simp) ZK bK.out ?_)
    | (refine wpList_store_same rfl 34 (.tmp 8) (.tmp 49) rfl (w.heap.size + 1) Z rfl rfl 34 HV6.out iZ.out aZ.out ?_)
    | (refine wpList_store_same rfl 24 (.tmp 9) (.tmp 50) rfl (w.heap.size + 2) ZK rfl rfl 24 HZ6.out (by kernel_rfl) (by kernel_rfl) ?_))
   exact ret_row3 (u := .int .i64 430) rfl (w.heap.size + 1) (w.heap.size + 2) 34 24 Z ZK _ _ rfl rfl rfl HV6.out HZ6.out Tryz.underlying34 Tryz.underlying24 rfl rfl iZ.out (by kernel_rfl) rfl ⟨Z, ZK, rfl, by first | exact .inr ⟨by decide, rfl, HZ.out.symm⟩ | exact ⟨rfl, HZ.out.symm⟩ | exact ⟨by decide, rfl, HZ.out.symm⟩, HB6.out⟩
 | true =>
 obtain ⟨hle, hsm⟩ := chOk_size Hcv.out
 rw [Hmc.out] at hle
 have ho := okKey_true Hok.out
 obtain ⟨m0, rfl⟩ := Int.eq_ofNat_of_zero_le (show 0 ≤ m by omega)
 have HM := Lib.hid (fun W A0 A1 A2 A3 h => rmessage_any (k + 1) S C mc cc cs A0 A1 A2 A3 W HSd.out Hmc.out (by omega) (by omega) h (fun x hx => ⟨hsm x hx, Hsc.out x hx⟩))
 have HSg := Lib.hid (fun A9 c9 W h1 h2 => rsign_any A n c m0 k s A9 c9 (Mir.mesS (k + 1) S cs) W h1 Hs.out H8.out Hok.out h2 (mesS_length _ _ _ HSd.out) (mesS_byte _ _ _ HSd.out))
 obtain ⟨Kx, hKx⟩ : ∃ K, (if k = m0 then ZK else (#[.slice A n c, .int .i64 m0, .int .i64 ((k : Int) + 1)] : Array Value)) = K := ⟨_, rfl⟩
 obtain ⟨ev, hev⟩ : ∃ e : Int, (if k = m0 then 40 else 0) = e := ⟨_, rfl⟩
 obtain ⟨g, hg⟩ : ∃ g, (if k = m0 then (⟨0, [], [], []⟩ : Mir.Sg) else ⟨k, openL s k (bitL (msgS (treeS (pubL s m0)) k (Mir.mesS (k + 1) S cs)) 64) 64, closL s k (bitL (msgS (treeS (pubL s m0)) k (Mir.mesS (k + 1) S cs)) 64) 64, pathR (pubL s m0) k⟩) = g := ⟨_, rfl⟩
 rw [hKx, hev, hg] at HSg
 have hKc : ∃ A' n' c' a b, Kx = #[.slice A' n' c', .int .i64 a, .int .i64 b] := by
  rw [← hKx]; split
  · exact ⟨_, _, _, _, _, rfl⟩
  · exact ⟨_, _, _, _, _, rfl⟩
 obtain ⟨KA, Kn, Kc, Ka, Kb, hKe⟩ := hKc
 have HKe := Lib.hid hKe
 have hr : R = ev := by rw [HR.out, if_neg (by simp), if_neg (by simp), if_neg (by simp), if_neg (by simp), ← hev]; by_cases h : k = m0 <;> simp [h]; omega
 have Hcase := Lib.hid (And.intro hKx (And.intro hev hg))
 subst hr
 obtain ⟨V, hV⟩ : ∃ V, Mir.verA ((k : Int) + 1) S (.slice C mc cc) (.int .i64 0) (.slice none 0 0) (.slice none 0 0) (.slice none 0 0) = V := ⟨_, rfl⟩
 have iV := Lib.hid (show (Tryz.prog.info? 34).map (·.size) = some V.size by rw [← hV]; exact infoVer HSd.out.1 ..)
 have zV := Lib.hid (show V.size = 38 by rw [← hV]; exact Mir.verA_size HSd.out.1 ..)
 have aV := Lib.hid (show V.all (·.oneCell') = true by rw [← hV]; exact Mir.verA_all rfl rfl rfl rfl rfl)
 have bV := Lib.hid (show Tryz.prog.built 34 [(0, .int .i64 ((k : Int) + 1)), (1, .agg (arrK .u8 S)), (2, .slice C mc cc)] = some V by rw [← hV]; exact built_ver _ S HSd.out.1 C mc cc)
 have HMv := Lib.hid (fun W h => by have := HM.out W (.int .i64 0) (.slice none 0 0) (.slice none 0 0) (.slice none 0 0) h; rw [show (((k + 1 : Nat) : Int)) = (k : Int) + 1 from rfl, hV] at this; exact this)
 have HVe := Lib.hid hV
 have ewr : IntKind.i64.wrap ((k : Int) + 1) = (k : Int) + 1 := IntWalk.i64_in _ (by omega)
 clear hKx hev hg hKe hV HM hsm hle ho
 go_upto_region 12 with (first
  | (refine wpList_load_blk rfl 29 (.tmp 13) rfl t rfl 29 (arrK .u8 S) (.array 32 5) HT6.out (by kernel_rfl) rfl (info32 HSd.out.1) ?_
     refine wpList_moved rfl (.tmp 3) rfl ?_
     refine wpList_built rfl 34 #[(0, .tmp 53), (1, .tmp 54), (2, .tmp 55)] rfl [(0, .int .i64 ((k : Int) + 1)), (1, .agg (arrK .u8 S)), (2, .slice C mc cc)] (by simp [Act.put, Act.eval]) V bV.out ?_)
  | (refine wpList_put_blk rfl 34 (.tmp 15) (.tmp 56) rfl w6.heap.size V rfl rfl 34 Z (HZ.out ▸ Blk.new w6 34 Mir.ver0) iV.out (by rw [zZ.out, zV.out]) aV.out ?_
     intro w7 HQ hg hz
     have hb7 := Lib.hid (below_put hg)
     have HX7 := Lib.hid HQ
     clear HQ hg hz))
 have HK7 := Lib.hid (HK6.out.below hb7.out)
 have HV7 := Lib.hid (HV6.out.below hb7.out)
 have HZ7 := Lib.hid (HZ6.out.below hb7.out)
 have HB7 := Lib.hid (below_of HB6.out hb7.out HB6.out.size)
 have hz7 := Nat.le_trans hz6 hb7.out.size
 have hx6 : w.heap.size + 3 ≤ w6.heap.size := hz6
 have hxl : w6.heap.size < w7.heap.size := HX7.out.lt
 obtain ⟨x, hx⟩ : ∃ t, w6.heap.size = t := ⟨_, rfl⟩
 rw [hx] at HX7 hx6 hxl ⊢
 clear hb7 HK6 HV6 HZ6 HB6 hz6 hx HT6
 refine wp_region_held_drew (S := fun W => Below w7.heap.size w7 W) (by kernel_rfl) (below_drewN (Below.refl _ _) 1) (fun Hd => ?_)
 have Hc : Below w7.heap.size w7 w7.drew := below_drewN (Below.refl _ _) 1
 have Zc : w7.heap.size ≤ w7.drew.heap.size := Nat.le_refl _
 clear Hd
 generalize World.drew w7 = wc at *
 apply cutm (∀ (wf : World) (pa pb : Nat) (Sx : Array Value) (A9 : Option Addr) (c9 : Nat), (Blk wf pa 24 Kx ∧ Blk wf pb 32 Sx ∧ SgN w7.heap.size wf g Sx ∧ Below w7.heap.size w7 wf ∧ w7.heap.size ≤ pa ∧ w7.heap.size ≤ pb) → _)
 · intro tail
   refine tg 0 (.agg (#[.slice A n c, .int .i64 (m0 : Int), .int .i64 (k : Int)])) rfl (yields_load_blk (by rfl) _ _ rfl (w.heap.size) rfl 24 (#[.slice A n c, .int .i64 (m0 : Int), .int .i64 (k : Int)]) _ (fun W hW => HK7.out.below hW) Tryz.underlying24 rfl (by kernel_rfl)) Hc ?_
   refine tg 1 (.agg (V)) rfl (yields_load_blk (by rfl) _ _ rfl (x) rfl 34 (V) _ (fun W hW => HX7.out.below hW) Tryz.underlying34 rfl iV.out) Hc ?_
   try simp only [la, Act.put]
   iterate 4
    all_goals
     first
      | (have q0 := hsg; have q1 := fa; clear q0 q1; refine g1 9 rfl ?_)
      | (have q0 := hsg; have q1 := fb; clear q0 q1; refine g1 8 rfl ?_)
      | (have q0 := hc9; have q1 := fa; have q2 := fb; clear q0 q1 q2; refine g1 3 rfl ?_)
      | (have q0 := fa; have q1 := fb; clear q0 q1; refine g1 2 rfl ?_)
      | (have q0 := hsg; clear q0; refine g2 8 9 rfl rfl ?_ ?_)
      | (have q0 := hc9; have q1 := fa; clear q0 q1; refine g2 3 9 rfl rfl ?_ ?_)
      | (have q0 := hc9; have q1 := fb; clear q0 q1; refine g2 3 8 rfl rfl ?_ ?_)
      | (have q0 := fa; clear q0; refine g2 2 9 rfl rfl ?_ ?_)
      | (have q0 := fb; clear q0; refine g2 2 8 rfl rfl ?_ ?_)
      | (have q0 := hc9; clear q0; refine g3 3 8 9 rfl rfl rfl ?_ ?_ ?_)
      | (refine g3 2 8 9 rfl rfl rfl ?_ ?_ ?_)
    all_goals
     first
      | (refine g0 2 ?_
         intro K hK
         go_simp
         refine (HMv.out wc (HC.out.below (below_of HB7.out Hc HB7.out.size))).mono ?_
         rintro e wn ⟨A9, c9, rfl, hk9, hm9, hc9', hbn⟩
         try replace fa := fa.below hbn
         try replace fb := fb.below hbn
         try replace hc9 := hc9.below hbn
         try replace hsg := hsg.below hbn
         replace Zc : w7.heap.size ≤ wn.heap.size := Nat.le_trans Zc hbn.size
         replace Hc : Below w7.heap.size w7 wn := below_of Hc hbn Hc.size
         clear hbn
         have hc9 := hc9'
         clear hc9'
         go_wp2_with (fail)
         refine hK.out _ _ Hc fun _ => ?_
         clear hK K
         try simp only [la, Act.put]
         obtain ⟨wc, rfl⟩ : ∃ z, z = wn := ⟨_, rfl⟩)
      | (refine g0 3 ?_
         intro K hK
         go_simp
         refine (HSg.out A9 c9 wc (HA.out.below (below_of HB7.out Hc HB7.out.size)) hc9).mono ?_
         rintro e wn ⟨Sx, rfl, hsg', hbn⟩
         have hsg1 := hsg'.mono (show w7.heap.size ≤ wc.heap.size from Hc.size)
         clear hsg'
         try replace fa := fa.below hbn
         try replace fb := fb.below hbn
         try replace hc9 := hc9.below hbn
         try replace hsg := hsg.below hbn
         replace Zc : w7.heap.size ≤ wn.heap.size := Nat.le_trans Zc hbn.size
         replace Hc : Below w7.heap.size w7 wn := below_of Hc hbn Hc.size
         clear hbn
         have hsg := hsg1
         clear hsg1
         go_wp2_with (fail)
         refine hK.out _ _ Hc fun _ => ?_
         clear hK K
         try simp only [la, Act.put]
         obtain ⟨wc, rfl⟩ : ∃ z, z = wn := ⟨_, rfl⟩
         refine tq 4 rfl Hc ?_
         refine tq 5 rfl Hc ?_
         try simp only [la, Act.put]
         refine tq 6 rfl Hc ?_
         refine tq 7 rfl Hc ?_
         try simp only [la, Act.put])
      | (refine g0 8 ?_
         intro K hK
         go_simp
         generalize hge : World.alloc _ _ = wn
         have fa' : Blk wn wc.heap.size 24 ZK := by subst hge; exact Blk.new _ _ _
         have hbn := al1 hge
         clear hge
         have lofa : w7.heap.size ≤ wc.heap.size := Zc
         try have hne : wc.heap.size ≠ pb := Nat.ne_of_gt fb.lt
         try replace fa := fa.below hbn
         try replace fb := fb.below hbn
         try replace hc9 := hc9.below hbn
         try replace hsg := hsg.below hbn
         replace Zc : w7.heap.size ≤ wn.heap.size := Nat.le_trans Zc hbn.size
         replace Hc : Below w7.heap.size w7 wn := below_of Hc hbn Hc.size
         clear hbn
         refine hK.out _ _ Hc fun _ => ?_
         clear hK K
         try simp only [la, Act.put]
         obtain ⟨pa, hpp⟩ : ∃ p, wc.heap.size = p := ⟨_, rfl⟩
         first | rw [hpp] at fa' lofa hne ⊢ | rw [hpp] at fa' lofa ⊢
         clear hpp
         have fa := fa'
         clear fa'
         obtain ⟨wc, rfl⟩ : ∃ z, z = wn := ⟨_, rfl⟩)
      | (refine g0 9 ?_
         intro K hK
         go_simp
         generalize hge : World.alloc _ _ = wn
         have fb' : Blk wn wc.heap.size 32 #[.int .i64 0, .slice none 0 0, .slice none 0 0, .slice none 0 0] := by subst hge; exact Blk.new _ _ _
         have hbn := al1 hge
         clear hge
         have lofb : w7.heap.size ≤ wc.heap.size := Zc
         try have hne : wc.heap.size ≠ pa := Nat.ne_of_gt fa.lt
         try replace fa := fa.below hbn
         try replace fb := fb.below hbn
         try replace hc9 := hc9.below hbn
         try replace hsg := hsg.below hbn
         replace Zc : w7.heap.size ≤ wn.heap.size := Nat.le_trans Zc hbn.size
         replace Hc : Below w7.heap.size w7 wn := below_of Hc hbn Hc.size
         clear hbn
         refine hK.out _ _ Hc fun _ => ?_
         clear hK K
         try simp only [la, Act.put]
         obtain ⟨pb, hpp⟩ : ∃ p, wc.heap.size = p := ⟨_, rfl⟩
         first | rw [hpp] at fb' lofb hne ⊢ | rw [hpp] at fb' lofb ⊢
         clear hpp
         have fb := fb'
         clear fb'
         obtain ⟨wc, rfl⟩ : ∃ z, z = wn := ⟨_, rfl⟩)
   all_goals
    refine g1 10 rfl (fun K hK => ?_)
    refine step_put_blk (by rfl) _ _ _ (by rfl) pa Kx (by rfl) (by rfl) _ _ fa (by rw [HKe.out]; kernel_rfl) (by rw [HKe.out]; rfl) (by rw [HKe.out]; simp [Value.oneCell']) ?_
    intro wn f' hg hz
    replace fb := fb.grown hg (by simp; omega)
    replace hsg := hsg.off hg fa (show NoU8 ZK from no8_key)
    replace Zc : w7.heap.size ≤ wn.heap.size := Nat.le_trans Zc hg.size
    replace Hc : Below w7.heap.size w7 wn := below_grown Hc hg Hc.size (by simp; omega)
    clear fa hg hz
    refine hK.out _ _ Hc fun _ => ?_
    clear hK K
    try simp only [la, Act.put]
    have fa := f'
    clear f'
    obtain ⟨wc, rfl⟩ : ∃ z, z = wn := ⟨_, rfl⟩
    obtain ⟨s1, s2, s3, s4, hSe⟩ := hsg.form
    have HSe := Lib.hid hSe
    clear hSe
    refine g1 11 rfl (fun K hK => ?_)
    refine step_put_blk (by rfl) _ _ _ (by rfl) pb Sx (by rfl) (by rfl) _ _ fb (by rw [HSe.out]; kernel_rfl) (by rw [HSe.out]; rfl) (by rw [HSe.out]; simp [Value.oneCell']) ?_
    intro wn f' hg hz
    replace fa := fa.grown hg (by simp; omega)
    replace hsg := hsg.off hg fb no8_sig
    replace Zc : w7.heap.size ≤ wn.heap.size := Nat.le_trans Zc hg.size
    replace Hc : Below w7.heap.size w7 wn := below_grown Hc hg Hc.size (by simp; omega)
    clear fb hg hz
    refine hK.out _ _ Hc fun _ => ?_
    clear hK K
    try simp only [la, Act.put]
    have fb := f'
    clear f'
    obtain ⟨wc, rfl⟩ : ∃ z, z = wn := ⟨_, rfl⟩
    refine tq 12 rfl Hc ?_
    try simp only [la, Act.put]
    refine td ?_ _
    exact tail wc pa pb Sx A9 c9 ⟨fa, fb, hsg, Hc, lofa, lofb⟩
 · intro wf pa pb Sx A9 c9 ⟨fa, fb, hsg, Hc, loa, lob⟩
   have HB8 := Lib.hid (below_of HB7.out Hc HB7.out.size)
   have HV8 := Lib.hid (HV7.out.below Hc)
   have HZ8 := Lib.hid (HZ7.out.below Hc)
   have HX8 := Lib.hid (HX7.out.below Hc)
   have HPa := Lib.hid fa
   have HPb := Lib.hid fb
   have HSg8 := Lib.hid hsg
   clear fa fb hsg Hc HK7 HV7 HZ7 HX7 HB7
   by_cases hk0 : k = m0
   · have hr : R = 40 := by rw [← Hcase.out.2.1, if_pos hk0]
     subst hr
     go_wp2_with (first
      | (refine wpList_built rfl 34 #[] rfl [] (by simp) Z bZ.out ?_)
      | (refine wpList_built rfl 24 #[] rfl [] (by simp) ZK bK.out ?_)
      | (refine wpList_store_same rfl 34 (.tmp 8) (.tmp 67) rfl (w.heap.size + 1) Z rfl rfl 34 HV8.out iZ.out aZ.out ?_)
      | (refine wpList_store_same rfl 24 (.tmp 9) (.tmp 68) rfl (w.heap.size + 2) ZK rfl rfl 24 HZ8.out (by kernel_rfl) (by kernel_rfl) ?_))
     exact ret_row3 (u := .int .i64 40) rfl (w.heap.size + 1) (w.heap.size + 2) 34 24 Z ZK _ _ rfl rfl rfl HV8.out HZ8.out Tryz.underlying34 Tryz.underlying24 rfl rfl iZ.out (by kernel_rfl) rfl ⟨Z, ZK, rfl, by first | exact .inr ⟨by decide, rfl, HZ.out.symm⟩ | exact ⟨rfl, HZ.out.symm⟩ | exact ⟨by decide, rfl, HZ.out.symm⟩, HB8.out⟩
   obtain rfl : R = 0 := by rw [← Hcase.out.2.1, if_neg hk0]
   obtain rfl : #[.slice A n c, .int .i64 (m0 : Int), .int .i64 ((k : Int) + 1)] = Kx := by rw [← Hcase.out.1, if_neg hk0]
   have Hg := Lib.hid (show (⟨k, openL s k (bitL (msgS (treeS (pubL s m0)) k (Mir.mesS (k + 1) S cs)) 64) 64, closL s k (bitL (msgS (treeS (pubL s m0)) k (Mir.mesS (k + 1) S cs)) 64) 64, pathR (pubL s m0) k⟩ : Mir.Sg) = g by rw [← Hcase.out.2.2, if_neg hk0])
   clear HR Hcase
   obtain ⟨Ao, co, Ac, cq, Ap, cp, rfl, ⟨hc1, hc2, hc3⟩, hnn, hr8⟩ := HSg8.out
   have HNn := Lib.hid hnn
   have Hr8 := Lib.hid hr8
   have HC1 := Lib.hid hc1
   have HC2 := Lib.hid hc2
   have HC3 := Lib.hid hc3
   clear HSg8 hc1 hc2 hc3 hnn hr8
   go_upto_region 16 with (first
    | (refine wpList_load_blk rfl 32 (.tmp 17) rfl pb rfl 32 _ _ HPb.out Tryz.underlying32 rfl (by kernel_rfl) ?_)
    | (refine wpList_put_four rfl 32 (.tmp 71) (.tmp 70) rfl x 34 (.int .i64 g.i) (.slice Ao g.o.length co) (.slice Ac g.c.length cq) (.slice Ap g.p.length cp) rfl rfl 34 V HX8.out (by have := zV.out; omega) (by kernel_rfl) (by kernel_rfl) ?_
       intro w9 HQ hg
       have hg9 := Lib.hid hg
       have HX9 := Lib.hid HQ
       clear HQ hg))
   obtain ⟨V9, hV9⟩ : ∃ z, Mir.verA ((k : Int) + 1) S (.slice C mc cc) (.int .i64 g.i) (.slice Ao g.o.length co) (.slice Ac g.c.length cq) (.slice Ap g.p.length cp) = z := ⟨_, rfl⟩
   have hVV := Mir.verA_sig HSd.out.1 ((k : Int) + 1) (.slice C mc cc) (.int .i64 0) (.slice none 0 0) (.slice none 0 0) (.slice none 0 0) (.int .i64 g.i) (.slice Ao g.o.length co) (.slice Ac g.c.length cq) (.slice Ap g.p.length cp)
   rw [HVe.out, hV9] at hVV
   rw [hVV] at HX9
   clear hVV
   have zV9 := Lib.hid (show V9.size = 38 by rw [← hV9]; exact Mir.verA_size HSd.out.1 ..)
   have iV9 := Lib.hid (show (Tryz.prog.info? 34).map (·.size) = some V9.size by rw [zV9.out]; kernel_rfl)
   have aV9 := Lib.hid (show V9.all (·.oneCell') = true by rw [← hV9]; exact Mir.verA_all rfl rfl rfl rfl rfl)
   have HV9e := Lib.hid hV9
   have hgx := hg9.out
   have fV : Blk w9 (w.heap.size + 1) 34 Z := HV8.out.grown hgx (by simp; omega)
   have fZ : Blk w9 (w.heap.size + 2) 24 ZK := HZ8.out.grown hgx (by simp; omega)
   have fK : Blk w9 pa 24 #[.slice A n c, .int .i64 (m0 : Int), .int .i64 ((k : Int) + 1)] := HPa.out.grown hgx (by simp; omega)
   have fX := HX9.out
   have c1 := Cells.grownN HC1.out HNn.out.1 hgx hxl
   have c2 := Cells.grownN HC2.out HNn.out.2.1 hgx hxl
   have c3 := Cells.grownN HC3.out HNn.out.2.2 hgx hxl
   have H9 : Below w.heap.size w w9 := below_grown HB8.out hgx HB8.out.size (by simp; omega)
   have z9 : w.heap.size ≤ w9.heap.size := H9.size
   clear hV9 hgx hg9 HX8 HV8 HZ8 HPa HPb HC1 HC2 HC3 HX9 HB8
   refine wp_region_held_drew (S := fun W => Below w.heap.size w W ∧ Blk W x 34 V9 ∧ Blk W pa 24 #[.slice A n c, .int .i64 (m0 : Int), .int .i64 ((k : Int) + 1)]) (by kernel_rfl) (⟨below_drewN H9 1, fX, fK⟩) (fun Hd => ?_)
   have Hd : Below w.heap.size w w9.drew := below_drewN H9 1
   have Zd : w.heap.size ≤ w9.drew.heap.size := H9.size
   have gX : Blk w9.drew x 34 V9 := fX
   have gK : Blk w9.drew pa 24 #[.slice A n c, .int .i64 (m0 : Int), .int .i64 ((k : Int) + 1)] := fK
   have gV : Blk w9.drew (w.heap.size + 1) 34 Z := fV
   have gZ : Blk w9.drew (w.heap.size + 2) 24 ZK := fZ
   have go_ : Cells w9.drew Ao (bytesV g.o.flatten) := c1
   have gc_ : Cells w9.drew Ac (bytesV g.c.flatten) := c2
   have gp_ : Cells w9.drew Ap (bytesV g.p.flatten) := c3
   generalize World.drew w9 = wd at *
   refine tg 0 (.agg (V9)) rfl (yields_load_blk (by rfl) _ _ rfl (x) rfl 34 (V9) _ (fun W hW => hW.2.1) Tryz.underlying34 rfl iV9.out) ⟨Hd, gX, gK⟩ ?_
   refine tg 1 (.agg (#[.slice A n c, .int .i64 (m0 : Int), .int .i64 ((k : Int) + 1)])) rfl (yields_load_blk (by rfl) _ _ rfl (pa) rfl 24 (#[.slice A n c, .int .i64 (m0 : Int), .int .i64 ((k : Int) + 1)]) _ (fun W hW => hW.2.2) Tryz.underlying24 rfl (by kernel_rfl)) ⟨Hd, gX, gK⟩ ?_
   try simp only [la, Act.put]
   refine ty 2 rfl (fun K hK => ?_)
   refine step_put_blk (by rfl) _ _ _ (by rfl) ((w.heap.size + 1)) (V9) (by rfl) (by rfl) _ _ gV iV9.out (by rw [zZ.out, zV9.out]) aV9.out ?_
   intro w1_ fV1 hg1 hz1
   have neX1 := gX.lt
   have fX1 := gX.gx hg1
   have neK1 := gK.lt
   have fK1 := gK.gx hg1
   have neZ1 := gZ.lt
   have fZ1 := gZ.gx hg1
   have fo1 := Cells.grownN go_ (HNn.out.1) hg1 (by omega)
   have fc1 := Cells.grownN gc_ (HNn.out.2.1) hg1 (by omega)
   have fp1 := Cells.grownN gp_ (HNn.out.2.2) hg1 (by omega)
   have Hb1 := bgx Hd hg1 Hd.size
   have Zb1 := Nat.le_trans Zd hg1.size
   refine hK.out _ _ ⟨Hb1, fX1, fK1⟩ fun _ => ?_
   clear hK K
   try simp only [la, Act.put]
   refine ty 3 rfl (fun K hK => ?_)
   refine step_put_blk (by rfl) _ _ _ (by rfl) ((w.heap.size + 2)) (#[.slice A n c, .int .i64 (m0 : Int), .int .i64 ((k : Int) + 1)]) (by rfl) (by rfl) _ _ fZ1 (by kernel_rfl) rfl (by kernel_rfl) ?_
   intro w2_ fZ2 hg2 hz2
   have neV2 := fV1.lt
   have fV2 := fV1.gx hg2
   have neX2 := fX1.lt
   have fX2 := fX1.gx hg2
   have neK2 := fK1.lt
   have fK2 := fK1.gx hg2
   have fo2 := Cells.grownN fo1 (HNn.out.1) hg2 (by omega)
   have fc2 := Cells.grownN fc1 (HNn.out.2.1) hg2 (by omega)
   have fp2 := Cells.grownN fp1 (HNn.out.2.2) hg2 (by omega)
   have Hb2 := bgx Hb1 hg2 Hb1.size
   have Zb2 := Nat.le_trans Zb1 hg2.size
   refine hK.out _ _ ⟨Hb2, fX2, fK2⟩ fun _ => ?_
   clear hK K
   try simp only [la, Act.put]
   refine tq 4 rfl ⟨Hb2, fX2, fK2⟩ ?_
   try simp only [la, Act.put]
   refine td ?_ _
   go_wp2_with (fail)
   have hVer : VerC w2_ (Mir.vsnV s m0 k its cs) V9 := by
    refine ⟨C, cc, _, _, _, _, HV9e.out.symm.trans (by show _ = Mir.verA ((k : Int) + 1) (Mir.stS its) (.slice C cs.length cc) _ _ _ _; rw [HS.out, Hmc.out]), (by show IsD (Mir.stS its); rw [HS.out]; exact HSd.out), HC.out.below Hb2, (by show cs.length ≤ cc; rw [Hmc.out]; exact Hcc.out.1), Hcc.out.2, ?_⟩
    show SigC _ ⟨k, openL s k (bitL (msgS (treeS (pubL s m0)) k (Mir.mesS (k + 1) (Mir.stS its) cs)) 64) 64, closL s k (bitL (msgS (treeS (pubL s m0)) k (Mir.mesS (k + 1) (Mir.stS its) cs)) 64) 64, pathR (pubL s m0) k⟩ _ _ _ _
    rw [HS.out, Hg.out]
    exact SgN.sig (B := w7.heap.size) ⟨Ao, co, Ac, cq, Ap, cp, rfl, ⟨fo2, fc2, fp2⟩, HNn.out, Hr8.out⟩
   exact ret_row3 (u := .int .i64 0) rfl (w.heap.size + 1) (w.heap.size + 2) 34 24 V9 #[.slice A n c, .int .i64 (m0 : Int), .int .i64 ((k : Int) + 1)] _ _ rfl rfl rfl fV2 fZ2 Tryz.underlying34 Tryz.underlying24 rfl rfl iV9.out (by kernel_rfl) rfl ⟨V9, #[.slice A n c, .int .i64 (m0 : Int), .int .i64 ((k : Int) + 1)], rfl, (by first | exact .inl ⟨rfl, rfl, hVer⟩ | exact ⟨rfl, hVer⟩), Hb2⟩
end Go.Proofs.YtkflpoiobpblhaaGreat
