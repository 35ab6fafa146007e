/- The statement MirrorVersionSpecSaid: for every key, list of versions, items and changes, valid or not, Version and Verify match the specification; no condition beside the row's own. -/
import Derived.ChangeMaps5
import Derived.Deep.RegionHeld3
import Derived.Test.YtkflpoiobpblhaaGreatP42
import Derived.Test.YtkflpoiobpblhaaGreatP43
import Derived.Test.YtkflpoiobpblhaaGreatP44
import Derived.Test.YtkflpoiobpblhaaGreatP45
import Derived.Test.YtkflpoiobpblhaaGreatP46
import Derived.Test.YtkflpoiobpblhaaGreatP51
import Derived.Test.YtkflpoiobpblhaaGreatP52
import Derived.Test.YtkflpoiobpblhaaGreatP53
namespace Go.Proofs.YtkflpoiobpblhaaGreat
open Go.RowKit Go.WideShapes Go.ChangeShapes Go.ChangeAt
set_option linter.unusedVariables false
set_option linter.unusedSimpArgs false
namespace Mir
theorem fewI_ok {l : List It} (h : fewI l = true) : l.length ≤ 12 ∧ ∀ y ∈ l, y.2.length ≤ 300 := by
 unfold fewI at h
 rw [Bool.and_eq_true, List.all_eq_true] at h
 refine ⟨of_decide_eq_true h.2, fun y hy => ?_⟩
 have := h.1 y hy
 unfold fewA at this
 rw [Bool.and_eq_true] at this
 exact of_decide_eq_true this.2
theorem fewC_ok {l : List Ch} (h : fewC l = true) : l.length ≤ 12 ∧ ∀ y ∈ l, y.1.2.length ≤ 300 := by
 unfold fewC at h
 rw [Bool.and_eq_true, List.all_eq_true] at h
 refine ⟨of_decide_eq_true h.2, fun y hy => ?_⟩
 have := h.1 y hy
 unfold fewA at this
 rw [Bool.and_eq_true] at this
 exact of_decide_eq_true this.2
theorem fewV_ok {v : Ve} (h : fewV v = true) : SmV v := by
 unfold fewV at h
 simp only [Bool.and_eq_true] at h
 have := fewC_ok h.1.1.1
 exact ⟨by omega, fun y hy => by have := this.2 y hy; omega⟩
end Mir
set_option maxRecDepth 100000 in
theorem open_changes {H : Type} {enc : TypeId × Value → H} {w : World} {held : Bool} {r : Reach} {b0 : Nat} {v : Value} {d : DataW H} {p : List MemPlace} (hv : Value.okWide Tryz.prog w r b0 27 v) (h : DataW.Trod enc Tryz.prog w 0 (fun _ => true) held 27 v d p) :
    ∃ A n c, ∃ l : List Mir.Ch, v = .slice A n c ∧ l.length = n ∧ n ≤ c ∧ c ≤ maxLen ∧ ChangesC w A l := by
 obtain ⟨A, n, c, rfl⟩ := Go.WideShapes.okWide_slice Tryz.underlying27 hv
 obtain ⟨fuel, hf⟩ := h
 exact open_changes_at hf
theorem pathR_few {l : List (List Nat)} (at_ : Int) (h : l.length ≤ 2) : (pathR l at_).length ≤ 1000000 := by
 unfold pathR
 split
 · rw [pathS_length _ _ _ rfl]
   rcases Nat.lt_or_ge l.length 2 with h2 | h2
   · rw [dirsS_one _ _ (by omega)]; simp
   · obtain ⟨n, hn⟩ : ∃ n, l.length = n := ⟨_, rfl⟩
     rw [hn] at h h2 ⊢
     have h3 := half_lt h2
     have h4 := half_pos n
     by_cases hk : at_.toNat < halfN n
     · rw [dirsS_lo h2 hk, dirsS_one _ _ (by omega)]; simp
     · rw [dirsS_hi h2 hk, dirsS_one _ _ (by omega)]; simp
 · simp
theorem vs_both {n c m u k : _} {A : Option Addr} {s : List Nat} {its : List Mir.It} {cs : List Mir.Ch} {w : World} (hA : Cells w A (bytesV s)) (hs : s.length = n) (h8 : ByteL s) (hm : m ≤ 2) (hcl : cs.length ≤ 12) :
    ∃ (v : Mir.Ve) (B : Option Addr) (n' c' : Nat) (m' u' : Int) (s' : List Nat), (∀ W (V' K' : Array Value), ((Mir.vsnE n m u k its cs = 0 ∧ K' = #[.slice A n c, .int .i64 m, .int .i64 (u + 1)] ∧ VerC W (Mir.vsnV s m.toNat u.toNat its cs) V') ∨ (Mir.vsnE n m u k its cs ≠ 0 ∧ K' = ZK ∧ V' = Mir.ver0)) → K' = #[.slice B n' c', .int .i64 m', .int .i64 u'] ∧ VerC W v V') ∧
     (∀ W, Below w.heap.size w W → Cells W B (bytesV s')) ∧ s'.length = n' ∧ ByteL s' ∧ v.ch.length ≤ 1000000 ∧ v.sg.o.length ≤ 1000000 ∧ v.sg.c.length ≤ 1000000 ∧ v.sg.p.length ≤ 1000000 := by
 by_cases h0 : Mir.vsnE n m u k its cs = 0
 · refine ⟨Mir.vsnV s m.toNat u.toNat its cs, A, n, c, m, u + 1, s, fun W V' K' h => ?_, fun W hb => hA.below hb, hs, h8, ?_, ?_, ?_, ?_⟩
   · rcases h with ⟨-, rfl, h⟩ | ⟨h, -⟩
     · exact ⟨rfl, h⟩
     · exact absurd h0 h
   · show cs.length ≤ _; omega
   · show (openL s _ _ 64).length ≤ _; rw [openL_length]; omega
   · show (closL s _ _ 64).length ≤ _; rw [closL_length]; omega
   · show (pathR (pubL s m.toNat) _).length ≤ _
     exact pathR_few _ (by rw [pubL_length]; omega)
 · refine ⟨Mir.ve0, none, 0, 0, 0, 0, [], fun W V' K' h => ?_, fun W _ => .inl (by unfold bytesV; rfl), rfl, (fun i => by simp), ?_, ?_, ?_, ?_⟩
   · rcases h with ⟨h, -⟩ | ⟨-, rfl, rfl⟩
     · exact absurd h h0
     · exact ⟨rfl, ve0_c W⟩
   all_goals simp [Mir.ve0]
set_option maxRecDepth 100000 in
set_option maxHeartbeats 8000000 in
theorem MirrorVersionSpec_walk (w : World) (A : Option Addr) (n c : Nat) (m u : Int) (s : List Nat) (hs : s.length = n) (nc : n ≤ c) (cm : c ≤ maxLen) (hA : Cells w A (bytesV s)) (h8 : ByteL s) (wm : (Lit.int .i64 m).wf = true) (wu : (Lit.int .i64 u).wf = true)
    (B : Option Addr) (k d : Nat) (I : Option Addr) (ni ci : Nat) (its : List Mir.It) (hni : its.length = ni) (nci : ni ≤ ci) (cmi : ci ≤ maxLen) (hI : ItemsC w I its)
    (C : Option Addr) (mc cc : Nat) (cs : List Mir.Ch) (hmc : cs.length = mc) (hcc : mc ≤ cc) (hccm : cc ≤ maxLen) (hC : ChangesC w C cs) (v : Mir.Ve) (V : Array Value) (hV : VerC w v V) (D : List Nat) (hD : IsD D) :
    Calls Tryz.prog 3 #[.agg #[.slice A n c, .int .i64 m, .int .i64 u], .slice B k d, .slice I ni ci, .slice C mc cc, .agg V, .agg (arrK .u8 D)] w (fun e w' => e = .returned (.bool true) ∧ Below w.heap.size w w') := by
 have HA := Lib.hid hA
 have HI := Lib.hid hI
 have HC := Lib.hid hC
 have HV := Lib.hid hV
 have HD := Lib.hid hD
 have Hs := Lib.hid hs
 have H8 := Lib.hid h8
 have Hni := Lib.hid hni
 have Hmc := Lib.hid hmc
 have Hcc := Lib.hid (And.intro hcc hccm)
 have HF := Lib.hid (fun W => few_any A n c m u none 0 0 W)
 have HG := Lib.hid (fun W h => rfew_any I ni ci its W hni (by unfold maxLen at cmi; omega) h)
 have HH := Lib.hid (fun W h => rfewC_any C mc cc cs W hmc (by unfold maxLen at hccm; omega) h)
 have HW := Lib.hid (fun W h => rfewV_any v V W h)
 have iV := Lib.hid hV.info
 obtain ⟨fk, hfk⟩ : ∃ x, fewK n m 0 = x := ⟨_, rfl⟩
 obtain ⟨fi, hfi⟩ : ∃ x, Mir.fewI its = x := ⟨_, rfl⟩
 obtain ⟨fc, hfc⟩ : ∃ x, Mir.fewC cs = x := ⟨_, rfl⟩
 obtain ⟨fv, hfv⟩ : ∃ x, Mir.fewV v = x := ⟨_, rfl⟩
 rw [hfk] at HF
 rw [hfi] at HG
 rw [hfc] at HH
 rw [hfv] at HW
 have Hfk := Lib.hid hfk
 have Hfi := Lib.hid hfi
 have Hfc := Lib.hid hfc
 have Hfv := Lib.hid hfv
 clear hA hI hC hV hD hs h8 hni hmc hcc hccm hfk hfi hfc hfv nc cm nci cmi wm wu
 go_enter Tryz.func3, Tryz.ntmps3
 go_wp2_with (fail)
 generalize hge : World.alloc (World.alloc (World.alloc _ _) _) _ = w0
 have b3 : Blk w0 w.heap.size 24 #[.slice A n c, .int .i64 m, .int .i64 u] ∧ Blk w0 (w.heap.size + 1) 34 V ∧ Blk w0 (w.heap.size + 2) 29 (arrK .u8 D) ∧ Below w.heap.size w w0 ∧ w.heap.size + 3 ≤ w0.heap.size := blk_threeC w _ _ _ _ _ _ w0 hge
 have HK0 := Lib.hid b3.1
 have HV0 := Lib.hid b3.2.1
 have HD0 := Lib.hid b3.2.2.1
 have HB0 := Lib.hid b3.2.2.2.1
 clear hge b3
 refine (sane_any w0).mono ?_
 rintro e w1 ⟨rfl, hb1⟩
 have HB1 := Lib.hid (below_of HB0.out hb1 HB0.out.size)
 have HK1 := Lib.hid (HK0.out.below hb1)
 have HV1 := Lib.hid (HV0.out.below hb1)
 have HD1 := Lib.hid (HD0.out.below hb1)
 clear hb1 HB0 HK0 HV0 HD0
 have k0 : w1.cell? ⟨w.heap.size, 0, none⟩ = some (.slice A n c) := HK1.out.cell 0
 have k1 : w1.cell? ⟨w.heap.size, 1, none⟩ = some (.int .i64 m) := HK1.out.cell 1
 have k2 : w1.cell? ⟨w.heap.size, 2, none⟩ = some (.int .i64 u) := HK1.out.cell 2
 go_wp2_with (fail)
 refine (HF.out w1).mono ?_
 rintro e w2 ⟨rfl, hb2⟩
 have HB2 := Lib.hid (below_of HB1.out hb2 HB1.out.size)
 have HK2 := Lib.hid (HK1.out.below hb2)
 have HV2 := Lib.hid (HV1.out.below hb2)
 have HD2 := Lib.hid (HD1.out.below hb2)
 clear hb2 HB1 HK1 HV1 HD1 k0 k1 k2 HF
 cases fk with
 | false =>
   go_wp2_with (fail)
   go_ret
   exact ⟨rfl, HB2.out⟩
 | true =>
 by_cases h4 : 4 < k
 · have d4 : decide ((4 : Int) < (k : Int)) = true := decide_eq_true (by omega)
   have d4' : decide (4 < k) = true := decide_eq_true h4
   go_wp2_with (fail)
   go_ret
   exact ⟨rfl, HB2.out⟩
 have d4 : decide ((4 : Int) < (k : Int)) = false := decide_eq_false (by omega)
 have d4' : decide (4 < k) = false := decide_eq_false h4
 go_wp2_with (fail)
 refine (HG.out w2 (HI.out.below HB2.out)).mono ?_
 rintro e w3 ⟨rfl, rfl⟩
 clear HG d4 d4'
 cases fi with
 | false =>
   go_wp2_with (fail)
   go_ret
   exact ⟨rfl, HB2.out⟩
 | true =>
 go_wp2_with (fail)
 refine (HH.out _ (HC.out.below HB2.out)).mono ?_
 rintro e w4 ⟨rfl, hb4⟩
 have HB4 := Lib.hid (below_of HB2.out hb4 HB2.out.size)
 have HK4 := Lib.hid (HK2.out.below hb4)
 have HV4 := Lib.hid (HV2.out.below hb4)
 have HD4 := Lib.hid (HD2.out.below hb4)
 clear hb4 HB2 HK2 HV2 HD2 HH
 cases fc with
 | false =>
   go_wp2_with (fail)
   go_ret
   exact ⟨rfl, HB4.out⟩
 | true =>
 go_wp2_with (refine wpList_load_blk_g 34 (.tmp 10) (by rfl) (by kernel_rfl) (w.heap.size + 1) rfl 34 V _ HV4.out Tryz.underlying34 rfl iV.out ?_)
 refine (HW.out _ (HV.out.below HB4.out)).mono ?_
 rintro e w5 ⟨rfl, hb5⟩
 have HB5 := Lib.hid (below_of HB4.out hb5 HB4.out.size)
 have HK5 := Lib.hid (HK4.out.below hb5)
 have HV5 := Lib.hid (HV4.out.below hb5)
 have HD5 := Lib.hid (HD4.out.below hb5)
 clear hb5 HB4 HK4 HV4 HD4 HW
 cases fv with
 | false =>
   go_wp2_with (fail)
   go_ret
   exact ⟨rfl, HB5.out⟩
 | true =>
 have hfk := Hfk.out
 unfold fewK at hfk
 have hfk := of_decide_eq_true hfk
 have hfi := Mir.fewI_ok Hfi.out
 have hfc := Mir.fewC_ok Hfc.out
 have hfv := Mir.fewV_ok Hfv.out
 have hni := Hni.out
 have hmc := Hmc.out
 have HP := Lib.hid (fun W a b e => mversion_any A B I C n c k d ni ci mc cc m u s its cs W a Hs.out H8.out b hni e hmc (by omega) (by omega) (fun x hx => by have := hfi.2 x hx; omega) (by omega) (fun x hx => by have := hfc.2 x hx; omega) Hcc.out.1 Hcc.out.2)
 have HR := Lib.hid (fun W a b e => rmversion_any A B I C n c k d ni ci mc cc m u s its cs W a Hs.out H8.out b hni e hmc (by omega) (by omega) (fun x hx => by have := hfi.2 x hx; omega) (by omega) (fun x hx => by have := hfc.2 x hx; omega) Hcc.out.1 Hcc.out.2)
 have HY := Lib.hid (fun W h => mverify_any D m v V W HD.out h hfv.1 hfv.2)
 have HZ := Lib.hid (fun W h => rmverify_any D m v V W HD.out h hfv.1 hfv.2)
 obtain ⟨E2, hE2⟩ : ∃ E, Mir.verE D m v = E := ⟨_, rfl⟩
 rw [hE2] at HY HZ
 clear hE2
 obtain ⟨x, Bk, n', c', m', u', s', hboth, hcell, hs', h8', hz1, hz2, hz3, hz4⟩ := vs_both (n := n) (c := c) (m := m) (u := u) (k := k) (A := A) (s := s) (its := its) (cs := cs) HA.out Hs.out H8.out hfk.1 (by omega)
 obtain ⟨E1, hE1⟩ : ∃ E, Mir.vsnE n m u k its cs = E := ⟨_, rfl⟩
 rw [hE1] at HP HR hboth
 have Hbo := Lib.hid hboth
 have Hce := Lib.hid hcell
 have HSv := Lib.hid (fun V1 V2 W h1 h2 => rsamev_any x V1 V2 W h1 h2 hz1 hz2 hz3 hz4)
 have HSk := Lib.hid (fun W h => samekey_any Bk Bk n' c' c' m' u' s' W h h hs' h8')
 clear hfk hfi hfc hfv hni hmc hboth hcell hs' h8' hz1 hz2 hz3 hz4 hE1 Hfk Hfi Hfc Hfv h4
 have k0 : w5.cell? ⟨w.heap.size, 0, none⟩ = some (.slice A n c) := HK5.out.cell 0
 have k1 : w5.cell? ⟨w.heap.size, 1, none⟩ = some (.int .i64 m) := HK5.out.cell 1
 have k2 : w5.cell? ⟨w.heap.size, 2, none⟩ = some (.int .i64 u) := HK5.out.cell 2
 go_wp2_with (fail)
 refine (HP.out w5 (HA.out.below HB5.out) (HI.out.below HB5.out) (HC.out.below HB5.out)).mono ?_
 rintro e w6 ⟨V1, K1, rfl, hcase, hb6⟩
 obtain ⟨rfl, hVx⟩ := Hbo.out w6 V1 K1 (hcase.imp (fun h => ⟨h.1, h.2.1, h.2.2.1⟩) id)
 have HX6 := Lib.hid hVx
 have iX6 := Lib.hid hVx.info
 have zX6 := Lib.hid hVx.size
 have aX6 := Lib.hid hVx.all
 have HK6 := Lib.hid (HK5.out.below hb6)
 have HV6 := Lib.hid (HV5.out.below hb6)
 have HD6 := Lib.hid (HD5.out.below hb6)
 have HB6 := Lib.hid (below_of HB5.out hb6 HB5.out.size)
 clear hcase hVx hb6 k0 k1 k2 HK5 HV5 HD5 HB5
 go_upto_region 6 with (first
  | (refine wpList_put_blk rfl 34 (.tmp 13) (.tmp 50) rfl w6.heap.size V1 rfl rfl 34 Mir.ver0 (blk_two w6 Mir.ver0 ZK 34 24).1 iX6.out (by rw [Mir.ver0_size, zX6.out]) aX6.out ?_
     intro w7 HZ1 hg hz
     have HZV := Lib.hid HZ1
     have HZK := Lib.hid ((blk_two w6 Mir.ver0 ZK 34 24).2.grown hg (by simp))
     have hb := Lib.hid (show Below w6.heap.size w6 w7 from below_grown (below_two' (Below.refl _ _) (Nat.le_refl _) _ _) hg (by simp; omega) (fun k hk => by cases hk; exact Nat.le_refl _))
     clear hg hz HZ1)
  | (refine wpList_put_blk rfl 24 (.tmp 14) (.tmp 51) rfl (w6.heap.size + 1) #[.slice Bk n' c', .int .i64 m', .int .i64 u'] rfl rfl 24 ZK HZK.out (by kernel_rfl) rfl (by kernel_rfl) ?_
     intro w8 HZ1 hg hz
     have HY8 := Lib.hid (HZV.out.grown hg (by simp))
     have HL8 := Lib.hid HZ1
     have hb' := Lib.hid (show Below w6.heap.size w6 w8 from below_grown hb.out hg hb.out.size (fun k hk => by cases hk; omega))
     clear hg hz HZ1))
 have HK8 := Lib.hid (HK6.out.below hb'.out)
 have HV8 := Lib.hid (HV6.out.below hb'.out)
 have HD8 := Lib.hid (HD6.out.below hb'.out)
 have HB8 := Lib.hid (below_of HB6.out hb'.out HB6.out.size)
 have HX8 := Lib.hid (HX6.out.below hb'.out)
 obtain ⟨p8, hp⟩ : ∃ p, w6.heap.size = p := ⟨_, rfl⟩
 rw [hp] at HY8 HL8 ⊢
 clear hp hb hb' HZV HZK HX6 HK6 HV6 HD6 HB6
 have iX8 := iX6
 clear iX6 zX6 aX6
 have k0 : w8.cell? ⟨w.heap.size, 0, none⟩ = some (.slice A n c) := HK8.out.cell 0
 have k1 : w8.cell? ⟨w.heap.size, 1, none⟩ = some (.int .i64 m) := HK8.out.cell 1
 have k2 : w8.cell? ⟨w.heap.size, 2, none⟩ = some (.int .i64 u) := HK8.out.cell 2
 go_wp2_with (fail)
 refine (HR.out w8 (HA.out.below HB8.out) (HI.out.below HB8.out) (HC.out.below HB8.out)).mono ?_
 rintro e w9 ⟨V2, K2, rfl, hcase, hb9⟩
 obtain ⟨rfl, hVx⟩ := Hbo.out w9 V2 K2 hcase
 have HX9 := Lib.hid hVx
 have iX9 := Lib.hid hVx.info
 have zX9 := Lib.hid hVx.size
 have aX9 := Lib.hid hVx.all
 have HK9 := Lib.hid (HK8.out.below hb9)
 have HV9 := Lib.hid (HV8.out.below hb9)
 have HD9 := Lib.hid (HD8.out.below hb9)
 have HB9 := Lib.hid (below_of HB8.out hb9 HB8.out.size)
 replace HX8 := Lib.hid (HX8.out.below hb9)
 replace HY8 := Lib.hid (HY8.out.below hb9)
 replace HL8 := Lib.hid (HL8.out.below hb9)
 clear hcase hVx hb9 k0 k1 k2 HK8 HV8 HD8 HB8
 go_upto_region 7 with (first
  | (refine wpList_put_blk rfl 34 (.tmp 16) (.tmp 59) rfl w9.heap.size V2 rfl rfl 34 Mir.ver0 (blk_two w9 Mir.ver0 ZK 34 24).1 iX9.out (by rw [Mir.ver0_size, zX9.out]) aX9.out ?_
     intro w10 HZ1 hg hz
     have HZV := Lib.hid HZ1
     have HZK := Lib.hid ((blk_two w9 Mir.ver0 ZK 34 24).2.grown hg (by simp))
     have hb := Lib.hid (show Below w9.heap.size w9 w10 from below_grown (below_two' (Below.refl _ _) (Nat.le_refl _) _ _) hg (by simp; omega) (fun k hk => by cases hk; exact Nat.le_refl _))
     clear hg hz HZ1)
  | (refine wpList_put_blk rfl 24 (.tmp 17) (.tmp 60) rfl (w9.heap.size + 1) #[.slice Bk n' c', .int .i64 m', .int .i64 u'] rfl rfl 24 ZK HZK.out (by kernel_rfl) rfl (by kernel_rfl) ?_
     intro w11 HZ1 hg hz
     have HY11 := Lib.hid (HZV.out.grown hg (by simp))
     have HL11 := Lib.hid HZ1
     have hb' := Lib.hid (show Below w9.heap.size w9 w11 from below_grown hb.out hg hb.out.size (fun k hk => by cases hk; omega))
     clear hg hz HZ1))
 have HK11 := Lib.hid (HK9.out.below hb'.out)
 have HV11 := Lib.hid (HV9.out.below hb'.out)
 have HD11 := Lib.hid (HD9.out.below hb'.out)
 have HB11 := Lib.hid (below_of HB9.out hb'.out HB9.out.size)
 have HX11 := Lib.hid (HX9.out.below hb'.out)
 replace HX8 := Lib.hid (HX8.out.below hb'.out)
 replace HY8 := Lib.hid (HY8.out.below hb'.out)
 replace HL8 := Lib.hid (HL8.out.below hb'.out)
 obtain ⟨p11, hp⟩ : ∃ p, w9.heap.size = p := ⟨_, rfl⟩
 rw [hp] at HY11 HL11 ⊢
 clear hp hb hb' HZV HZK HX9 HK9 HV9 HD9 HB9
 have iX11 := iX9
 clear iX9 zX9 aX9
 refine wp_region_held_drew (S := fun W => Below w11.heap.size w11 W) (by kernel_rfl) (below_drewN (Below.refl _ _) 1) (fun Hd => ?_)
 have Hd : Below w11.heap.size w11 w11.drew := below_drewN (Below.refl _ _) 1
 have Zd : w11.heap.size ≤ w11.drew.heap.size := Nat.le_refl _
 generalize World.drew w11 = wd at *
 refine tg 0 (.agg (V1)) rfl (yields_load_blk (by rfl) _ _ rfl (p8) rfl 34 (V1) _ (fun W hW => HY8.out.below hW) Tryz.underlying34 rfl iX8.out) Hd ?_
 refine tg 1 (.agg (V2)) rfl (yields_load_blk (by rfl) _ _ rfl (p11) rfl 34 (V2) _ (fun W hW => HY11.out.below hW) Tryz.underlying34 rfl iX11.out) Hd ?_
 try simp only [la, Act.put]
 refine ty 2 rfl (fun K hK => ?_)
 go_simp
 refine (HSv.out V1 V2 wd (HX8.out.below Hd) (HX11.out.below Hd)).mono ?_
 rintro e w1_ ⟨rfl, hb1⟩
 have Hb1 := below_of Hd hb1 Hd.size
 have Zb1 := Nat.le_trans Zd hb1.size
 go_wp2_with (fail)
 refine hK.out _ _ Hb1 fun _ => ?_
 clear hK K
 refine tq 3 rfl Hb1 ?_
 try simp only [la, Act.put]
 refine ts 4 rfl Hb1 (fun wS hSw => by
  have q0 := Blk.cellv (HL8.out.below hSw) (i := 0) rfl
  have q1 := Blk.cellv (HL8.out.below hSw) (i := 1) rfl
  have q2 := Blk.cellv (HL8.out.below hSw) (i := 2) rfl
  go_simp
  try with_reducible rfl) ?_
 refine ts 5 rfl Hb1 (fun wS hSw => by
  have q0 := Blk.cellv (HL11.out.below hSw) (i := 0) rfl
  have q1 := Blk.cellv (HL11.out.below hSw) (i := 1) rfl
  have q2 := Blk.cellv (HL11.out.below hSw) (i := 2) rfl
  go_simp
  try with_reducible rfl) ?_
 try simp only [la, Act.put]
 refine ty 6 rfl (fun K hK => ?_)
 go_simp
 refine (HSk.out w1_ (Hce.out w1_ (below_of HB11.out Hb1 HB11.out.size))).mono ?_
 rintro e w2_ ⟨rfl, hb2⟩
 have Hb2 := below_of Hb1 hb2 Hb1.size
 have Zb2 := Nat.le_trans Zb1 hb2.size
 go_wp2_with (fail)
 refine hK.out _ _ Hb2 fun _ => ?_
 clear hK K
 refine tq 7 rfl Hb2 ?_
 try simp only [la, Act.put]
 refine tq 8 rfl Hb2 ?_
 refine tq 9 rfl Hb2 ?_
 try simp only [la, Act.put]
 refine tq 10 rfl Hb2 ?_
 refine tq 11 rfl Hb2 ?_
 try simp only [la, Act.put]
 refine tq 12 rfl Hb2 ?_
 refine tq 13 rfl Hb2 ?_
 try simp only [la, Act.put]
 refine tg 14 (.agg (arrK .u8 D)) rfl (yields_load_blk (by rfl) _ _ rfl ((w.heap.size + 2)) rfl 29 (arrK .u8 D) (.array 32 5) (fun W hW => HD11.out.below hW) (by kernel_rfl) rfl (info32 HD.out.1)) Hb2 ?_
 refine tq 15 rfl Hb2 ?_
 try simp only [la, Act.put]
 refine ts 16 rfl Hb2 (fun wS hSw => by
  have q1 := Blk.cellv (HK11.out.below hSw) (i := 1) rfl
  go_simp
  try with_reducible rfl) ?_
 refine tg 17 (.agg (V)) rfl (yields_load_blk (by rfl) _ _ rfl ((w.heap.size + 1)) rfl 34 (V) _ (fun W hW => HV11.out.below hW) Tryz.underlying34 rfl iV.out) Hb2 ?_
 try simp only [la, Act.put]
 refine tg 19 (.agg (arrK .u8 D)) rfl (yields_load_blk (by rfl) _ _ rfl ((w.heap.size + 2)) rfl 29 (arrK .u8 D) (.array 32 5) (fun W hW => HD11.out.below hW) (by kernel_rfl) rfl (info32 HD.out.1)) Hb2 ?_
 refine tq 20 rfl Hb2 ?_
 try simp only [la, Act.put]
 refine ts 21 rfl Hb2 (fun wS hSw => by
  have q1 := Blk.cellv (HK11.out.below hSw) (i := 1) rfl
  go_simp
  try with_reducible rfl) ?_
 refine tg 22 (.agg (V)) rfl (yields_load_blk (by rfl) _ _ rfl ((w.heap.size + 1)) rfl 34 (V) _ (fun W hW => HV11.out.below hW) Tryz.underlying34 rfl iV.out) Hb2 ?_
 try simp only [la, Act.put]
 refine ty 18 rfl (fun K hK => ?_)
 go_simp
 refine (HY.out w2_ (HV.out.below (below_of HB11.out Hb2 HB11.out.size))).mono ?_
 rintro e w3_ ⟨rfl, hb3⟩
 have Hb3 := below_of Hb2 hb3 Hb2.size
 have Zb3 := Nat.le_trans Zb2 hb3.size
 go_wp2_with (fail)
 refine hK.out _ _ Hb3 fun _ => ?_
 clear hK K
 try simp only [la, Act.put]
 refine ty 23 rfl (fun K hK => ?_)
 go_simp
 refine (HZ.out w3_ (HV.out.below (below_of HB11.out Hb3 HB11.out.size))).mono ?_
 rintro e w4_ ⟨rfl, hb4⟩
 have Hb4 := below_of Hb3 hb4 Hb3.size
 have Zb4 := Nat.le_trans Zb3 hb4.size
 go_wp2_with (fail)
 refine hK.out _ _ Hb4 fun _ => ?_
 clear hK K
 try simp only [la, Act.put]
 refine tq 24 rfl Hb4 ?_
 refine tq 25 rfl Hb4 ?_
 try simp only [la, Act.put]
 refine tq 26 rfl Hb4 ?_
 try simp only [la, Act.put]
 refine td ?_ _
 go_wp2_with (fail)
 go_ret
 exact ⟨rfl, below_of HB11.out Hb4 HB11.out.size⟩
theorem mirrorVersionSpec_own : ownKnob Tryz.prog.godebug = none := by kernel_rfl
theorem mirrorVersionSpec_laidOut : laidOutB Tryz.prog = true := by kernel_rfl
theorem mirrorVersionSpec_readable : (Tryz.f3.params.toList.all fun t => Tryz.prog.readableRec t && decide (t < Tryz.prog.types.size)) = true := by kernel_rfl
set_option maxRecDepth 100000 in
theorem mirrorVersionSpec_lifted (os : Os) (started : os.Started) (H : Type) (enc : TypeId × Value → H) :
    ReturnsInHanded {} Tryz.checked os 3 .any (Rows.mirrorVersionSpecSpec.pre6 enc Tryz.prog Tryz.f3 Rows.mirrorVersionSpecRow.domain false) (Rows.mirrorVersionSpecSpec.post enc Tryz.prog Tryz.f3 false true false false) := by
 refine returnsInHanded_of_change (C := Tryz.checked) mirrorVersionSpec_own started (by kernel_rfl) Tryz.func3
  (ChangeSpec.witness6 (enc := enc) (C := Tryz.checked) false ⟨#[], #[.agg #[.slice none 0 0, .int .i64 0, .int .i64 0], .slice none 0 0, .slice none 0 0, .slice none 0 0, .agg Mir.ver0, .agg (List.replicate 32 (Value.int .u8 0)).toArray], []⟩ 8 (by kernel_rfl) (by kernel_rfl) (by kernel_rfl) (by kernel_rfl)) ?_
 intro W base args ds gs before hval0 hW hcnd _
 have hval : ∀ (j : Nat) t v, Tryz.f3.params[j]? = some t → args[j]? = some v → Value.okWide Tryz.prog W .any base t v := hval0
 have hW' := hW
 obtain ⟨p, q, hA0, hV, rfl, hfz, hnd⟩ := hW
 have hA : DataW.TrodAll enc Tryz.prog W 0 (fun _ => true) true Tryz.f3.params.toList args.toList ds p := hA0
 rw [Tryz.params3] at hA hval
 obtain ⟨v0, vs0, d0, ds0, p0, q0, hargs, rfl, rfl, h0, r0⟩ := trodAll_cons hA
 obtain ⟨v1, vs1, d1, ds1, p1, q1, rfl, rfl, rfl, h1, r1⟩ := trodAll_cons r0
 obtain ⟨v2, vs2, d2, ds2, p2, q2, rfl, rfl, rfl, h2, r2⟩ := trodAll_cons r1
 obtain ⟨v3, vs3, d3, ds3, p3, q3, rfl, rfl, rfl, h3, r3⟩ := trodAll_cons r2
 obtain ⟨v4, vs4, d4, ds4, p4, q4, rfl, rfl, rfl, h4, r4⟩ := trodAll_cons r3
 obtain ⟨v5, vs5, d5, ds5, p5, q5, rfl, rfl, rfl, h5, r5⟩ := trodAll_cons r4
 obtain ⟨rfl, rfl, rfl⟩ := trodAll_nil r5
 obtain rfl : args = #[v0, v1, v2, v3, v4, v5] := by cases args; simp_all
 obtain ⟨rfl, rfl⟩ := trodVars_none hV
 obtain ⟨A0, n0, c0, m0, u0, s0, rfl, l0, nc0, cm0, g0, b0, wm0, wu0⟩ := open_key (hval 0 24 v0 rfl rfl) h0
 obtain ⟨A1, n1, c1, rfl⟩ := okWide_slice Tryz.underlying25 (hval 1 25 v1 rfl rfl)
 obtain ⟨A2, n2, c2, l2, rfl, e2, nc2, cm2, g2⟩ := open_items (hval 2 26 v2 rfl rfl) h2
 obtain ⟨A3, n3, c3, l3, rfl, e3, nc3, cm3, g3⟩ := open_changes (hval 3 27 v3 rfl rfl) h3
 obtain ⟨x4, V4, rfl, g4⟩ := open_version (hval 4 34 v4 rfl rfl) h4
 obtain ⟨D5, rfl, k5⟩ := open_digest (hval 5 29 v5 rfl rfl)
 refine (MirrorVersionSpec_walk W A0 n0 c0 m0 u0 s0 l0 nc0 cm0 g0 b0 wm0 wu0 A1 n1 c1 A2 n2 c2 l2 e2 nc2 cm2 g2 A3 n3 c3 l3 e3 nc3 cm3 g3 x4 V4 g4 D5 k5).mono fun e W' ⟨he, hb⟩ => ?_
 subst he
 simp only [List.append_nil] at hW'
 refine ⟨_, rfl, law_post mirrorVersionSpec_laidOut ?_ (by kernel_rfl) Tryz.underlying4 rfl hW' rfl rfl rfl hb⟩
 intro t ht
 have hr := List.all_eq_true.1 mirrorVersionSpec_readable t ht
 rw [Bool.and_eq_true] at hr
 exact ⟨hr.1, of_decide_eq_true hr.2⟩
theorem mirrorVersionSpec_over : Rows.mirrorVersionSpecRow.holds Tryz.pinned (OpenSpec.ofChange Rows.mirrorVersionSpecSpec) :=
 OpenClaim.holds_of_wide 3 Tryz.f3 rfl rfl rfl rfl rfl rfl rfl ⟨rfl, rfl, rfl, rfl, rfl⟩ rfl rfl rfl rfl rfl (by kernel_rfl) Tryz.func3 (by kernel_rfl)
  (of_decide_eq_true (by kernel_rfl)) (by unfold Func.isWrapper; rw [if_neg (of_decide_eq_false (by kernel_rfl))]; exact ⟨rfl, rfl⟩)
  (fun os started H enc _ => mirrorVersionSpec_lifted os started H enc)
theorem mirrorVersionSpec_proved : Rows.MirrorVersionSpecSaid := mirrorVersionSpec_over
#print axioms mirrorVersionSpec_proved
end Go.Proofs.YtkflpoiobpblhaaGreat
