/- The statement MirrorReceiveSpecSaid: for every follower and version, valid or not, Receive, Check and Wants match the specification; no condition beside the row's own. -/
import Derived.ChangeMaps5
import Derived.Deep.RegionHeld3
import Derived.Test.YtkflpoiobpblhaaGreatP41
import Derived.Test.YtkflpoiobpblhaaGreatP42
import Derived.Test.YtkflpoiobpblhaaGreatP45
import Derived.Test.YtkflpoiobpblhaaGreatP49
import Derived.Test.YtkflpoiobpblhaaGreatP53
import Derived.Test.YtkflpoiobpblhaaGreatP44
set_option maxRecDepth 100000
set_option maxHeartbeats 16000000
set_option linter.unusedVariables false
set_option linter.unusedSimpArgs false
namespace Go.Proofs.YtkflpoiobpblhaaGreat
open Go.RowKit Go.WideShapes Go.ChangeShapes Go.ChangeAt
namespace Mir
theorem fewI_ok {l : List It} (h : fewI l = true) : l.length ≤ 12 ∧ ∀ y ∈ l, y.2.length ≤ 300 := by
 unfold fewI at h
 rw [Bool.and_eq_true, List.all_eq_true] at h
 refine ⟨of_decide_eq_true h.2, fun y hy => ?_⟩
 have := h.1 y hy
 unfold fewA at this
 rw [Bool.and_eq_true] at this
 exact of_decide_eq_true this.2
theorem fewC_ok {l : List Ch} (h : fewC l = true) : l.length ≤ 12 ∧ ∀ y ∈ l, y.1.2.length ≤ 300 := by
 unfold fewC at h
 rw [Bool.and_eq_true, List.all_eq_true] at h
 refine ⟨of_decide_eq_true h.2, fun y hy => ?_⟩
 have := h.1 y hy
 unfold fewA at this
 rw [Bool.and_eq_true] at this
 exact of_decide_eq_true this.2
theorem fewV_ok {v : Ve} (h : fewV v = true) : SmV v ∧ SmS v := by
 unfold fewV at h
 simp only [Bool.and_eq_true, decide_eq_true_eq] at h
 have := fewC_ok h.1.1.1
 exact ⟨⟨by omega, fun y hy => by have := this.2 y hy; omega⟩, by omega, by omega, by omega, by omega⟩
theorem fewF_ok {f : Fo} (h : fewF f = true) : SmF f ∧ ∀ v ∈ f.ea, SmS v := by
 unfold fewF at h
 simp only [Bool.and_eq_true, decide_eq_true_eq, List.all_eq_true] at h
 have := fewI_ok h.1.2
 exact ⟨⟨by omega, fun y hy => by have := this.2 y hy; omega, by omega, fun v hv => (fewV_ok (h.1.1 v hv)).1⟩, fun v hv => (fewV_ok (h.1.1 v hv)).2⟩
end Mir
theorem MirrorReceiveSpec_walk (w : World) (f : Mir.Fo) (F : Array Value) (hF : FolC w f F) (v : Mir.Ve) (V : Array Value) (hV : VerC w v V) :
    Calls Tryz.prog 4 #[.agg F, .agg V] w (fun e w' => e = .returned (.bool true) ∧ Below w§ w w') := by
 hv HF hF
 hv HV hV
 hv iF hF.info
 hv iV hV.info
 hv HG (fun W h => rfewF_any f F W h)
 hv HW (fun W h => rfewV_any v V W h)
 ob ff hff (Mir.fewF f)
 ob fv hfv (Mir.fewV v)
 rw [hff] at HG
 rw [hfv] at HW
 hv Hff hff
 hv Hfv hfv
 clear hF hV hff hfv
 go_enter Tryz.func4, Tryz.ntmps4
 gw
 generalize hge : World.alloc (World.alloc _ _) _ = w0
 hv HX0 (show Blk w0 w§ 48 F by subst hge; exact (blk_two w F V 48 34).1)
 hv HY0 (show Blk w0 (w§ + 1) 34 V by subst hge; exact (blk_two w F V 48 34).2)
 hv HB0 (al2 hge)
 clear hge
 refine (sane_any w0).mono ?_
 rintro e w1 ⟨rfl, hb1⟩
 hv HB1 (bo HB0 hb1)
 hv HX1 (HX0.out.below hb1)
 hv HY1 (HY0.out.below hb1)
 clear hb1 HB0 HX0 HY0
 go_wp2_with (refine wpList_load_blk rfl 48 (.tmp 2) rfl w§ rfl 48 F _ HX1.out Tryz.underlying48 rfl iF.out ?_)
 refine (HG.out _ (HF.out.below HB1.out)).mono ?_
 rintro e w2 ⟨rfl, hb2⟩
 hv HB2 (bo HB1 hb2)
 hv HX2 (HX1.out.below hb2)
 hv HY2 (HY1.out.below hb2)
 clear hb2 HB1 HX1 HY1
 cases ff with
 | false =>
   gw
   go_ret
   exact ⟨rfl, HB2.out⟩
 | true =>
 go_wp2_with (refine wpList_load_blk_g 34 (.tmp 3) (by rfl) ¶ (w§ + 1) rfl 34 V _ HY2.out Tryz.underlying34 rfl iV.out ?_)
 refine (HW.out _ (HV.out.below HB2.out)).mono ?_
 rintro e w3 ⟨rfl, hb3⟩
 hv HB3 (bo HB2 hb3)
 hv HX3 (HX2.out.below hb3)
 hv HY3 (HY2.out.below hb3)
 clear hb3 HB2 HX2 HY2
 cases fv with
 | false =>
   gw
   go_ret
   exact ⟨rfl, HB3.out⟩
 | true =>
 have hff := Mir.fewF_ok Hff.out
 have hfv := Mir.fewV_ok Hfv.out
 hv HP (fun W a b => receive_any f v F V W a b hff.1 hfv.1)
 hv HR (fun W a b => rreceive_any f v F V W a b hff.1 hfv.1)
 hv HCk (fun W a => check_any f F W a hff.1)
 hv HCr (fun W a => rfcheck_any f F W a hff.1)
 hv HSf (fun F1 F2 W a b => rsameF_any (Mir.rcv f v).1 F1 F2 W a b (fun u hu => by
  rcases Mir.rcv_ea f v u hu with h | rfl
  · exact hff.2 u h
  · exact hfv.2))
 hv HWp (fun W a => pwants_any f F W a)
 hv HWr (fun W a => rwants_any f F W a)
 ob E1 hE1 ((Mir.rcv f v).2)
 ob g1 hg1 ((Mir.rcv f v).1)
 ob E2 hE2 (Mir.foE f)
 ob E3 hE3 (IntKind.i64.wrap (f.no + 1))
 rw [hE1, hg1] at HP HR
 rw [hg1] at HSf
 rw [hE2] at HCk HCr
 rw [hE3] at HWp HWr
 have ee1 : (E1 == E1) = true := by simp
 have ee2 : (E2 == E2) = true := by simp
 have ee3 : (E3 == E3) = true := by simp
 clear hff hfv hE1 hg1 hE2 hE3 Hff Hfv HG HW
 go_wp2_with (first
  | (refine wpList_load_blk rfl 48 (.tmp 2) rfl w§ rfl 48 F _ HX3.out Tryz.underlying48 rfl iF.out ?_)
  | (refine wpList_load_blk rfl 34 (.tmp 3) rfl (w§ + 1) rfl 34 V _ HY3.out Tryz.underlying34 rfl iV.out ?_))
 refine (HP.out w3 (HF.out.below HB3.out) (HV.out.below HB3.out)).mono ?_
 rintro e w4 ⟨F1, rfl, hG, hb4⟩
 hv HB4 (bo HB3 hb4)
 hv HX4 (HX3.out.below hb4)
 hv HY4 (HY3.out.below hb4)
 clear hb4 HB3 HX3 HY3
 hv HG1 hG
 hv iG1 hG.info
 hv zG1 hG.size
 hv aG1 hG.all
 clear hG
 go_upto_region 6 with (
  (refine wpList_put_blk rfl 48 (.tmp 5) (.tmp 23) rfl w4§ F1 rfl rfl 48 (Mir.folA z32 0 0 (.slice none 0 0) (.slice none 0 0)) (by exact Blk.new _ _ _) iG1.out (by rw [zG1.out]; exact Mir.folA_size z32_length ..) aG1.out ?_
   intro w5 h8 hg8 hz8
   have hb5 := below_put hg8
   hv HQ1 h8
   clear h8 hg8 hz8))
 hv HB5 (bo HB4 hb5)
 hv HX5 (HX4.out.below hb5)
 hv HY5 (HY4.out.below hb5)
 replace HG1 := Lib.hid (HG1.out.below hb5)
 clear hb5 HB4 HX4 HY4
 ob p1 hp w4§
 rw [hp] at HQ1 ⊢
 clear hp
 go_wp2_with (first
  | (refine wpList_load_blk rfl 48 (.tmp 2) rfl w§ rfl 48 F _ HX5.out Tryz.underlying48 rfl iF.out ?_)
  | (refine wpList_load_blk rfl 34 (.tmp 3) rfl (w§ + 1) rfl 34 V _ HY5.out Tryz.underlying34 rfl iV.out ?_))
 refine (HR.out w5 (HF.out.below HB5.out) (HV.out.below HB5.out)).mono ?_
 rintro e w6 ⟨F2, rfl, hG, hb6⟩
 hv HB6 (bo HB5 hb6)
 hv HX6 (HX5.out.below hb6)
 hv HY6 (HY5.out.below hb6)
 replace HG1 := Lib.hid (HG1.out.below hb6)
 replace HQ1 := Lib.hid (HQ1.out.below hb6)
 clear hb6 HB5 HX5 HY5
 hv HG2 hG
 hv iG2 hG.info
 hv zG2 hG.size
 hv aG2 hG.all
 clear hG
 go_upto_region 7 with (
  (refine wpList_put_blk rfl 48 (.tmp 7) (.tmp 29) rfl w6§ F2 rfl rfl 48 (Mir.folA z32 0 0 (.slice none 0 0) (.slice none 0 0)) (by exact Blk.new _ _ _) iG2.out (by rw [zG2.out]; exact Mir.folA_size z32_length ..) aG2.out ?_
   intro w7 h8 hg8 hz8
   have hb7 := below_put hg8
   hv HQ2 h8
   clear h8 hg8 hz8))
 hv HB7 (bo HB6 hb7)
 hv HX7 (HX6.out.below hb7)
 hv HY7 (HY6.out.below hb7)
 replace HG1 := Lib.hid (HG1.out.below hb7)
 replace HQ1 := Lib.hid (HQ1.out.below hb7)
 replace HG2 := Lib.hid (HG2.out.below hb7)
 clear hb7 HB6 HX6 HY6
 ob p2 hp w6§
 rw [hp] at HQ2 ⊢
 clear hp
 refine wp_region_held_drew (S := fun W => Below w7§ w7 W) ¶ (below_drewN (Below.refl _ _) 1) (fun Hd => ?_)
 have Hd : Below w7§ w7 w7.drew := below_drewN (Below.refl _ _) 1
 have Zd : w7§ ≤ w7.drew§ := Nat.le_refl _
 generalize World.drew w7 = wd at *
 refine tg 0 (.agg (F1)) rfl (yields_load_blk (by rfl) _ _ rfl (p1) rfl 48 (F1) _ (fun W hW => HQ1.out.below hW) Tryz.underlying48 rfl iG1.out) Hd ?_
 refine tg 1 (.agg (F2)) rfl (yields_load_blk (by rfl) _ _ rfl (p2) rfl 48 (F2) _ (fun W hW => HQ2.out.below hW) Tryz.underlying48 rfl iG2.out) Hd ?_
 sp
 refine ty 2 rfl (fun K hK => ?_)
 go_simp
 refine (HSf.out F1 F2 wd (HG1.out.below Hd) (HG2.out.below Hd)).mono ?_
 rintro e w1_ ⟨rfl, hb1⟩
 have Hb1 := below_of Hd hb1 Hd.size
 have Zb1 := Nat.le_trans Zd hb1.size
 gw
 refine hK.out _ _ Hb1 fun _ => ?_
 ck
 refine tq 3 rfl Hb1 ?_
 sp
 refine tq 4 rfl Hb1 ?_
 refine tq 5 rfl Hb1 ?_
 sp
 refine tq 6 rfl Hb1 ?_
 refine tq 7 rfl Hb1 ?_
 sp
 refine tq 8 rfl Hb1 ?_
 refine tg 9 (.agg (F)) rfl (yields_load_blk (by rfl) _ _ rfl (w§) rfl 48 (F) _ (fun W hW => HX7.out.below hW) Tryz.underlying48 rfl iF.out) Hb1 ?_
 sp
 refine tg 11 (.agg (F)) rfl (yields_load_blk (by rfl) _ _ rfl (w§) rfl 48 (F) _ (fun W hW => HX7.out.below hW) Tryz.underlying48 rfl iF.out) Hb1 ?_
 sp
 refine ty 10 rfl (fun K hK => ?_)
 go_simp
 refine (HCk.out w1_ (HF.out.below (bo HB7 Hb1))).mono ?_
 rintro e w2_ ⟨rfl, hb2⟩
 have Hb2 := below_of Hb1 hb2 Hb1.size
 have Zb2 := Nat.le_trans Zb1 hb2.size
 gw
 refine hK.out _ _ Hb2 fun _ => ?_
 ck
 sp
 refine ty 12 rfl (fun K hK => ?_)
 go_simp
 refine (HCr.out w2_ (HF.out.below (bo HB7 Hb2))).mono ?_
 rintro e w3_ ⟨rfl, hb3⟩
 have Hb3 := below_of Hb2 hb3 Hb2.size
 have Zb3 := Nat.le_trans Zb2 hb3.size
 gw
 refine hK.out _ _ Hb3 fun _ => ?_
 ck
 refine tq 13 rfl Hb3 ?_
 sp
 refine tq 14 rfl Hb3 ?_
 refine tq 15 rfl Hb3 ?_
 sp
 refine tg 16 (.agg (F)) rfl (yields_load_blk (by rfl) _ _ rfl (w§) rfl 48 (F) _ (fun W hW => HX7.out.below hW) Tryz.underlying48 rfl iF.out) Hb3 ?_
 refine tg 18 (.agg (F)) rfl (yields_load_blk (by rfl) _ _ rfl (w§) rfl 48 (F) _ (fun W hW => HX7.out.below hW) Tryz.underlying48 rfl iF.out) Hb3 ?_
 sp
 refine ty 17 rfl (fun K hK => ?_)
 go_simp
 refine (HWp.out w3_ (HF.out.below (bo HB7 Hb3))).mono ?_
 rintro e w4_ ⟨rfl, hb4⟩
 have Hb4 := below_of Hb3 hb4 Hb3.size
 have Zb4 := Nat.le_trans Zb3 hb4.size
 gw
 refine hK.out _ _ Hb4 fun _ => ?_
 ck
 sp
 refine ty 19 rfl (fun K hK => ?_)
 go_simp
 refine (HWr.out w4_ (HF.out.below (bo HB7 Hb4))).mono ?_
 rintro e w5_ ⟨rfl, hb5⟩
 have Hb5 := below_of Hb4 hb5 Hb4.size
 have Zb5 := Nat.le_trans Zb4 hb5.size
 gw
 refine hK.out _ _ Hb5 fun _ => ?_
 ck
 sp
 refine tq 20 rfl Hb5 ?_
 refine tq 21 rfl Hb5 ?_
 sp
 refine tq 22 rfl Hb5 ?_
 sp
 refine td ?_ _
 gw
 go_ret
 exact ⟨rfl, bo HB7 Hb5⟩
theorem mirrorReceiveSpec_own : ownKnob Tryz.prog.godebug = none := by kernel_rfl
theorem mirrorReceiveSpec_laidOut : laidOutB Tryz.prog = true := by kernel_rfl
theorem mirrorReceiveSpec_readable : (Tryz.f4.params.toList.all fun t => Tryz.prog.readableRec t && decide (t < Tryz.prog.types.size)) = true := by kernel_rfl
theorem mirrorReceiveSpec_lifted (os : Os) (started : os.Started) (H : Type) (enc : TypeId × Value → H) :
    ReturnsInHanded {} Tryz.checked os 4 .any (Rows.mirrorReceiveSpecSpec.pre6 enc Tryz.prog Tryz.f4 Rows.mirrorReceiveSpecRow.domain false) (Rows.mirrorReceiveSpecSpec.post enc Tryz.prog Tryz.f4 false true false false) := by
 refine returnsInHanded_of_change (C := Tryz.checked) mirrorReceiveSpec_own started ¶ Tryz.func4
  (ChangeSpec.witness6 (enc := enc) (C := Tryz.checked) false ⟨#[], #[.agg (Mir.folA z32 0 0 (.slice none 0 0) (.slice none 0 0)), .agg Mir.ver0], []⟩ 8 ¶ ¶ ¶ ¶) ?_
 intro W base args ds gs before hval0 hW hcnd _
 have hval : ∀ (j : Nat) t v, Tryz.f4.params[j]? = some t → args[j]? = some v → Value.okWide Tryz.prog W .any base t v := hval0
 have hW' := hW
 obtain ⟨p, q, hA0, hV, rfl, hfz, hnd⟩ := hW
 have hA : DataW.TrodAll enc Tryz.prog W 0 (fun _ => true) true Tryz.f4.params.toList args.toList ds p := hA0
 rw [Tryz.params4] at hA hval
 obtain ⟨v0, vs0, d0, ds0, p0, q0, hargs, rfl, rfl, h0, r0⟩ := trodAll_cons hA
 obtain ⟨v1, vs1, d1, ds1, p1, q1, rfl, rfl, rfl, h1, r1⟩ := trodAll_cons r0
 obtain ⟨rfl, rfl, rfl⟩ := trodAll_nil r1
 obtain rfl : args = #[v0, v1] := by cases args; simp_all
 obtain ⟨rfl, rfl⟩ := trodVars_none hV
 obtain ⟨x0, V0, rfl, g0⟩ := open_follower (hval 0 48 v0 rfl rfl) h0
 obtain ⟨x1, V1, rfl, g1⟩ := open_version (hval 1 34 v1 rfl rfl) h1
 refine (MirrorReceiveSpec_walk W x0 V0 g0 x1 V1 g1).mono fun e W' ⟨he, hb⟩ => ?_
 subst he
 simp only [List.append_nil] at hW'
 refine ⟨_, rfl, law_post mirrorReceiveSpec_laidOut ?_ ¶ Tryz.underlying4 rfl hW' rfl rfl rfl hb⟩
 intro t ht
 have hr := List.all_eq_true.1 mirrorReceiveSpec_readable t ht
 rw [Bool.and_eq_true] at hr
 exact ⟨hr.1, of_decide_eq_true hr.2⟩
theorem mirrorReceiveSpec_over : Rows.mirrorReceiveSpecRow.holds Tryz.pinned (OpenSpec.ofChange Rows.mirrorReceiveSpecSpec) :=
 OpenClaim.holds_of_wide 4 Tryz.f4 rfl rfl rfl rfl rfl rfl rfl ⟨rfl, rfl, rfl, rfl, rfl⟩ rfl rfl rfl rfl rfl ¶ Tryz.func4 ¶
  (of_decide_eq_true ¶) (by unfold Func.isWrapper; rw [if_neg (of_decide_eq_false ¶)]; exact ⟨rfl, rfl⟩)
  (fun os started H enc _ => mirrorReceiveSpec_lifted os started H enc)
theorem mirrorReceiveSpec_proved : Rows.MirrorReceiveSpecSaid := mirrorReceiveSpec_over
#print axioms mirrorReceiveSpec_proved
end Go.Proofs.YtkflpoiobpblhaaGreat
