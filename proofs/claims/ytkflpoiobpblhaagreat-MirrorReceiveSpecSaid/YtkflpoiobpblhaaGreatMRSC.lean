/- The statement MirrorReceiveSpecSaid: for every follower and version, valid or not, Receive, Check and Wants match the specification; no condition beside the row's own. -/
import Derived.ChangeMaps5
import Derived.Deep.RegionHeld3
import Derived.Test.YtkflpoiobpblhaaGreatP41
import Derived.Test.YtkflpoiobpblhaaGreatP42
import Derived.Test.YtkflpoiobpblhaaGreatP45
import Derived.Test.YtkflpoiobpblhaaGreatP49
import Derived.Test.YtkflpoiobpblhaaGreatP53
import Derived.Test.YtkflpoiobpblhaaGreatP44
set_option maxRecDepth 100000
set_option maxHeartbeats 16000000
set_option linter.unusedVariables false
set_option linter.unusedSimpArgs false
namespace Go.Proofs.YtkflpoiobpblhaaGreat
open Go.RowKit Go.WideShapes Go.ChangeShapes Go.ChangeAt
namespace Mir
theorem fewI_ok {l : List It} (h : fewI l = true) : l.length ≤ 12 ∧ ∀ y ∈ l, y.2.length ≤ 300 := by
 unfold fewI at h
 rw [Bool.and_eq_true, List.all_eq_true] at h
 refine ⟨of_decide_eq_true h.2, fun y hy => ?_⟩
 have := h.1 y hy
 unfold fewA at this
 rw [Bool.and_eq_true] at this
 exact of_decide_eq_true this.2
theorem fewC_ok {l : List Ch} (h : fewC l = true) : l.length ≤ 12 ∧ ∀ y ∈ l, y.1.2.length ≤ 300 := by
 unfold fewC at h
 rw [Bool.and_eq_true, List.all_eq_true] at h
 refine ⟨of_decide_eq_true h.2, fun y hy => ?_⟩
 have := h.1 y hy
 unfold fewA at this
 rw [Bool.and_eq_true] at this
 exact of_decide_eq_true this.2
theorem fewV_ok {v : Ve} (h : fewV v = true) : SmV v ∧ SmS v := by
 unfold fewV at h
 simp only [Bool.and_eq_true, decide_eq_true_eq] at h
 have := fewC_ok h.1.1.1
 exact ⟨⟨by omega, fun y hy => by have := this.2 y hy; omega⟩, by omega, by omega, by omega, by omega⟩
theorem fewF_ok {f : Fo} (h : fewF f = true) : SmF f ∧ ∀ v ∈ f.ea, SmS v := by
 unfold fewF at h
 simp only [Bool.and_eq_true, decide_eq_true_eq, List.all_eq_true] at h
 have := fewI_ok h.1.2
 exact ⟨⟨by omega, fun y hy => by have := this.2 y hy; omega, by omega, fun v hv => (fewV_ok (h.1.1 v hv)).1⟩, fun v hv => (fewV_ok (h.1.1 v hv)).2⟩
end Mir
theorem mw (w : World) (f : Mir.Fo) (F : Array Value) (hF : FolC w f F) (v : Mir.Ve) (V : Array Value) (hV : VerC w v V) :
    Calls Tryz.prog 4 #[.agg F, .agg V] w (fun e w' => e = .returned (.bool true) ∧ Below w.heap.size w w') := by
 have HF := θ hF
 have HV := θ hV
 have iF := θ hF.info
 have iV := θ hV.info
 have HG := θ (fun W h => rfewF_any f F W h)
 have HW := θ (fun W h => rfewV_any v V W h)
 obtain ⟨ff, hff⟩ := exq (Mir.fewF f)
 obtain ⟨fv, hfv⟩ := exq (Mir.fewV v)
 rw [hff] at HG
 rw [hfv] at HW
 have Hff := θ hff
 have Hfv := θ hfv
 clear hF hV hff hfv
 go_enter Tryz.func4, Tryz.ntmps4
 go_wp2_with fail
 generalize hge : World.alloc (World.alloc _ _) _ = w0
 have HX0 := θ (show Blk w0 w.heap.size 48 F by subst hge; exact (blk_two w F V 48 34).1)
 have HY0 := θ (show Blk w0 (w.heap.size + 1) 34 V by subst hge; exact (blk_two w F V 48 34).2)
 have HB0 := θ (al2 hge)
 clear hge
 refine (sane_any w0).mono ?_
 rintro e w1 ⟨rfl, hb1⟩
 have HB1 := θ (bo HB0 hb1)
 have HX1 := θ (HX0.out.below hb1)
 have HY1 := θ (HY0.out.below hb1)
 clear hb1 HB0 HX0 HY0
 go_wp2_with (refine wpList_load_blk rfl 48 (.tmp 2) rfl w.heap.size rfl 48 F _ HX1.out Tryz.underlying48 rfl iF.out ?_)
 refine (HG.out _ (HF.out.below HB1.out)).mono ?_
 rintro e w2 ⟨rfl, hb2⟩
 have HB2 := θ (bo HB1 hb2)
 have HX2 := θ (HX1.out.below hb2)
 have HY2 := θ (HY1.out.below hb2)
 clear hb2 HB1 HX1 HY1
 cases ff with
 | false =>
   go_wp2_with fail
   go_ret
   exact ⟨rfl, HB2.out⟩
 | true =>
 go_wp2_with (refine wpList_load_blk_g 34 (.tmp 3) (by rfl) (by kernel_rfl) (w.heap.size + 1) rfl 34 V _ HY2.out Tryz.underlying34 rfl iV.out ?_)
 refine (HW.out _ (HV.out.below HB2.out)).mono ?_
 rintro e w3 ⟨rfl, hb3⟩
 have HB3 := θ (bo HB2 hb3)
 have HX3 := θ (HX2.out.below hb3)
 have HY3 := θ (HY2.out.below hb3)
 clear hb3 HB2 HX2 HY2
 cases fv with
 | false =>
   go_wp2_with fail
   go_ret
   exact ⟨rfl, HB3.out⟩
 | true =>
 have hff := Mir.fewF_ok Hff.out
 have hfv := Mir.fewV_ok Hfv.out
 have HP := θ (fun W a b => receive_any f v F V W a b hff.1 hfv.1)
 have HR := θ (fun W a b => rreceive_any f v F V W a b hff.1 hfv.1)
 have HCk := θ (fun W a => check_any f F W a hff.1)
 have HCr := θ (fun W a => rfcheck_any f F W a hff.1)
 have HSf := θ (fun F1 F2 W a b => rsameF_any (Mir.rcv f v).1 F1 F2 W a b (fun u hu => by
  rcases Mir.rcv_ea f v u hu with h | rfl
  · exact hff.2 u h
  · exact hfv.2))
 have HWp := θ (fun W a => pwants_any f F W a)
 have HWr := θ (fun W a => rwants_any f F W a)
 obtain ⟨E1, hE1⟩ := exq ((Mir.rcv f v).2)
 obtain ⟨g1, hg1⟩ := exq ((Mir.rcv f v).1)
 obtain ⟨E2, hE2⟩ := exq (Mir.foE f)
 obtain ⟨E3, hE3⟩ := exq (IntKind.i64.wrap (f.no + 1))
 rw [hE1, hg1] at HP HR
 rw [hg1] at HSf
 rw [hE2] at HCk HCr
 rw [hE3] at HWp HWr
 have ee1 : (E1 == E1) = true := by simp
 have ee2 : (E2 == E2) = true := by simp
 have ee3 : (E3 == E3) = true := by simp
 clear hff hfv hE1 hg1 hE2 hE3 Hff Hfv HG HW
 go_wp2_with (first
  | (refine wpList_load_blk rfl 48 (.tmp 2) rfl w.heap.size rfl 48 F _ HX3.out Tryz.underlying48 rfl iF.out ?_)
  | (refine wpList_load_blk rfl 34 (.tmp 3) rfl (w.heap.size + 1) rfl 34 V _ HY3.out Tryz.underlying34 rfl iV.out ?_))
 refine (HP.out w3 (HF.out.below HB3.out) (HV.out.below HB3.out)).mono ?_
 rintro e w4 ⟨F1, rfl, hG, hb4⟩
 have HB4 := θ (bo HB3 hb4)
 have HX4 := θ (HX3.out.below hb4)
 have HY4 := θ (HY3.out.below hb4)
 clear hb4 HB3 HX3 HY3
 have HG1 := θ hG
 have iG1 := θ hG.info
 have zG1 := θ hG.size
 have aG1 := θ hG.all
 clear hG
 go_upto_region 6 with (
  (refine wpList_put_blk rfl 48 (.tmp 5) (.tmp 23) rfl w4.heap.size F1 rfl rfl 48 (Mir.folA z32 0 0 (.slice none 0 0) (.slice none 0 0)) (by exact Blk.new _ _ _) iG1.out (by rw [zG1.out]; exact Mir.folA_size z32_length ..) aG1.out ?_
   intro w5 h8 hg8 hz8
   have hb5 := below_put hg8
   have HQ1 := θ h8
   clear h8 hg8 hz8))
 have HB5 := θ (bo HB4 hb5)
 have HX5 := θ (HX4.out.below hb5)
 have HY5 := θ (HY4.out.below hb5)
 replace HG1 := θ (HG1.out.below hb5)
 clear hb5 HB4 HX4 HY4
 obtain ⟨p1, hp⟩ := exq w4.heap.size
 rw [hp] at HQ1 ⊢
 clear hp
 go_wp2_with (first
  | (refine wpList_load_blk rfl 48 (.tmp 2) rfl w.heap.size rfl 48 F _ HX5.out Tryz.underlying48 rfl iF.out ?_)
  | (refine wpList_load_blk rfl 34 (.tmp 3) rfl (w.heap.size + 1) rfl 34 V _ HY5.out Tryz.underlying34 rfl iV.out ?_))
 refine (HR.out w5 (HF.out.below HB5.out) (HV.out.below HB5.out)).mono ?_
 rintro e w6 ⟨F2, rfl, hG, hb6⟩
 have HB6 := θ (bo HB5 hb6)
 have HX6 := θ (HX5.out.below hb6)
 have HY6 := θ (HY5.out.below hb6)
 replace HG1 := θ (HG1.out.below hb6)
 replace HQ1 := θ (HQ1.out.below hb6)
 clear hb6 HB5 HX5 HY5
 have HG2 := θ hG
 have iG2 := θ hG.info
 have zG2 := θ hG.size
 have aG2 := θ hG.all
 clear hG
 go_upto_region 7 with (
  (refine wpList_put_blk rfl 48 (.tmp 7) (.tmp 29) rfl w6.heap.size F2 rfl rfl 48 (Mir.folA z32 0 0 (.slice none 0 0) (.slice none 0 0)) (by exact Blk.new _ _ _) iG2.out (by rw [zG2.out]; exact Mir.folA_size z32_length ..) aG2.out ?_
   intro w7 h8 hg8 hz8
   have hb7 := below_put hg8
   have HQ2 := θ h8
   clear h8 hg8 hz8))
 have HB7 := θ (bo HB6 hb7)
 have HX7 := θ (HX6.out.below hb7)
 have HY7 := θ (HY6.out.below hb7)
 replace HG1 := θ (HG1.out.below hb7)
 replace HQ1 := θ (HQ1.out.below hb7)
 replace HG2 := θ (HG2.out.below hb7)
 clear hb7 HB6 HX6 HY6
 obtain ⟨p2, hp⟩ := exq w6.heap.size
 rw [hp] at HQ2 ⊢
 clear hp
 refine wp_region_held_drew (S := fun W => Below w7.heap.size w7 W) (by kernel_rfl) (below_drewN (Below.refl _ _) 1) (fun Hd => ?_)
 have Hd : Below w7.heap.size w7 w7.drew := below_drewN (Below.refl _ _) 1
 have Zd : w7.heap.size ≤ w7.drew.heap.size := Nat.le_refl _
 generalize World.drew w7 = wd at *
 refine tg 0 (.agg F1) rfl (yields_load_blk (by rfl) _ _ rfl p1 rfl 48 F1 _ (fun W hW => HQ1.out.below hW) Tryz.underlying48 rfl iG1.out) Hd ?_
 refine tg 1 (.agg F2) rfl (yields_load_blk (by rfl) _ _ rfl p2 rfl 48 F2 _ (fun W hW => HQ2.out.below hW) Tryz.underlying48 rfl iG2.out) Hd ?_
 try simp only [la, Act.put]
 refine ty 2 rfl (fun K hK => ?_)
 go_simp
 refine (HSf.out F1 F2 wd (HG1.out.below Hd) (HG2.out.below Hd)).mono ?_
 rintro e w1_ ⟨rfl, hb1⟩
 have Hb1 := below_of Hd hb1 Hd.size
 have Zb1 := Nat.le_trans Zd hb1.size
 go_wp2_with fail
 refine hK.out _ _ Hb1 fun _ => ?_
 clear hK K
 refine tq 3 rfl Hb1 ?_
 try simp only [la, Act.put]
 refine tq 4 rfl Hb1 ?_
 refine tq 5 rfl Hb1 ?_
 try simp only [la, Act.put]
 refine tq 6 rfl Hb1 ?_
 refine tq 7 rfl Hb1 ?_
 try simp only [la, Act.put]
 refine tq 8 rfl Hb1 ?_
 refine tg 9 (.agg F) rfl (yields_load_blk (by rfl) _ _ rfl w.heap.size rfl 48 F _ (fun W hW => HX7.out.below hW) Tryz.underlying48 rfl iF.out) Hb1 ?_
 try simp only [la, Act.put]
 refine tg 11 (.agg F) rfl (yields_load_blk (by rfl) _ _ rfl w.heap.size rfl 48 F _ (fun W hW => HX7.out.below hW) Tryz.underlying48 rfl iF.out) Hb1 ?_
 try simp only [la, Act.put]
 refine ty 10 rfl (fun K hK => ?_)
 go_simp
 refine (HCk.out w1_ (HF.out.below (bo HB7 Hb1))).mono ?_
 rintro e w2_ ⟨rfl, hb2⟩
 have Hb2 := below_of Hb1 hb2 Hb1.size
 have Zb2 := Nat.le_trans Zb1 hb2.size
 go_wp2_with fail
 refine hK.out _ _ Hb2 fun _ => ?_
 clear hK K
 try simp only [la, Act.put]
 refine ty 12 rfl (fun K hK => ?_)
 go_simp
 refine (HCr.out w2_ (HF.out.below (bo HB7 Hb2))).mono ?_
 rintro e w3_ ⟨rfl, hb3⟩
 have Hb3 := below_of Hb2 hb3 Hb2.size
 have Zb3 := Nat.le_trans Zb2 hb3.size
 go_wp2_with fail
 refine hK.out _ _ Hb3 fun _ => ?_
 clear hK K
 refine tq 13 rfl Hb3 ?_
 try simp only [la, Act.put]
 refine tq 14 rfl Hb3 ?_
 refine tq 15 rfl Hb3 ?_
 try simp only [la, Act.put]
 refine tg 16 (.agg F) rfl (yields_load_blk (by rfl) _ _ rfl w.heap.size rfl 48 F _ (fun W hW => HX7.out.below hW) Tryz.underlying48 rfl iF.out) Hb3 ?_
 refine tg 18 (.agg F) rfl (yields_load_blk (by rfl) _ _ rfl w.heap.size rfl 48 F _ (fun W hW => HX7.out.below hW) Tryz.underlying48 rfl iF.out) Hb3 ?_
 try simp only [la, Act.put]
 refine ty 17 rfl (fun K hK => ?_)
 go_simp
 refine (HWp.out w3_ (HF.out.below (bo HB7 Hb3))).mono ?_
 rintro e w4_ ⟨rfl, hb4⟩
 have Hb4 := below_of Hb3 hb4 Hb3.size
 have Zb4 := Nat.le_trans Zb3 hb4.size
 go_wp2_with fail
 refine hK.out _ _ Hb4 fun _ => ?_
 clear hK K
 try simp only [la, Act.put]
 refine ty 19 rfl (fun K hK => ?_)
 go_simp
 refine (HWr.out w4_ (HF.out.below (bo HB7 Hb4))).mono ?_
 rintro e w5_ ⟨rfl, hb5⟩
 have Hb5 := below_of Hb4 hb5 Hb4.size
 have Zb5 := Nat.le_trans Zb4 hb5.size
 go_wp2_with fail
 refine hK.out _ _ Hb5 fun _ => ?_
 clear hK K
 try simp only [la, Act.put]
 refine tq 20 rfl Hb5 ?_
 refine tq 21 rfl Hb5 ?_
 try simp only [la, Act.put]
 refine tq 22 rfl Hb5 ?_
 try simp only [la, Act.put]
 refine td ?_ _
 go_wp2_with fail
 go_ret
 exact ⟨rfl, bo HB7 Hb5⟩
theorem mo : ownKnob Tryz.prog.godebug = none := by kernel_rfl
theorem ml : laidOutB Tryz.prog = true := by kernel_rfl
theorem mr : (Tryz.f4.params.toList.all fun t => Tryz.prog.readableRec t && decide (t < Tryz.prog.types.size)) = true := by kernel_rfl
theorem mi (os : Os) (started : os.Started) (H : Type) (enc : TypeId × Value → H) :
    ReturnsInHanded {} Tryz.checked os 4 .any (Rows.mirrorReceiveSpecSpec.pre6 enc Tryz.prog Tryz.f4 Rows.mirrorReceiveSpecRow.domain false) (Rows.mirrorReceiveSpecSpec.post enc Tryz.prog Tryz.f4 false true false false) := by
 refine returnsInHanded_of_change (C := Tryz.checked) mo started (by kernel_rfl) Tryz.func4
  (ChangeSpec.witness6 (enc := enc) (C := Tryz.checked) false ⟨#[], #[.agg (Mir.folA z32 0 0 (.slice none 0 0) (.slice none 0 0)), .agg Mir.ver0], []⟩ 8 (by kernel_rfl) (by kernel_rfl) (by kernel_rfl) (by kernel_rfl)) ?_
 intro W base args ds gs before hval0 hW hcnd _
 have hval : ∀ (j : Nat) t v, Tryz.f4.params[j]? = some t → args[j]? = some v → Value.okWide Tryz.prog W .any base t v := hval0
 have hW' := hW
 obtain ⟨p, q, hA0, hV, rfl, hfz, hnd⟩ := hW
 have hA : DataW.TrodAll enc Tryz.prog W 0 (fun _ => true) true Tryz.f4.params.toList args.toList ds p := hA0
 rw [Tryz.params4] at hA hval
 obtain ⟨v0, vs0, d0, ds0, p0, q0, hargs, rfl, rfl, h0, r0⟩ := trodAll_cons hA
 obtain ⟨v1, vs1, d1, ds1, p1, q1, rfl, rfl, rfl, h1, r1⟩ := trodAll_cons r0
 obtain ⟨rfl, rfl, rfl⟩ := trodAll_nil r1
 obtain rfl : args = #[v0, v1] := by cases args; simp_all
 obtain ⟨rfl, rfl⟩ := trodVars_none hV
 obtain ⟨x0, V0, rfl, g0⟩ := open_follower (hval 0 48 v0 rfl rfl) h0
 obtain ⟨x1, V1, rfl, g1⟩ := open_version (hval 1 34 v1 rfl rfl) h1
 refine (mw W x0 V0 g0 x1 V1 g1).mono fun e W' ⟨he, hb⟩ => ?_
 subst he
 simp only [List.append_nil] at hW'
 refine ⟨_, rfl, law_post ml ?_ (by kernel_rfl) Tryz.underlying4 rfl hW' rfl rfl rfl hb⟩
 intro t ht
 have hr := List.all_eq_true.1 mr t ht
 rw [Bool.and_eq_true] at hr
 exact ⟨hr.1, of_decide_eq_true hr.2⟩
theorem mv : Rows.mirrorReceiveSpecRow.holds Tryz.pinned (OpenSpec.ofChange Rows.mirrorReceiveSpecSpec) :=
 OpenClaim.holds_of_wide 4 Tryz.f4 rfl rfl rfl rfl rfl rfl rfl ⟨rfl, rfl, rfl, rfl, rfl⟩ rfl rfl rfl rfl rfl (by kernel_rfl) Tryz.func4 (by kernel_rfl)
  (of_decide_eq_true (by kernel_rfl)) (by unfold Func.isWrapper; rw [if_neg (of_decide_eq_false (by kernel_rfl))]; exact ⟨rfl, rfl⟩)
  (fun os started H enc _ => mi os started H enc)
theorem mirrorReceiveSpec_proved : Rows.MirrorReceiveSpecSaid := mv
#print axioms mirrorReceiveSpec_proved
end Go.Proofs.YtkflpoiobpblhaaGreat
