/- The statement MirrorStrangerSaid: for every state that is published under one key, a version that a follower refuses changes nothing, and one whose number was applied is refused; no condition beside the row's own. -/
import Derived.ChangeMaps5
import Derived.Deep.RegionHeld3
import Derived.Test.YtkflpoiobpblhaaP47
import Derived.Test.YtkflpoiobpblhaaMOpC
import Derived.Test.YtkflpoiobpblhaaMLwC
namespace Go.Proofs.Ytkflpoiobpblhaa
open Go.RowKit Go.WideShapes Go.ChangeShapes Go.ChangeAt
set_option linter.unusedVariables false
set_option linter.unusedSimpArgs false
set_option maxRecDepth 100000 in
set_option maxHeartbeats 8000000 in
theorem MirrorStranger_walk (w : World) (a0 : Int) (w0 : Lit.wf (.int .u8 a0) = true) (A : Option Addr) (n c : Nat) (l : List Mir.It) (e1 : l.length = n) (nc : n ≤ c) (cm : c ≤ maxLen) (I : ItemsC w A l) (v : Mir.Ve) (V : Array Value) (hV : VerC w v V) :
    Calls Try.prog 4 #[.int .u8 a0, .slice A n c, .agg V] w (Fine w) := by
  obtain ⟨b, hb8, rfl⟩ := byte_of w0
  have HI := Lib.hid I
  have HVe := Lib.hid hV
  have HF := Lib.hid (fun W h => rfew_any A n c l W e1 (by unfold maxLen at cm; omega) h)
  have HG := Lib.hid (fun W h => rfewV_any v V W h)
  have iV := Lib.hid hV.info
  have zV := Lib.hid hV.size
  have aV := Lib.hid hV.all
  clear w0 I hV
  obtain ⟨fa, hfa⟩ : ∃ x, Mir.fewI l = x := ⟨_, rfl⟩
  obtain ⟨E, hE⟩ : ∃ x, Mir.itE l = x := ⟨_, rfl⟩
  obtain ⟨fv, hfv⟩ : ∃ x, Mir.fewV v = x := ⟨_, rfl⟩
  rw [hfa] at HF
  rw [hfv] at HG
  have Hfa := Lib.hid hfa
  have HE := Lib.hid hE
  have Hfv := Lib.hid hfv
  have He1 := Lib.hid (And.intro e1 (And.intro nc cm))
  have Hb8 := Lib.hid hb8
  clear hfa hE hfv e1 nc cm hb8
  go_enter Try.func4, Try.ntmps4
  go_wp2_with (fail)
  generalize hge : World.alloc _ _ = w0
  have HX0 := Lib.hid (show Blk w0 w.heap.size 38 V by subst hge; exact Blk.new _ _ _)
  have HB0 := Lib.hid (show Below w.heap.size w w0 by subst hge; exact (Below.refl _ _).alloc (Nat.le_refl _) _)
  clear hge
  refine (sane_any w0).mono ?_
  rintro e w1 ⟨rfl, hb1⟩
  have HB1 := Lib.hid (below_of HB0.out hb1 HB0.out.size)
  have HX1 := Lib.hid (HX0.out.below hb1)
  clear hb1 HB0 HX0
  go_wp2_with (fail)
  refine (HF.out w1 (HI.out.below HB1.out)).mono ?_
  rintro e w2 ⟨rfl, rfl⟩
  have HB2 := Lib.hid HB1.out
  have HX2 := Lib.hid HX1.out
  clear HB1 HX1
  cases fa with
  | false =>
    go_wp2_with (fail)
    go_ret
    exact ⟨rfl, HB2.out⟩
  | true =>
  have fa' := Mir.fewI_ok Hfa.out
  have HC := Lib.hid (fun W h => pcheck_any A n c l W He1.out.1 (by have := fa'.1; have := He1.out.1; omega) h)
  rw [HE.out] at HC
  have Hfa' := Lib.hid fa'
  clear fa'
  go_wp2_with (fail)
  refine (HC.out _ (HI.out.below HB2.out)).mono ?_
  rintro e w3 ⟨rfl, hb3⟩
  have HB3 := Lib.hid (below_of HB2.out hb3 HB2.out.size)
  have HX3 := Lib.hid (HX2.out.below hb3)
  clear hb3 HB2 HX2 HF HC
  by_cases h0 : E = 0
  rotate_left
  · have d0 : decide (E = 0) = false := by simpa using h0
    have b0 : (E != 0) = true := by simpa using h0
    go_wp2_with (fail)
    go_ret
    exact ⟨rfl, HB3.out⟩
  subst h0
  go_wp2_with (refine wpList_load_blk_g 38 (.tmp 5) (by rfl) (by kernel_rfl) w.heap.size rfl 38 V _ HX3.out Try.underlying38 rfl iV.out ?_)
  refine (HG.out _ (HVe.out.below HB3.out)).mono ?_
  rintro e w4 ⟨rfl, hb4⟩
  have HB4 := Lib.hid (below_of HB3.out hb4 HB3.out.size)
  have HX4 := Lib.hid (HX3.out.below hb4)
  clear hb4 HB3 HX3 HG
  cases fv with
  | false =>
    go_wp2_with (fail)
    go_ret
    exact ⟨rfl, HB4.out⟩
  | true =>
  have hg := Hfv.out
  have hE := HE.out
  obtain ⟨h12, h300⟩ := Hfa'.out
  have hb8 := Hb8.out
  have hsv := Mir.fewV_ok hg
  have Hsv := Lib.hid hsv
  have ok : Mir.okS l := ⟨hE, h12, h300⟩
  obtain ⟨P, hP⟩ : ∃ P, Mir.rootK [b] = P := ⟨_, rfl⟩
  have HPd := Lib.hid (show IsD P by rw [← hP]; exact treeS_isD _)
  have HCh := Lib.hid (fun S W h => chain_any b hb8 S 1 1 [l] W h rfl (by omega) (fun x hx => by rw [List.mem_singleton] at hx; rw [hx]; exact ok))
  rw [hP, Mir.vsK_one] at HCh
  have HJ := Lib.hid (fun W => join_fol P 2 W HPd.out)
  rw [if_pos Mir.manyB_two, if_pos Mir.manyB_two] at HJ
  have hff : (⟨P, 2, 0, [], []⟩ : Mir.Fo) = Mir.f0K [b] := by unfold Mir.f0K; rw [hP]
  rw [hff] at HJ
  have sm := Mir.v1_small (s := [b]) ok
  have HR1 := Lib.hid (fun wb F V' W hb hF hV => receive_any2 wb (Mir.f0K [b]) (Mir.v1K [b] l) F V' W hb hF hV (by unfold Mir.SmF Mir.f0K; simp) sm)
  rw [Mir.rcv_f0_v1 hE Mir.itE_nil (by omega) (by simp)] at HR1
  have HR2 := Lib.hid (fun F W hF hV => receive_any (Mir.f1K [b] l) v F V W hF hV (show Mir.SmF (Mir.f1K [b] l) from ⟨show l.length ≤ 1000000 by omega, fun x hx => by have := h300 x hx; omega, by show (0 : Nat) ≤ 1000000; omega, fun x hx => by cases hx⟩) hsv)
  have hcs := Mir.rcv_cases (Mir.f1K [b] l) v
  rw [show (Mir.f1K [b] l).no = 1 from rfl] at hcs
  have Hf1 := Lib.hid (And.intro (show (Mir.f1K [b] l).no = 1 from rfl) (And.intro (show (Mir.f1K [b] l).it = l from rfl) (show (Mir.f1K [b] l).ea = [] from rfl)))
  obtain ⟨v1, hv1⟩ : ∃ v, Mir.v1K [b] l = v := ⟨_, rfl⟩
  obtain ⟨f0, hf0⟩ : ∃ f, Mir.f0K [b] = f := ⟨_, rfl⟩
  obtain ⟨f1, hf1⟩ : ∃ f, Mir.f1K [b] l = f := ⟨_, rfl⟩
  rw [hv1] at HCh
  rw [hf0] at HJ
  rw [hv1, hf0, hf1] at HR1
  rw [hf1] at HR2 hcs Hf1
  have HSm := Lib.hid (fun A1 ca1 W h1 h2 => rsame_any A1 A n n ca1 c l l W He1.out.1 He1.out.1 (by have := He1.out.1; omega) h1 h2)
  rw [Mir.sameI_self] at HSm
  have HS0 := Lib.hid (fun F W h => rsameF_empty Mir.fo0 F (Mir.folA z32 0 0 (.slice none 0 0) (.slice none 0 0)) W h (FolC.zero W) rfl rfl)
  have bZ := Lib.hid (show Try.prog.built 50 [] = some (Mir.folA z32 0 0 (.slice none 0 0) (.slice none 0 0)) by kernel_rfl)
  obtain ⟨Z0, hZ0⟩ : ∃ Z, (Mir.folA z32 0 0 (.slice none 0 0) (.slice none 0 0)) = Z := ⟨_, rfl⟩
  have iZ := Lib.hid (show (Try.prog.info? 50).map (·.size) = some Z0.size by rw [← hZ0]; exact infoFol z32_length ..)
  have zZ := Lib.hid (show Z0.size = 36 by rw [← hZ0]; exact Mir.folA_size z32_length ..)
  have HZ0 := Lib.hid hZ0
  rw [hZ0] at HS0 bZ
  obtain ⟨rc, hrc⟩ : ∃ r, Mir.rcv f1 v = r := ⟨_, rfl⟩
  rw [hrc] at HR2 hcs
  obtain ⟨f2, E2⟩ := rc
  simp only [] at HR2 hcs
  have Hcs := Lib.hid hcs
  clear hE h300 ok hP sm hv1 hf0 hf1 hb8 hg hsv hff hrc hcs h12 hZ0
  go_wp2_with (fail)
  generalize hge : World.alloc _ _ = w5
  have HT5 := Lib.hid (show Blk w5 w4.heap.size 22 #[.slice A n c] by subst hge; exact Blk.new _ _ _)
  have hb5 : Below w4.heap.size w4 w5 := by subst hge; exact (Below.refl _ _).alloc (Nat.le_refl _) _
  have HB5 := Lib.hid (below_of HB4.out hb5 HB4.out.size)
  have HX5 := Lib.hid (HX4.out.below hb5)
  clear hge hb5 HB4 HX4
  refine (HCh.out _ w5 (states_one HT5.out He1.out.1 He1.out.2.1 He1.out.2.2 (HI.out.below HB5.out))).mono ?_
  rintro e w6 ⟨Av, cv, rfl, hVs, hcv1, hcv2, hb6⟩
  have HB6 := Lib.hid (below_of HB5.out hb6 HB5.out.size)
  have HX6 := Lib.hid (HX5.out.below hb6)
  have HV6 := Lib.hid hVs
  clear hb6 hVs HB5 HT5 HX5 HCh
  go_wp2_with (first
    | (refine wpList_put_blk rfl 28 (.tmp 7) (.tmp 36) rfl w6.heap.size (arrK .u8 P) rfl rfl 28 (arrK .u8 z32) (Blk.new w6 28 (arrK .u8 z32)) (info32 HPd.out.1) (by rw [len32 HPd.out.1, len32 z32_length]) (arrK_all _ _) ?_
       intro w7 HZ hg hz
       have HP7 := Lib.hid HZ
       have hb7 := Lib.hid (below_put hg)
       clear hg hz HZ)
    | (refine wpList_load_blk rfl 28 (.tmp 7) rfl w6.heap.size rfl 28 (arrK .u8 P) (.array 32 5) HP7.out (by kernel_rfl) rfl (info32 HPd.out.1) ?_))
  have HB7 := Lib.hid (below_of HB6.out hb7.out HB6.out.size)
  have HX7 := Lib.hid (HX6.out.below hb7.out)
  have HV7 := Lib.hid (HV6.out.below hb7.out)
  clear HB6 HX6 HV6 hb7 HP7
  refine (HJ.out w7).mono ?_
  rintro e w8 ⟨F0, rfl, hF0, hb8⟩
  have HB8 := Lib.hid (below_of HB7.out hb8 HB7.out.size)
  have HX8 := Lib.hid (HX7.out.below hb8)
  have HV8 := Lib.hid (HV7.out.below hb8)
  have HF8 := Lib.hid hF0
  have iF0 := Lib.hid hF0.info
  have zF0 := Lib.hid hF0.size
  have aF0 := Lib.hid hF0.all
  clear hF0 hb8 HB7 HX7 HV7 HJ
  go_upto_region 7 with (
    (refine wpList_put_blk rfl 50 (.tmp 10) (.tmp 42) rfl w8.heap.size F0 rfl rfl 50 (Mir.folA z32 0 0 (.slice none 0 0) (.slice none 0 0)) (Blk.new w8 50 (Mir.folA z32 0 0 (.slice none 0 0) (.slice none 0 0))) iF0.out (by rw [Mir.folA_size z32_length, zF0.out]) aF0.out ?_
     intro w9 HZ hg hz
     have HY9 := Lib.hid HZ
     have hb9 := Lib.hid (below_put hg)
     clear hg hz HZ))
  have HB9 := Lib.hid (below_of HB8.out hb9.out HB8.out.size)
  have HX9 := Lib.hid (HX8.out.below hb9.out)
  have HF9 := Lib.hid (HF8.out.below hb9.out)
  have hV9 := HV8.out.below hb9.out
  obtain ⟨x0, hx0⟩ : ∃ x, w8.heap.size = x := ⟨_, rfl⟩
  rw [hx0] at HY9 ⊢
  clear hx0 hb9 HB8 HX8 HF8 HV8
  obtain ⟨bV, oV, rfl, hbV, hat⟩ := hV9.at_ (by simp)
  obtain ⟨U, hU, hR⟩ := hat 0 v1 rfl
  have HRg := Lib.hid (show w9.rangeAt bV oV U.toList by simpa using hR)
  have HU := Lib.hid hU
  have iU := Lib.hid (show (Try.prog.info? 38).map (·.size) = some U.toList.length by rw [Array.length_toList]; exact hU.info)
  clear hat hU hR hV9 hbV
  go_upto_region 9 with (fail)
  refine wp_region_held_drew (S := fun W => Below w9.heap.size w9 W) (by kernel_rfl) (below_drewN (Below.refl _ _) 1) (fun Hd => ?_)
  have Hd : Below w9.heap.size w9 w9.drew := below_drewN (Below.refl _ _) 1
  have Zd : w9.heap.size ≤ w9.drew.heap.size := Nat.le_refl _
  generalize World.drew w9 = wd at *
  refine wpAnyH_take (i := 0) (v := .agg (F0)) rfl (by kernel_rfl) (by kernel_rfl) (by kernel_rfl) (fun _ _ _ h => h) (yields_load_blk (by rfl) _ _ rfl (x0) rfl 50 (F0) _ (fun W hW => HY9.out.below hW) Try.underlying50 rfl iF0.out) Hd ?_
  try simp only [la0, la1, la2, Act.put, la3, la4, la5]
  refine wpAnyH_take (i := 1) (v := ?_) rfl (by kernel_rfl) (by kernel_rfl) (by kernel_rfl) (fun _ _ _ h => h) (Or.inl ⟨by rfl, ?_⟩) Hd ?_
  rotate_left
  · intro wS hSw
    go_simp
    try with_reducible rfl
  try simp only [la0, la1, la2, Act.put, la3, la4, la5]
  refine wpAnyH_take (i := 2) (v := ?_) rfl (by kernel_rfl) (by kernel_rfl) (by kernel_rfl) (fun _ _ _ h => h) (Or.inl ⟨by rfl, ?_⟩) Hd ?_
  rotate_left
  · intro wS hSw
    go_simp
    try with_reducible rfl
  try simp only [la0, la1, la2, Act.put, la3, la4, la5]
  refine wpAnyH_take (i := 3) (v := .agg (U)) rfl (by kernel_rfl) (by kernel_rfl) (by kernel_rfl) (fun _ _ _ h => h) (yieldsIf_load_mid (by rfl) _ _ rfl (bV) (oV) rfl (U.toList) _ (fun W hW => range_below HRg.out hW) Try.underlying38 rfl iU.out) Hd ?_
  try simp only [la0, la1, la2, Act.put, la3, la4, la5]
  refine wpAnyH_ready (rs := [4, 8]) (by kernel_rfl) (by simp) (AllReadyH.cons rfl (fun K hK => ?_) (AllReadyH.cons rfl (fun K hK => ?_) AllReadyH.nil))
  · go_simp
    refine (HR1.out w9 F0 U wd Hd HF9.out HU.out).mono ?_
    rintro e w1_ ⟨F1, rfl, hG1, hb1⟩
    have fG1 := RcK.of hG1
    have hn1 : FolC w1_ f1 F1 := hG1.now (below_of Hd hb1 Hd.size)
    have iF1a := hn1.info
    have zF1a := hn1.size
    have aF1a := hn1.all
    have hz1a := hb1.size
    have Hb1 : Below w9.heap.size w9 w1_ := below_of Hd hb1 Hd.size
    have Zb1 : w9.heap.size ≤ w1_.heap.size := Nat.le_trans Zd hb1.size
    go_wp2_with (fail)
    refine hK.out _ _ Hb1 fun _ => ?_
    clear hK K
    try simp only [la0, la1, la2, Act.put, la3, la4, la5]
    refine wpAnyH_take (i := 5) (v := ?_) rfl (by kernel_rfl) (by kernel_rfl) (by kernel_rfl) (fun _ _ _ h => h) (Or.inl ⟨by rfl, ?_⟩) Hb1 ?_
    rotate_left
    · intro wS hSw
      go_simp
      try with_reducible rfl
    try simp only [la0, la1, la2, Act.put, la3, la4, la5]
    refine wpAnyH_take (i := 6) (v := ?_) rfl (by kernel_rfl) (by kernel_rfl) (by kernel_rfl) (fun _ _ _ h => h) (Or.inl ⟨by rfl, ?_⟩) Hb1 ?_
    rotate_left
    · intro wS hSw
      go_simp
      try with_reducible rfl
    try simp only [la0, la1, la2, Act.put, la3, la4, la5]
    refine wpAnyH_take (i := 7) (v := ?_) rfl (by kernel_rfl) (by kernel_rfl) (by kernel_rfl) (fun _ _ _ h => h) (Or.inl ⟨by rfl, ?_⟩) Hb1 ?_
    rotate_left
    · intro wS hSw
      go_simp
      try with_reducible rfl
    try simp only [la0, la1, la2, Act.put, la3, la4, la5]
    refine wpAnyH_ready (rs := [8]) (by kernel_rfl) (by simp) (AllReadyH.cons rfl (fun K hK => ?_) AllReadyH.nil)
    go_simp
    generalize hge : World.alloc _ _ = w2_
    have fY2 : Blk w2_ w1_.heap.size 50 ((Mir.folA z32 0 0 (.slice none 0 0) (.slice none 0 0))) := by subst hge; exact Blk.new _ _ _
    have hb2 : Below w1_.heap.size w1_ w2_ := by subst hge; exact (Below.refl _ _).alloc (Nat.le_refl _) _
    clear hge
    have fG2 := fG1.below hb2
    have loY2 : w9.heap.size ≤ w1_.heap.size := Zb1
    have Hb2 : Below w9.heap.size w9 w2_ := below_of Hb1 hb2 Hb1.size
    have Zb2 : w9.heap.size ≤ w2_.heap.size := Nat.le_trans Zb1 hb2.size
    refine hK.out _ _ Hb2 fun _ => ?_
    clear hK K
    try simp only [la0, la1, la2, Act.put, la3, la4, la5]
    refine wpAnyH_ready (rs := [9]) (by kernel_rfl) (by simp) (AllReadyH.cons rfl (fun K hK => ?_) AllReadyH.nil)
    refine step_put_blk (by rfl) _ _ _ (by rfl) (w1_.heap.size) (F1) (by rfl) (by rfl) _ _ fY2 iF1a (by rw [Mir.folA_size z32_length, zF1a]) aF1a ?_
    intro w3_ fY3 hg3 hz3
    have fG3 := fG2.grown hg3 (fun g e => by injection e with e; subst e; exact (fun hh => by omega))
    have Hb3 : Below w9.heap.size w9 w3_ := below_grown Hb2 hg3 Hb2.size (by first | (simp; done) | (simp; omega))
    have Zb3 : w9.heap.size ≤ w3_.heap.size := Nat.le_trans Zb2 hg3.size
    refine hK.out _ _ Hb3 fun _ => ?_
    clear hK K
    try simp only [la0, la1, la2, Act.put, la3, la4, la5]
    refine wpAnyH_take (i := 10) (v := ?_) rfl (by kernel_rfl) (by kernel_rfl) (by kernel_rfl) (fun _ _ _ h => h) (Or.inl ⟨by rfl, ?_⟩) Hb3 ?_
    rotate_left
    · intro wS hSw
      go_simp
      try with_reducible rfl
    try simp only [la0, la1, la2, Act.put, la3, la4, la5]
    refine wpAnyH_done (by kernel_rfl) ?_ _
    have HFy := Lib.hid (fG3.fol Hb3)
    have iF1 := Lib.hid HFy.out.info
    obtain ⟨y, hy⟩ : ∃ y, w1_.heap.size = y := ⟨_, rfl⟩
    have HYy := Lib.hid fY3
    have HBq := Lib.hid (below_of HB9.out Hb3 HB9.out.size)
    have HXq := Lib.hid (HX9.out.below Hb3)
    rw [hy] at HYy ⊢
    clear hy
    obtain ⟨wq, hwq⟩ : ∃ q, w3_ = q := ⟨_, rfl⟩
    rw [hwq] at HFy HYy HBq HXq ⊢
    go_wp2_with (first
      | (refine wpList_load_blk rfl 50 (.tmp 12) rfl y rfl 50 F1 _ HYy.out Try.underlying50 rfl iF1.out ?_)
      | (refine wpList_load_blk rfl 38 (.tmp 5) rfl w.heap.size rfl 38 V _ HXq.out Try.underlying38 rfl iV.out ?_))
    refine (HR2.out F1 wq HFy.out (HVe.out.below HBq.out)).mono ?_
    rintro e wr ⟨F2, rfl, hF2, hbr⟩
    have HFr := Lib.hid (HFy.out.below hbr)
    have HYr := Lib.hid (HYy.out.below hbr)
    have HBr := Lib.hid (below_of HBq.out hbr HBq.out.size)
    have HXr := Lib.hid (HXq.out.below hbr)
    have HF2 := Lib.hid hF2
    have iF2 := Lib.hid hF2.info
    have zF2 := Lib.hid hF2.size
    have aF2 := Lib.hid hF2.all
    clear hbr hF2 HFy HYy HBq HXq
    go_upto_region 11 with (
      (refine wpList_put_blk rfl 50 (.tmp 14) (.tmp 67) rfl wr.heap.size F2 rfl rfl 50 (Mir.folA z32 0 0 (.slice none 0 0) (.slice none 0 0)) (Blk.new wr 50 (Mir.folA z32 0 0 (.slice none 0 0) (.slice none 0 0))) iF2.out (by rw [Mir.folA_size z32_length, zF2.out]) aF2.out ?_
       intro ws HZ hg hz
       have HZs := Lib.hid HZ
       have hbs := Lib.hid (below_put hg)
       clear hg hz HZ))
    obtain ⟨A1, ca1, B1, cb1, hFe, hd1, hI1, hB1, hca1, -⟩ := HFr.out
    have f33 : F1[33]? = some (.int .i64 1) := by rw [hFe, ← Hf1.out.1]; exact Mir.folA_hi hd1.1 _ _ _ _ 1
    have f34 : F1[34]? = some (.slice A1 n ca1) := by rw [hFe, ← He1.out.1]; have := Mir.folA_hi hd1.1 f1.many f1.no (.slice A1 f1.it.length ca1) (.slice B1 f1.ea.length cb1) 2; rw [Hf1.out.2.1] at this ⊢; exact this
    have y33 : ws.cell? ⟨y, 33, none⟩ = some (.int .i64 1) := ((HYr.out.below hbs.out).cell 33).trans f33
    have y34 : ws.cell? ⟨y, 34, none⟩ = some (.slice A1 n ca1) := ((HYr.out.below hbs.out).cell 34).trans f34
    rw [Hf1.out.2.1] at hI1
    have HI1 := Lib.hid (hI1.below hbs.out)
    have HBs := Lib.hid (below_of HBr.out hbs.out HBr.out.size)
    have HXs := Lib.hid (HXr.out.below hbs.out)
    have HF2s := Lib.hid (HF2.out.below hbs.out)
    obtain ⟨z, hz⟩ : ∃ z, wr.heap.size = z := ⟨_, rfl⟩
    rw [hz] at HZs ⊢
    clear hz hbs hFe hd1 hI1 hB1 hca1 f33 f34 HFr HYr HBr HXr HF2
    go_wp2_with (fail)
    refine (HSm.out A1 ca1 ws HI1.out (HI.out.below HBs.out)).mono ?_
    rintro e wt ⟨rfl, hbt⟩
    have HBt := Lib.hid (below_of HBs.out hbt HBs.out.size)
    have HXt := Lib.hid (HXs.out.below hbt)
    have HZt := Lib.hid (HZs.out.below hbt)
    have HF2t := Lib.hid (HF2s.out.below hbt)
    clear hbt y33 y34 HI1 HBs HXs HZs HF2s HSm
    rcases Hcs.out with ⟨q1, q2⟩ | ⟨q1, q2, q3⟩
    · subst q1
      have d0 : decide (E2 = 0) = false := by simpa using q2
      have b0 : (E2 != 0) = true := by simpa using q2
      clear q2
      go_wp2_with (first
        | (refine wpList_load_blk rfl 50 (.tmp 14) rfl z rfl 50 F2 _ HZt.out Try.underlying50 rfl iF2.out ?_)
        | (refine wpList_built rfl 50 #[] rfl [] (by simp) Z0 bZ.out ?_))
      refine (HS0.out F2 wt HF2t.out).mono ?_
      rintro e wu ⟨rfl, hbu⟩
      go_wp2_with (fail)
      go_ret
      exact ⟨rfl, below_of HBt.out hbu HBt.out.size⟩
    · subst q1
      have c0 : wt.cell? ⟨w.heap.size, 0, none⟩ = some (.int .i64 v.no) := (HXt.out.cell 0).trans HVe.out.c0
      have c33 : wt.cell? ⟨z, 33, none⟩ = some (.int .i64 f2.no) := (HZt.out.cell 33).trans HF2t.out.hi.1
      have d1 : decide (1 < v.no) = true := by simpa using q2
      have d2 : decide (1 ≤ f2.no) = true := by simpa using q3
      clear q2 q3
      go_wp2_with (fail)
      go_ret
      exact ⟨rfl, HBt.out⟩
  · go_simp
    generalize hge : World.alloc _ _ = w1_
    have fY1 : Blk w1_ wd.heap.size 50 ((Mir.folA z32 0 0 (.slice none 0 0) (.slice none 0 0))) := by subst hge; exact Blk.new _ _ _
    have hb1 : Below wd.heap.size wd w1_ := by subst hge; exact (Below.refl _ _).alloc (Nat.le_refl _) _
    clear hge
    have loY1 : w9.heap.size ≤ wd.heap.size := Zd
    have Hb1 : Below w9.heap.size w9 w1_ := below_of Hd hb1 Hd.size
    have Zb1 : w9.heap.size ≤ w1_.heap.size := Nat.le_trans Zd hb1.size
    refine hK.out _ _ Hb1 fun _ => ?_
    clear hK K
    try simp only [la0, la1, la2, Act.put, la3, la4, la5]
    refine wpAnyH_ready (rs := [4]) (by kernel_rfl) (by simp) (AllReadyH.cons rfl (fun K hK => ?_) AllReadyH.nil)
    go_simp
    have hlY2 := fY1.lt
    refine (HR1.out w9 F0 U w1_ Hb1 HF9.out HU.out).mono ?_
    rintro e w2_ ⟨F1, rfl, hG2, hb2⟩
    have fG2 := RcK.of hG2
    have hn2 : FolC w2_ f1 F1 := hG2.now (below_of Hb1 hb2 Hb1.size)
    have iF1a := hn2.info
    have zF1a := hn2.size
    have aF1a := hn2.all
    have hz2a := hb2.size
    have fY2 := fY1.below hb2
    have Hb2 : Below w9.heap.size w9 w2_ := below_of Hb1 hb2 Hb1.size
    have Zb2 : w9.heap.size ≤ w2_.heap.size := Nat.le_trans Zb1 hb2.size
    go_wp2_with (fail)
    refine hK.out _ _ Hb2 fun _ => ?_
    clear hK K
    try simp only [la0, la1, la2, Act.put, la3, la4, la5]
    refine wpAnyH_take (i := 5) (v := ?_) rfl (by kernel_rfl) (by kernel_rfl) (by kernel_rfl) (fun _ _ _ h => h) (Or.inl ⟨by rfl, ?_⟩) Hb2 ?_
    rotate_left
    · intro wS hSw
      go_simp
      try with_reducible rfl
    try simp only [la0, la1, la2, Act.put, la3, la4, la5]
    refine wpAnyH_take (i := 6) (v := ?_) rfl (by kernel_rfl) (by kernel_rfl) (by kernel_rfl) (fun _ _ _ h => h) (Or.inl ⟨by rfl, ?_⟩) Hb2 ?_
    rotate_left
    · intro wS hSw
      go_simp
      try with_reducible rfl
    try simp only [la0, la1, la2, Act.put, la3, la4, la5]
    refine wpAnyH_take (i := 7) (v := ?_) rfl (by kernel_rfl) (by kernel_rfl) (by kernel_rfl) (fun _ _ _ h => h) (Or.inl ⟨by rfl, ?_⟩) Hb2 ?_
    rotate_left
    · intro wS hSw
      go_simp
      try with_reducible rfl
    try simp only [la0, la1, la2, Act.put, la3, la4, la5]
    refine wpAnyH_ready (rs := [9]) (by kernel_rfl) (by simp) (AllReadyH.cons rfl (fun K hK => ?_) AllReadyH.nil)
    refine step_put_blk (by rfl) _ _ _ (by rfl) (wd.heap.size) (F1) (by rfl) (by rfl) _ _ fY2 iF1a (by rw [Mir.folA_size z32_length, zF1a]) aF1a ?_
    intro w3_ fY3 hg3 hz3
    have fG3 := fG2.grown hg3 (fun g e => by injection e with e; subst e; exact (fun hh => by omega))
    have Hb3 : Below w9.heap.size w9 w3_ := below_grown Hb2 hg3 Hb2.size (by first | (simp; done) | (simp; omega))
    have Zb3 : w9.heap.size ≤ w3_.heap.size := Nat.le_trans Zb2 hg3.size
    refine hK.out _ _ Hb3 fun _ => ?_
    clear hK K
    try simp only [la0, la1, la2, Act.put, la3, la4, la5]
    refine wpAnyH_take (i := 10) (v := ?_) rfl (by kernel_rfl) (by kernel_rfl) (by kernel_rfl) (fun _ _ _ h => h) (Or.inl ⟨by rfl, ?_⟩) Hb3 ?_
    rotate_left
    · intro wS hSw
      go_simp
      try with_reducible rfl
    try simp only [la0, la1, la2, Act.put, la3, la4, la5]
    refine wpAnyH_done (by kernel_rfl) ?_ _
    have HFy := Lib.hid (fG3.fol Hb3)
    have iF1 := Lib.hid HFy.out.info
    obtain ⟨y, hy⟩ : ∃ y, wd.heap.size = y := ⟨_, rfl⟩
    have HYy := Lib.hid fY3
    have HBq := Lib.hid (below_of HB9.out Hb3 HB9.out.size)
    have HXq := Lib.hid (HX9.out.below Hb3)
    rw [hy] at HYy ⊢
    clear hy
    obtain ⟨wq, hwq⟩ : ∃ q, w3_ = q := ⟨_, rfl⟩
    rw [hwq] at HFy HYy HBq HXq ⊢
    go_wp2_with (first
      | (refine wpList_load_blk rfl 50 (.tmp 12) rfl y rfl 50 F1 _ HYy.out Try.underlying50 rfl iF1.out ?_)
      | (refine wpList_load_blk rfl 38 (.tmp 5) rfl w.heap.size rfl 38 V _ HXq.out Try.underlying38 rfl iV.out ?_))
    refine (HR2.out F1 wq HFy.out (HVe.out.below HBq.out)).mono ?_
    rintro e wr ⟨F2, rfl, hF2, hbr⟩
    have HFr := Lib.hid (HFy.out.below hbr)
    have HYr := Lib.hid (HYy.out.below hbr)
    have HBr := Lib.hid (below_of HBq.out hbr HBq.out.size)
    have HXr := Lib.hid (HXq.out.below hbr)
    have HF2 := Lib.hid hF2
    have iF2 := Lib.hid hF2.info
    have zF2 := Lib.hid hF2.size
    have aF2 := Lib.hid hF2.all
    clear hbr hF2 HFy HYy HBq HXq
    go_upto_region 11 with (
      (refine wpList_put_blk rfl 50 (.tmp 14) (.tmp 67) rfl wr.heap.size F2 rfl rfl 50 (Mir.folA z32 0 0 (.slice none 0 0) (.slice none 0 0)) (Blk.new wr 50 (Mir.folA z32 0 0 (.slice none 0 0) (.slice none 0 0))) iF2.out (by rw [Mir.folA_size z32_length, zF2.out]) aF2.out ?_
       intro ws HZ hg hz
       have HZs := Lib.hid HZ
       have hbs := Lib.hid (below_put hg)
       clear hg hz HZ))
    obtain ⟨A1, ca1, B1, cb1, hFe, hd1, hI1, hB1, hca1, -⟩ := HFr.out
    have f33 : F1[33]? = some (.int .i64 1) := by rw [hFe, ← Hf1.out.1]; exact Mir.folA_hi hd1.1 _ _ _ _ 1
    have f34 : F1[34]? = some (.slice A1 n ca1) := by rw [hFe, ← He1.out.1]; have := Mir.folA_hi hd1.1 f1.many f1.no (.slice A1 f1.it.length ca1) (.slice B1 f1.ea.length cb1) 2; rw [Hf1.out.2.1] at this ⊢; exact this
    have y33 : ws.cell? ⟨y, 33, none⟩ = some (.int .i64 1) := ((HYr.out.below hbs.out).cell 33).trans f33
    have y34 : ws.cell? ⟨y, 34, none⟩ = some (.slice A1 n ca1) := ((HYr.out.below hbs.out).cell 34).trans f34
    rw [Hf1.out.2.1] at hI1
    have HI1 := Lib.hid (hI1.below hbs.out)
    have HBs := Lib.hid (below_of HBr.out hbs.out HBr.out.size)
    have HXs := Lib.hid (HXr.out.below hbs.out)
    have HF2s := Lib.hid (HF2.out.below hbs.out)
    obtain ⟨z, hz⟩ : ∃ z, wr.heap.size = z := ⟨_, rfl⟩
    rw [hz] at HZs ⊢
    clear hz hbs hFe hd1 hI1 hB1 hca1 f33 f34 HFr HYr HBr HXr HF2
    go_wp2_with (fail)
    refine (HSm.out A1 ca1 ws HI1.out (HI.out.below HBs.out)).mono ?_
    rintro e wt ⟨rfl, hbt⟩
    have HBt := Lib.hid (below_of HBs.out hbt HBs.out.size)
    have HXt := Lib.hid (HXs.out.below hbt)
    have HZt := Lib.hid (HZs.out.below hbt)
    have HF2t := Lib.hid (HF2s.out.below hbt)
    clear hbt y33 y34 HI1 HBs HXs HZs HF2s HSm
    rcases Hcs.out with ⟨q1, q2⟩ | ⟨q1, q2, q3⟩
    · subst q1
      have d0 : decide (E2 = 0) = false := by simpa using q2
      have b0 : (E2 != 0) = true := by simpa using q2
      clear q2
      go_wp2_with (first
        | (refine wpList_load_blk rfl 50 (.tmp 14) rfl z rfl 50 F2 _ HZt.out Try.underlying50 rfl iF2.out ?_)
        | (refine wpList_built rfl 50 #[] rfl [] (by simp) Z0 bZ.out ?_))
      refine (HS0.out F2 wt HF2t.out).mono ?_
      rintro e wu ⟨rfl, hbu⟩
      go_wp2_with (fail)
      go_ret
      exact ⟨rfl, below_of HBt.out hbu HBt.out.size⟩
    · subst q1
      have c0 : wt.cell? ⟨w.heap.size, 0, none⟩ = some (.int .i64 v.no) := (HXt.out.cell 0).trans HVe.out.c0
      have c33 : wt.cell? ⟨z, 33, none⟩ = some (.int .i64 f2.no) := (HZt.out.cell 33).trans HF2t.out.hi.1
      have d1 : decide (1 < v.no) = true := by simpa using q2
      have d2 : decide (1 ≤ f2.no) = true := by simpa using q3
      clear q2 q3
      go_wp2_with (fail)
      go_ret
      exact ⟨rfl, HBt.out⟩
theorem mirrorStranger_own : ownKnob Try.prog.godebug = none := by kernel_rfl
theorem mirrorStranger_laidOut : laidOutB Try.prog = true := by kernel_rfl
theorem mirrorStranger_readable : (Try.f4.params.toList.all fun t => Try.prog.readableRec t && decide (t < Try.prog.types.size)) = true := by kernel_rfl
set_option maxRecDepth 100000 in
theorem mirrorStranger_lifted (os : Os) (started : os.Started) (H : Type) (enc : TypeId × Value → H) :
    ReturnsInHanded {} Try.checked os 4 .any (Rows.mirrorStrangerSpec.pre6 enc Try.prog Try.f4 Rows.mirrorStrangerRow.domain false) (Rows.mirrorStrangerSpec.post enc Try.prog Try.f4 false true false false) := by
  refine returnsInHanded_of_change (C := Try.checked) mirrorStranger_own started (by kernel_rfl) Try.func4
    (ChangeSpec.witness6 (enc := enc) (C := Try.checked) false ⟨#[], #[.int .u8 0, .slice none 0 0, .agg Mir.ver0], []⟩ 8 (by kernel_rfl) (by kernel_rfl) (by kernel_rfl) (by kernel_rfl)) ?_
  intro W base args ds gs before hval0 hW hcnd _
  have hval : ∀ (j : Nat) t v, Try.f4.params[j]? = some t → args[j]? = some v → Value.okWide Try.prog W .any base t v := hval0
  have hW' := hW
  obtain ⟨p, q, hA0, hV, rfl, hfz, hnd⟩ := hW
  have hA : DataW.TrodAll enc Try.prog W 0 (fun _ => true) true Try.f4.params.toList args.toList ds p := hA0
  rw [Try.params4] at hA hval
  obtain ⟨v0, vs0, d0, ds0, p0, q0, hargs, rfl, rfl, h0, r0⟩ := trodAll_cons hA
  obtain ⟨v1, vs1, d1, ds1, p1, q1, rfl, rfl, rfl, h1, r1⟩ := trodAll_cons r0
  obtain ⟨v2, vs2, d2, ds2, p2, q2, rfl, rfl, rfl, h2, r2⟩ := trodAll_cons r1
  obtain ⟨rfl, rfl, rfl⟩ := trodAll_nil r2
  obtain rfl : args = #[v0, v1, v2] := by cases args; simp_all
  obtain ⟨rfl, rfl⟩ := trodVars_none hV
  obtain ⟨a0, rfl, rfl, rfl, w0⟩ := open_int Try.underlying5 (hval 0 5 v0 rfl rfl) h0
  obtain ⟨A1, n1, c1, l1, rfl, e1, nc1, cm1, g1⟩ := open_items (hval 1 22 v1 rfl rfl) h1
  obtain ⟨x2, V2, rfl, g2⟩ := open_version (hval 2 38 v2 rfl rfl) h2
  refine (MirrorStranger_walk W a0 w0 A1 n1 c1 l1 e1 nc1 cm1 g1 x2 V2 g2).mono fun e W' ⟨he, hb⟩ => ?_
  subst he
  simp only [List.append_nil] at hW'
  refine ⟨_, rfl, law_post mirrorStranger_laidOut ?_ (by kernel_rfl) Try.underlying4 rfl hW' rfl rfl rfl hb⟩
  intro t ht
  have hr := List.all_eq_true.1 mirrorStranger_readable t ht
  rw [Bool.and_eq_true] at hr
  exact ⟨hr.1, of_decide_eq_true hr.2⟩
theorem mirrorStranger_over : Rows.mirrorStrangerRow.holds Try.pinned (OpenSpec.ofChange Rows.mirrorStrangerSpec) :=
  OpenClaim.holds_of_wide 4 Try.f4 rfl rfl rfl rfl rfl rfl rfl ⟨rfl, rfl, rfl, rfl, rfl⟩ rfl rfl rfl rfl rfl (by kernel_rfl) Try.func4 (by kernel_rfl)
    (of_decide_eq_true (by kernel_rfl)) (by unfold Func.isWrapper; rw [if_neg (of_decide_eq_false (by kernel_rfl))]; exact ⟨rfl, rfl⟩)
    (fun os started H enc _ => mirrorStranger_lifted os started H enc)
theorem mirrorStranger_proved : Rows.MirrorStrangerSaid := mirrorStranger_over
#print axioms mirrorStranger_proved
end Go.Proofs.Ytkflpoiobpblhaa
