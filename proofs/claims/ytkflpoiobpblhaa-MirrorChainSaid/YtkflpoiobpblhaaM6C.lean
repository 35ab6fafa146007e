/- The statement MirrorChainSaid: for every two states that are published one after the other, a follower that receives the versions in any order shows one of these states or nothing, never an older one, and in the end the last one; no condition beside the row's own. -/
import Derived.ChangeMaps5
import Derived.Deep.RegionHeld3
import Derived.Test.YtkflpoiobpblhaaMKdC
import Derived.Test.YtkflpoiobpblhaaMLwC
import Derived.Test.YtkflpoiobpblhaaMOpC
namespace Go.Proofs.Ytkflpoiobpblhaa
open Go.RowKit Go.WideShapes Go.ChangeShapes Go.ChangeAt
set_option linter.unusedVariables false
set_option linter.unusedSimpArgs false
set_option maxRecDepth 100000 in
set_option maxHeartbeats 8000000 in
theorem MirrorChain_walk (w : World) (a0 : Int) (w0 : Lit.wf (.int .u8 a0) = true) (A : Option Addr) (n c : Nat) (la : List Mir.It) (e1 : la.length = n) (nc : n ≤ c) (cm : c ≤ maxLen) (I : ItemsC w A la) (B : Option Addr) (m d : Nat) (lb : List Mir.It) (e2 : lb.length = m) (md : m ≤ d) (dm : d ≤ maxLen) (J : ItemsC w B lb) (Q : Option Addr) (np cp : Nat) (xs : List Int) (e3 : xs.length = np) (ncp : np ≤ cp) (cpm : cp ≤ maxLen) (hQ : Cells w Q (xs.map (Value.int .u8))) (hw : ∀ x ∈ xs, (Lit.int .u8 x).wf = true) :
    Calls Try.prog 6 #[.int .u8 a0, .slice A n c, .slice B m d, .slice Q np cp] w (Fine w) := by
  obtain ⟨b, hb8, rfl⟩ := byte_of w0
  obtain ⟨pk, hpl, hp8, hPk⟩ := open_picks hQ hw
  rw [e3] at hpl
  have HI := Lib.hid I
  have HJ := Lib.hid J
  have HPk := Lib.hid hPk
  have Hpl := Lib.hid hpl
  have Hp8 := Lib.hid hp8
  have HFa := Lib.hid (fun W h => rfew_any A n c la W e1 (by unfold maxLen at cm; omega) h)
  have HFb := Lib.hid (fun W h => rfew_any B m d lb W e2 (by unfold maxLen at dm; omega) h)
  have He1 := Lib.hid (And.intro e1 (And.intro nc cm))
  have He2 := Lib.hid (And.intro e2 (And.intro md dm))
  have Hb8 := Lib.hid hb8
  clear w0 I J hPk hpl hp8 hQ hw e3 ncp cpm e1 nc cm e2 md dm hb8
  obtain ⟨fa, hfa⟩ : ∃ x, Mir.fewI la = x := ⟨_, rfl⟩
  obtain ⟨fb, hfb⟩ : ∃ x, Mir.fewI lb = x := ⟨_, rfl⟩
  obtain ⟨Ea, hEa⟩ : ∃ x, Mir.itE la = x := ⟨_, rfl⟩
  obtain ⟨Eb, hEb⟩ : ∃ x, Mir.itE lb = x := ⟨_, rfl⟩
  rw [hfa] at HFa
  rw [hfb] at HFb
  have Hfa := Lib.hid hfa
  have Hfb := Lib.hid hfb
  have HEa := Lib.hid hEa
  have HEb := Lib.hid hEb
  clear hfa hfb hEa hEb
  go_enter Try.func6, Try.ntmps6
  go_wp2_with (fail)
  refine (sane_any w).mono ?_
  rintro e w1 ⟨rfl, hb1⟩
  have HB1 := Lib.hid hb1
  clear hb1
  go_wp2_with (fail)
  refine (HFa.out w1 (HI.out.below HB1.out)).mono ?_
  rintro e w2 ⟨rfl, rfl⟩
  cases fa with
  | false =>
    go_wp2_with (fail)
    go_ret
    exact ⟨rfl, HB1.out⟩
  | true =>
  go_wp2_with (fail)
  refine (HFb.out _ (HJ.out.below HB1.out)).mono ?_
  rintro e w3 ⟨rfl, rfl⟩
  cases fb with
  | false =>
    go_wp2_with (fail)
    go_ret
    exact ⟨rfl, HB1.out⟩
  | true =>
  have fa' := Mir.fewI_ok Hfa.out
  have fb' := Mir.fewI_ok Hfb.out
  have HCa := Lib.hid (fun W h => pcheck_any A n c la W He1.out.1 (by have := fa'.1; have := He1.out.1; omega) h)
  have HCb := Lib.hid (fun W h => pcheck_any B m d lb W He2.out.1 (by have := fb'.1; have := He2.out.1; omega) h)
  rw [HEa.out] at HCa
  rw [HEb.out] at HCb
  have Hfa' := Lib.hid fa'
  have Hfb' := Lib.hid fb'
  clear fa' fb'
  go_wp2_with (fail)
  refine (HCa.out _ (HI.out.below HB1.out)).mono ?_
  rintro e w4 ⟨rfl, hb4⟩
  have HB4 := Lib.hid (below_of HB1.out hb4 HB1.out.size)
  clear hb4 HB1
  by_cases h0 : Ea = 0
  rotate_left
  · have d0 : decide (Ea = 0) = false := by simpa using h0
    have b0 : (Ea != 0) = true := by simpa using h0
    go_wp2_with (fail)
    go_ret
    exact ⟨rfl, HB4.out⟩
  subst h0
  go_wp2_with (fail)
  refine (HCb.out _ (HJ.out.below HB4.out)).mono ?_
  rintro e w5 ⟨rfl, hb5⟩
  have HB5 := Lib.hid (below_of HB4.out hb5 HB4.out.size)
  clear hb5 HB4
  by_cases h0 : Eb = 0
  rotate_left
  · have d0 : decide (Eb = 0) = false := by simpa using h0
    have b0 : (Eb != 0) = true := by simpa using h0
    go_wp2_with (fail)
    go_ret
    exact ⟨rfl, HB5.out⟩
  subst h0
  by_cases h4 : 4 < np
  · have d4 : decide ((4 : Int) < (np : Int)) = true := by simp; omega
    have d5 : decide (4 < np) = true := by simpa using h4
    go_wp2_with (fail)
    go_ret
    exact ⟨rfl, HB5.out⟩
  have d4 : decide ((4 : Int) < (np : Int)) = false := by simp; omega
  have d5 : decide (4 < np) = false := by simpa using h4
  have oka : Mir.okS la := ⟨HEa.out, Hfa'.out.1, Hfa'.out.2⟩
  have okb : Mir.okS lb := ⟨HEb.out, Hfb'.out.1, Hfb'.out.2⟩
  obtain ⟨P, hP⟩ : ∃ P, Mir.rootK [b] = P := ⟨_, rfl⟩
  have HPd := Lib.hid (show IsD P by rw [← hP]; exact treeS_isD _)
  have HCh := Lib.hid (fun S W h => chain_any b Hb8.out S 2 2 [la, lb] W h rfl (by omega) (fun x hx => by
    rcases List.mem_cons.1 hx with rfl | hx
    · exact oka
    · rw [List.mem_singleton] at hx; rw [hx]; exact okb))
  rw [hP, Mir.vsK_two] at HCh
  have HJn := Lib.hid (fun W => join_fol P 2 W HPd.out)
  rw [if_pos Mir.manyB_two, if_pos Mir.manyB_two, show (⟨P, 2, 0, [], []⟩ : Mir.Fo) = Mir.fK [b] la lb false false by unfold Mir.fK Mir.f0K; rw [hP]] at HJn
  have la3 : la.length ≤ 30000 := by have := oka.2.1; omega
  have lb3 : lb.length ≤ 30000 := by have := okb.2.1; omega
  have HRg := Lib.hid (fun g0 g1 p h => Mir.rcv_got (s := [b]) HEa.out HEb.out la3 lb3 g0 g1 p h)
  have HRn := Lib.hid (fun g0 g1 p h => Mir.rcv_new (s := [b]) HEa.out HEb.out la3 lb3 g0 g1 p h)
  have HOk := Lib.hid (fun g0 g1 => Mir.fK_ok (s := [b]) HEa.out HEb.out la3 lb3 g0 g1)
  have HSv1 := Lib.hid (Mir.v1_small (s := [b]) oka)
  have HSv2 := Lib.hid (Mir.v2_small (s := [b]) oka okb)
  have HSf := Lib.hid (fun g0 g1 => show Mir.SmF (Mir.fK [b] la lb g0 g1) from Mir.fK_small oka okb g0 g1)
  obtain ⟨v1, hv1⟩ : ∃ v, Mir.v1K [b] la = v := ⟨_, rfl⟩
  obtain ⟨v2, hv2⟩ : ∃ v, Mir.v2K [b] la lb = v := ⟨_, rfl⟩
  rw [hv1, hv2] at HCh
  rw [hv1] at HSv1
  rw [hv2] at HSv2
  have HRg1 := Lib.hid (fun g1 => HRg.out true g1 false rfl)
  have HRg2 := Lib.hid (fun g0 => HRg.out g0 true true rfl)
  have HRn1 := Lib.hid (fun g1 => HRn.out false g1 false rfl)
  have HRn2 := Lib.hid (fun g0 => HRn.out g0 false true rfl)
  simp only [Mir.vK, hv1, hv2, Bool.not_false, Bool.not_true, Bool.or_true, Bool.or_false, if_true, Bool.false_eq_true, if_false] at HRg1 HRg2 HRn1 HRn2
  clear HRg HRn hv1 hv2 oka okb la3 lb3 HFa HFb HCa HCb Hfa Hfb
  go_wp2_with (fail)
  generalize hge : World.alloc _ _ = w6
  have HT6 := Lib.hid (show Blk w6 w5.heap.size 22 #[.slice A n c, .slice B m d] by subst hge; exact Blk.new _ _ _)
  have HB6 := Lib.hid (show Below w.heap.size w w6 by subst hge; exact below_of HB5.out ((Below.refl _ _).alloc (Nat.le_refl _) _) HB5.out.size)
  clear hge HB5 d4 d5
  refine (HCh.out _ w6 (states_two HT6.out He1.out.1 He1.out.2.1 He1.out.2.2 (HI.out.below HB6.out) He2.out.1 He2.out.2.1 He2.out.2.2 (HJ.out.below HB6.out))).mono ?_
  rintro e w7 ⟨Av, cv, rfl, hVs, hcv1, hcv2, hb7⟩
  have HB7 := Lib.hid (below_of HB6.out hb7 HB6.out.size)
  have HV7 := Lib.hid hVs
  clear hb7 hVs HB6 HT6 HCh
  go_wp2_with (first
    | (refine wpList_put_blk rfl 28 (.tmp 9) (.tmp 52) rfl w7.heap.size (arrK .u8 P) rfl rfl 28 (arrK .u8 z32) (Blk.new w7 28 (arrK .u8 z32)) (info32 HPd.out.1) (by rw [len32 HPd.out.1, len32 z32_length]) (arrK_all _ _) ?_
       intro w8 HZ hg hz
       have HP8 := Lib.hid HZ
       have hb8 := Lib.hid (below_put hg)
       clear hg hz HZ)
    | (refine wpList_load_blk rfl 28 (.tmp 9) rfl w7.heap.size rfl 28 (arrK .u8 P) (.array 32 5) HP8.out (by kernel_rfl) rfl (info32 HPd.out.1) ?_))
  have HB8 := Lib.hid (below_of HB7.out hb8.out HB7.out.size)
  have HV8 := Lib.hid (HV7.out.below hb8.out)
  clear HB7 HV7 hb8 HP8
  refine (HJn.out w8).mono ?_
  rintro e w9 ⟨F0, rfl, hF0, hb9⟩
  have HB9 := Lib.hid (below_of HB8.out hb9 HB8.out.size)
  have hV9 := HV8.out.below hb9
  have HF9 := Lib.hid hF0
  have iF0 := Lib.hid hF0.info
  have zF0 := Lib.hid hF0.size
  have aF0 := Lib.hid hF0.all
  obtain ⟨bV, oV, rfl, hbV, hat⟩ := hV9.at_ (by simp)
  obtain ⟨V1, hV1, hR1⟩ := hat 0 v1 rfl
  obtain ⟨V2, hV2, hR2⟩ := hat 1 v2 rfl
  obtain ⟨L1, rfl⟩ : ∃ VL : List Value, V1 = VL.toArray := ⟨V1.toList, by simp⟩
  obtain ⟨L2, rfl⟩ : ∃ VL : List Value, V2 = VL.toArray := ⟨V2.toList, by simp⟩
  have HR1 := Lib.hid (show w9.rangeAt bV oV L1 by simpa using hR1)
  have HR2 := Lib.hid (show w9.rangeAt bV (oV + 38) L2 by simpa using hR2)
  have HV1 := Lib.hid hV1
  have HV2 := Lib.hid hV2
  clear hF0 hb9 HB8 HV8 HJn hV9 hbV hat hV1 hV2 hR1 hR2
  go_wp2_with (
    (refine wpList_put_blk rfl 50 (.tmp 12) (.tmp 58) rfl w9.heap.size F0 rfl rfl 50 (Mir.folA z32 0 0 (.slice none 0 0) (.slice none 0 0)) (Blk.new w9 50 (Mir.folA z32 0 0 (.slice none 0 0) (.slice none 0 0))) iF0.out (by rw [Mir.folA_size z32_length, zF0.out]) aF0.out ?_
     intro w10 HZ hg hz
     have HX10 := Lib.hid HZ
     have hb10 := Lib.hid (below_put hg)
     clear hg hz HZ))
  generalize hge : World.alloc _ _ = w11
  have HG11 := Lib.hid (show Blk w11 w10.heap.size 59 #[.bool false, .bool false] by subst hge; exact Blk.new _ _ _)
  have hb11 : Below w10.heap.size w10 w11 := by subst hge; exact (Below.refl _ _).alloc (Nat.le_refl _) _
  have HX11 := Lib.hid (HX10.out.below hb11)
  have HF11 := Lib.hid ((HF9.out.below hb10.out).below hb11)
  have HL11 := Lib.hid (below_of hb10.out hb11 hb10.out.size)
  have hxg : w9.heap.size < w10.heap.size := HX10.out.lt
  obtain ⟨x, hx⟩ : ∃ x, w9.heap.size = x := ⟨_, rfl⟩
  have Hx := Lib.hid hx
  obtain ⟨gt, hgt⟩ : ∃ x, w10.heap.size = x := ⟨_, rfl⟩
  rw [hx] at HX11 hxg ⊢
  rw [hgt] at HG11 hxg ⊢
  clear hge hb10 hb11 HX10 HF9 hx hgt iF0 zF0 aF0
  go_loopw [73] (fun i W => ∃ (k : Nat) (g0 g1 : Bool) (F : Array Value), k ≤ np ∧ i = .int .i64 (k : Int) ∧ Hid (FolC W (Mir.fK [b] la lb g0 g1) F) ∧ Hid (Blk W x 50 F) ∧ Hid (Blk W gt 59 #[.bool g0, .bool g1]) ∧ Hid (Below w9.heap.size w9 W)) (fun i _ => np - (intOf i).toNat)
  case atStart => exact ⟨0, false, false, F0, by omega, rfl, HF11, HX11, HG11, HL11⟩
  case round =>
    obtain ⟨wk, rfl⟩ : ∃ wk : World, wk = wr := ⟨_, rfl⟩
    obtain ⟨k, g0, g1, F, hk, rfl, hF, hX, hG, hL⟩ := hrel
    have HBk := Lib.hid (below_of HB9.out hL.out HB9.out.size)
    by_cases hlt : k < np
    · obtain ⟨y, hy⟩ := getElem?_lt (l := pk) (k := k) (by rw [Hpl.out]; exact hlt)
      obtain ⟨bQ, oQ, rfl, hbQ, hcQ⟩ := HPk.out.addr (by rw [bytesV_length, Hpl.out]; omega)
      have cQ : wk.cell? ⟨bQ, oQ + k, none⟩ = some (.int .u8 (y : Int)) := (HBk.out.cell (p := ⟨bQ, oQ + k, none⟩) hbQ).trans (hcQ k _ (by unfold bytesV; rw [List.getElem?_map, hy]; rfl))
      have hy8 : y < 256 := Hp8.out _ (List.mem_of_getElem? hy)
      clear hcQ hy
      rcases Nat.mod_two_eq_zero_or_one y with hr | hr
      case' inl =>
        have r1 : (y : Int) % 2 = 0 := by omega
        have r2 : Int.tmod (y : Int) 2 = 0 := by rw [Int.tmod_eq_emod_of_nonneg (by omega)]; omega
        have iV := HV1.out.info
        have zV := HV1.out.size
        have aV := HV1.out.all
        go_upto_region 14 with (first
          | (refine wpList_load_mid rfl 38 (.tmp 80) rfl bV oV rfl L1 _ (range_below HR1.out hL.out) Try.underlying38 rfl iV ?_)
          | (refine wpList_put_blk rfl 38 (.tmp 17) (.tmp 81) rfl wk.heap.size L1.toArray rfl rfl 38 Mir.ver0 (Blk.new wk 38 Mir.ver0) iV (by rw [Mir.ver0_size, zV]) aV ?_
             intro wa HZ hg hz
             have HYa := Lib.hid HZ
             have hba := Lib.hid (below_put hg)
             clear hg hz HZ))
        have HBa := Lib.hid (below_of HBk.out hba.out HBk.out.size)
        have HXa := Lib.hid (hX.out.below hba.out)
        have HGa := Lib.hid (hG.out.below hba.out)
        have HFa := Lib.hid (hF.out.below hba.out)
        have HLa := Lib.hid (below_of hL.out hba.out hL.out.size)
        have iF := Lib.hid HFa.out.info
        obtain ⟨yb, hyb⟩ : ∃ x, wk.heap.size = x := ⟨_, rfl⟩
        rw [hyb] at HYa ⊢
        clear hyb hba HBk hX hG hF hL cQ r1 r2
        go_wp2_with (first
          | (refine wpList_load_blk rfl 50 (.tmp 12) rfl x rfl 50 F _ HXa.out Try.underlying50 rfl iF.out ?_)
          | (refine wpList_load_blk rfl 38 (.tmp 17) rfl yb rfl 38 L1.toArray _ HYa.out Try.underlying38 rfl iV ?_))
        refine (receive_any _ v1 F L1.toArray wa HFa.out (HV1.out.below HLa.out) (HSf.out g0 g1) HSv1.out).mono ?_
        cases g0
        case true =>
          rw [HRg1.out g1]
          rintro e wb ⟨F2, rfl, hF2, hbb⟩
          have iF2 := Lib.hid hF2.info
          have zF2 := Lib.hid hF2.size
          have aF2 := Lib.hid hF2.all
          go_wp2_with (
            (refine wpList_put_blk rfl 50 (.tmp 18) (.tmp 86) rfl wb.heap.size F2 rfl rfl 50 (Mir.folA z32 0 0 (.slice none 0 0) (.slice none 0 0)) (Blk.new wb 50 (Mir.folA z32 0 0 (.slice none 0 0) (.slice none 0 0))) iF2.out (by rw [Mir.folA_size z32_length, zF2.out]) aF2.out ?_
             intro wc HZ hg hz
             have hbc := Lib.hid (below_of (hbb) (below_put hg) hbb.size)
             have kg := ((HGa.out.below hbc.out).cell 0)
             clear hg hz HZ))
          go_roundw
          case rel => exact ⟨k + 1, _, _, F, by omega, by go_num, Lib.hid (HFa.out.below hbc.out), Lib.hid (HXa.out.below hbc.out), Lib.hid (HGa.out.below hbc.out), Lib.hid (below_of HLa.out hbc.out HLa.out.size)⟩
          case measure => simp [intOf]; omega
        rw [HRn1.out g1]
        rintro e wb ⟨F2, rfl, hF2, hbb⟩
        have iF2 := Lib.hid hF2.info
        have zF2 := Lib.hid hF2.size
        have aF2 := Lib.hid hF2.all
        have HF2b := Lib.hid hF2
        have Hbb := Lib.hid hbb
        clear hF2 hbb
        go_upto_region 18 with (
          (refine wpList_put_blk rfl 50 (.tmp 18) (.tmp 86) rfl wb.heap.size F2 rfl rfl 50 (Mir.folA z32 0 0 (.slice none 0 0) (.slice none 0 0)) (Blk.new wb 50 (Mir.folA z32 0 0 (.slice none 0 0) (.slice none 0 0))) iF2.out (by rw [Mir.folA_size z32_length, zF2.out]) aF2.out ?_
           intro wc HZ hg hz
           have HX2c := Lib.hid HZ
           have hbc := Lib.hid (below_put hg)
           have HGc := Lib.hid (HGa.out.below (below_of Hbb.out hbc.out Hbb.out.size))
           have kg := HGc.out.cell 0
           have kf := HGc.out.frozen 0
           clear hg hz HZ))
        have hbac := below_of Hbb.out hbc.out Hbb.out.size
        have HBc := Lib.hid (below_of HBa.out hbac HBa.out.size)
        have HXc := Lib.hid (HXa.out.below hbac)
        have HFc := Lib.hid (HFa.out.below hbac)
        have HF2c := Lib.hid (HF2b.out.below hbc.out)
        have HLc := Lib.hid (below_of HLa.out hbac HLa.out.size)
        have hgx : gt < wb.heap.size := Nat.lt_of_lt_of_le HGa.out.lt Hbb.out.size
        obtain ⟨x2, hx2⟩ : ∃ z, wb.heap.size = z := ⟨_, rfl⟩
        rw [hx2] at HX2c hgx ⊢
        clear hx2 hbac hbc HBa HXa HFa HGa HYa HLa HF2b Hbb
        go_upto_region 19 with (fail)
        generalize hge : World.setCell _ _ _ = wd
        have hGd := Lib.hid (show Blk wd gt 59 #[.bool true, .bool g1] by subst hge; exact HGc.out.set_ 0 _)
        have hgd : wc.grownBy wd (some gt) := by subst hge; exact grown_setOne _
        have HX2d := Lib.hid (HX2c.out.grown hgd (by intro e; injection e with e; omega))
        have HXd := Lib.hid (HXc.out.grown hgd (by intro e; injection e with e; omega))
        have HBd := Lib.hid (below_grown HBc.out hgd HBc.out.size (fun k hk => by injection hk with hk; have := HB9.out.size; have := Hx.out; omega))
        have HLd := Lib.hid (below_grown HLc.out hgd HLc.out.size (fun k hk => by injection hk with hk; have := Hx.out; omega))
        clear hge kg kf HX2c HXc HBc HLc
        cases g1
        case' false =>
          have HNo0 := Lib.hid (show (Mir.fK [b] la lb false false).no = 0 from rfl)
          have HNo := Lib.hid (show (Mir.fK [b] la lb true false).no = 1 from rfl)
          have HLn := Lib.hid (show (Mir.fK [b] la lb true false).it.length = n from He1.out.1)
          have HSm := Lib.hid (fun (EB : Nat) A1 ca1 W (h1 : ItemsC W A1 (Mir.fK [b] la lb true false).it) (h2 : Below w.heap.size w W) => rsame_any A1 A n n ca1 c la la W He1.out.1 He1.out.1 (by have := He1.out.1; have := Hfa'.out.1; omega) h1 (HI.out.below h2))
          have Hpub := Lib.hid (show (Mir.fK [b] la lb true false).pub = (Mir.fK [b] la lb false false).pub from rfl)
        case' true =>
          have HNo0 := Lib.hid (show (Mir.fK [b] la lb false true).no = 0 from rfl)
          have HNo := Lib.hid (show (Mir.fK [b] la lb true true).no = 2 from rfl)
          have HLn := Lib.hid (show (Mir.fK [b] la lb true true).it.length = m from He2.out.1)
          have HSm := Lib.hid (fun (EB : Nat) A1 ca1 W (h1 : ItemsC W A1 (Mir.fK [b] la lb true true).it) (h2 : Below w.heap.size w W) => rsame_any A1 B m m ca1 d lb lb W He2.out.1 He2.out.1 (by have := He2.out.1; have := Hfb'.out.1; omega) h1 (HJ.out.below h2))
          have Hpub := Lib.hid (show (Mir.fK [b] la lb true true).pub = (Mir.fK [b] la lb false true).pub from rfl)
      case' inr =>
        have r1 : (y : Int) % 2 = 1 := by omega
        have r2 : Int.tmod (y : Int) 2 = 1 := by rw [Int.tmod_eq_emod_of_nonneg (by omega)]; omega
        have iV := HV2.out.info
        have zV := HV2.out.size
        have aV := HV2.out.all
        go_upto_region 14 with (first
          | (refine wpList_load_mid rfl 38 (.tmp 80) rfl bV (oV + 38) rfl L2 _ (range_below HR2.out hL.out) Try.underlying38 rfl iV ?_)
          | (refine wpList_put_blk rfl 38 (.tmp 17) (.tmp 81) rfl wk.heap.size L2.toArray rfl rfl 38 Mir.ver0 (Blk.new wk 38 Mir.ver0) iV (by rw [Mir.ver0_size, zV]) aV ?_
             intro wa HZ hg hz
             have HYa := Lib.hid HZ
             have hba := Lib.hid (below_put hg)
             clear hg hz HZ))
        have HBa := Lib.hid (below_of HBk.out hba.out HBk.out.size)
        have HXa := Lib.hid (hX.out.below hba.out)
        have HGa := Lib.hid (hG.out.below hba.out)
        have HFa := Lib.hid (hF.out.below hba.out)
        have HLa := Lib.hid (below_of hL.out hba.out hL.out.size)
        have iF := Lib.hid HFa.out.info
        obtain ⟨yb, hyb⟩ : ∃ x, wk.heap.size = x := ⟨_, rfl⟩
        rw [hyb] at HYa ⊢
        clear hyb hba HBk hX hG hF hL cQ r1 r2
        go_wp2_with (first
          | (refine wpList_load_blk rfl 50 (.tmp 12) rfl x rfl 50 F _ HXa.out Try.underlying50 rfl iF.out ?_)
          | (refine wpList_load_blk rfl 38 (.tmp 17) rfl yb rfl 38 L2.toArray _ HYa.out Try.underlying38 rfl iV ?_))
        refine (receive_any _ v2 F L2.toArray wa HFa.out (HV2.out.below HLa.out) (HSf.out g0 g1) HSv2.out).mono ?_
        cases g1
        case true =>
          rw [HRg2.out g0]
          rintro e wb ⟨F2, rfl, hF2, hbb⟩
          have iF2 := Lib.hid hF2.info
          have zF2 := Lib.hid hF2.size
          have aF2 := Lib.hid hF2.all
          go_wp2_with (
            (refine wpList_put_blk rfl 50 (.tmp 18) (.tmp 86) rfl wb.heap.size F2 rfl rfl 50 (Mir.folA z32 0 0 (.slice none 0 0) (.slice none 0 0)) (Blk.new wb 50 (Mir.folA z32 0 0 (.slice none 0 0) (.slice none 0 0))) iF2.out (by rw [Mir.folA_size z32_length, zF2.out]) aF2.out ?_
             intro wc HZ hg hz
             have hbc := Lib.hid (below_of (hbb) (below_put hg) hbb.size)
             have kg := ((HGa.out.below hbc.out).cell 1)
             clear hg hz HZ))
          go_roundw
          case rel => exact ⟨k + 1, _, _, F, by omega, by go_num, Lib.hid (HFa.out.below hbc.out), Lib.hid (HXa.out.below hbc.out), Lib.hid (HGa.out.below hbc.out), Lib.hid (below_of HLa.out hbc.out HLa.out.size)⟩
          case measure => simp [intOf]; omega
        rw [HRn2.out g0]
        rintro e wb ⟨F2, rfl, hF2, hbb⟩
        have iF2 := Lib.hid hF2.info
        have zF2 := Lib.hid hF2.size
        have aF2 := Lib.hid hF2.all
        have HF2b := Lib.hid hF2
        have Hbb := Lib.hid hbb
        clear hF2 hbb
        go_upto_region 18 with (
          (refine wpList_put_blk rfl 50 (.tmp 18) (.tmp 86) rfl wb.heap.size F2 rfl rfl 50 (Mir.folA z32 0 0 (.slice none 0 0) (.slice none 0 0)) (Blk.new wb 50 (Mir.folA z32 0 0 (.slice none 0 0) (.slice none 0 0))) iF2.out (by rw [Mir.folA_size z32_length, zF2.out]) aF2.out ?_
           intro wc HZ hg hz
           have HX2c := Lib.hid HZ
           have hbc := Lib.hid (below_put hg)
           have HGc := Lib.hid (HGa.out.below (below_of Hbb.out hbc.out Hbb.out.size))
           have kg := HGc.out.cell 1
           have kf := HGc.out.frozen 1
           clear hg hz HZ))
        have hbac := below_of Hbb.out hbc.out Hbb.out.size
        have HBc := Lib.hid (below_of HBa.out hbac HBa.out.size)
        have HXc := Lib.hid (HXa.out.below hbac)
        have HFc := Lib.hid (HFa.out.below hbac)
        have HF2c := Lib.hid (HF2b.out.below hbc.out)
        have HLc := Lib.hid (below_of HLa.out hbac HLa.out.size)
        have hgx : gt < wb.heap.size := Nat.lt_of_lt_of_le HGa.out.lt Hbb.out.size
        obtain ⟨x2, hx2⟩ : ∃ z, wb.heap.size = z := ⟨_, rfl⟩
        rw [hx2] at HX2c hgx ⊢
        clear hx2 hbac hbc HBa HXa HFa HGa HYa HLa HF2b Hbb
        go_upto_region 19 with (fail)
        generalize hge : World.setCell _ _ _ = wd
        have hGd := Lib.hid (show Blk wd gt 59 #[.bool g0, .bool true] by subst hge; exact HGc.out.set_ 1 _)
        have hgd : wc.grownBy wd (some gt) := by subst hge; exact grown_setOne _
        have HX2d := Lib.hid (HX2c.out.grown hgd (by intro e; injection e with e; omega))
        have HXd := Lib.hid (HXc.out.grown hgd (by intro e; injection e with e; omega))
        have HBd := Lib.hid (below_grown HBc.out hgd HBc.out.size (fun k hk => by injection hk with hk; have := HB9.out.size; have := Hx.out; omega))
        have HLd := Lib.hid (below_grown HLc.out hgd HLc.out.size (fun k hk => by injection hk with hk; have := Hx.out; omega))
        clear hge kg kf HX2c HXc HBc HLc
        cases g0
        case' false =>
          have HNo0 := Lib.hid (show (Mir.fK [b] la lb false false).no = 0 from rfl)
          have HNo := Lib.hid (show (Mir.fK [b] la lb false true).no = 0 from rfl)
          have HLn := Lib.hid (show (Mir.fK [b] la lb false true).it.length = 0 from rfl)
          have HSm := Lib.hid (fun (EB : Nat) A1 ca1 W (h1 : ItemsC W A1 (Mir.fK [b] la lb false true).it) (h2 : Below w.heap.size w W) => rsame_any A1 (some ⟨EB, 0, none⟩) 0 0 ca1 0 [] [] W rfl rfl (by omega) h1 ((ItemsC.nil_ w _).below h2))
          have Hpub := Lib.hid (show (Mir.fK [b] la lb false true).pub = (Mir.fK [b] la lb false false).pub from rfl)
        case' true =>
          have HNo0 := Lib.hid (show (Mir.fK [b] la lb true false).no = 1 from rfl)
          have HNo := Lib.hid (show (Mir.fK [b] la lb true true).no = 2 from rfl)
          have HLn := Lib.hid (show (Mir.fK [b] la lb true true).it.length = m from He2.out.1)
          have HSm := Lib.hid (fun (EB : Nat) A1 ca1 W (h1 : ItemsC W A1 (Mir.fK [b] la lb true true).it) (h2 : Below w.heap.size w W) => rsame_any A1 B m m ca1 d lb lb W He2.out.1 He2.out.1 (by have := He2.out.1; have := Hfb'.out.1; omega) h1 (HJ.out.below h2))
          have Hpub := Lib.hid (show (Mir.fK [b] la lb true true).pub = (Mir.fK [b] la lb true false).pub from rfl)
      all_goals
        rw [Mir.sameI_self] at HSm
        have HF2d := Lib.hid ((kd_bools hgd HGc.out hGd.out).fol HF2c.out)
        have HFd := Lib.hid ((kd_bools hgd HGc.out hGd.out).fol HFc.out)
        have c33 := (HX2d.out.cell 33).trans HF2d.out.hi.1
        have c330 := (HXd.out.cell 33).trans HFd.out.hi.1
        rw [HNo.out] at c33
        rw [HNo0.out] at c330
        go_wp2_with (refine wpList_load_blk_g 50 (.tmp 18) (by rfl) (by kernel_rfl) x2 rfl 50 F2 _ HX2d.out Try.underlying50 rfl iF2.out ?_)
        refine (check_any _ F2 wd HF2d.out (HSf.out _ _)).mono ?_
        rintro e we ⟨rfl, hbe⟩
        rw [HOk.out _ _]
        clear c33 c330
        go_upto_region 22 with (fail)
        obtain ⟨EB, hEB⟩ : ∃ x, we.heap.size = x := ⟨_, rfl⟩
        generalize hge : World.alloc _ _ = wf
        have hbf : Below wd.heap.size wd wf := by subst hge; exact below_of hbe ((Below.refl _ _).alloc (Nat.le_refl _) _) hbe.size
        have HBf := Lib.hid (below_of HBd.out hbf HBd.out.size)
        have HX2f := Lib.hid (HX2d.out.below hbf)
        have HXf := Lib.hid (HXd.out.below hbf)
        have HGf := Lib.hid (hGd.out.below hbf)
        have HFf := Lib.hid (HFd.out.below hbf)
        have HF2f := Lib.hid (HF2d.out.below hbf)
        have HLf := Lib.hid (below_of HLd.out hbf HLd.out.size)
        obtain ⟨A1, ca1, h34, hI1⟩ := HF2f.out.its
        have c34 := (HX2f.out.cell 34).trans h34
        rw [HLn.out] at c34
        have c33 := (HX2f.out.cell 33).trans HF2f.out.hi.1
        rw [HNo.out] at c33
        have k0 := HGf.out.cellv (i := 0) rfl
        have k1 := HGf.out.cellv (i := 1) rfl
        have HI1 := Lib.hid hI1
        have ltX2 := HX2f.out.lt
        have ltG := HGf.out.lt
        rw [hEB]
        clear hge hbf hbe h34 hI1 HBd HX2d HXd hGd HFd HF2d HLd hEB hgd HGc HFc HF2c
        go_upto_region 27 with (fail)
        refine wp_region_held_drew (S := fun W => Below wf.heap.size wf W) (by kernel_rfl) (below_drewN (Below.refl _ _) 1) (fun Hd => ?_)
        have Hd : Below wf.heap.size wf wf.drew := below_drewN (Below.refl _ _) 1
        have Zd : wf.heap.size ≤ wf.drew.heap.size := Nat.le_refl _
        generalize World.drew wf = wd at *
        refine wpAnyH_take (i := 0) (v := ?_) rfl (by kernel_rfl) (by kernel_rfl) (by kernel_rfl) (fun _ _ _ h => h) (Or.inl ⟨by rfl, ?_⟩) Hd ?_
        rotate_left
        · intro wS hSw
          go_simp
          try with_reducible rfl
        try simp only [la0, la1, la2, Act.put, la3, la4, la5]
        refine wpAnyH_take (i := 1) (v := ?_) rfl (by kernel_rfl) (by kernel_rfl) (by kernel_rfl) (fun _ _ _ h => h) (Or.inl ⟨by rfl, ?_⟩) Hd ?_
        rotate_left
        · intro wS hSw
          have cc := (hSw.cell (p := ⟨x2, 34, none⟩) ltX2).trans c34
          go_simp
          try with_reducible rfl
        try simp only [la0, la1, la2, Act.put, la3, la4, la5]
        refine wpAnyH_take (i := 2) (v := ?_) rfl (by kernel_rfl) (by kernel_rfl) (by kernel_rfl) (fun _ _ _ h => h) (Or.inl ⟨by rfl, ?_⟩) Hd ?_
        rotate_left
        · intro wS hSw
          go_simp
          try with_reducible rfl
        try simp only [la0, la1, la2, Act.put, la3, la4, la5]
        refine wpAnyH_ready (rs := [3]) (by kernel_rfl) (by simp) (AllReadyH.cons rfl (fun K hK => ?_) AllReadyH.nil)
        go_simp
        refine (HSm.out EB A1 ca1 wd (HI1.out.below Hd) (below_of HBf.out Hd HBf.out.size)).mono ?_
        rintro e w1_ ⟨rfl, hb1⟩
        have Hb1 : Below wf.heap.size wf w1_ := below_of Hd hb1 Hd.size
        have Zb1 : wf.heap.size ≤ w1_.heap.size := Nat.le_trans Zd hb1.size
        go_wp2_with (fail)
        refine hK.out _ _ Hb1 fun _ => ?_
        clear hK K
        try simp only [la0, la1, la2, Act.put, la3, la4, la5]
        refine wpAnyH_take (i := 4) (v := ?_) rfl (by kernel_rfl) (by kernel_rfl) (by kernel_rfl) (fun _ _ _ h => h) (Or.inl ⟨by rfl, ?_⟩) Hb1 ?_
        rotate_left
        · intro wS hSw
          go_simp
          try with_reducible rfl
        try simp only [la0, la1, la2, Act.put, la3, la4, la5]
        refine wpAnyH_take (i := 5) (v := ?_) rfl (by kernel_rfl) (by kernel_rfl) (by kernel_rfl) (fun _ _ _ h => h) (Or.inl ⟨by rfl, ?_⟩) Hb1 ?_
        rotate_left
        · intro wS hSw
          go_simp
          try with_reducible rfl
        try simp only [la0, la1, la2, Act.put, la3, la4, la5]
        refine wpAnyH_take (i := 6) (v := ?_) rfl (by kernel_rfl) (by kernel_rfl) (by kernel_rfl) (fun _ _ _ h => h) (Or.inl ⟨by rfl, ?_⟩) Hb1 ?_
        rotate_left
        · intro wS hSw
          go_simp
          try with_reducible rfl
        try simp only [la0, la1, la2, Act.put, la3, la4, la5]
        refine wpAnyH_take (i := 7) (v := ?_) rfl (by kernel_rfl) (by kernel_rfl) (by kernel_rfl) (fun _ _ _ h => h) (Or.inl ⟨by rfl, ?_⟩) Hb1 ?_
        rotate_left
        · intro wS hSw
          have cc := (hSw.cell (p := ⟨gt, 0, none⟩) ltG).trans k0
          go_simp
          try with_reducible rfl
        try simp only [la0, la1, la2, Act.put, la3, la4, la5]
        refine wpAnyH_take (i := 8) (v := ?_) rfl (by kernel_rfl) (by kernel_rfl) (by kernel_rfl) (fun _ _ _ h => h) (Or.inl ⟨by rfl, ?_⟩) Hb1 ?_
        rotate_left
        · intro wS hSw
          go_simp
          try with_reducible rfl
        try simp only [la0, la1, la2, Act.put, la3, la4, la5]
        first
          | refine wpAnyH_take (i := 9) (v := undef) rfl (by kernel_rfl) (by kernel_rfl) (by kernel_rfl) (fun _ _ _ h => h) (Or.inr ⟨by rfl, rfl⟩) Hb1 ?_
          | (refine wpAnyH_take (i := 9) (v := ?_) rfl (by kernel_rfl) (by kernel_rfl) (by kernel_rfl) (fun _ _ _ h => h) (Or.inl ⟨by rfl, ?_⟩) Hb1 ?_
             rotate_left
             · intro wS hSw
               go_simp
               try with_reducible rfl)
        try simp only [la0, la1, la2, Act.put, la3, la4, la5]
        first
          | refine wpAnyH_take (i := 10) (v := undef) rfl (by kernel_rfl) (by kernel_rfl) (by kernel_rfl) (fun _ _ _ h => h) (Or.inr ⟨by rfl, rfl⟩) Hb1 ?_
          | (refine wpAnyH_take (i := 10) (v := ?_) rfl (by kernel_rfl) (by kernel_rfl) (by kernel_rfl) (fun _ _ _ h => h) (Or.inl ⟨by rfl, ?_⟩) Hb1 ?_
             rotate_left
             · intro wS hSw
               have cc := (hSw.cell (p := ⟨gt, 1, none⟩) ltG).trans k1
               go_simp
               try with_reducible rfl)
        try simp only [la0, la1, la2, Act.put, la3, la4, la5]
        refine wpAnyH_take (i := 11) (v := ?_) rfl (by kernel_rfl) (by kernel_rfl) (by kernel_rfl) (fun _ _ _ h => h) (Or.inl ⟨by rfl, ?_⟩) Hb1 ?_
        rotate_left
        · intro wS hSw
          go_simp
          try with_reducible rfl
        try simp only [la0, la1, la2, Act.put, la3, la4, la5]
        refine wpAnyH_take (i := 12) (v := ?_) rfl (by kernel_rfl) (by kernel_rfl) (by kernel_rfl) (fun _ _ _ h => h) (Or.inl ⟨by rfl, ?_⟩) Hb1 ?_
        rotate_left
        · intro wS hSw
          go_simp
          try with_reducible rfl
        try simp only [la0, la1, la2, Act.put, la3, la4, la5]
        first
          | refine wpAnyH_take (i := 13) (v := undef) rfl (by kernel_rfl) (by kernel_rfl) (by kernel_rfl) (fun _ _ _ h => h) (Or.inr ⟨by rfl, rfl⟩) Hb1 ?_
          | (refine wpAnyH_take (i := 13) (v := ?_) rfl (by kernel_rfl) (by kernel_rfl) (by kernel_rfl) (fun _ _ _ h => h) (Or.inl ⟨by rfl, ?_⟩) Hb1 ?_
             rotate_left
             · intro wS hSw
               go_simp
               try with_reducible rfl)
        try simp only [la0, la1, la2, Act.put, la3, la4, la5]
        first
          | refine wpAnyH_take (i := 14) (v := undef) rfl (by kernel_rfl) (by kernel_rfl) (by kernel_rfl) (fun _ _ _ h => h) (Or.inr ⟨by rfl, rfl⟩) Hb1 ?_
          | (refine wpAnyH_take (i := 14) (v := ?_) rfl (by kernel_rfl) (by kernel_rfl) (by kernel_rfl) (fun _ _ _ h => h) (Or.inl ⟨by rfl, ?_⟩) Hb1 ?_
             rotate_left
             · intro wS hSw
               have cc := (hSw.cell (p := ⟨x2, 33, none⟩) ltX2).trans c33
               go_simp
               try with_reducible rfl)
        try simp only [la0, la1, la2, Act.put, la3, la4, la5]
        first
          | refine wpAnyH_take (i := 15) (v := undef) rfl (by kernel_rfl) (by kernel_rfl) (by kernel_rfl) (fun _ _ _ h => h) (Or.inr ⟨by rfl, rfl⟩) Hb1 ?_
          | (refine wpAnyH_take (i := 15) (v := ?_) rfl (by kernel_rfl) (by kernel_rfl) (by kernel_rfl) (fun _ _ _ h => h) (Or.inl ⟨by rfl, ?_⟩) Hb1 ?_
             rotate_left
             · intro wS hSw
               go_simp
               try with_reducible rfl)
        try simp only [la0, la1, la2, Act.put, la3, la4, la5]
        refine wpAnyH_take (i := 16) (v := ?_) rfl (by kernel_rfl) (by kernel_rfl) (by kernel_rfl) (fun _ _ _ h => h) (Or.inl ⟨by rfl, ?_⟩) Hb1 ?_
        rotate_left
        · intro wS hSw
          go_simp
          try with_reducible rfl
        try simp only [la0, la1, la2, Act.put, la3, la4, la5]
        refine wpAnyH_take (i := 17) (v := ?_) rfl (by kernel_rfl) (by kernel_rfl) (by kernel_rfl) (fun _ _ _ h => h) (Or.inl ⟨by rfl, ?_⟩) Hb1 ?_
        rotate_left
        · intro wS hSw
          go_simp
          try with_reducible rfl
        try simp only [la0, la1, la2, Act.put, la3, la4, la5]
        refine wpAnyH_take (i := 18) (v := ?_) rfl (by kernel_rfl) (by kernel_rfl) (by kernel_rfl) (fun _ _ _ h => h) (Or.inl ⟨by rfl, ?_⟩) Hb1 ?_
        rotate_left
        · intro wS hSw
          go_simp
          try with_reducible rfl
        try simp only [la0, la1, la2, Act.put, la3, la4, la5]
        refine wpAnyH_take (i := 19) (v := ?_) rfl (by kernel_rfl) (by kernel_rfl) (by kernel_rfl) (fun _ _ _ h => h) (Or.inl ⟨by rfl, ?_⟩) Hb1 ?_
        rotate_left
        · intro wS hSw
          go_simp
          try with_reducible rfl
        try simp only [la0, la1, la2, Act.put, la3, la4, la5]
        refine wpAnyH_take (i := 20) (v := ?_) rfl (by kernel_rfl) (by kernel_rfl) (by kernel_rfl) (fun _ _ _ h => h) (Or.inl ⟨by rfl, ?_⟩) Hb1 ?_
        rotate_left
        · intro wS hSw
          have cc := (hSw.cell (p := ⟨gt, 0, none⟩) ltG).trans k0
          go_simp
          try with_reducible rfl
        try simp only [la0, la1, la2, Act.put, la3, la4, la5]
        refine wpAnyH_take (i := 21) (v := ?_) rfl (by kernel_rfl) (by kernel_rfl) (by kernel_rfl) (fun _ _ _ h => h) (Or.inl ⟨by rfl, ?_⟩) Hb1 ?_
        rotate_left
        · intro wS hSw
          go_simp
          try with_reducible rfl
        try simp only [la0, la1, la2, Act.put, la3, la4, la5]
        refine wpAnyH_take (i := 22) (v := ?_) rfl (by kernel_rfl) (by kernel_rfl) (by kernel_rfl) (fun _ _ _ h => h) (Or.inl ⟨by rfl, ?_⟩) Hb1 ?_
        rotate_left
        · intro wS hSw
          have cc := (hSw.cell (p := ⟨x2, 33, none⟩) ltX2).trans c33
          go_simp
          try with_reducible rfl
        try simp only [la0, la1, la2, Act.put, la3, la4, la5]
        refine wpAnyH_take (i := 23) (v := ?_) rfl (by kernel_rfl) (by kernel_rfl) (by kernel_rfl) (fun _ _ _ h => h) (Or.inl ⟨by rfl, ?_⟩) Hb1 ?_
        rotate_left
        · intro wS hSw
          go_simp
          try with_reducible rfl
        try simp only [la0, la1, la2, Act.put, la3, la4, la5]
        refine wpAnyH_take (i := 24) (v := ?_) rfl (by kernel_rfl) (by kernel_rfl) (by kernel_rfl) (fun _ _ _ h => h) (Or.inl ⟨by rfl, ?_⟩) Hb1 ?_
        rotate_left
        · intro wS hSw
          go_simp
          try with_reducible rfl
        try simp only [la0, la1, la2, Act.put, la3, la4, la5]
        refine wpAnyH_take (i := 25) (v := ?_) rfl (by kernel_rfl) (by kernel_rfl) (by kernel_rfl) (fun _ _ _ h => h) (Or.inl ⟨by rfl, ?_⟩) Hb1 ?_
        rotate_left
        · intro wS hSw
          go_simp
          try with_reducible rfl
        try simp only [la0, la1, la2, Act.put, la3, la4, la5]
        refine wpAnyH_take (i := 26) (v := ?_) rfl (by kernel_rfl) (by kernel_rfl) (by kernel_rfl) (fun _ _ _ h => h) (Or.inl ⟨by rfl, ?_⟩) Hb1 ?_
        rotate_left
        · intro wS hSw
          go_simp
          try with_reducible rfl
        try simp only [la0, la1, la2, Act.put, la3, la4, la5]
        refine wpAnyH_take (i := 27) (v := .agg (F2)) rfl (by kernel_rfl) (by kernel_rfl) (by kernel_rfl) (fun _ _ _ h => h) (yields_load_blk (by rfl) _ _ rfl (x2) rfl 50 (F2) _ (fun W hW => HX2f.out.below hW) Try.underlying50 rfl iF2.out) Hb1 ?_
        try simp only [la0, la1, la2, Act.put, la3, la4, la5]
        refine wpAnyH_take (i := 29) (v := ?_) rfl (by kernel_rfl) (by kernel_rfl) (by kernel_rfl) (fun _ _ _ h => h) (Or.inl ⟨by rfl, ?_⟩) Hb1 ?_
        rotate_left
        · intro wS hSw
          go_simp
          try with_reducible rfl
        try simp only [la0, la1, la2, Act.put, la3, la4, la5]
        refine wpAnyH_take (i := 30) (v := ?_) rfl (by kernel_rfl) (by kernel_rfl) (by kernel_rfl) (fun _ _ _ h => h) (Or.inl ⟨by rfl, ?_⟩) Hb1 ?_
        rotate_left
        · intro wS hSw
          have cc := (hSw.cell (p := ⟨x2, 33, none⟩) ltX2).trans c33
          go_simp
          try with_reducible rfl
        try simp only [la0, la1, la2, Act.put, la3, la4, la5]
        refine wpAnyH_take (i := 31) (v := ?_) rfl (by kernel_rfl) (by kernel_rfl) (by kernel_rfl) (fun _ _ _ h => h) (Or.inl ⟨by rfl, ?_⟩) Hb1 ?_
        rotate_left
        · intro wS hSw
          go_simp
          try with_reducible rfl
        try simp only [la0, la1, la2, Act.put, la3, la4, la5]
        refine wpAnyH_ready (rs := [28]) (by kernel_rfl) (by simp) (AllReadyH.cons rfl (fun K hK => ?_) AllReadyH.nil)
        go_simp
        refine (wants_fol (HF2f.out.below Hb1) (by rw [HNo.out]; omega) (by rw [HNo.out]; omega)).mono ?_
        rintro e w2_ ⟨rfl, hb2⟩
        rw [HNo.out]
        have Hb2 : Below wf.heap.size wf w2_ := below_of Hb1 hb2 Hb1.size
        have Zb2 : wf.heap.size ≤ w2_.heap.size := Nat.le_trans Zb1 hb2.size
        go_wp2_with (fail)
        refine hK.out _ _ Hb2 fun _ => ?_
        clear hK K
        try simp only [la0, la1, la2, Act.put, la3, la4, la5]
        refine wpAnyH_take (i := 32) (v := ?_) rfl (by kernel_rfl) (by kernel_rfl) (by kernel_rfl) (fun _ _ _ h => h) (Or.inl ⟨by rfl, ?_⟩) Hb2 ?_
        rotate_left
        · intro wS hSw
          go_simp
          try with_reducible rfl
        try simp only [la0, la1, la2, Act.put, la3, la4, la5]
        refine wpAnyH_take (i := 33) (v := ?_) rfl (by kernel_rfl) (by kernel_rfl) (by kernel_rfl) (fun _ _ _ h => h) (Or.inl ⟨by rfl, ?_⟩) Hb2 ?_
        rotate_left
        · intro wS hSw
          go_simp
          try with_reducible rfl
        try simp only [la0, la1, la2, Act.put, la3, la4, la5]
        refine wpAnyH_done (by kernel_rfl) ?_ _
        have HX2z := Lib.hid (HX2f.out.below Hb2)
        have HXz := Lib.hid (HXf.out.below Hb2)
        have HGz := Lib.hid (HGf.out.below Hb2)
        have HFz := Lib.hid (HFf.out.below Hb2)
        have HF2z := Lib.hid (HF2f.out.below Hb2)
        have HLz := Lib.hid (below_of HLf.out Hb2 HLf.out.size)
        clear c33 c34 k0 k1
        go_wp2_with (first
          | (refine wpList_load_blk rfl 50 (.tmp 18) rfl x2 rfl 50 F2 _ HX2z.out Try.underlying50 rfl iF2.out ?_)
          | (refine wpList_put_blk rfl 50 (.tmp 12) (.tmp 154) rfl x F2 rfl rfl 50 F HXz.out iF2.out (by rw [HFz.out.size, HF2z.out.size]) HF2z.out.all ?_
             intro wy HZ hg hz
             have HXy := Lib.hid HZ
             have HFy := Lib.hid ((kd_fol HFz.out HF2z.out Hpub.out hg HXz.out HZ).fol HF2z.out)
             have HGy := Lib.hid (HGz.out.grown hg (by intro e; injection e with e; omega))
             have HLy := Lib.hid (below_grown HLz.out hg HLz.out.size (fun k hk => by injection hk with hk; have := Hx.out; omega))
             clear hg hz HZ))
        go_roundw
        case rel => exact ⟨k + 1, _, _, F2, by omega, by go_num, HFy, HXy, HGy, HLy⟩
        case measure => simp [intOf]; omega
    · obtain rfl : k = np := by omega
      go_wp2_with (fail)
      go_ret
      exact ⟨rfl, HBk.out⟩
theorem mirrorChain_own : ownKnob Try.prog.godebug = none := by kernel_rfl
theorem mirrorChain_laidOut : laidOutB Try.prog = true := by kernel_rfl
theorem mirrorChain_readable : (Try.f6.params.toList.all fun t => Try.prog.readableRec t && decide (t < Try.prog.types.size)) = true := by kernel_rfl
set_option maxRecDepth 100000 in
theorem mirrorChain_lifted (os : Os) (started : os.Started) (H : Type) (enc : TypeId × Value → H) :
    ReturnsInHanded {} Try.checked os 6 .any (Rows.mirrorChainSpec.pre6 enc Try.prog Try.f6 Rows.mirrorChainRow.domain false) (Rows.mirrorChainSpec.post enc Try.prog Try.f6 false true false false) := by
  refine returnsInHanded_of_change (C := Try.checked) mirrorChain_own started (by kernel_rfl) Try.func6
    (ChangeSpec.witness6 (enc := enc) (C := Try.checked) false ⟨#[], #[.int .u8 0, .slice none 0 0, .slice none 0 0, .slice none 0 0], []⟩ 8 (by kernel_rfl) (by kernel_rfl) (by kernel_rfl) (by kernel_rfl)) ?_
  intro W base args ds gs before hval0 hW hcnd _
  have hval : ∀ (j : Nat) t v, Try.f6.params[j]? = some t → args[j]? = some v → Value.okWide Try.prog W .any base t v := hval0
  have hW' := hW
  obtain ⟨p, q, hA0, hV, rfl, hfz, hnd⟩ := hW
  have hA : DataW.TrodAll enc Try.prog W 0 (fun _ => true) true Try.f6.params.toList args.toList ds p := hA0
  rw [Try.params6] at hA hval
  obtain ⟨v0, vs0, d0, ds0, p0, q0, hargs, rfl, rfl, h0, r0⟩ := trodAll_cons hA
  obtain ⟨v1, vs1, d1, ds1, p1, q1, rfl, rfl, rfl, h1, r1⟩ := trodAll_cons r0
  obtain ⟨v2, vs2, d2, ds2, p2, q2, rfl, rfl, rfl, h2, r2⟩ := trodAll_cons r1
  obtain ⟨v3, vs3, d3, ds3, p3, q3, rfl, rfl, rfl, h3, r3⟩ := trodAll_cons r2
  obtain ⟨rfl, rfl, rfl⟩ := trodAll_nil r3
  obtain rfl : args = #[v0, v1, v2, v3] := by cases args; simp_all
  obtain ⟨rfl, rfl⟩ := trodVars_none hV
  obtain ⟨a0, rfl, rfl, rfl, w0⟩ := open_int Try.underlying5 (hval 0 5 v0 rfl rfl) h0
  obtain ⟨A1, n1, c1, l1, rfl, e1, nc1, cm1, g1⟩ := open_items (hval 1 22 v1 rfl rfl) h1
  obtain ⟨A2, n2, c2, l2, rfl, e2, nc2, cm2, g2⟩ := open_items (hval 2 22 v2 rfl rfl) h2
  obtain ⟨A3, n3, c3, xs3, rfl, l3, nc3, cm3, g3, w3⟩ := open_intslice Try.underlying39 Try.underlying5 (by kernel_rfl) (hval 3 39 v3 rfl rfl) h3
  refine (MirrorChain_walk W a0 w0 A1 n1 c1 l1 e1 nc1 cm1 g1 A2 n2 c2 l2 e2 nc2 cm2 g2 A3 n3 c3 xs3 l3 nc3 cm3 g3 w3).mono fun e W' ⟨he, hb⟩ => ?_
  subst he
  simp only [List.append_nil] at hW'
  refine ⟨_, rfl, law_post mirrorChain_laidOut ?_ (by kernel_rfl) Try.underlying4 rfl hW' rfl rfl rfl hb⟩
  intro t ht
  have hr := List.all_eq_true.1 mirrorChain_readable t ht
  rw [Bool.and_eq_true] at hr
  exact ⟨hr.1, of_decide_eq_true hr.2⟩
theorem mirrorChain_over : Rows.mirrorChainRow.holds Try.pinned (OpenSpec.ofChange Rows.mirrorChainSpec) :=
  OpenClaim.holds_of_wide 6 Try.f6 rfl rfl rfl rfl rfl rfl rfl ⟨rfl, rfl, rfl, rfl, rfl⟩ rfl rfl rfl rfl rfl (by kernel_rfl) Try.func6 (by kernel_rfl)
    (of_decide_eq_true (by kernel_rfl)) (by unfold Func.isWrapper; rw [if_neg (of_decide_eq_false (by kernel_rfl))]; exact ⟨rfl, rfl⟩)
    (fun os started H enc _ => mirrorChain_lifted os started H enc)
theorem mirrorChain_proved : Rows.MirrorChainSaid := mirrorChain_over
#print axioms mirrorChain_proved
end Go.Proofs.Ytkflpoiobpblhaa
