/- Walks and plain laws that the statement rests on: MSan. -/
import Derived.Test.YtkflpoiobpblhaaGreatP00
import Derived.Test.YtkflpoiobpblhaaGreatP40
import Derived.Test.YtkflpoiobpblhaaGreatP41
import Derived.Test.YtkflpoiobpblhaaGreatP44
set_option maxRecDepth 100000
set_option maxHeartbeats 16000000
set_option linter.unusedVariables false
set_option linter.unusedSimpArgs false
namespace Go.Proofs.YtkflpoiobpblhaaGreat
open Go.RowKit
theorem wpList_oneV {w : World} {ops : Array Oper} {rest : List Oper} {o : Oper} {a : Act} {Q : Exit → Act → World → Prop} (hgd : o.guard = none) (x : Operand) (ho : o.op = .buildSlice 25 1 #[(0, x)]) (V : Array Value) (hV : V.size = 38) (hx : a.eval x = .agg V)
    (h : wpList Tryz.prog ops Q rest (a.put o.dst (.slice (some ⟨w.heap.size, 0, none⟩) 1 1)) (w.alloc (.cells V 34))) : wpList Tryz.prog ops Q (o :: rest) a w := by
 refine wpList_plain hgd fun _ hK => ?_
 unfold Oper.wp execOp
 simp only [ho, List.map_toArray, List.map_cons, List.map_nil, hx, Sem.run_bind, run_oneV V hV w, Result.andThen_ok]
 exact hK _ _ h
theorem sane_any (w : World) : Calls Tryz.prog 5 #[] w fun e w' => e = .returned (.bool true) ∧ Below w.heap.size w w' := by
 have kc := fun (W : World) (C : Array Value) (n c : Nat) => Lib.run_convert_bytes_const (P := Tryz.prog) W 22 5 C n c (by kernel_rfl) (by kernel_rfl)
 obtain ⟨P, hP⟩ := exq (Mir.rootK seedS)
 have HP := θ hP
 have HPd := θ (show IsD P by rw [← hP]; exact treeS_isD _)
 have HPub := θ (fun (A : Option Addr) (c : Nat) (W : World) h => Public_any A 4 c 2 0 seedS W h rfl seed_byte)
 rw [pubR_root okSeed, hP, okSeed, show errKey true = 0 from rfl] at HPub
 clear hP
 go_enter Tryz.func5, Tryz.ntmps5
 go_wp2_with fail
 generalize hge : World.alloc _ _ = w1
 have hS : Cells w1 (some ⟨w.heap.size, 0, none⟩) (bytesV seedS) := by subst hge; exact bytes_row' [115, 101, 101, 100] (heap_alloc_new w _)
 have HB1 := θ (al1 hge)
 clear hge
 refine (New_good (some ⟨w.heap.size, 0, none⟩) 4 4 2 seedS w1 hS rfl (by omega) (by omega) (by unfold maxLen; omega) okSeed).mono ?_
 rintro e w2 ⟨A2, c2, rfl, hk1, hk2, hS2, hb2⟩
 have HB2 := θ (bo HB1 hb2)
 have HS2 := θ hS2
 have HKc := θ (And.intro hk1 hk2)
 clear hb2 hS2 hS HB1 hk1 hk2
 go_wp2_with fail
 generalize hge : World.alloc _ _ = w3
 have HK3 := θ (show Blk w3 w2.heap.size 24 #[.slice A2 4 c2, .int .i64 2, .int .i64 0] by subst hge; exact Blk.new _ _ _)
 have hb3 := al1 hge
 have HB3 := θ (bo HB2 hb3)
 have HS3 := θ (HS2.out.below hb3)
 obtain ⟨k, hk⟩ := exq w2.heap.size
 rw [hk] at HK3 ⊢
 clear hge hb3 HS2 HB2 hk
 refine (HPub.out A2 c2 w3 HS3.out).mono ?_
 rintro e w4 ⟨rfl, hb4⟩
 have HB4 := θ (bo HB3 hb4)
 have HS4 := θ (HS3.out.below hb4)
 have HK4 := θ (HK3.out.below hb4)
 clear hb4 HB3 HS3 HK3 HPub
 go_wp2_with (
  (refine wpList_put_blk rfl 29 (.tmp 3) (.tmp 36) rfl w4.heap.size (arrK .u8 P) rfl rfl 29 (arrK .u8 z32) (Blk.new w4 29 (arrK .u8 z32)) (info32 HPd.out.1) (by rw [len32 HPd.out.1, len32 z32_length]) (arrK_all _ _) ?_
   intro w5 HZ hg5 hz5
   have hb5 := below_put hg5
   have HP5 := θ HZ
   have HB5 := θ (bo HB4 hb5)
   have HS5 := θ (HS4.out.below hb5)
   have HK5 := θ (HK4.out.below hb5)
   clear hg5 hz5 hb5 HZ))
 generalize hge : World.alloc (World.alloc _ _) _ = w6
 have hb6 : Below w5.heap.size w5 w6 := by subst hge; exact below_two' (Below.refl _ _) (Nat.le_refl _) _ _
 have HI6 := θ (show ItemsC w6 (some ⟨w5.heap.size + 1, 0, none⟩) oneI by
  subst hge
  refine oneI_one (D := w5.heap.size) ?_ ?_
  · have := Blk.new (w5.alloc (.cells #[.int .u8 120] 5 (1, 2))) 61 #[.string ⟨#[97]⟩, .slice (some ⟨w5.heap.size, 0, none⟩) 1 1]
    rw [World.size_alloc] at this
    exact this
  · exact (bytes_row' [120] (heap_alloc_new w5 _)).below ((Below.refl _ _).alloc (by simp) _))
 have HB6 := θ (bo HB5 hb6)
 have HP6 := θ (HP5.out.below hb6)
 have HS6 := θ (HS5.out.below hb6)
 have HK6 := θ (HK5.out.below hb6)
 obtain ⟨p, hp⟩ := exq w4.heap.size
 obtain ⟨A, hA⟩ := exq (some (⟨w5.heap.size + 1, 0, none⟩ : Addr))
 rw [hp] at HP6 ⊢
 rw [hA] at HI6 ⊢
 clear hge hb6 HB5 HP5 HS5 HK5 hp hA
 have e1 := Mir.diffR_ok Mir.itE_nil oneI_ok
 have HD := θ (fun B => diff_any none A 0 1 0 1 [] oneI w6 rfl rfl (by omega) (by omega) (ItemsC.nil_ _ _) B (Nat.le_refl _) (Nat.le_refl _) (by unfold maxLen; omega) (by unfold maxLen; omega))
 rw [e1.1, e1.2] at HD
 refine (HD.out HI6.out).mono ?_
 rintro e w7 ⟨C, c7, rfl, hc1, hc2, hC, hb7⟩
 have HC7 := θ hC
 have HCc := θ (And.intro hc1 hc2)
 have HB7 := θ (bo HB6 hb7)
 have HP7 := θ (HP6.out.below hb7)
 have HS7 := θ (HS6.out.below hb7)
 have HK7 := θ (HK6.out.below hb7)
 have HI7 := θ (HI6.out.below hb7)
 clear hc1 hc2 hC hb7 e1 HD HB6 HP6 HS6 HK6 HI6
 have c1 : Mir.chOk (Mir.diffS [] oneI) = true := Mir.chOk_diff Mir.itE_nil oneI_ok (by decide)
 have l1 : ∀ x ∈ Mir.diffS [] oneI, x.1.2.length ≤ 1 := Mir.diff_small (by simp) (by simp [oneI])
 have n1 : (Mir.diffS [] oneI).length = 1 := by rw [one_diff]; rfl
 have HV := θ (fun B => mversion_any A2 none A C 4 c2 0 0 1 1 (Mir.diffS [] oneI).length c7 2 0 seedS oneI (Mir.diffS [] oneI) w7 HS7.out rfl seed_byte HI7.out rfl HC7.out B (by omega) (by omega) (by simp [oneI]) (by omega) (fun x hx => Nat.le_trans (l1 x hx) (by omega)) HCc.out.1 HCc.out.2)
 have v1 : Mir.vsnE 4 2 0 0 oneI (Mir.diffS [] oneI) = 0 := Mir.vsnE_ok okSeed rfl oneI_ok c1 (by omega)
 rw [v1] at HV
 obtain ⟨n, hn⟩ := exq ((Mir.diffS [] oneI).length)
 rw [hn] at HV ⊢
 go_wp2_with (refine wpList_load_blk rfl 24 (.tmp 1) rfl k rfl 24 #[.slice A2 4 c2, .int .i64 2, .int .i64 0] _ HK7.out Tryz.underlying24 rfl (by kernel_rfl) ?_)
 refine (HV.out trivial).mono ?_
 rintro e w8 ⟨V1, K1, rfl, ⟨-, rfl, hV, -⟩ | ⟨h, -⟩, hb8⟩
 rotate_left
 · exact absurd rfl h
 have HV8 := θ (show VerC w8 (Mir.v1K seedS oneI) V1 from hV)
 have HB8 := θ (bo HB7 hb8)
 have HP8 := θ (HP7.out.below hb8)
 have HS8 := θ (HS7.out.below hb8)
 have HI8 := θ (HI7.out.below hb8)
 clear hV hb8 c1 l1 n1 HV v1 HB7 HP7 HS7 HK7 HI7 HC7 HCc hn
 have aV := θ HV8.out.all
 have iV := θ HV8.out.info
 have zV := θ HV8.out.size
 go_wp2_with (first
  | (refine wpList_put_blk rfl 34 (.tmp 8) (.tmp 52) rfl w8.heap.size V1 rfl rfl 34 Mir.ver0 (blk_two w8 Mir.ver0 ZK 34 24).1 iV.out (by rw [Mir.ver0_size, zV.out]) aV.out ?_
     intro w9 HZ hg hz
     have HZV := θ HZ
     have HZK := θ ((blk_two w8 Mir.ver0 ZK 34 24).2.grown hg (by simp))
     have hb := θ (show Below w8.heap.size w8 w9 from below_grown (below_two' (Below.refl _ _) (Nat.le_refl _) _ _) hg (by simp; omega) (fun k hk => by cases hk; exact Nat.le_refl _))
     clear hg hz HZ)
  | (refine wpList_put_blk rfl 24 (.tmp 9) (.tmp 53) rfl (w8.heap.size + 1) #[.slice A2 4 c2, .int .i64 2, .int .i64 1] rfl rfl 24 ZK HZK.out (by kernel_rfl) rfl (by kernel_rfl) ?_
     intro w10 HZ hg hz
     have HXV := θ (HZV.out.grown hg (by simp))
     have HXK := θ HZ
     have hb' := θ (show Below w8.heap.size w8 w10 from below_grown hb.out hg hb.out.size (fun k hk => by cases hk; omega))
     clear hg hz HZ))
 have HV10 := θ (HV8.out.below hb'.out)
 have HB10 := θ (below_of HB8.out hb'.out HB8.out.size)
 have HP10 := θ (HP8.out.below hb'.out)
 have HS10 := θ (HS8.out.below hb'.out)
 have HI10 := θ (HI8.out.below hb'.out)
 obtain ⟨g, hg⟩ := exq w8.heap.size
 rw [hg] at HXV HXK ⊢
 clear hg hb hb' HZV HZK HV8 HB8 HP8 HS8 HI8
 have e1 := Mir.diffR_ok oneI_ok Mir.itE_nil
 have HD := θ (fun B => diff_any A none 1 0 1 0 oneI [] w10 rfl rfl (by omega) (by omega) B (ItemsC.nil_ _ _) (Nat.le_refl _) (Nat.le_refl _) (by unfold maxLen; omega) (by unfold maxLen; omega))
 rw [e1.1, e1.2] at HD
 refine (HD.out HI10.out).mono ?_
 rintro e w11 ⟨C2, c11, rfl, hc1, hc2, hC, hb⟩
 have HC11 := θ hC
 have HCc := θ (And.intro hc1 hc2)
 have HV11 := θ (HV10.out.below hb)
 have HX11 := θ (HXV.out.below hb)
 have HK11 := θ (HXK.out.below hb)
 have HB11 := θ (bo HB10 hb)
 have HP11 := θ (HP10.out.below hb)
 have HS11 := θ (HS10.out.below hb)
 clear hc1 hc2 hC hb e1 HD HV10 HXV HXK HB10 HP10 HS10 HI10
 obtain ⟨n2, hn2⟩ := exq ((Mir.diffS oneI []).length)
 rw [hn2]
 go_wp2_with (first
  | (refine wpList_load_blk rfl 24 (.tmp 9) rfl (g + 1) rfl 24 #[.slice A2 4 c2, .int .i64 2, .int .i64 1] _ HK11.out Tryz.underlying24 rfl (by kernel_rfl) ?_)
  | (refine wpList_load_blk rfl 34 (.tmp 8) rfl g rfl 34 V1 _ HX11.out Tryz.underlying34 rfl iV.out ?_)
  | (refine wpList_oneV rfl (.tmp 62) rfl V1 zV.out rfl ?_))
 generalize hge : World.alloc _ _ = w12
 have hb := al1 hge
 have HC12 := θ (HC11.out.below hb)
 have HV12 := θ (HV11.out.below hb)
 have HX12 := θ (HX11.out.below hb)
 have HB12 := θ (bo HB11 hb)
 have HP12 := θ (HP11.out.below hb)
 have HS12 := θ (HS11.out.below hb)
 clear hge hb HC11 HV11 HX11 HK11 HB11 HP11 HS11
 have c1 : Mir.chOk (Mir.diffS oneI []) = true := Mir.chOk_diff oneI_ok Mir.itE_nil (by decide)
 have l1 : ∀ x ∈ Mir.diffS oneI [], x.1.2.length ≤ 1 := Mir.diff_small (by simp [oneI]) (by simp)
 have n1 : (Mir.diffS oneI []).length = 1 := by rw [one_back]; rfl
 have HV := θ (fun B S => mversion_any A2 (some ⟨w11.heap.size, 0, none⟩) none C2 4 c2 1 1 0 0 (Mir.diffS oneI []).length c11 2 1 seedS [] (Mir.diffS oneI []) w12 S rfl seed_byte (ItemsC.nil_ _ _) rfl HC12.out B (by omega) (by omega) (by simp) (by omega) (fun x hx => Nat.le_trans (l1 x hx) (by omega)) HCc.out.1 HCc.out.2)
 have v1 : Mir.vsnE 4 2 1 1 [] (Mir.diffS oneI []) = 0 := Mir.vsnE_ok (by decide) rfl Mir.itE_nil c1 (by omega)
 rw [v1, hn2] at HV
 refine (HV.out rfl HS12.out).mono ?_
 rintro e w13 ⟨V2, K2, rfl, ⟨-, rfl, hV, -⟩ | ⟨h, -⟩, hb⟩
 rotate_left
 · exact absurd rfl h
 have HW13 := θ (show VerC w13 (Mir.v2K seedS oneI []) V2 from hV)
 have HV13 := θ (HV12.out.below hb)
 have HX13 := θ (HX12.out.below hb)
 have HB13 := θ (bo HB12 hb)
 have HP13 := θ (HP12.out.below hb)
 clear hV hb c1 l1 n1 HV v1 HC12 HV12 HX12 HB12 HP12 HS12 HCc hn2
 have aW := θ HW13.out.all
 have iW := θ HW13.out.info
 have zW := θ HW13.out.size
 go_wp2_with (first
  | (refine wpList_put_blk rfl 34 (.tmp 13) (.tmp 66) rfl w13.heap.size V2 rfl rfl 34 Mir.ver0 (blk_two w13 Mir.ver0 ZK 34 24).1 iW.out (by rw [Mir.ver0_size, zW.out]) aW.out ?_
     intro w14 HZ hg hz
     have HZV := θ HZ
     have HZK := θ ((blk_two w13 Mir.ver0 ZK 34 24).2.grown hg (by simp))
     have hb := θ (show Below w13.heap.size w13 w14 from below_grown (below_two' (Below.refl _ _) (Nat.le_refl _) _ _) hg (by simp; omega) (fun k hk => by cases hk; exact Nat.le_refl _))
     clear hg hz HZ)
  | (refine wpList_put_blk rfl 24 (.tmp 14) (.tmp 67) rfl (w13.heap.size + 1) #[.slice A2 4 c2, .int .i64 2, .int .i64 2] rfl rfl 24 ZK HZK.out (by kernel_rfl) rfl (by kernel_rfl) ?_
     intro w15 HZ hg hz
     have HXW := θ (HZV.out.grown hg (by simp))
     have hb' := θ (show Below w13.heap.size w13 w15 from below_grown hb.out hg hb.out.size (fun k hk => by cases hk; omega))
     clear hg hz HZ)
  | (refine wpList_load_blk rfl 29 (.tmp 3) rfl p rfl 29 (arrK .u8 P) (.array 32 5) (HP13.out.below hb'.out) (by kernel_rfl) rfl (info32 HPd.out.1) ?_))
 have HW15 := θ (HW13.out.below hb'.out)
 have HV15 := θ (HV13.out.below hb'.out)
 have HX15 := θ (HX13.out.below hb'.out)
 have HB15 := θ (below_of HB13.out hb'.out HB13.out.size)
 have HP15 := θ (HP13.out.below hb'.out)
 obtain ⟨q, hq⟩ := exq w13.heap.size
 rw [hq] at HXW ⊢
 clear hq hb hb' HZV HZK HW13 HV13 HX13 HB13 HP13
 refine (join_fol P 2 w15 HPd.out).mono ?_
 rintro e w16 ⟨F0, rfl, hF, hb⟩
 rw [if_pos Mir.manyB_two] at hF
 have HFw16 := θ (show FolC w16 (Mir.f0K seedS) F0 by unfold Mir.f0K; rw [HP.out]; exact hF)
 rw [show (if Mir.manyB 2 = true then (0 : Int) else 40) = 0 from if_pos Mir.manyB_two]
 clear hF
 have HW16 := θ (HW15.out.below hb)
 have HV16 := θ (HV15.out.below hb)
 have HX16 := θ (HX15.out.below hb)
 have HB16 := θ (bo HB15 hb)
 have HP16 := θ (HP15.out.below hb)
 clear HW15 HV15 HX15 HB15 HP15
 have HXW16 := θ (HXW.out.below hb)
 clear HXW hb
 go_wp2_with (first
  | (refine wpList_put_blk rfl 48 (.tmp 16) (.tmp 72) rfl w16.heap.size F0 rfl rfl 48 (Mir.folA z32 0 0 (.slice none 0 0) (.slice none 0 0)) (Blk.new w16 48 (Mir.folA z32 0 0 (.slice none 0 0) (.slice none 0 0))) HFw16.out.info (by rw [Mir.folA_size z32_length, HFw16.out.size]) HFw16.out.all ?_
     intro w17 HZ hg hz
     have HZw17 := θ HZ
     have hbw17 := θ (below_put hg)
     clear hg hz HZ)
  | (refine wpList_load_blk rfl 29 (.tmp 3) rfl p rfl 29 (arrK .u8 P) (.array 32 5) (HP16.out.below hbw17.out) (by kernel_rfl) rfl (info32 HPd.out.1) ?_))
 have HG17 := θ (HFw16.out.below hbw17.out)
 have HW17 := θ (HW16.out.below hbw17.out)
 have HV17 := θ (HV16.out.below hbw17.out)
 have HX17 := θ (HX16.out.below hbw17.out)
 have HB17 := θ (below_of HB16.out hbw17.out HB16.out.size)
 have HP17 := θ (HP16.out.below hbw17.out)
 have HXW17 := θ (HXW16.out.below hbw17.out)
 clear HW16 HV16 HX16 HB16 HP16 HXW16
 clear HFw16 hbw17
 obtain ⟨x0, hx0⟩ := exq w16.heap.size
 rw [hx0] at HZw17 ⊢
 clear hx0
 refine (join_fol P 0 w17 HPd.out).mono ?_
 rintro e w18 ⟨FJ, rfl, hF, hb⟩
 have mz : ¬ Mir.manyB 0 = true := by decide
 rw [if_neg mz] at hF
 have HFw18 := θ hF
 rw [show (if Mir.manyB 0 = true then (0 : Int) else 40) = 40 from if_neg mz]
 clear hF mz
 have HW18 := θ (HW17.out.below hb)
 have HV18 := θ (HV17.out.below hb)
 have HX18 := θ (HX17.out.below hb)
 have HB18 := θ (bo HB17 hb)
 have HP18 := θ (HP17.out.below hb)
 have HXW18 := θ (HXW17.out.below hb)
 have HG18 := θ (HG17.out.below hb)
 clear HW17 HV17 HX17 HB17 HP17 HXW17 HG17
 have HY18 := θ (HZw17.out.below hb)
 clear HZw17 hb
 go_wp2_with (first
  | (refine wpList_put_blk rfl 48 (.tmp 18) (.tmp 77) rfl w18.heap.size FJ rfl rfl 48 (Mir.folA z32 0 0 (.slice none 0 0) (.slice none 0 0)) (Blk.new w18 48 (Mir.folA z32 0 0 (.slice none 0 0) (.slice none 0 0))) HFw18.out.info (by rw [Mir.folA_size z32_length, HFw18.out.size]) HFw18.out.all ?_
     intro w19 HZ hg hz
     have HZw19 := θ HZ
     have hbw19 := θ (below_put hg)
     clear hg hz HZ)
  | (refine wpList_load_blk rfl 48 (.tmp 16) rfl x0 rfl 48 F0 _ (HY18.out.below hbw19.out) Tryz.underlying48 rfl HG18.out.info ?_)
  | (refine wpList_load_blk rfl 34 (.tmp 13) rfl q rfl 34 V2 _ (HXW18.out.below hbw19.out) Tryz.underlying34 rfl iW.out ?_))
 have HW19 := θ (HW18.out.below hbw19.out)
 have HV19 := θ (HV18.out.below hbw19.out)
 have HX19 := θ (HX18.out.below hbw19.out)
 have HB19 := θ (below_of HB18.out hbw19.out HB18.out.size)
 have HP19 := θ (HP18.out.below hbw19.out)
 have HXW19 := θ (HXW18.out.below hbw19.out)
 have HG19 := θ (HG18.out.below hbw19.out)
 have HY19 := θ (HY18.out.below hbw19.out)
 clear HW18 HV18 HX18 HB18 HP18 HXW18 HG18 HY18
 clear HZw19 HFw18 hbw19
 have sV1 : Mir.SmV (Mir.v1K seedS oneI) := by
  have h : (Mir.v1K seedS oneI).ch = [(((⟨#[97]⟩ : ByteArray), [120]), false)] := one_diff
  unfold Mir.SmV; rw [h]; simp
 have sV2 : Mir.SmV (Mir.v2K seedS oneI []) := by
  have h : (Mir.v2K seedS oneI []).ch = [(((⟨#[97]⟩ : ByteArray), []), true)] := one_back
  unfold Mir.SmV; rw [h]; simp
 have HsV1 := θ sV1
 have HsV2 := θ sV2
 have HsF0 := θ (show Mir.SmF (Mir.f0K seedS) by unfold Mir.SmF Mir.f0K; simp)
 have HsG := θ (show Mir.SmF (Mir.g0K seedS oneI []) by unfold Mir.SmF Mir.g0K; simp; exact sV2)
 have HsF2 := θ (show Mir.SmF (Mir.f2K seedS []) by unfold Mir.SmF Mir.f2K; simp)
 clear sV1 sV2
 refine (receive_any (Mir.f0K seedS) (Mir.v2K seedS oneI []) F0 V2 w19 HG19.out HW19.out HsF0.out HsV2.out).mono ?_
 rw [Mir.rcv_f0_v2 oneI_ok Mir.itE_nil (by decide) (by decide)]
 rintro e w20 ⟨F1, rfl, hF, hb⟩
 have HFw20 := θ hF
 clear hF
 have HV20 := θ (HV19.out.below hb)
 have HX20 := θ (HX19.out.below hb)
 have HB20 := θ (bo HB19 hb)
 have HP20 := θ (HP19.out.below hb)
 have HG20 := θ (HG19.out.below hb)
 have HY20 := θ (HY19.out.below hb)
 clear HV19 HX19 HB19 HP19 HG19 HY19
 clear HW19 HXW19 hb
 go_wp2_with (first
  | (refine wpList_put_blk rfl 48 (.tmp 20) (.tmp 83) rfl w20.heap.size F1 rfl rfl 48 (Mir.folA z32 0 0 (.slice none 0 0) (.slice none 0 0)) (Blk.new w20 48 (Mir.folA z32 0 0 (.slice none 0 0) (.slice none 0 0))) HFw20.out.info (by rw [Mir.folA_size z32_length, HFw20.out.size]) HFw20.out.all ?_
     intro w21 HZ hg hz
     have HZw21 := θ HZ
     have hbw21 := θ (below_put hg)
     clear hg hz HZ)
  | (refine wpList_load_blk rfl 48 (.tmp 20) rfl w20.heap.size rfl 48 F1 _ HZw21.out Tryz.underlying48 rfl HFw20.out.info ?_)
  | (refine wpList_load_blk rfl 34 (.tmp 8) rfl g rfl 34 V1 _ (HX20.out.below hbw21.out) Tryz.underlying34 rfl iV.out ?_))
 have HA21 := θ (HFw20.out.below hbw21.out)
 have HV21 := θ (HV20.out.below hbw21.out)
 have HX21 := θ (HX20.out.below hbw21.out)
 have HB21 := θ (below_of HB20.out hbw21.out HB20.out.size)
 have HP21 := θ (HP20.out.below hbw21.out)
 have HG21 := θ (HG20.out.below hbw21.out)
 have HY21 := θ (HY20.out.below hbw21.out)
 clear HV20 HX20 HB20 HP20 HG20 HY20
 clear HFw20 hbw21
 obtain ⟨x1, hx1⟩ := exq w20.heap.size
 rw [hx1] at HZw21 ⊢
 clear hx1
 refine (receive_any (Mir.g0K seedS oneI []) (Mir.v1K seedS oneI) F1 V1 w21 HA21.out HV21.out HsG.out HsV1.out).mono ?_
 rw [Mir.rcv_g0_v1 oneI_ok Mir.itE_nil (by decide) (by decide)]
 rintro e w22 ⟨F2, rfl, hF, hb⟩
 have HFw22 := θ hF
 clear hF
 have HV22 := θ (HV21.out.below hb)
 have HX22 := θ (HX21.out.below hb)
 have HB22 := θ (bo HB21 hb)
 have HP22 := θ (HP21.out.below hb)
 have HG22 := θ (HG21.out.below hb)
 have HY22 := θ (HY21.out.below hb)
 have HA22 := θ (HA21.out.below hb)
 clear HV21 HX21 HB21 HP21 HG21 HY21 HA21
 have HYA22 := θ (HZw21.out.below hb)
 clear HZw21 hb
 go_wp2_with (first
  | (refine wpList_put_blk rfl 48 (.tmp 22) (.tmp 89) rfl w22.heap.size F2 rfl rfl 48 (Mir.folA z32 0 0 (.slice none 0 0) (.slice none 0 0)) (Blk.new w22 48 (Mir.folA z32 0 0 (.slice none 0 0) (.slice none 0 0))) HFw22.out.info (by rw [Mir.folA_size z32_length, HFw22.out.size]) HFw22.out.all ?_
     intro w23 HZ hg hz
     have HZw23 := θ HZ
     have hbw23 := θ (below_put hg)
     clear hg hz HZ)
  | (refine wpList_load_blk rfl 48 (.tmp 22) rfl w22.heap.size rfl 48 F2 _ HZw23.out Tryz.underlying48 rfl HFw22.out.info ?_)
  | (refine wpList_load_blk rfl 34 (.tmp 8) rfl g rfl 34 V1 _ (HX22.out.below hbw23.out) Tryz.underlying34 rfl iV.out ?_))
 have HC23 := θ (HFw22.out.below hbw23.out)
 have HV23 := θ (HV22.out.below hbw23.out)
 have HX23 := θ (HX22.out.below hbw23.out)
 have HB23 := θ (below_of HB22.out hbw23.out HB22.out.size)
 have HP23 := θ (HP22.out.below hbw23.out)
 have HG23 := θ (HG22.out.below hbw23.out)
 have HY23 := θ (HY22.out.below hbw23.out)
 have HA23 := θ (HA22.out.below hbw23.out)
 have HYA23 := θ (HYA22.out.below hbw23.out)
 clear HV22 HX22 HB22 HP22 HG22 HY22 HA22 HYA22
 clear HFw22 hbw23
 obtain ⟨x2, hx2⟩ := exq w22.heap.size
 rw [hx2] at HZw23 ⊢
 clear hx2
 refine (receive_any (Mir.f2K seedS []) (Mir.v1K seedS oneI) F2 V1 w23 HC23.out HV23.out HsF2.out HsV1.out).mono ?_
 rw [Mir.rcv_f2_v1 oneI_ok Mir.itE_nil (by decide) (by decide)]
 rintro e w24 ⟨F3, rfl, hF, hb⟩
 have HFw24 := θ hF
 clear hF
 have HV24 := θ (HV23.out.below hb)
 have HX24 := θ (HX23.out.below hb)
 have HB24 := θ (bo HB23 hb)
 have HP24 := θ (HP23.out.below hb)
 have HG24 := θ (HG23.out.below hb)
 have HY24 := θ (HY23.out.below hb)
 have HA24 := θ (HA23.out.below hb)
 have HYA24 := θ (HYA23.out.below hb)
 have HC24 := θ (HC23.out.below hb)
 clear HV23 HX23 HB23 HP23 HG23 HY23 HA23 HYA23 HC23
 have HYC24 := θ (HZw23.out.below hb)
 clear HZw23 hb
 go_wp2_with (first
  | (refine wpList_put_blk rfl 48 (.tmp 24) (.tmp 95) rfl w24.heap.size F3 rfl rfl 48 (Mir.folA z32 0 0 (.slice none 0 0) (.slice none 0 0)) (Blk.new w24 48 (Mir.folA z32 0 0 (.slice none 0 0) (.slice none 0 0))) HFw24.out.info (by rw [Mir.folA_size z32_length, HFw24.out.size]) HFw24.out.all ?_
     intro w25 HZ hg hz
     have hbw25 := θ (below_put hg)
     have c0 := (HX24.out.below hbw25.out).cellv HV24.out.c0
     have c34 := (HX24.out.below hbw25.out).cellv HV24.out.c34
     rw [show (Mir.v1K seedS oneI).no = 1 from rfl] at c0
     rw [show (Mir.v1K seedS oneI).sg.i = 0 from rfl] at c34
     clear hg hz HZ)
  | (refine wpList_load_blk_g 48 (.tmp 16) (by rfl) (by kernel_rfl) x0 rfl 48 F0 _ (HY24.out.below hbw25.out) Tryz.underlying48 rfl HG24.out.info ?_))
 have hG := HG24.out.below hbw25.out
 refine (wants_fol hG (show (0 : Int) ≤ 0 by omega) (show (0 : Int) ≤ 1000000 by omega)).mono ?_
 rintro e w26 ⟨rfl, hb⟩
 rw [show (Mir.f0K seedS).no + 1 = 1 from rfl]
 have hb2 := θ (bo hbw25 hb)
 clear hG hb c0 c34
 obtain ⟨a1, a2, B1, cb1, a3⟩ := HA24.out.hi
 obtain ⟨b1, ⟨B2, cb2, b2⟩, B3, cb3, b3⟩ := HC24.out.hi
 have y1 := (HYA24.out.below hb2.out).cellv a1
 have y3 := (HYA24.out.below hb2.out).cellv a3
 have z1 := (HYC24.out.below hb2.out).cellv b1
 have z2 := (HYC24.out.below hb2.out).cellv b2
 have z3 := (HYC24.out.below hb2.out).cellv b3
 rw [show (Mir.g0K seedS oneI []).no = 0 from rfl] at y1
 rw [show (Mir.g0K seedS oneI []).ea.length = 1 from rfl] at y3
 rw [show (Mir.f2K seedS []).no = 2 from rfl] at z1
 rw [show (Mir.f2K seedS []).it.length = 0 from rfl] at z2
 rw [show (Mir.f2K seedS []).ea.length = 0 from rfl] at z3
 clear a1 a2 a3 b1 b2 b3
 have HB26 := θ (below_of HB24.out hb2.out HB24.out.size)
 have HP26 := θ (HP24.out.below hb2.out)
 go_wp2_with (first
  | (refine wpList_load_blk_g 29 (.tmp 3) (by rfl) (by kernel_rfl) p rfl 29 (arrK .u8 P) (.array 32 5) HP26.out (by kernel_rfl) rfl (info32 HPd.out.1) ?_
     refine wpList_built_g 34 #[] (by rfl) ?_ [] (by simp) Mir.ver0 built_ver0 ?_
     · kernel_rfl))
 refine (mverify_any P 2 Mir.ve0 Mir.ver0 w26 HPd.out (ve0_c _) (by simp [Mir.ve0]) (by simp [Mir.ve0])).mono ?_
 rintro e w27 ⟨rfl, hb⟩
 rw [Mir.ver_ve0]
 have hb3 := θ (bo HB26 hb)
 clear hb y1 y3 z1 z2 z3
 go_wp2_with fail
 go_ret
 exact ⟨rfl, hb3.out⟩
end Go.Proofs.YtkflpoiobpblhaaGreat
