/- Walks and plain laws that the statement rests on: MAp0, MAp, MRcP, MPv. -/
import Derived.Deep.RegionHeld3
import Derived.Defers
import Derived.Recover
import Derived.WalkLawsBesides
import Derived.Test.YtkflpoiobpblhaaGreatP00
import Derived.Test.YtkflpoiobpblhaaGreatP37
import Derived.Test.YtkflpoiobpblhaaGreatP38
import Derived.Test.YtkflpoiobpblhaaGreatPS
import Derived.Test.YtkflpoiobpblhaaGreatP44
set_option maxRecDepth 100000
set_option maxHeartbeats 16000000
set_option linter.unusedVariables false
set_option linter.unusedSimpArgs false
namespace Go.Proofs.YtkflpoiobpblhaaGreat
open Go.RowKit
def unfitV : Value := .iface 114 (.agg #[])
theorem mustI_ok (A : Option Addr) (n c : Nat) (w : World) : Calls Tryz.prog 85 #[.slice A n c, .int .i64 0] w fun e w' => e = .returned (.slice A n c) ∧ w' = w := by
 go_enter Tryz.func85, Tryz.ntmps85
 go_wp2_with fail
 go_ret
 exact ⟨rfl, rfl⟩
theorem mustI_bad (A : Option Addr) (n c : Nat) (E : Int) (hE : E ≠ 0) (w : World) : Calls Tryz.prog 85 #[.slice A n c, .int .i64 E] w fun e w' => e = .panicked [{ v := unfitV, recovered := false }] ∧ w' = w := by
 have dE : decide (E = 0) = false := by simpa using hE
 go_enter Tryz.func85, Tryz.ntmps85
 go_wp2_with fail
 exact ⟨rfl, rfl, rfl⟩
theorem mustD_ok (d : List Nat) (hd : IsD d) (w : World) : Calls Tryz.prog 87 #[.agg (arrK .u8 d), .int .i64 0] w fun e w' => e = .returned (.agg (arrK .u8 d)) ∧ Below w.heap.size w w' := by
 have Hd := θ hd
 clear hd
 go_enter Tryz.func87, Tryz.ntmps87
 go_upto_region 1 with fail
 generalize hge : World.alloc (World.alloc _ _) _ = w1
 have HX := θ (show Blk w1 w.heap.size 29 (arrK .u8 d) by subst hge; exact (blk_two w (arrK .u8 d) (arrK .u8 z32) 29 29).1)
 have HR := θ (show Blk w1 (w.heap.size + 1) 29 (arrK .u8 z32) by subst hge; exact (blk_two w (arrK .u8 d) (arrK .u8 z32) 29 29).2)
 have HB := θ (al2 hge)
 clear hge
 go_wp2_with (first
  | (refine wpList_load_blk rfl 29 (.tmp 2) rfl w.heap.size rfl 29 (arrK .u8 d) (.array 32 5) HX.out (by kernel_rfl) rfl (info32 Hd.out.1) ?_)
  | (refine wpList_put_blk rfl 29 (.tmp 4) (.tmp 9) rfl (w.heap.size + 1) (arrK .u8 d) rfl rfl 29 (arrK .u8 z32) HR.out (info32 Hd.out.1) (by rw [len32 Hd.out.1, len32 z32_length]) (arrK_all _ _) ?_
     intro w6 HD6 hg6 hz6
     have HD6 := θ HD6
     have HB6 := below_grown HB.out hg6 HB.out.size (by simp)
     clear hg6 hz6))
 exact ret_row rfl (w.heap.size + 1) 29 (arrK .u8 d) (.array 32 5) rfl HD6.out (by kernel_rfl) rfl (info32 Hd.out.1) rfl ⟨rfl, HB6⟩
theorem mustD_bad (d : List Nat) (E : Int) (hE : E ≠ 0) (w : World) : Calls Tryz.prog 87 #[.agg (arrK .u8 d), .int .i64 E] w fun e w' => e = .panicked [{ v := unfitV, recovered := false }] ∧ Below w.heap.size w w' := by
 have dE : decide (E = 0) = false := by simpa using hE
 go_enter Tryz.func87, Tryz.ntmps87
 go_wp2_with fail
 exact ⟨rfl, rfl, ((Below.refl _ _).alloc (Nat.le_refl _) _).alloc (by simp) _⟩
theorem catch_idle (X R K : Nat) (w : World) :
    CallsD Tryz.prog 84 #[.pointer (some ⟨X, 0, none⟩), .pointer (some ⟨R, 0, none⟩), .pointer (some ⟨K, 0, none⟩)] .returning w fun e u' w' => e = .returned (.tuple #[]) ∧ u' = .returning ∧ w' = w := by
 refine callsD_of_wpS Tryz.func84 rfl fun c₀ cs hu => ?_
 apply wpS_seq
 apply wpS_region
 simp [wpOpsS, go_sem, recoverD, hu, Tryz.ntmps84, Exit.thenS]
 have hne : ∀ w : World, (binOp BinOp.neq 20 .nilIface .nilIface).run Tryz.prog w = .ok (.bool false) w := fun _ => by kernel_rfl
 refine wpS_of_wp ?_
 go_wp2_with fail
 cases c₀
 simp_all [bodyPostS, results, Tryz.results84]
theorem catch_panics (X R K B : Nat) (older : List PanicEntry) (F F0 : Array Value) (b : Bool) (a w : World) (hX : Blk w X 48 F) (hR : Blk w R 48 F0) (hK : Blk w K 4 #[.bool b]) (hF : (Tryz.prog.info? 48).map (·.size) = some F.size) (hF0 : F0.size = F.size) (hFa : F.all (·.oneCell') = true) (hB : Below B a w) (h1 : B ≤ R) (h2 : B ≤ K) (h3 : R ≠ K) (h4 : X ≠ R) (h5 : B ≤ w.heap.size) :
    CallsD Tryz.prog 84 #[.pointer (some ⟨X, 0, none⟩), .pointer (some ⟨R, 0, none⟩), .pointer (some ⟨K, 0, none⟩)] (.panicking ({ v := unfitV, recovered := false } :: older)) w fun e u' w' => e = .returned (.tuple #[]) ∧ u' = .panicking ({ v := unfitV, recovered := true } :: older) ∧ Blk w' R 48 F ∧ Blk w' K 4 #[.bool false] ∧ Below B a w' := by
 unfold unfitV
 refine callsD_of_wpS Tryz.func84 rfl fun c₀ cs hu => ?_
 apply wpS_seq
 apply wpS_region
 simp [wpOpsS, go_sem, recoverD, hu, Tryz.ntmps84, Exit.thenS]
 have hne : ∀ w : World, (binOp BinOp.neq 20 (.iface 114 (.agg #[])) .nilIface).run Tryz.prog w = .ok (.bool true) w := fun _ => by kernel_rfl
 have hta : ∀ w : World, (Instr.typeAssert (.iface 114 (.agg #[])) 20 114 true).run Tryz.prog w = .ok (.tuple #[.agg #[], .bool true]) w := fun _ => by kernel_rfl
 refine wpS_of_wp ?_
 change Code.wp Tryz.prog _ _ { tmps := #[.pointer (some ⟨X, 0, none⟩), .pointer (some ⟨R, 0, none⟩), .pointer (some ⟨K, 0, none⟩), (.iface 114 (.agg #[])), undef, undef, (.iface 114 (.agg #[])), undef, undef, undef, undef, undef, undef, undef, undef, undef, undef, undef], defers := [] } w
 have hX1 := θ (hX.alloc (.cells #[] 114))
 have hR1 := θ (hR.alloc (.cells #[] 114))
 have hK1 := θ (hK.alloc (.cells #[] 114))
 have hB1 := θ (hB.alloc h5 (.cells #[] 114))
 have hFi := θ hF
 have hFz := θ hF0
 have hFl := θ hFa
 clear hX hR hK hF hF0 hFa hB
 go_wp2_with (first
  | (refine wpList_put_blk rfl 48 (.tmp 1) (.tmp 17) rfl R F rfl rfl 48 F0 hR1.out hFi.out hFz.out hFl.out ?_
     intro w6 h6 hg6 hz6
     have hR6 := θ h6
     have hB6 := θ (below_grown hB1.out hg6 (by simp; omega) (fun k hk => by cases hk; exact h1))
     have hK6 := θ (hK1.out.grown hg6 (fun e => by injection e with e; exact h3 e.symm))
     have k6 : w6.cell? ⟨K, 0, none⟩ = some (.bool b) := hK6.out.cell 0
     have k6f : w6.frozen? ⟨K, 0, none⟩ = false := hK6.out.frozen 0
     clear h6 hg6 hz6)
  | (refine wpList_load_blk rfl 48 (.tmp 0) rfl X rfl 48 F _ hX1.out Tryz.underlying48 rfl hFi.out ?_))
 exact ⟨rfl, _, rfl, .tuple #[], results_none rfl _ _ _, rfl, rfl, hR6.out.far h3 _, hK6.out.set_ 0 _, hB6.out.setCell h2 _⟩
theorem blk_fourB (w : World) (a b c d : Array Value) (ta tb tc td : TypeId) (w1 : World) (h : (((w.alloc (.cells a ta)).alloc (.cells b tb)).alloc (.cells c tc)).alloc (.cells d td) = w1) :
    Blk w1 w.heap.size ta a ∧ Blk w1 (w.heap.size + 1) tb b ∧ Blk w1 (w.heap.size + 2) tc c ∧ Blk w1 (w.heap.size + 3) td d ∧ Below w.heap.size w w1 := by
 subst h
 have e1 : (w.alloc (.cells a ta)).heap.size = w.heap.size + 1 := by simp
 have e2 : ((w.alloc (.cells a ta)).alloc (.cells b tb)).heap.size = w.heap.size + 2 := by simp
 have e3 : (((w.alloc (.cells a ta)).alloc (.cells b tb)).alloc (.cells c tc)).heap.size = w.heap.size + 3 := by simp
 have h1 := Blk.new w ta a
 have h2 := Blk.new (w.alloc (.cells a ta)) tb b
 have h3 := Blk.new ((w.alloc (.cells a ta)).alloc (.cells b tb)) tc c
 have h4 := Blk.new (((w.alloc (.cells a ta)).alloc (.cells b tb)).alloc (.cells c tc)) td d
 rw [e1] at h2
 rw [e2] at h3
 rw [e3] at h4
 exact ⟨((h1.alloc _).alloc _).alloc _, (h2.alloc _).alloc _, h3.alloc _, h4, (((Below.refl _ _).alloc (Nat.le_refl _) _).alloc (by simp) _ |>.alloc (by simp; omega) _).alloc (by simp; omega) _⟩
theorem leaves_tmps {P : Program} {fn : Func} {R : Ending → World → Prop} {t t' : Array Value} (h : results fn t = results fn t') : ∀ ds u w, Leaves P fn t R ds u w → Leaves P fn t' R ds u w
 | [], .returning, w, ⟨v, h1, h2⟩ => ⟨v, h ▸ h1, h2⟩
 | [], .panicking _, w, hx => hx
 | [], .run, w, hx => hx
 | d :: ds, u, w, ⟨hu, fv, cap, f, args, h1, h2, h3⟩ => ⟨hu, fv, cap, f, args, h1, h2, h3.mono fun e u' w' hx => by
     cases e with
     | returned v => exact leaves_tmps h ds _ _ hx
     | panicked c => exact leaves_tmps h ds _ _ hx
     | outgrown => exact hx⟩
theorem put_leaves {P : Program} {fn : Func} {R : Ending → World → Prop} {a : Act} {v : Value} {w : World} {d : Nat} {c : List PanicEntry} (hr : fn.results = #[.cell 4 48, .cell 5 4]) (h4 : d ≠ 4) (h5 : d ≠ 5)
    (h : bodyPostD P fn R (.panic c) (a.put (some d) v) w) : bodyPostD P fn R (.panic c) a w := by
 refine leaves_tmps (t := (a.put (some d) v).tmps) ?_ _ _ _ h
 unfold results
 simp [hr, Act.put, Array.getElem?_setIfInBounds, h4, h5]
theorem folA_set {d : List Nat} (h : d.length = 32) (m no no' : Int) (I I' E : Value) : ((Mir.folA d m no I E).setIfInBounds 33 (.int .i64 no')).setIfInBounds 34 I' = Mir.folA d m no' I' E := by
 obtain ⟨a0, a1, a2, a3, a4, a5, a6, a7, a8, a9, a10, a11, a12, a13, a14, a15, a16, a17, a18, a19, a20, a21, a22, a23, a24, a25, a26, a27, a28, a29, a30, a31, rfl⟩ := list32 h
 rfl
theorem arrK_list (d : List Nat) : arrK .u8 d = (d.map fun (n : Nat) => Value.int .u8 (n : Int)).toArray := by rw [← arrK_toList]
theorem results_fb {tmps : Array Value} {w : World} {g g2 : Nat} {cs : Array Value} {b : Bool} {fn : Func} (h : fn.results = #[.cell 4 48, .cell 5 4])
    (hp : tmps.getD 4 undef = .pointer (some ⟨g, 0, none⟩)) (hq : tmps.getD 5 undef = .pointer (some ⟨g2, 0, none⟩)) (hg : Blk w g 48 cs) (hg2 : Blk w g2 4 #[.bool b]) (hi : (Tryz.prog.info? 48).map (·.size) = some cs.size) :
    (results fn tmps).run Tryz.prog w = .ok (.tuple #[.agg cs, .bool b]) w := by
 have hp' : tmps[4]?.getD undef = .pointer (some ⟨g, 0, none⟩) := by simpa using hp
 have hq' : tmps[5]?.getD undef = .pointer (some ⟨g2, 0, none⟩) := by simpa using hq
 have c0 : w.cell? ⟨g2, 0, none⟩ = some (.bool b) := hg2.cell 0
 have l2 : (loadVar 4 ⟨g2, 0, none⟩).run Tryz.prog w = .ok (.bool b) w := by
  have a4 := Tryz.isAgg4
  simp [loadVar, a4, c0, go_sem]
 simp [results, h, hp', hq', asAddr, run_loadVar_row w g 48 48 cs (0, 0) _ hg Tryz.underlying48 rfl hi, l2]
theorem mapply_any (ok : Nat → Prop) (f : Mir.Fo) (v : Mir.Ve) (F V : Array Value) (wb w : World) (hbw : Below wb.heap.size wb w) (hF : FolO wb w ok f F) (hV : VerC wb v V) (hok : ∀ b, w.heap.size ≤ b → ok b) (hs : Mir.SmF f) (hsv : Mir.SmV v) (hms : ∀ x ∈ Mir.appS f.it v.ch, x.2.length ≤ 900000) :
    Calls Tryz.prog 45 #[.agg F, .agg V] w fun e w' => ∃ F', e = .returned (.tuple #[.agg F', .bool (Mir.apS f v).2]) ∧ FolO wb w' ok (Mir.apS f v).1 F' ∧ Below w.heap.size w w' := by
 have hmf : ∀ (fn : Fn) (first cap : Array Value) (w : World), (Instr.makeFunc fn first cap).run Tryz.prog w = .ok (.func fn first cap) w := fun _ _ _ _ => rfl
 have iF := θ (hF.fol hbw).info
 have zF := θ (show (Mir.folA z32 0 0 (.slice none 0 0) (.slice none 0 0)).size = F.size by rw [(hF.fol hbw).size]; exact Mir.folA_size z32_length ..)
 have aF := θ (hF.fol hbw).all
 have Hbw := θ hbw
 have Hok := θ hok
 have HF := θ hF
 have HV := θ hV
 obtain ⟨A, ca, B, cb, za, hFe, hd, hza, hda, hA, hB, hca, hcam, hcb, hcbm⟩ := hF
 obtain ⟨C, cc, h33, hC, hcc, hccm⟩ := hV.c33
 have h0 := hV.c0
 obtain ⟨hst, hmid⟩ := hV.st
 obtain ⟨n1, hn1⟩ := exq f.it.length
 obtain ⟨n2, hn2⟩ := exq f.ea.length
 obtain ⟨m1, hm1⟩ := exq v.ch.length
 rw [hn1] at hFe hca
 rw [hn2] at hFe hcb
 rw [hm1] at h33 hcc
 have hhi := Mir.folA_hi hd.1 f.many f.no (.slice A n1 ca) (.slice B n2 cb)
 have h34 : F[34]? = some (.slice A n1 ca) := by rw [hFe]; exact hhi 2
 have h35 : F[35]? = some (.slice B n2 cb) := by rw [hFe]; exact hhi 3
 have hFe' := θ hFe
 have HA := θ hA
 have HC := θ hC
 have Hst := θ hst
 have Hmid := θ hmid
 have Hpd := θ hd
 have Hn1 := θ hn1
 have Hn2 := θ hn2
 have s1 : n1 ≤ 1000000 := by rw [← hn1]; exact hs.1
 have s2 : m1 ≤ 1000000 := by rw [← hm1]; exact hsv.1
 obtain ⟨E, hE⟩ := exq (Mir.appE f.it v.ch)
 obtain ⟨L, hL⟩ := exq (Mir.appS f.it v.ch)
 rw [hL] at hms
 have hL6 : L.length ≤ 65536 := by
  rw [← hL]; unfold Mir.appS
  by_cases h0 : Mir.appE f.it v.ch = 0
  · rw [if_pos h0]
    unfold Mir.sortI
    rw [(List.mergeSort_perm _ _).length_eq]
    unfold Mir.appE at h0
    by_cases c1 : Mir.itE f.it ≠ 0
    · rw [if_pos c1] at h0; exact absurd h0 c1
    rw [if_neg c1] at h0
    by_cases c2 : ¬(v.ch.length ≤ 65536 ∧ Mir.incS (v.ch.map Mir.chN) = true)
    · rw [if_pos c2] at h0; omega
    rw [if_neg c2] at h0
    by_cases c3 : v.ch.all (Mir.okC f.it) = false
    · rw [if_pos c3] at h0; omega
    rw [if_neg c3] at h0
    by_cases c4 : 65536 < (Mir.merged f.it v.ch).length
    · rw [if_pos c4] at h0; omega
    omega
  rw [if_neg h0]; exact Nat.zero_le _
 have Hms := θ hms
 obtain ⟨nl, hnl⟩ := exq L.length
 have HSt := θ (fun A' c' W h => State_any A' nl c' L W hnl (by omega) h hms)
 rw [hnl] at hL6
 obtain ⟨S, hS⟩ := exq (Mir.stS L)
 obtain ⟨E2, hE2⟩ := exq (Mir.itE L)
 have hSd : IsD S := by
  rw [← hS]; unfold Mir.stS
  by_cases h : Mir.itE L = 0
  · rw [if_pos h]; exact treeS_isD _
  rw [if_neg h]; exact z32_isD
 have HSd := θ hSd
 rw [hS, hE2] at HSt
 have HAp := θ (fun W hb h => (show Calls Tryz.prog 86 #[.slice A n1 ca, .slice C m1 cc] W (fun e w' => ∃ A' c' zs, e = .returned (.tuple #[.slice A' nl c', .int .i64 E]) ∧ Hid (zs.map Prod.fst = L) ∧ Hid (ItDat wb zs) ∧ Hid (w'.ownsRow W.heap.size 61 2 (.slice A' nl c') nl (itZ zs)) ∧ Below W.heap.size W w') from (apply_any A C n1 m1 ca cc f.it v.ch za wb W hb hza hda hn1 hm1 s1 s2 h hC).mono (fun e w' hp => by
  obtain ⟨A', c', zs, h1, h2, h3, h4, h5⟩ := hp
  rw [hL] at h2
  have hx : zs.length = nl := by rw [← hnl, ← h2.out, List.length_map]
  rw [hx, hE] at h1
  rw [hx] at h4
  exact ⟨A', c', zs, h1, h2, h3, h4, h5⟩)))
 have HR : Hid (Mir.apS f v = if E = 0 ∧ E2 = 0 ∧ S = v.st then (⟨f.pub, f.many, v.no, L, f.ea⟩, true) else (f, false)) := θ (by rw [← hE, ← hE2, ← hS, ← hL]; rfl)
 have Hnl := θ hnl
 have hcam' := θ (And.intro hcam hcbm)
 have hcb' := θ (And.intro hca hcb)
 have HBv := θ hB
 generalize hvn : v.no = vn at h0
 have Hvn := θ hvn
 clear hza hda hbw hok
 clear hFe hd hA hB hC hst hmid hn1 hn2 hm1 hhi hE hL hms hS hE2 hSd hnl hs hsv hV hvn hcam hcbm hca hcb hcc hccm hL6
 by_cases hE : E = 0
 · subst hE
   by_cases hE2 : E2 = 0
   · subst hE2
     by_cases hS : S = v.st
     · have HEq := θ (fun W => show (Op.equalIn 10000 29 (.agg (arrK .u8 S)) (.agg (v.st.map fun (n : Nat) => Value.int .u8 (n : Int)).toArray)).run Tryz.prog W = .ok true W by
         have := run_eqD HSd.out Hst.out W
         rw [show decide (S = v.st) = true from decide_eq_true hS] at this
         rw [← arrK_list]
         exact this)
       have HS := θ hS
       clear hS
       go_enter_defers Tryz.func45, Tryz.ntmps45
       go_upto_region 1 with fail
       generalize hge : World.alloc (World.alloc (World.alloc (World.alloc _ _) _) _) _ = w1
       have b4 := blk_fourB w F V (Mir.folA z32 0 0 (.slice none 0 0) (.slice none 0 0)) #[.bool false] 48 34 48 4 w1 hge
       have HX := θ b4.1
       have HY := θ b4.2.1
       have HRr := θ b4.2.2.1
       have HK := θ b4.2.2.2.1
       have HBw := θ b4.2.2.2.2
       have y34 : w1.cell? ⟨w.heap.size, 34, none⟩ = some (.slice A n1 ca) := (HX.out.cell 34).trans h34
       have y33 : w1.cell? ⟨w.heap.size + 1, 33, none⟩ = some (.slice C m1 cc) := (HY.out.cell 33).trans h33
       clear hge b4
       go_wp2_with fail
       have hz1 : w.heap.size + 4 ≤ w1.heap.size := HK.out.lt
       refine (HAp.out w1 (below_of Hbw.out HBw.out Hbw.out.size) (HA.out.below HBw.out).cells).mono ?_
       rintro e w2 ⟨A2, c2, zs, rfl, Hzs, Hdz, HO2, hb2⟩
       have hI2 : ItemsC w2 A2 L := Hzs.out ▸ Hdz.out.items (below_of (below_of Hbw.out HBw.out Hbw.out.size) hb2 (below_of Hbw.out HBw.out Hbw.out.size).size) (Cells.own HO2.out)
       have HX2 := θ (HX.out.below hb2)
       have HY2 := θ (HY.out.below hb2)
       have HR2 := θ (HRr.out.below hb2)
       have HK2 := θ (HK.out.below hb2)
       have HI2 := θ hI2
       have HB2 := θ (bo HBw hb2)
       clear y34 y33 hb2 HX HY HRr HK HBw hI2
       go_wp2_with fail
       refine (mustI_ok A2 nl c2 _).mono ?_
       rintro e w3 ⟨rfl, rfl⟩
       have hst3 : w3.rangeAt (w.heap.size + 1) 1 (v.st.map fun (n : Nat) => Value.int .u8 (n : Int)) := fun i u hu => by
        have hi : i < 32 := by have := (List.getElem?_eq_some_iff.1 hu).1; rw [List.length_map, Hst.out.1] at this; exact this
        rw [HY2.out.cell (1 + i), Hmid.out i hi, ← Array.getElem?_toList, arrK_toList]
        exact hu
       have Hst3 := θ hst3
       have ltY : w.heap.size + 1 < w3.heap.size := HY2.out.lt
       clear hst3
       go_upto_region 3 with fail
       refine wp_region_held_drew (S := fun W => Below w3.heap.size w3 W) (by kernel_rfl) (below_drewN (Below.refl _ _) 1) (fun Hd => ?_)
       have Hd : Below w3.heap.size w3 w3.drew := below_drewN (Below.refl _ _) 1
       have Zd : w3.heap.size ≤ w3.drew.heap.size := Nat.le_refl _
       generalize World.drew w3 = wd at *
       refine wpAnyH_take (i := 0) (v := ?_) rfl (by kernel_rfl) (by kernel_rfl) (by kernel_rfl) (fun _ _ _ h => put_leaves rfl (by decide) (by decide) h) (Or.inl ⟨by rfl, ?_⟩) Hd ?_
       rotate_left
       · intro wS hSw
         go_simp
         try with_reducible rfl
       try simp only [la, Act.put]
       refine wpAnyH_take (i := 5) (v := ?_) rfl (by kernel_rfl) (by kernel_rfl) (by kernel_rfl) (fun _ _ _ h => put_leaves rfl (by decide) (by decide) h) (Or.inl ⟨by rfl, ?_⟩) Hd ?_
       rotate_left
       · intro wS hSw
         go_simp
         try with_reducible rfl
       try simp only [la, Act.put]
       refine wpAnyH_take (i := 6) (v := .agg (v.st.map fun (n : Nat) => Value.int .u8 (n : Int)).toArray) rfl (by kernel_rfl) (by kernel_rfl) (by kernel_rfl) (fun _ _ _ h => put_leaves rfl (by decide) (by decide) h) (yieldsIf_load_mid (by rfl) _ _ rfl (w.heap.size + 1) 1 rfl (v.st.map fun (n : Nat) => Value.int .u8 (n : Int)) (.array 32 5) (fun W hW => fun i u hu => cellkM hW (Hst3.out i u hu)) (by kernel_rfl) rfl (dV_info Hst.out.1)) Hd ?_
       try simp only [la, Act.put]
       refine ty 1 rfl (fun K hK => ?_)
       go_simp
       refine (HSt.out A2 c2 _ (HI2.out.below Hd)).mono ?_
       rintro e w1_ ⟨rfl, hb1⟩
       have Hb1 := below_of Hd hb1 Hd.size
       have Zb1 := Nat.le_trans Zd hb1.size
       go_wp2_with fail
       refine hK.out _ _ Hb1 fun _ => ?_
       clear hK K
       try simp only [la, Act.put]
       refine wpAnyH_take (i := 2) (v := ?_) rfl (by kernel_rfl) (by kernel_rfl) (by kernel_rfl) (fun _ _ _ h => put_leaves rfl (by decide) (by decide) h) (Or.inl ⟨by rfl, ?_⟩) Hb1 ?_
       rotate_left
       · intro wS hSw
         go_simp
         try with_reducible rfl
       try simp only [la, Act.put]
       refine wpAnyH_take (i := 3) (v := ?_) rfl (by kernel_rfl) (by kernel_rfl) (by kernel_rfl) (fun _ _ _ h => put_leaves rfl (by decide) (by decide) h) (Or.inl ⟨by rfl, ?_⟩) Hb1 ?_
       rotate_left
       · intro wS hSw
         go_simp
         try with_reducible rfl
       try simp only [la, Act.put]
       refine ty 4 rfl (fun K hK => ?_)
       go_simp
       refine (mustD_ok S HSd.out _).mono ?_
       rintro e w2_ ⟨rfl, hb2⟩
       have Hb2 := below_of Hb1 hb2 Hb1.size
       have Zb2 := Nat.le_trans Zb1 hb2.size
       go_wp2_with fail
       refine hK.out _ _ Hb2 fun _ => ?_
       clear hK K
       try simp only [la, Act.put]
       refine wpAnyH_take (i := 7) (v := ?_) rfl (by kernel_rfl) (by kernel_rfl) (by kernel_rfl) (fun _ _ _ h => put_leaves rfl (by decide) (by decide) h) (Or.inl ⟨by rfl, ?_⟩) Hb2 ?_
       rotate_left
       · intro wS hSw
         have hEq := HEq.out wS
         go_simp
         try with_reducible rfl
       try simp only [la, Act.put]
       refine td ?_ _
       have HY9 := Hb2
       have HX9 := θ (HX2.out.below HY9)
       have HY9v := θ (HY2.out.below HY9)
       have HR9 := θ (HR2.out.below HY9)
       have HK9 := θ (HK2.out.below HY9)
       have HB9 := θ (bo HB2 HY9)
       have HO9 := θ (own_below HO2.out HY9)
       have z0 : w2_.cell? ⟨w.heap.size + 1, 0, none⟩ = some (.int .i64 vn) := (HY9v.out.cell 0).trans h0
       have hzW : w.heap.size + 4 ≤ w2_.heap.size := HK9.out.lt
       clear HY9 HX2 HY2 HR2 HK2 HB2 HO2 HI2
       have hG : (F.setIfInBounds 33 (.int .i64 vn)).setIfInBounds 34 (.slice A2 nl c2) = Mir.folA f.pub f.many vn (.slice A2 nl c2) (.slice B n2 cb) := by rw [hFe'.out]; exact folA_set Hpd.out.1 ..
       obtain ⟨G, hGG⟩ := exq (Mir.folA f.pub f.many vn (.slice A2 nl c2) (.slice B n2 cb))
       have hf33 : F[33]? = some (.int .i64 f.no) := by rw [hFe'.out]; exact Mir.folA_hi Hpd.out.1 f.many f.no (.slice A n1 ca) (.slice B n2 cb) 1
       rw [hGG] at hG
       have HG := θ hG
       have HGG := θ hGG
       have iG := θ (show (Tryz.prog.info? 48).map (·.size) = some G.size by rw [← hGG]; exact infoFol Hpd.out.1 ..)
       have aG := θ (show G.all (·.oneCell') = true by rw [← hGG]; exact Mir.folA_all Hpd.out.1 rfl rfl)
       clear hG hGG
       go_wp2_with (first
        | (refine wpList_put_blk rfl 48 (.tmp 4) (.tmp 26) rfl (w.heap.size + 2) F rfl rfl 48 (Mir.folA z32 0 0 (.slice none 0 0) (.slice none 0 0)) HR9.out iF.out zF.out aF.out ?_
           intro w6 h6 hg6 hz6
           have hB6 := θ (below_grown HB9.out hg6 HB9.out.size (fun k hk => by cases hk; omega))
           have hK6 := θ (HK9.out.grown hg6 (fun e => by injection e with e; omega))
           have hO6 := θ (HO9.out.kept hg6 (.inr (fun e => by have := own_base HO9.out _ e; omega)))
           have hR6 := θ h6
           have y0 : w6.cell? ⟨w.heap.size + 1, 0, none⟩ = some (.int .i64 vn) := ((HY9v.out.grown hg6 (fun e => by injection e with e; omega)).cell 0).trans h0
           have r33 : w6.cell? ⟨w.heap.size + 1 + 1, 33, none⟩ = some (.int .i64 f.no) := (h6.cell 33).trans hf33
           have r34 : w6.cell? ⟨w.heap.size + 1 + 1, 34, none⟩ = some (.slice A n1 ca) := (h6.cell 34).trans h34
           have f33 : w6.frozen? ⟨w.heap.size + 1 + 1, 33, none⟩ = false := h6.frozen 33
           have f34 : w6.frozen? ⟨w.heap.size + 1 + 1, 34, none⟩ = false := h6.frozen 34
           have k0 : w6.cell? ⟨w.heap.size + 1 + 1 + 1, 0, none⟩ = some (.bool false) := hK6.out.cell 0
           have k0f : w6.frozen? ⟨w.heap.size + 1 + 1 + 1, 0, none⟩ = false := hK6.out.frozen 0
           have hW := θ (show Blk ((w6.setCell ⟨w.heap.size + 1 + 1, 33, none⟩ (.int .i64 vn)).setCell ⟨w.heap.size + 1 + 1, 34, none⟩ (.slice A2 nl c2)) (w.heap.size + 2) 48 G from HG.out ▸ (h6.set_ 33 _).set_ 34 _)
           clear h6 hg6 hz6)
        | (refine wpList_load_blk rfl 48 (.tmp 2) rfl w.heap.size rfl 48 F _ HX9.out Tryz.underlying48 rfl iF.out ?_)
        | (refine wpList_load_blk rfl 48 (.tmp 4) rfl (w.heap.size + 2) rfl 48 G _ hW.out Tryz.underlying48 rfl iG.out ?_)
        | (refine wpList_store_same rfl 48 (.tmp 4) (.tmp 32) rfl (w.heap.size + 2) G rfl rfl 48 hW.out iG.out aG.out ?_))
       refine leaves_cons (f := 84) (args := #[.pointer (some ⟨w.heap.size, 0, none⟩), .pointer (some ⟨w.heap.size + 2, 0, none⟩), .pointer (some ⟨w.heap.size + 3, 0, none⟩)]) (by simp) (by simp [go_sem]) ?_
       refine (catch_idle _ _ _ _).mono ?_
       rintro e u' w'' ⟨rfl, rfl, rfl⟩
       show Leaves _ _ _ _ [] .returning _
       have hr : Mir.apS f v = (⟨f.pub, f.many, v.no, L, f.ea⟩, true) := by rw [HR.out, if_pos (by first | exact ⟨rfl, rfl, HS.out⟩ | exact ⟨trivial, trivial, HS.out⟩)]
       rw [hr]
       have g1 := grown_setOne (w := w6) (g := w.heap.size + 1 + 1) (o := 33) (.int .i64 vn)
       have g2 := grown_setOne (w := w6.setCell ⟨w.heap.size + 1 + 1, 33, none⟩ (.int .i64 vn)) (g := w.heap.size + 1 + 1) (o := 34) (.slice A2 nl c2)
       have g3 := grown_setOne (w := (w6.setCell ⟨w.heap.size + 1 + 1, 33, none⟩ (.int .i64 vn)).setCell ⟨w.heap.size + 1 + 1, 34, none⟩ (.slice A2 nl c2)) (g := w.heap.size + 1 + 1 + 1) (o := 0) (.bool true)
       have k1 := (hK6.out.grown g1 (fun e => by injection e with e; omega)).grown g2 (fun e => by injection e with e; omega)
       have k2 := k1.set_ 0 (.bool true)
       have r2 := hW.out.grown g3 (fun e => by injection e with e; omega)
       have o1 := ((hO6.out.kept g1 (.inr (fun e => by have := own_base hO6.out _ e; omega))).kept g2 (.inr (fun e => by have := own_base hO6.out _ e; omega))).kept g3 (.inr (fun e => by have := own_base hO6.out _ e; omega))
       have b1 := ((hB6.out.setCell (p := ⟨w.heap.size + 1 + 1, 33, none⟩) (by show w.heap.size ≤ w.heap.size + 1 + 1; omega) (.int .i64 vn)).setCell (p := ⟨w.heap.size + 1 + 1, 34, none⟩) (by show w.heap.size ≤ w.heap.size + 1 + 1; omega) (.slice A2 nl c2)).setCell (p := ⟨w.heap.size + 1 + 1 + 1, 0, none⟩) (by show w.heap.size ≤ w.heap.size + 1 + 1 + 1; omega) (.bool true)
       obtain ⟨A7, c7, hv7, hk7, hm7, -⟩ := own_form o1
       cases hv7
       refine ⟨.tuple #[.agg G, .bool true], results_fb rfl rfl rfl r2 k2 iG.out, G, rfl, ⟨A2, c2, B, cb, zs, ?_, Hpd.out, Hzs.out, Hdz.out, CellsO.own o1 (fun b hb => Hok.out b (by omega)), HBv.out, ?_, hm7, ?_, hcam'.out.2⟩, b1⟩
       · show G = Mir.folA f.pub f.many v.no (.slice A2 L.length c2) (.slice B f.ea.length cb)
         rw [Hvn.out, Hnl.out, Hn2.out, HGG.out]
       · show L.length ≤ c2
         rw [Hnl.out]; exact hk7
       show f.ea.length ≤ cb
       rw [Hn2.out]; exact hcb'.out.2
     have HEq := θ (fun W => show (Op.equalIn 10000 29 (.agg (arrK .u8 S)) (.agg (v.st.map fun (n : Nat) => Value.int .u8 (n : Int)).toArray)).run Tryz.prog W = .ok false W by
       have := run_eqD HSd.out Hst.out W
       rw [show decide (S = v.st) = false from decide_eq_false hS] at this
       rw [← arrK_list]
       exact this)
     have HS := θ hS
     clear hS
     go_enter_defers Tryz.func45, Tryz.ntmps45
     go_upto_region 1 with fail
     generalize hge : World.alloc (World.alloc (World.alloc (World.alloc _ _) _) _) _ = w1
     have b4 := blk_fourB w F V (Mir.folA z32 0 0 (.slice none 0 0) (.slice none 0 0)) #[.bool false] 48 34 48 4 w1 hge
     have HX := θ b4.1
     have HY := θ b4.2.1
     have HRr := θ b4.2.2.1
     have HK := θ b4.2.2.2.1
     have HBw := θ b4.2.2.2.2
     have y34 : w1.cell? ⟨w.heap.size, 34, none⟩ = some (.slice A n1 ca) := (HX.out.cell 34).trans h34
     have y33 : w1.cell? ⟨w.heap.size + 1, 33, none⟩ = some (.slice C m1 cc) := (HY.out.cell 33).trans h33
     clear hge b4
     go_wp2_with fail
     have hz1 : w.heap.size + 4 ≤ w1.heap.size := HK.out.lt
     refine (HAp.out w1 (below_of Hbw.out HBw.out Hbw.out.size) (HA.out.below HBw.out).cells).mono ?_
     rintro e w2 ⟨A2, c2, zs, rfl, Hzs, Hdz, HO2, hb2⟩
     have hI2 : ItemsC w2 A2 L := Hzs.out ▸ Hdz.out.items (below_of (below_of Hbw.out HBw.out Hbw.out.size) hb2 (below_of Hbw.out HBw.out Hbw.out.size).size) (Cells.own HO2.out)
     have HX2 := θ (HX.out.below hb2)
     have HY2 := θ (HY.out.below hb2)
     have HR2 := θ (HRr.out.below hb2)
     have HK2 := θ (HK.out.below hb2)
     have HI2 := θ hI2
     have HB2 := θ (bo HBw hb2)
     clear y34 y33 hb2 HX HY HRr HK HBw hI2
     go_wp2_with fail
     refine (mustI_ok A2 nl c2 _).mono ?_
     rintro e w3 ⟨rfl, rfl⟩
     have hst3 : w3.rangeAt (w.heap.size + 1) 1 (v.st.map fun (n : Nat) => Value.int .u8 (n : Int)) := fun i u hu => by
      have hi : i < 32 := by have := (List.getElem?_eq_some_iff.1 hu).1; rw [List.length_map, Hst.out.1] at this; exact this
      rw [HY2.out.cell (1 + i), Hmid.out i hi, ← Array.getElem?_toList, arrK_toList]
      exact hu
     have Hst3 := θ hst3
     have ltY : w.heap.size + 1 < w3.heap.size := HY2.out.lt
     clear hst3
     go_upto_region 3 with fail
     refine wp_region_held_drew (S := fun W => Below w3.heap.size w3 W) (by kernel_rfl) (below_drewN (Below.refl _ _) 1) (fun Hd => ?_)
     have Hd : Below w3.heap.size w3 w3.drew := below_drewN (Below.refl _ _) 1
     have Zd : w3.heap.size ≤ w3.drew.heap.size := Nat.le_refl _
     generalize World.drew w3 = wd at *
     refine wpAnyH_take (i := 0) (v := ?_) rfl (by kernel_rfl) (by kernel_rfl) (by kernel_rfl) (fun _ _ _ h => put_leaves rfl (by decide) (by decide) h) (Or.inl ⟨by rfl, ?_⟩) Hd ?_
     rotate_left
     · intro wS hSw
       go_simp
       try with_reducible rfl
     try simp only [la, Act.put]
     refine wpAnyH_take (i := 5) (v := ?_) rfl (by kernel_rfl) (by kernel_rfl) (by kernel_rfl) (fun _ _ _ h => put_leaves rfl (by decide) (by decide) h) (Or.inl ⟨by rfl, ?_⟩) Hd ?_
     rotate_left
     · intro wS hSw
       go_simp
       try with_reducible rfl
     try simp only [la, Act.put]
     refine wpAnyH_take (i := 6) (v := .agg (v.st.map fun (n : Nat) => Value.int .u8 (n : Int)).toArray) rfl (by kernel_rfl) (by kernel_rfl) (by kernel_rfl) (fun _ _ _ h => put_leaves rfl (by decide) (by decide) h) (yieldsIf_load_mid (by rfl) _ _ rfl (w.heap.size + 1) 1 rfl (v.st.map fun (n : Nat) => Value.int .u8 (n : Int)) (.array 32 5) (fun W hW => fun i u hu => cellkM hW (Hst3.out i u hu)) (by kernel_rfl) rfl (dV_info Hst.out.1)) Hd ?_
     try simp only [la, Act.put]
     refine ty 1 rfl (fun K hK => ?_)
     go_simp
     refine (HSt.out A2 c2 _ (HI2.out.below Hd)).mono ?_
     rintro e w1_ ⟨rfl, hb1⟩
     have Hb1 := below_of Hd hb1 Hd.size
     have Zb1 := Nat.le_trans Zd hb1.size
     go_wp2_with fail
     refine hK.out _ _ Hb1 fun _ => ?_
     clear hK K
     try simp only [la, Act.put]
     refine wpAnyH_take (i := 2) (v := ?_) rfl (by kernel_rfl) (by kernel_rfl) (by kernel_rfl) (fun _ _ _ h => put_leaves rfl (by decide) (by decide) h) (Or.inl ⟨by rfl, ?_⟩) Hb1 ?_
     rotate_left
     · intro wS hSw
       go_simp
       try with_reducible rfl
     try simp only [la, Act.put]
     refine wpAnyH_take (i := 3) (v := ?_) rfl (by kernel_rfl) (by kernel_rfl) (by kernel_rfl) (fun _ _ _ h => put_leaves rfl (by decide) (by decide) h) (Or.inl ⟨by rfl, ?_⟩) Hb1 ?_
     rotate_left
     · intro wS hSw
       go_simp
       try with_reducible rfl
     try simp only [la, Act.put]
     refine ty 4 rfl (fun K hK => ?_)
     go_simp
     refine (mustD_ok S HSd.out _).mono ?_
     rintro e w2_ ⟨rfl, hb2⟩
     have Hb2 := below_of Hb1 hb2 Hb1.size
     have Zb2 := Nat.le_trans Zb1 hb2.size
     go_wp2_with fail
     refine hK.out _ _ Hb2 fun _ => ?_
     clear hK K
     try simp only [la, Act.put]
     refine wpAnyH_take (i := 7) (v := ?_) rfl (by kernel_rfl) (by kernel_rfl) (by kernel_rfl) (fun _ _ _ h => put_leaves rfl (by decide) (by decide) h) (Or.inl ⟨by rfl, ?_⟩) Hb2 ?_
     rotate_left
     · intro wS hSw
       have hEq := HEq.out wS
       go_simp
       try with_reducible rfl
     try simp only [la, Act.put]
     refine td ?_ _
     have HY9 := Hb2
     go_wp2_with fail
     refine leaves_cons (f := 84) (args := #[.pointer (some ⟨w.heap.size, 0, none⟩), .pointer (some ⟨w.heap.size + 2, 0, none⟩), .pointer (some ⟨w.heap.size + 3, 0, none⟩)]) (by simp) (by simp [go_sem]) ?_
     refine (catch_panics w.heap.size (w.heap.size + 2) (w.heap.size + 3) w.heap.size [] F _ false w w2_ (HX2.out.below HY9) (HR2.out.below HY9) (HK2.out.below HY9) iF.out zF.out aF.out ((bo HB2 HY9)) (by omega) (by omega) (by omega) (by omega) ((bo HB2 HY9)).size).mono ?_
     rintro e u' w'' ⟨rfl, rfl, hR', hK', hB'⟩
     show Leaves _ _ _ _ [] .returning _
     have hr : Mir.apS f v = (f, false) := by rw [HR.out, if_neg (fun h => HS.out h.2.2)]
     rw [hr]
     exact ⟨.tuple #[.agg F, .bool false], results_fb rfl rfl rfl hR' hK' iF.out, F, rfl, HF.out.below hB', hB'⟩
   go_enter_defers Tryz.func45, Tryz.ntmps45
   go_upto_region 1 with fail
   generalize hge : World.alloc (World.alloc (World.alloc (World.alloc _ _) _) _) _ = w1
   have b4 := blk_fourB w F V (Mir.folA z32 0 0 (.slice none 0 0) (.slice none 0 0)) #[.bool false] 48 34 48 4 w1 hge
   have HX := θ b4.1
   have HY := θ b4.2.1
   have HRr := θ b4.2.2.1
   have HK := θ b4.2.2.2.1
   have HBw := θ b4.2.2.2.2
   have y34 : w1.cell? ⟨w.heap.size, 34, none⟩ = some (.slice A n1 ca) := (HX.out.cell 34).trans h34
   have y33 : w1.cell? ⟨w.heap.size + 1, 33, none⟩ = some (.slice C m1 cc) := (HY.out.cell 33).trans h33
   clear hge b4
   go_wp2_with fail
   have hz1 : w.heap.size + 4 ≤ w1.heap.size := HK.out.lt
   refine (HAp.out w1 (below_of Hbw.out HBw.out Hbw.out.size) (HA.out.below HBw.out).cells).mono ?_
   rintro e w2 ⟨A2, c2, zs, rfl, Hzs, Hdz, HO2, hb2⟩
   have hI2 : ItemsC w2 A2 L := Hzs.out ▸ Hdz.out.items (below_of (below_of Hbw.out HBw.out Hbw.out.size) hb2 (below_of Hbw.out HBw.out Hbw.out.size).size) (Cells.own HO2.out)
   have HX2 := θ (HX.out.below hb2)
   have HY2 := θ (HY.out.below hb2)
   have HR2 := θ (HRr.out.below hb2)
   have HK2 := θ (HK.out.below hb2)
   have HI2 := θ hI2
   have HB2 := θ (bo HBw hb2)
   clear y34 y33 hb2 HX HY HRr HK HBw hI2
   go_wp2_with fail
   refine (mustI_ok A2 nl c2 _).mono ?_
   rintro e w3 ⟨rfl, rfl⟩
   have hst3 : w3.rangeAt (w.heap.size + 1) 1 (v.st.map fun (n : Nat) => Value.int .u8 (n : Int)) := fun i u hu => by
    have hi : i < 32 := by have := (List.getElem?_eq_some_iff.1 hu).1; rw [List.length_map, Hst.out.1] at this; exact this
    rw [HY2.out.cell (1 + i), Hmid.out i hi, ← Array.getElem?_toList, arrK_toList]
    exact hu
   have Hst3 := θ hst3
   have ltY : w.heap.size + 1 < w3.heap.size := HY2.out.lt
   clear hst3
   go_upto_region 3 with fail
   refine wp_region_held_drew (S := fun W => Below w3.heap.size w3 W) (by kernel_rfl) (below_drewN (Below.refl _ _) 1) (fun Hd => ?_)
   have Hd : Below w3.heap.size w3 w3.drew := below_drewN (Below.refl _ _) 1
   have Zd : w3.heap.size ≤ w3.drew.heap.size := Nat.le_refl _
   generalize World.drew w3 = wd at *
   refine wpAnyH_take (i := 0) (v := ?_) rfl (by kernel_rfl) (by kernel_rfl) (by kernel_rfl) (fun _ _ _ h => put_leaves rfl (by decide) (by decide) h) (Or.inl ⟨by rfl, ?_⟩) Hd ?_
   rotate_left
   · intro wS hSw
     go_simp
     try with_reducible rfl
   try simp only [la, Act.put]
   refine wpAnyH_take (i := 5) (v := ?_) rfl (by kernel_rfl) (by kernel_rfl) (by kernel_rfl) (fun _ _ _ h => put_leaves rfl (by decide) (by decide) h) (Or.inl ⟨by rfl, ?_⟩) Hd ?_
   rotate_left
   · intro wS hSw
     go_simp
     try with_reducible rfl
   try simp only [la, Act.put]
   refine wpAnyH_take (i := 6) (v := .agg (v.st.map fun (n : Nat) => Value.int .u8 (n : Int)).toArray) rfl (by kernel_rfl) (by kernel_rfl) (by kernel_rfl) (fun _ _ _ h => put_leaves rfl (by decide) (by decide) h) (yieldsIf_load_mid (by rfl) _ _ rfl (w.heap.size + 1) 1 rfl (v.st.map fun (n : Nat) => Value.int .u8 (n : Int)) (.array 32 5) (fun W hW => fun i u hu => cellkM hW (Hst3.out i u hu)) (by kernel_rfl) rfl (dV_info Hst.out.1)) Hd ?_
   try simp only [la, Act.put]
   refine ty 1 rfl (fun K hK => ?_)
   go_simp
   refine (HSt.out A2 c2 _ (HI2.out.below Hd)).mono ?_
   rintro e w1_ ⟨rfl, hb1⟩
   have Hb1 := below_of Hd hb1 Hd.size
   have Zb1 := Nat.le_trans Zd hb1.size
   go_wp2_with fail
   refine hK.out _ _ Hb1 fun _ => ?_
   clear hK K
   try simp only [la, Act.put]
   refine wpAnyH_take (i := 2) (v := ?_) rfl (by kernel_rfl) (by kernel_rfl) (by kernel_rfl) (fun _ _ _ h => put_leaves rfl (by decide) (by decide) h) (Or.inl ⟨by rfl, ?_⟩) Hb1 ?_
   rotate_left
   · intro wS hSw
     go_simp
     try with_reducible rfl
   try simp only [la, Act.put]
   refine wpAnyH_take (i := 3) (v := ?_) rfl (by kernel_rfl) (by kernel_rfl) (by kernel_rfl) (fun _ _ _ h => put_leaves rfl (by decide) (by decide) h) (Or.inl ⟨by rfl, ?_⟩) Hb1 ?_
   rotate_left
   · intro wS hSw
     go_simp
     try with_reducible rfl
   try simp only [la, Act.put]
   refine ty 4 rfl (fun K hK => ?_)
   go_simp
   refine (mustD_bad S E2 hE2 _).mono ?_
   rintro e w2_ ⟨rfl, hb2⟩
   have HY9 := below_of Hb1 hb2 Hb1.size
   try go_wp2_with fail
   refine leaves_cons (f := 84) (args := #[.pointer (some ⟨w.heap.size, 0, none⟩), .pointer (some ⟨w.heap.size + 2, 0, none⟩), .pointer (some ⟨w.heap.size + 3, 0, none⟩)]) (by simp) (by simp [go_sem]) ?_
   refine (catch_panics w.heap.size (w.heap.size + 2) (w.heap.size + 3) w.heap.size [] F _ false w w2_ (HX2.out.below HY9) (HR2.out.below HY9) (HK2.out.below HY9) iF.out zF.out aF.out ((bo HB2 HY9)) (by omega) (by omega) (by omega) (by omega) ((bo HB2 HY9)).size).mono ?_
   rintro e u' w'' ⟨rfl, rfl, hR', hK', hB'⟩
   show Leaves _ _ _ _ [] .returning _
   have hr : Mir.apS f v = (f, false) := by rw [HR.out, if_neg (fun h => hE2 h.2.1)]
   rw [hr]
   exact ⟨.tuple #[.agg F, .bool false], results_fb rfl rfl rfl hR' hK' iF.out, F, rfl, HF.out.below hB', hB'⟩
 go_enter_defers Tryz.func45, Tryz.ntmps45
 go_upto_region 1 with fail
 generalize hge : World.alloc (World.alloc (World.alloc (World.alloc _ _) _) _) _ = w1
 have b4 := blk_fourB w F V (Mir.folA z32 0 0 (.slice none 0 0) (.slice none 0 0)) #[.bool false] 48 34 48 4 w1 hge
 have HX := θ b4.1
 have HY := θ b4.2.1
 have HRr := θ b4.2.2.1
 have HK := θ b4.2.2.2.1
 have HBw := θ b4.2.2.2.2
 have y34 : w1.cell? ⟨w.heap.size, 34, none⟩ = some (.slice A n1 ca) := (HX.out.cell 34).trans h34
 have y33 : w1.cell? ⟨w.heap.size + 1, 33, none⟩ = some (.slice C m1 cc) := (HY.out.cell 33).trans h33
 clear hge b4
 go_wp2_with fail
 have hz1 : w.heap.size + 4 ≤ w1.heap.size := HK.out.lt
 refine (HAp.out w1 (below_of Hbw.out HBw.out Hbw.out.size) (HA.out.below HBw.out).cells).mono ?_
 rintro e w2 ⟨A2, c2, zs, rfl, Hzs, Hdz, HO2, hb2⟩
 have hI2 : ItemsC w2 A2 L := Hzs.out ▸ Hdz.out.items (below_of (below_of Hbw.out HBw.out Hbw.out.size) hb2 (below_of Hbw.out HBw.out Hbw.out.size).size) (Cells.own HO2.out)
 have HX2 := θ (HX.out.below hb2)
 have HY2 := θ (HY.out.below hb2)
 have HR2 := θ (HRr.out.below hb2)
 have HK2 := θ (HK.out.below hb2)
 have HI2 := θ hI2
 have HB2 := θ (bo HBw hb2)
 clear y34 y33 hb2 HX HY HRr HK HBw hI2
 go_wp2_with fail
 refine (mustI_bad A2 nl c2 E hE _).mono ?_
 rintro e w3 ⟨rfl, rfl⟩
 try go_wp2_with fail
 refine leaves_cons (f := 84) (args := #[.pointer (some ⟨w.heap.size, 0, none⟩), .pointer (some ⟨w.heap.size + 2, 0, none⟩), .pointer (some ⟨w.heap.size + 3, 0, none⟩)]) (by simp) (by simp [go_sem]) ?_
 refine (catch_panics w.heap.size (w.heap.size + 2) (w.heap.size + 3) w.heap.size [] F _ false w w3 (HX2.out) (HR2.out) (HK2.out) iF.out zF.out aF.out (HB2.out) (by omega) (by omega) (by omega) (by omega) (HB2.out).size).mono ?_
 rintro e u' w'' ⟨rfl, rfl, hR', hK', hB'⟩
 show Leaves _ _ _ _ [] .returning _
 have hr : Mir.apS f v = (f, false) := by rw [HR.out, if_neg (fun h => hE h.1)]
 rw [hr]
 exact ⟨.tuple #[.agg F, .bool false], results_fb rfl rfl rfl hR' hK' iF.out, F, rfl, HF.out.below hB', hB'⟩
namespace Mir
theorem appS_mem {a : List It} {l : List Ch} {x : It} (h : x ∈ appS a l) : x ∈ a ∨ ∃ c ∈ l, c.1 = x := by
 unfold appS at h
 by_cases h0 : appE a l = 0
 · rw [if_pos h0] at h
   unfold sortI at h
   have h := (List.mergeSort_perm _ _).subset h
   unfold merged at h
   rcases List.mem_append.1 h with h | h
   · obtain ⟨c, hc, rfl⟩ := List.mem_map.1 h
     exact .inr ⟨c, (List.mem_filter.1 hc).1, rfl⟩
   exact .inl (List.mem_filter.1 h).1
 rw [if_neg h0] at h; cases h
theorem appS_len (a : List It) (l : List Ch) : (appS a l).length ≤ 65536 := by
 unfold appS
 by_cases h0 : appE a l = 0
 · rw [if_pos h0]
   unfold sortI
   rw [(List.mergeSort_perm _ _).length_eq]
   unfold appE at h0
   by_cases c1 : itE a ≠ 0
   · rw [if_pos c1] at h0; exact absurd h0 c1
   rw [if_neg c1] at h0
   by_cases c2 : ¬(l.length ≤ 65536 ∧ incS (l.map chN) = true)
   · rw [if_pos c2] at h0; omega
   rw [if_neg c2] at h0
   by_cases c3 : l.all (okC a) = false
   · rw [if_pos c3] at h0; omega
   rw [if_neg c3] at h0
   by_cases c4 : 65536 < (merged a l).length
   · rw [if_pos c4] at h0; omega
   omega
 rw [if_neg h0]; exact Nat.zero_le _
theorem app_small {f : Fo} {v : Ve} (hf : SmF f) (hv : SmV v) : ∀ x ∈ appS f.it v.ch, x.2.length ≤ 900000 := by
 intro x hx
 rcases appS_mem hx with h | ⟨c, hc, rfl⟩
 · exact hf.2.1 x h
 exact hv.2 c hc
theorem apS_small {f : Fo} {v : Ve} (hf : SmF f) (hv : SmV v) : SmF (apS f v).1 := by
 unfold apS
 split
 · exact ⟨Nat.le_trans (appS_len _ _) (by omega), app_small hf hv, hf.2.2⟩
 exact hf
theorem apS_ea (f : Fo) (v : Ve) : (apS f v).1.ea = f.ea := by unfold apS; split <;> rfl
theorem apS_no (f : Fo) (v : Ve) : (apS f v).1.no = if (apS f v).2 then v.no else f.no := by unfold apS; split <;> rfl
theorem drain_nil (f : Fo) : drain [] f = { f with ea := [] } := rfl
theorem drain_cons (v : Ve) (l : List Ve) (f : Fo) : drain (v :: l) f = if v.no = f.no + 1 then drain l (apS { f with ea := l } v).1 else { f with ea := v :: l } := rfl
theorem verE_zero {p : List Nat} {m : Int} {v : Ve} (h : verE p m v = 0) : 1 ≤ v.no ∧ v.no ≤ 4096 := by
 unfold verE at h
 by_cases h1 : v.no < 1 ∨ 4096 < v.no
 · rw [if_pos h1] at h; omega
 omega
theorem foE_zero {f : Fo} (h : foE f = 0) : manyB f.many = true ∧ 0 ≤ f.no ∧ f.no ≤ 4096 ∧ itE f.it = 0 ∧ f.ea.length ≤ 64 ∧ earlyOk (f.no + 1) f.ea = true ∧ verAll f.pub f.many f.ea = 0 := by
 unfold foE at h
 by_cases c1 : manyB f.many = false
 · rw [if_pos c1] at h; omega
 rw [if_neg c1] at h
 by_cases c2 : f.no < 0 ∨ 4096 < f.no
 · rw [if_pos c2] at h; omega
 rw [if_neg c2] at h
 by_cases c3 : itE f.it ≠ 0
 · rw [if_pos c3] at h; exact absurd h c3
 rw [if_neg c3] at h
 by_cases c4 : f.no = 0 ∧ 0 < f.it.length
 · rw [if_pos c4] at h; omega
 rw [if_neg c4] at h
 by_cases c5 : 64 < f.ea.length
 · rw [if_pos c5] at h; omega
 rw [if_neg c5] at h
 by_cases c6 : earlyOk (f.no + 1) f.ea = false
 · rw [if_pos c6] at h; omega
 rw [if_neg c6] at h
 exact ⟨by simpa using c1, by omega, by omega, by simpa using c3, by omega, by simpa using c6, h⟩
theorem any_iff {l : List Ve} {no : Int} : (l.any fun u => decide (u.no = no)) = true ↔ ∃ u ∈ l, u.no = no := by
 rw [List.any_eq_true]
 exact ⟨fun ⟨u, h1, h2⟩ => ⟨u, h1, of_decide_eq_true h2⟩, fun ⟨u, h1, h2⟩ => ⟨u, h1, decide_eq_true h2⟩⟩
theorem cut_filter : ∀ (l : List Ve) (k : Nat) (no : Int), (∀ i u, l[i]? = some u → (i < k ↔ u.no < no)) → (l.filter fun u => decide (u.no < no)) = l.take k ∧ (l.filter fun u => !decide (u.no < no)) = l.drop k
 | [], k, no, _ => by simp
 | u :: l, 0, no, h => by
   have h1 := cut_filter l 0 no (fun i v hi => ⟨fun hlt => by omega, fun hlt => by have := (h (i + 1) v (by simpa using hi)).2 hlt; omega⟩)
   have h2 : ¬ u.no < no := fun hlt => by have := (h 0 u rfl).2 hlt; omega
   rw [List.filter_cons_of_neg (by simpa using h2), List.filter_cons_of_pos (by simpa using h2)]
   rw [List.take_zero, List.drop_zero] at h1 ⊢
   rw [h1.1, h1.2]
   exact ⟨rfl, rfl⟩
 | u :: l, k + 1, no, h => by
   have h1 := cut_filter l k no (fun i v hi => by have := h (i + 1) v (by simpa using hi); omega)
   have h2 : u.no < no := (h 0 u rfl).1 (by omega)
   rw [List.filter_cons_of_pos (by simpa using h2), List.filter_cons_of_neg (by simpa using h2), h1.1, h1.2]
   exact ⟨rfl, rfl⟩
end Mir
theorem VersC.insert {wb w : World} {l : List Mir.Ve} {Vs : List (Array Value)} {v : Mir.Ve} {V : Array Value} {A : Option Addr} (hb : Below wb.heap.size wb w) (h1 : Vs.length = l.length) (h3 : ∀ (k : Nat) (v : Mir.Ve) (V : Array Value), l[k]? = some v → Vs[k]? = some V → VerC wb v V) (hV : VerC wb v V) (k : Nat)
    (hc : Cells w A (((Vs.take k).map Array.toList).flatten ++ V.toList ++ ((Vs.drop k).map Array.toList).flatten)) : VersC w A (l.take k ++ [v] ++ l.drop k) := by
 have h3' : ∀ (k : Nat) (v : Mir.Ve) (V : Array Value), l[k]? = some v → Vs[k]? = some V → VerC w v V := fun k v V e1 e2 => (h3 k v V e1 e2).below hb
 refine ⟨Vs.take k ++ [V] ++ Vs.drop k, by simp [h1], by simpa using hc, ?_⟩
 intro i u U e1 e2
 have hk : (Vs.take k).length = (l.take k).length := by simp [h1]
 rw [List.append_assoc] at e1 e2
 rcases Nat.lt_or_ge i (l.take k).length with hi | hi
 · rw [List.getElem?_append_left hi] at e1
   rw [List.getElem?_append_left (by omega)] at e2
   rw [List.getElem?_take] at e1 e2
   split at e1
   · exact h3' i u U e1 (by rwa [if_pos (by assumption)] at e2)
   cases e1
 rw [List.getElem?_append_right hi] at e1
 rw [List.getElem?_append_right (by omega), hk] at e2
 cases hj : i - (l.take k).length with
 | zero =>
   rw [hj] at e1 e2
   simp at e1 e2
   subst e1; subst e2
   exact hV.below hb
 | succ j =>
   rw [hj] at e1 e2
   simp at e1 e2
   exact h3' (k + j) u U e1 e2
theorem run_oneV (V : Array Value) (hV : V.size = 38) (w : World) : (Instr.buildSlice 25 1 #[(0, .agg V)]).run Tryz.prog w = .ok (.slice (some ⟨w.heap.size, 0, none⟩) 1 1) (w.alloc (.cells V 34)) := by
 obtain ⟨ie, hie, hz, hs, -⟩ := info_parts (P := Tryz.prog) (e := 34) (z := .agg Mir.ver0) (size := 38) (bytes := 144) (by kernel_rfl)
 have hf := Great.fill_whole (s := 38) (by omega) [.agg V] ((Array.range (1 * ie.size)).map ((Value.agg Mir.ver0).cells[· % (Value.agg Mir.ver0).cells.size]!)) (fun v hv => by
  rw [List.mem_singleton] at hv; subst hv
  exact hV) (by rw [hs]; simp)
 refine run_buildSlice w 25 34 1 _ _ ie _ (by kernel_rfl) hie hz (by rw [hs]; decide) (by rw [hs]; decide) ?_
 rw [hs] at hf ⊢
 rw [show ([Value.agg V].flatMap fun v => v.cells.toList).toArray = V by simp [Value.cells]] at hf
 exact hf
theorem step_oneV {w : World} {ops : Array Oper} {o : Oper} {a : Act} {Q : Exit → Act → World → Prop} {K : Act → World → Prop} {E : Prop} (hgd : o.guard = none) (x : Operand) (ho : o.op = .buildSlice 25 1 #[(0, x)]) (V : Array Value) (hV : V.size = 38) (hx : a.eval x = .agg V)
    (h : K (a.put o.dst (.slice (some ⟨w.heap.size, 0, none⟩) 1 1)) (w.alloc (.cells V 34))) : if Region.wanted o (yielded ops a.tmps) = true then Oper.wp Tryz.prog o a w K Q else E := by
 have hw : Region.wanted o (yielded ops a.tmps) = true := by simp [Region.wanted, hgd]
 rw [if_pos hw]
 unfold Oper.wp execOp
 simp only [ho, List.map_toArray, List.map_cons, List.map_nil, hx, Sem.run_bind, run_oneV V hV w, Result.andThen_ok]
 exact h
namespace Mir
theorem sg_sign (s : List Nat) (m u : Nat) (its : List It) (cs : List Ch) (hu : u < m) (hm : m ≤ 4096) : sgOk (treeS (pubL s m)) m (mesS (u + 1) (stS its) cs) (vsnV s m u its cs).sg = true := by
 have hd : IsD (stS its) := by
  unfold stS
  by_cases h : itE its = 0
  · rw [if_pos h]; exact treeS_isD _
  rw [if_neg h]; exact z32_isD
 have hl : (mesS (u + 1) (stS its) cs).length ≤ 65536 := by rw [mesS_length _ _ _ hd]; omega
 have hv := ver_sign s m u (mesS (u + 1) (stS its) cs) (bitL (msgS (treeS (pubL s m)) u (mesS (u + 1) (stS its) cs)) 64) hu hm hl (fun _ _ => rfl)
 unfold sgOk vsnV
 simp only []
 rw [if_pos ⟨by omega, by omega, by omega, by omega, openL_length _ _ _ _, closL_length _ _ _ _, hl⟩, Int.toNat_natCast, Int.toNat_natCast]
 exact hv
theorem vsn_ver (s : List Nat) (m u : Nat) (its : List It) (cs : List Ch) (hu : u < m) (hm : m ≤ 4096) (hc : chOk cs = true) : verE (treeS (pubL s m)) m (vsnV s m u its cs) = 0 := by
 have h1 : (vsnV s m u its cs).no = (u : Int) + 1 := rfl
 have h2 : (vsnV s m u its cs).sg.i = (u : Int) := rfl
 have h3 : (vsnV s m u its cs).ch = cs := rfl
 have h4 : (vsnV s m u its cs).st = stS its := rfl
 unfold verE
 rw [h1, h2, h3, h4, show ((u : Int) + 1).toNat = u + 1 by omega, sg_sign s m u its cs hu hm, hc, if_neg (by omega), if_neg (by simp), if_neg (by rintro (h | h); omega; cases h)]
theorem vsn_app (s : List Nat) (m u : Nat) (r : List Nat) (k no : Int) (a b : List It) (ea : List Ve) (ha : itE a = 0) (hb : itE b = 0) (hl : a.length + b.length ≤ 65536) : apS ⟨r, k, no, a, ea⟩ (vsnV s m u b (diffS a b)) = (⟨r, k, (u : Int) + 1, b, ea⟩, true) := by
 obtain ⟨h1, h2⟩ := app_diff ha hb hl
 have h3 : (vsnV s m u b (diffS a b)).ch = diffS a b := rfl
 have h4 : (vsnV s m u b (diffS a b)).st = stS b := rfl
 unfold apS
 simp only [h3, h4, h1, h2, hb]
 simp
 rfl
theorem itE_nil : itE [] = 0 := by unfold itE incS; simp
theorem manyB_two : manyB 2 = true := by unfold manyB; decide
section
variable (s : List Nat) (a b : List It)
def rootK : List Nat := treeS (pubL s 2)
def v1K : Ve := vsnV s 2 0 a (diffS [] a)
def v2K : Ve := vsnV s 2 1 b (diffS a b)
def f0K : Fo := ⟨rootK s, 2, 0, [], []⟩
def g0K : Fo := ⟨rootK s, 2, 0, [], [v2K s a b]⟩
def f2K : Fo := ⟨rootK s, 2, 2, b, []⟩
variable {s a b} (ha : itE a = 0) (hb : itE b = 0) (hla : a.length ≤ 30000) (hlb : b.length ≤ 30000)
include ha hla
theorem v1_ver : verE (rootK s) 2 (v1K s a) = 0 := vsn_ver s 2 0 a _ (by omega) (by omega) (chOk_diff itE_nil ha (by simp; omega))
theorem v1_app (no : Int) (ea : List Ve) : apS ⟨rootK s, 2, no, [], ea⟩ (v1K s a) = (⟨rootK s, 2, 1, a, ea⟩, true) := vsn_app s 2 0 _ 2 no [] a ea itE_nil ha (by simp; omega)
include hb hlb
theorem v2_ver : verE (rootK s) 2 (v2K s a b) = 0 := vsn_ver s 2 1 b _ (by omega) (by omega) (chOk_diff ha hb (by omega))
theorem v2_app (no : Int) (ea : List Ve) : apS ⟨rootK s, 2, no, a, ea⟩ (v2K s a b) = (⟨rootK s, 2, 2, b, ea⟩, true) := vsn_app s 2 1 _ 2 no a b ea ha hb (by omega)
omit ha hla hb hlb
theorem f0_ok : foE (f0K s) = 0 := by
 unfold foE f0K
 simp only [manyB_two, itE_nil]
 simp [earlyOk, verAll]
theorem v1_no : (v1K s a).no = 1 := rfl
theorem v2_no : (v2K s a b).no = 2 := rfl
include ha hla
include hb hlb
theorem g0_ok : foE (g0K s a b) = 0 := by
 unfold foE g0K
 simp only [manyB_two, itE_nil, earlyOk, verAll, v2_ver ha hb hla hlb, v2_no]
 simp
theorem f2_ok : foE (f2K s b) = 0 := by
 have _ := ha
 have _ := hla
 have _ := hlb
 unfold foE f2K
 simp only [manyB_two, hb]
 simp [earlyOk, verAll]
theorem rcv_f0_v2 : rcv (f0K s) (v2K s a b) = (g0K s a b, 0) := by
 unfold rcv
 rw [f0_ok, if_neg (by simp), show verE (f0K s).pub (f0K s).many (v2K s a b) = 0 from v2_ver ha hb hla hlb, if_neg (by simp), if_neg (by simp [f0K, v2_no]), if_pos (by simp [f0K, v2_no]), if_neg (by simp [f0K])]
 rfl
theorem rcv_g0_v1 : rcv (g0K s a b) (v1K s a) = (f2K s b, 0) := by
 unfold rcv
 rw [g0_ok ha hb hla hlb, if_neg (by simp), show verE (g0K s a b).pub (g0K s a b).many (v1K s a) = 0 from v1_ver ha hla, if_neg (by simp), if_neg (by simp [g0K, v1_no, v2_no]), if_neg (by simp [g0K, v1_no])]
 have h := v1_app (s := s) ha hla 0 [v2K s a b]
 rw [show apS (g0K s a b) (v1K s a) = _ from h, if_neg (by simp)]
 show (drain [v2K s a b] _, (0 : Int)) = _
 rw [drain_cons, if_pos (by simp [v2_no])]
 have h2 := v2_app (s := s) ha hb hla hlb 1 []
 rw [show apS _ (v2K s a b) = _ from h2]
 rfl
theorem rcv_f2_v1 : rcv (f2K s b) (v1K s a) = (fo0, 450) := by
 unfold rcv
 rw [f2_ok ha hb hla hlb, if_neg (by simp), show verE (f2K s b).pub (f2K s b).many (v1K s a) = 0 from v1_ver ha hla, if_neg (by simp), if_pos (by right; simp [f2K, v1_no])]
end
end Mir
end Go.Proofs.YtkflpoiobpblhaaGreat
