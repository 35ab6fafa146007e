/- Walks and plain laws that the statement rests on: RA6. -/
import Derived.Deep.CutBlock
import Derived.Deep.DeepCutAuto
import Derived.Deep.RegionHeld3
import Derived.Test.YtkflpoiobpblhaaGreatP00
import Derived.Test.YtkflpoiobpblhaaGreatP39
import Derived.Test.YtkflpoiobpblhaaGreatP41
import Derived.Test.YtkflpoiobpblhaaGreatP49
import Derived.Test.YtkflpoiobpblhaaGreatP44
set_option maxRecDepth 100000
set_option maxHeartbeats 16000000
set_option linter.unusedVariables false
set_option linter.unusedSimpArgs false
namespace Go.Proofs.YtkflpoiobpblhaaGreat
open Go.RowKit
theorem ng {w : World} {B z n : Nat} {e : TypeId} {v : Value} {xs : List Value} (h : w.ownsRow B e z v n xs) {g : Nat} (l : g < B) : some g ≠ v.ownBlock := fun e => absurd (own_base h _ e.symm) (Nat.not_le.2 l)
theorem ob {w : World} {B z n : Nat} {e : TypeId} {v : Value} {xs : List Value} (h : w.ownsRow (B + 3) e z v n xs) : ∀ k, v.ownBlock = some k → B ≤ k := fun k hk => Nat.le_trans (Nat.le_add_right _ 3) (own_base h k hk)
theorem cutr {G : Prop} (T : Prop) (main : T → G) (tl : T) : G := main tl
theorem folA_ear {d : List Nat} (h : d.length = 32) (m no : Int) (I E E' : Value) : (Mir.folA d m no I E).setIfInBounds 35 E' = Mir.folA d m no I E' := by
 obtain ⟨a0, a1, a2, a3, a4, a5, a6, a7, a8, a9, a10, a11, a12, a13, a14, a15, a16, a17, a18, a19, a20, a21, a22, a23, a24, a25, a26, a27, a28, a29, a30, a31, rfl⟩ := list32 h
 rfl
theorem Mir.apS_no2 {f : Mir.Fo} {v : Mir.Ve} (h : (Mir.apS f v).2 = false) : (Mir.apS f v).1 = f := by
 unfold Mir.apS at h ⊢
 split at h
 · cases h
 rename_i hn; rw [if_neg hn]
theorem FolO.lt {wb w : World} {ok : Nat → Prop} {f : Mir.Fo} {F : Array Value} (h : FolO wb w ok f F) : FolO wb w (fun b => ok b ∧ b < w.heap.size) f F := by
 obtain ⟨A, ca, B, cb, za, e, hd, h1, h2, h3, r⟩ := h
 refine ⟨A, ca, B, cb, za, e, hd, h1, h2, ?_, r⟩
 rcases h3 with h0 | ⟨b, off, g1, g2, g3, g4⟩
 · exact .inl h0
 exact .inr ⟨b, off, g1, g2, ⟨g3, g2⟩, g4⟩
theorem inc_at {l : List Mir.Ve} (h : Mir.IncV l) {i j : Nat} {u v : Mir.Ve} (hij : i ≤ j) (hi : l[i]? = some u) (hj : l[j]? = some v) : u.no ≤ v.no := by
 rcases Nat.lt_or_eq_of_le hij with hij | rfl
 · have h1 := (List.getElem?_eq_some_iff.1 hi)
   have h2 := (List.getElem?_eq_some_iff.1 hj)
   have := List.pairwise_iff_getElem.1 h i j h1.1 h2.1 hij
   rw [h1.2, h2.2] at this
   exact Int.le_of_lt this
 rw [hi] at hj; cases hj; exact Int.le_refl _
theorem rreceive_any (f : Mir.Fo) (v : Mir.Ve) (F V : Array Value) (w : World) (hF : FolC w f F) (hV : VerC w v V) (hs : Mir.SmF f) (hsv : Mir.SmV v) :
    Calls Tryz.prog 18 #[.agg F, .agg V] w fun e w' => ∃ F', e = .returned (.tuple #[.agg F', .int .i64 (Mir.rcv f v).2]) ∧ FolC w' (Mir.rcv f v).1 F' ∧ Below w.heap.size w w' := by
 obtain ⟨Z, hZ⟩ := exq (Mir.folA z32 0 0 (.slice none 0 0) (.slice none 0 0))
 have iZ := θ (show (Tryz.prog.info? 48).map (·.size) = some Z.size by rw [← hZ]; exact infoFol z32_length ..)
 have aZ := θ (show Z.all (·.oneCell') = true by rw [← hZ]; kernel_rfl)
 have zZ := θ (show Z.size = 36 by rw [← hZ]; exact Mir.folA_size z32_length ..)
 have FZ := θ (fun W => show FolC W Mir.fo0 Z by rw [← hZ]; exact FolC.zero W)
 have bZ := θ (show Tryz.prog.built 48 [] = some Z by rw [← hZ]; kernel_rfl)
 have HZ := θ hZ
 have iF := θ hF.info
 have zF := θ hF.size
 have aF := θ hF.all
 have iV := θ hV.info
 have zV := θ hV.size
 have aV := θ hV.all
 have HF := θ hF
 have HV := θ hV
 have Hs := θ hs
 have Hsv := θ hsv
 obtain ⟨A, ca, B, cb, hFe, hd, hA, hB, hca, hcam, hcb, hcbm⟩ := hF
 have h0 := hV.c0
 obtain ⟨n1, hn1⟩ := exq f.it.length
 obtain ⟨n2, hn2⟩ := exq f.ea.length
 rw [hn1] at hFe hca
 rw [hn2] at hFe hcb
 have hhi := Mir.folA_hi hd.1 f.many f.no (.slice A n1 ca) (.slice B n2 cb)
 have hlo0 := fun i (hi : i < 32) => Mir.folA_low hd.1 f.many f.no (.slice A n1 ca) (.slice B n2 cb) (i := i) hi
 rw [← hFe] at hhi
 have Hlo := θ (fun i (hi : i < 32) => (show F[i]? = (arrK .u8 f.pub)[i]? from by rw [hFe]; exact hlo0 i hi))
 obtain ⟨many, hmany⟩ := exq f.many
 obtain ⟨no, hno⟩ := exq f.no
 obtain ⟨vn, hvn⟩ := exq v.no
 rw [hmany, hno] at hhi
 rw [hvn] at h0
 have h32 : F[32]? = some (.int .i64 many) := hhi 0
 have h33 : F[33]? = some (.int .i64 no) := hhi 1
 have h34 : F[34]? = some (.slice A n1 ca) := hhi 2
 have h35 : F[35]? = some (.slice B n2 cb) := hhi 3
 have HCk := θ (fun W h => rfcheck_any f F W h hs)
 have HVf := θ (fun W h => rmverify_any f.pub f.many v V W hd h hsv.1 hsv.2)
 obtain ⟨E1, hE1⟩ := exq (Mir.foE f)
 obtain ⟨E2, hE2⟩ := exq (Mir.verE f.pub f.many v)
 rw [hE1] at HCk
 rw [hE2, hmany] at HVf
 have HE1 := θ hE1
 have HE2 := θ hE2
 obtain ⟨RS, hRS⟩ := exq (Mir.rcv f v)
 rw [hRS]
 have HRS : Hid (RS = if E1 ≠ 0 then (Mir.fo0, E1) else if E2 ≠ 0 then (Mir.fo0, E2) else
  if (f.ea.any fun u => decide (u.no = vn)) = true ∨ vn ≤ no then (Mir.fo0, 450) else
  if no + 1 < vn then (if n2 = 64 then (Mir.fo0, 2) else ({ f with ea := (f.ea.filter fun u => decide (u.no < vn)) ++ [v] ++ (f.ea.filter fun u => !decide (u.no < vn)) }, 0)) else
  if (Mir.apS f v).2 = false then (Mir.fo0, 430) else (Mir.drain f.ea (Mir.apS f v).1, 0)) := θ (by rw [← hRS, ← hE1, ← hE2, ← hno, ← hvn, ← hn2]; rfl)
 have Hpd := θ hd
 have HA := θ hA
 have HBv := θ hB
 have Hn1 := θ hn1
 have Hn2 := θ hn2
 have Hno := θ hno
 have Hmany := θ hmany
 have Hvn := θ hvn
 have hFe' := θ hFe
 have hcaH := θ (And.intro hca hcam)
 have hcbH := θ (And.intro hcb hcbm)
 clear hZ hhi hlo0 hFe hd hA hB hn1 hn2 hno hmany hvn hE1 hE2 hRS hs hsv hca hcam hcb hcbm hV
 go_enter Tryz.func18, Tryz.ntmps18
 go_upto_region 1 with fail
 generalize hge : World.alloc (World.alloc (World.alloc _ _) _) _ = w1
 have b3 : Blk w1 w.heap.size 48 F ∧ Blk w1 (w.heap.size + 1) 34 V ∧ Blk w1 (w.heap.size + 2) 48 Z ∧ Below w.heap.size w w1 ∧ w.heap.size + 3 ≤ w1.heap.size := by
  rw [← HZ.out]
  exact blk_threeC w F V (Mir.folA z32 0 0 (.slice none 0 0) (.slice none 0 0)) 48 34 48 w1 hge
 have HX := θ b3.1
 have HY := θ b3.2.1
 have HR := θ b3.2.2.1
 have HBw := θ b3.2.2.2.1
 have hz1 := b3.2.2.2.2
 clear hge b3
 go_wp2_with (refine wpList_load_blk rfl 48 (.tmp 2) rfl w.heap.size rfl 48 F _ HX.out Tryz.underlying48 rfl iF.out ?_)
 refine (HCk.out _ (HF.out.below HBw.out)).mono ?_
 rintro e w2 ⟨rfl, hb2⟩
 have HX2 := θ (HX.out.below hb2)
 have HY2 := θ (HY.out.below hb2)
 have HR2 := θ (HR.out.below hb2)
 have HB2 := θ (bo HBw hb2)
 have hz2 := Nat.le_trans hz1 hb2.size
 clear hb2 HX HY HR HBw hz1
 by_cases hE1 : E1 = 0
 rotate_left
 · have dE : decide (E1 = 0) = false := by simpa using hE1
   have dE2 : (E1 != 0) = true := by simpa using hE1
   have rr : RS = (Mir.fo0, E1) := by rw [HRS.out, if_pos hE1]
   have RZ := θ rr
   clear rr
   go_wp2_with (first
    | (refine wpList_built rfl 48 #[] rfl [] (by simp) Z bZ.out ?_)
    | (refine wpList_store_same rfl 48 (.tmp 4) (.tmp 18) rfl (w.heap.size + 2) Z rfl rfl 48 HR2.out iZ.out aZ.out ?_))
   exact ret_row2 (u := .int .i64 E1) rfl (w.heap.size + 2) 48 Z _ rfl rfl HR2.out Tryz.underlying48 rfl iZ.out rfl ⟨Z, by rw [RZ.out], by rw [RZ.out]; exact FZ.out _, HB2.out⟩
 subst hE1
 have hfz := Mir.foE_zero HE1.out
 have HInc := θ (Mir.earlyOk_inc _ _ hfz.2.2.2.2.2.1).2
 have hno0 : 0 ≤ no := by rw [← Hno.out]; exact hfz.2.1
 have hno4 : no ≤ 4096 := by rw [← Hno.out]; exact hfz.2.2.1
 have hn64 : n2 ≤ 64 := by rw [← Hn2.out]; exact hfz.2.2.2.2.1
 clear hfz
 have x32 : w2.cell? ⟨w.heap.size, 32, none⟩ = some (.int .i64 many) := (HX2.out.cell 32).trans h32
 have Hpr := θ (show w2.rangeAt w.heap.size 0 (f.pub.map fun (n : Nat) => Value.int .u8 (n : Int)) from fun i u hu => by
  have hi : i < 32 := by have := (List.getElem?_eq_some_iff.1 hu).1; rw [List.length_map, Hpd.out.1] at this; exact this
  rw [Nat.zero_add, HX2.out.cell i, Hlo.out i hi, ← Array.getElem?_toList, arrK_toList]
  exact hu)
 go_wp2_with (first
  | (refine wpList_load_blk rfl 34 (.tmp 3) rfl (w.heap.size + 1) rfl 34 V _ HY2.out Tryz.underlying34 rfl iV.out ?_)
  | (refine wpList_load_mid rfl 29 (.tmp 20) rfl w.heap.size 0 rfl (f.pub.map fun (n : Nat) => Value.int .u8 (n : Int)) (.array 32 5) Hpr.out (by kernel_rfl) rfl (dV_info Hpd.out.1) ?_))
 refine (HVf.out _ (HV.out.below HB2.out)).mono ?_
 rintro e w3 ⟨rfl, hb3⟩
 have HX3 := θ (HX2.out.below hb3)
 have HY3 := θ (HY2.out.below hb3)
 have HR3 := θ (HR2.out.below hb3)
 have HB3 := θ (bo HB2 hb3)
 have hz3 := Nat.le_trans hz2 hb3.size
 clear hb3 HX2 HY2 HR2 HB2 hz2 x32 Hpr
 by_cases hE2 : E2 = 0
 rotate_left
 · have dE : decide (E2 = 0) = false := by simpa using hE2
   have dE2 : (E2 != 0) = true := by simpa using hE2
   have rr : RS = (Mir.fo0, E2) := by rw [HRS.out, if_neg (by simp), if_pos hE2]
   have RZ := θ rr
   clear rr
   go_wp2_with (first
    | (refine wpList_built rfl 48 #[] rfl [] (by simp) Z bZ.out ?_)
    | (refine wpList_store_same rfl 48 (.tmp 4) (.tmp 28) rfl (w.heap.size + 2) Z rfl rfl 48 HR3.out iZ.out aZ.out ?_))
   exact ret_row2 (u := .int .i64 E2) rfl (w.heap.size + 2) 48 Z _ rfl rfl HR3.out Tryz.underlying48 rfl iZ.out rfl ⟨Z, by rw [RZ.out], by rw [RZ.out]; exact FZ.out _, HB3.out⟩
 subst hE2
 have hvz := Mir.verE_zero HE2.out
 rw [Hvn.out] at hvz
 obtain ⟨hvn1, hvn2⟩ := hvz
 have x33 : w3.cell? ⟨w.heap.size, 33, none⟩ = some (.int .i64 no) := (HX3.out.cell 33).trans h33
 have y0 : w3.cell? ⟨w.heap.size + 1, 0, none⟩ = some (.int .i64 vn) := (HY3.out.cell 0).trans h0
 by_cases hle : vn ≤ no
 · have dle : decide (vn ≤ no) = true := decide_eq_true hle
   have rr : RS = (Mir.fo0, 450) := by rw [HRS.out, if_neg (by simp), if_neg (by simp), if_pos (Or.inr hle)]
   have RZ := θ rr
   clear rr
   go_wp2_with (first
    | (refine wpList_built rfl 48 #[] rfl [] (by simp) Z bZ.out ?_)
    | (refine wpList_store_same rfl 48 (.tmp 4) (.tmp 35) rfl (w.heap.size + 2) Z rfl rfl 48 HR3.out iZ.out aZ.out ?_))
   exact ret_row2 (u := .int .i64 450) rfl (w.heap.size + 2) 48 Z _ rfl rfl HR3.out Tryz.underlying48 rfl iZ.out rfl ⟨Z, by rw [RZ.out], by rw [RZ.out]; exact FZ.out _, HB3.out⟩
 have dle : decide (vn ≤ no) = false := decide_eq_false hle
 clear HE1 HE2 HCk HVf
 go_upto_block 0 with fail
 clear x33 y0
 go_cut [8] (fun s8 wx => ∃ k : Nat, k ≤ n2 ∧ s8 = .int .i64 k ∧ Hid (∀ j u, j < k → f.ea[j]? = some u → u.no < vn) ∧ Hid (∀ u, f.ea[k]? = some u → ¬ u.no < vn) ∧ Hid (Below w.heap.size w wx) ∧ Hid (Blk wx w.heap.size 48 F) ∧ Hid (Blk wx (w.heap.size + 1) 34 V) ∧ Hid (Blk wx (w.heap.size + 2) 48 Z))
 case first =>
  go_wp2_with fail
  go_loopw [8] (fun i wr => ∃ k : Nat, k ≤ n2 ∧ i = .int .i64 k ∧ Hid (∀ j u, j < k → f.ea[j]? = some u → u.no < vn) ∧ Hid (Below w.heap.size w wr) ∧ Hid (Blk wr w.heap.size 48 F) ∧ Hid (Blk wr (w.heap.size + 1) 34 V) ∧ Hid (Blk wr (w.heap.size + 2) 48 Z)) (fun i _ => n2 - (intOf i).toNat)
  case atStart => exact ⟨0, by omega, rfl, θ (fun j u h => by omega), HB3, HX3, HY3, HR3⟩
  obtain ⟨wk, rfl⟩ : ∃ v : World, v = wr := ⟨_, rfl⟩
  obtain ⟨k, hk, rfl, hg, hBk, hXk, hYk, hRk⟩ := hrel
  have x35 : wk.cell? ⟨w.heap.size, 35, none⟩ = some (.slice B n2 cb) := (hXk.out.cell 35).trans h35
  have y0 : wk.cell? ⟨w.heap.size + 1, 0, none⟩ = some (.int .i64 vn) := (hYk.out.cell 0).trans h0
  by_cases hlt : k < n2
  · obtain ⟨u, hu⟩ := getElem?_lt (l := f.ea) (k := k) (by rw [Hn2.out]; exact hlt)
    obtain ⟨b, off, rfl, hb, hcs⟩ := HBv.out.at_ (by rw [Hn2.out]; omega)
    obtain ⟨U, hU, hr⟩ := hcs k u hu
    have z0 : wk.cell? ⟨b, off + k * 38, none⟩ = some (.int .i64 u.no) := cellkM hBk.out (hr 0 _ (by have := hU.c0; simpa using this))
    obtain ⟨un, hun⟩ := exq u.no
    rw [hun] at z0
    have Hu := θ hu
    have Hun := θ hun
    have hkI : (k : Int) < (n2 : Int) := by omega
    clear hcs hU hr hu hun
    by_cases hul : un < vn
    · have dul : decide (un < vn) = true := decide_eq_true hul
      go_upto_region 10 with fail
      go_quiet (fail)
      go_wp2_with fail
      go_roundw
      case rel => exact ⟨k + 1, by omega, by go_num, θ (fun j y hj hy => by
       rcases Nat.lt_or_eq_of_le (Nat.le_of_lt_succ hj) with h | rfl
       · exact hg.out j y h hy
       · rw [Hu.out] at hy; cases hy
         rw [Hun.out]; exact hul), below_drewN hBk.out _, hXk, hYk, hRk⟩
      case measure => simp [intOf]; omega
    have dul : decide (un < vn) = false := decide_eq_false hul
    go_upto_region 10 with fail
    go_quiet (fail)
    go_wp2_with fail
    go_meet
    exact ⟨k, hk, rfl, hg, θ (fun y hy => by rw [Hu.out] at hy; cases hy; rw [Hun.out]; exact hul), below_drewN hBk.out _, hXk, hYk, hRk⟩
  obtain rfl : k = n2 := by omega
  go_upto_region 10 with fail
  go_quiet (fail)
  go_wp2_with fail
  go_meet
  exact ⟨k, hk, rfl, hg, θ (fun y hy => by have := (List.getElem?_eq_some_iff.1 hy).1; rw [Hn2.out] at this; omega), below_drewN hBk.out _, hXk, hYk, hRk⟩
 obtain ⟨k, hk, rfl, hg, hl, HB4, HX4, HY4, HR4⟩ := hcut
 have Hcut := θ (show ∀ i u, f.ea[i]? = some u → (i < k ↔ u.no < vn) from fun i u hi => ⟨fun h => hg.out i u h hi, fun h => by
  rcases Nat.lt_or_ge i k with h1 | h1
  · exact h1
  · obtain ⟨u2, hu2⟩ := getElem?_lt (l := f.ea) (k := k) (by have := (List.getElem?_eq_some_iff.1 hi).1; omega)
    have h2 := hl.out u2 hu2
    have h3 := inc_at HInc.out h1 hu2 hi
    omega⟩)
 obtain ⟨hit, hhit⟩ := exq (f.ea.any fun u => decide (u.no = vn))
 rw [hhit] at HRS
 have Hhit := θ hhit
 have hz4 : w.heap.size + 3 ≤ wc.heap.size := HR4.out.lt
 clear hg HX3 HY3 HR3 HB3 hz3 hhit
 have x35 : wc.cell? ⟨w.heap.size, 35, none⟩ = some (.slice B n2 cb) := (HX4.out.cell 35).trans h35
 have y0 : wc.cell? ⟨w.heap.size + 1, 0, none⟩ = some (.int .i64 vn) := (HY4.out.cell 0).trans h0
 obtain ⟨w4, rfl⟩ : ∃ z : World, z = wc := ⟨_, rfl⟩
 go_upto_region 12 with fail
 go_cut [69] (fun s69 wx => s69 = .bool hit ∧ Hid (Below w.heap.size w wx) ∧ Hid (Blk wx w.heap.size 48 F) ∧ Hid (Blk wx (w.heap.size + 1) 34 V) ∧ Hid (Blk wx (w.heap.size + 2) 48 Z))
 case first =>
  by_cases hlt : k < n2
  · obtain ⟨u, hu⟩ := getElem?_lt (l := f.ea) (k := k) (by rw [Hn2.out]; exact hlt)
    obtain ⟨b, off, rfl, hb, hcs⟩ := HBv.out.at_ (by rw [Hn2.out]; omega)
    obtain ⟨U, hU, hr⟩ := hcs k u hu
    have z0 : w4.cell? ⟨b, off + k * 38, none⟩ = some (.int .i64 u.no) := cellkM HB4.out (hr 0 _ (by have := hU.c0; simpa using this))
    obtain ⟨un, hun⟩ := exq u.no
    rw [hun] at z0
    have hkI : (k : Int) < (n2 : Int) := by omega
    have hge : ¬ un < vn := by rw [← hun]; exact hl.out u hu
    by_cases hul : un = vn
    · have dul : (un == vn) = true := by simpa using hul
      have dul2 : decide (un = vn) = true := decide_eq_true hul
      have Hh := θ (show hit = true by rw [← Hhit.out]; exact Mir.any_iff.2 ⟨u, List.mem_of_getElem? hu, by rw [hun]; exact hul⟩)
      clear hcs hU hr hu hun hge hul
      go_quiet (fail)
      go_wp2_with fail
      go_meet
      exact ⟨by rw [Hh.out], below_drewN HB4.out _, HX4, HY4, HR4⟩
    have dul : (un == vn) = false := by simpa using hul
    have dul2 : decide (un = vn) = false := decide_eq_false hul
    have Hh := θ (show hit = false by
     cases e : hit with
     | false => rfl
     | true =>
       rw [e] at Hhit
       obtain ⟨y, hy, hyn⟩ := Mir.any_iff.1 Hhit.out
       obtain ⟨j, hj, rfl⟩ := List.getElem_of_mem hy
       have hjj := List.getElem?_eq_getElem hj
       have h1 := (Hcut.out j _ hjj)
       have h2 := inc_at HInc.out (show k ≤ j by omega) hu hjj
       omega)
    clear hcs hU hr hu hun hge hul
    go_quiet (fail)
    go_wp2_with fail
    go_meet
    exact ⟨by rw [Hh.out], below_drewN HB4.out _, HX4, HY4, HR4⟩
  obtain rfl : k = n2 := by omega
  have Hh := θ (show hit = false by
   cases e : hit with
   | false => rfl
   | true =>
     rw [e] at Hhit
     obtain ⟨y, hy, hyn⟩ := Mir.any_iff.1 Hhit.out
     obtain ⟨j, hj, rfl⟩ := List.getElem_of_mem hy
     have h1 := (Hcut.out j _ (List.getElem?_eq_getElem hj)).1 (by rw [Hn2.out] at hj; exact hj)
     omega)
  go_quiet (fail)
  go_wp2_with fail
  go_meet
  exact ⟨by rw [Hh.out], below_drewN HB4.out _, HX4, HY4, HR4⟩
 clear x35 y0 HB4 HX4 HY4 HR4 hz4
 obtain ⟨rfl, HB4, HX4, HY4, HR4⟩ := hcut
 have hz4 : w.heap.size + 3 ≤ wc.heap.size := HR4.out.lt
 obtain ⟨w5, rfl⟩ : ∃ z : World, z = wc := ⟨_, rfl⟩
 cases hit with
 | true =>
   have rr : RS = (Mir.fo0, 450) := by rw [HRS.out, if_neg (by simp), if_neg (by simp), if_pos (Or.inl rfl)]
   have RZ := θ rr
   clear rr
   go_wp2_with (first
    | (refine wpList_built rfl 48 #[] rfl [] (by simp) Z bZ.out ?_)
    | (refine wpList_store_same rfl 48 (.tmp 4) (.tmp 70) rfl (w.heap.size + 2) Z rfl rfl 48 HR4.out iZ.out aZ.out ?_))
   exact ret_row2 (u := .int .i64 450) rfl (w.heap.size + 2) 48 Z _ rfl rfl HR4.out Tryz.underlying48 rfl iZ.out rfl ⟨Z, by rw [RZ.out], by rw [RZ.out]; exact FZ.out _, HB4.out⟩
 | false =>
 have ewr : IntKind.i64.wrap (no + 1) = no + 1 := IntWalk.i64_in _ (by omega)
 have x33 : w5.cell? ⟨w.heap.size, 33, none⟩ = some (.int .i64 no) := (HX4.out.cell 33).trans h33
 have x35 : w5.cell? ⟨w.heap.size, 35, none⟩ = some (.slice B n2 cb) := (HX4.out.cell 35).trans h35
 have y0 : w5.cell? ⟨w.heap.size + 1, 0, none⟩ = some (.int .i64 vn) := (HY4.out.cell 0).trans h0
 by_cases hgt : no + 1 < vn
 · have dgt : decide (no + 1 < vn) = true := decide_eq_true hgt
   by_cases h64 : n2 = 64
   · have d64 : ((n2 : Int) == 64) = true := by simp; omega
     have d64b : decide ((n2 : Int) = 64) = true := decide_eq_true (by omega)
     have d64c : decide (n2 = 64) = true := decide_eq_true h64
     have d64d : (n2 == 64) = true := by simpa using h64
     have rr : RS = (Mir.fo0, 2) := by rw [HRS.out, if_neg (by simp), if_neg (by simp), if_neg (by rintro (h | h); cases h; omega), if_pos hgt, if_pos h64]
     clear h64
     have RZ := θ rr
     clear rr
     go_wp2_with (first
      | (refine wpList_built rfl 48 #[] rfl [] (by simp) Z bZ.out ?_)
      | (refine wpList_store_same rfl 48 (.tmp 4) (.tmp 81) rfl (w.heap.size + 2) Z rfl rfl 48 HR4.out iZ.out aZ.out ?_))
     exact ret_row2 (u := .int .i64 2) rfl (w.heap.size + 2) 48 Z _ rfl rfl HR4.out Tryz.underlying48 rfl iZ.out rfl ⟨Z, by rw [RZ.out], by rw [RZ.out]; exact FZ.out _, HB4.out⟩
   have d64 : ((n2 : Int) == 64) = false := by simp; omega
   have d64b : decide ((n2 : Int) = 64) = false := decide_eq_false (by omega)
   have d64c : decide (n2 = 64) = false := decide_eq_false h64
   have d64d : (n2 == 64) = false := by simpa using h64
   have rr := θ (show RS = ({ f with ea := (f.ea.filter fun u => decide (u.no < vn)) ++ [v] ++ (f.ea.filter fun u => !decide (u.no < vn)) }, 0) by rw [HRS.out, if_neg (by simp), if_neg (by simp), if_neg (by rintro (h | h); cases h; omega), if_pos hgt, if_neg h64])
   clear h64
   go_upto_region 17 with fail
   clear d64 d64b d64c d64d dgt x33 x35 y0
   have hkcb : k ≤ cb := Nat.le_trans hk hcbH.out.1
   obtain ⟨Vs, hv1, hv2, hv3⟩ := HBv.out
   have hvs := VersC.sizes hv1 hv3
   have hva : ∀ V ∈ Vs, ∀ u ∈ V.toList, u.oneCell' = true := fun V hV => by
    obtain ⟨i, hi, rfl⟩ := List.getElem_of_mem hV
    obtain ⟨u, hu⟩ := getElem?_lt (l := f.ea) (k := i) (by omega)
    have := (hv3 i u _ hu (List.getElem?_eq_getElem hi)).all
    rw [Array.all_eq_true'] at this
    simpa using this
   have hvl : Vs.length = n2 := by rw [hv1, Hn2.out]
   have f1 := flat38 (Vs.take k) (fun V hV => hvs V (List.mem_of_mem_take hV))
   have f3 := flat38 (Vs.drop k) (fun V hV => hvs V (List.mem_of_mem_drop hV))
   have fa := flat38 Vs hvs
   have hsp : (Vs.map Array.toList).flatten = ((Vs.take k).map Array.toList).flatten ++ ((Vs.drop k).map Array.toList).flatten := by
    rw [← List.flatten_append, ← List.map_append, List.take_append_drop]
   have e1 : (Vs.map Array.toList).flatten.take (k * 38) = ((Vs.take k).map Array.toList).flatten := by
    rw [hsp, List.take_append_of_le_length (by rw [f1.1, List.length_take]; omega), List.take_of_length_le (by rw [f1.1, List.length_take]; omega)]
   have e3 : (Vs.map Array.toList).flatten.drop (k * 38) = ((Vs.drop k).map Array.toList).flatten := by
    rw [hsp, List.drop_append_of_le_length (by rw [f1.1, List.length_take]; omega), show ((Vs.take k).map Array.toList).flatten.drop (k * 38) = [] from List.drop_eq_nil_of_le (by rw [f1.1, List.length_take]; omega), List.nil_append]
   obtain ⟨L1, hL1⟩ := exq (((Vs.take k).map Array.toList).flatten)
   obtain ⟨L3, hL3⟩ := exq (((Vs.drop k).map Array.toList).flatten)
   have hl1 := θ (show L1.length = k * 38 by rw [← hL1, f1.1, List.length_take]; congr 1; omega)
   have hl3 := θ (show L3.length = (n2 - k) * 38 by rw [← hL3, f3.1, List.length_drop, hvl])
   have HL1 := θ (show Cells w B L1 by rw [← hL1, ← e1]; exact hv2.take_ _)
   obtain ⟨XA, hXA⟩ : ∃ x, (if cb = k then B else Option.map (fun x => x.add (k * 38)) B) = x := ⟨_, rfl⟩
   have HL3 := θ (show Cells w XA L3 by rw [← hL3, ← e3, ← hXA]; exact cells_cutG hv2 (by rw [fa.1, hvl]; exact Nat.mul_le_mul_right _ hcbH.out.1))
   have ho1 := θ (show ∀ u ∈ L1, u.oneCell' = true by
    rw [← hL1]; intro u hu
    obtain ⟨l, hl, hul⟩ := List.mem_flatten.1 hu
    obtain ⟨V', hV', rfl⟩ := List.mem_map.1 hl
    exact hva V' (List.mem_of_mem_take hV') u hul)
   have ho3 := θ (show ∀ u ∈ L3, u.oneCell' = true by
    rw [← hL3]; intro u hu
    obtain ⟨l, hl, hul⟩ := List.mem_flatten.1 hu
    obtain ⟨V', hV', rfl⟩ := List.mem_map.1 hl
    exact hva V' (List.mem_of_mem_drop hV') u hul)
   have HL1e := θ hL1
   have HL3e := θ hL3
   have hGs := θ (show ∀ (A9 : Option Addr) (c9 : Nat), F.setIfInBounds 35 (.slice A9 (k + 1 + (n2 - k)) c9) = Mir.folA f.pub many no (.slice A n1 ca) (.slice A9 (k + 1 + (n2 - k)) c9) from fun A9 c9 => by rw [hFe'.out, Hmany.out, Hno.out]; exact folA_ear Hpd.out.1 ..)
   have Hv1 := θ hv1
   have Hv3 := θ hv3
   clear hv2 hvs hva hvl f1 f3 fa hsp e1 e3 hL1 hL3 hv1 hv3
   have hkcI : (k : Int) ≤ (cb : Int) := by omega
   have hknI : (k : Int) ≤ (n2 : Int) := by omega
   have hkc : k ≤ cb := by omega
   refine wp_region_heldT (S := fun W => Below w.heap.size w W ∧ Blk W w.heap.size 48 F ∧ Blk W (w.heap.size + 1) 34 V) 15 (by kernel_rfl) (⟨below_drewN HB4.out 1, HX4.out, HY4.out⟩) (fun Hd => ?_)
   have Hd : Below w.heap.size w w5.drew := below_drewN HB4.out 1
   have Zd : (w.heap.size + 3) ≤ w5.drew.heap.size := hz4
   have fX : Blk w5.drew w.heap.size 48 F := HX4.out
   have fY : Blk w5.drew (w.heap.size + 1) 34 V := HY4.out
   have fR : Blk w5.drew (w.heap.size + 2) 48 Z := HR4.out
   generalize World.drew w5 = wd at *
   apply cutr (∀ (wf : World) (pO pE : Nat) (A1 : Option Addr) (c1 : Nat) (A2 : Option Addr) (c2 : Nat) (A9 : Option Addr) (c9 : Nat), (Blk wf w.heap.size 48 (Mir.folA f.pub many no (.slice A n1 ca) (.slice A9 (k + 1 + (n2 - k)) c9)) ∧ Blk wf (w.heap.size + 2) 48 Z ∧ Below w.heap.size w wf ∧ wf.ownsRow (w.heap.size + 3) 34 38 (.slice A9 (k + 1 + (n2 - k)) c9) (k + 1 + (n2 - k)) ((([] ++ L1) ++ V.toList) ++ L3)) → _)
   · intro tail
     refine uq 1 rfl ⟨Hd, fX, fY⟩ ?_
     try simp only [la, Act.put]
     refine us 2 rfl ⟨Hd, fX, fY⟩ (fun wS hSw => by
      have cc := (hSw.2.1.cell 35).trans h35
      go_simp
      try with_reducible rfl) ?_
     try simp only [la, Act.put]
     refine uq 3 rfl ⟨Hd, fX, fY⟩ ?_
     try simp only [la, Act.put]
     refine uq 4 rfl ⟨Hd, fX, fY⟩ ?_
     try simp only [la, Act.put]
     refine ug 6 (.agg V) rfl (yields_load_blk (by rfl) _ _ rfl (w.heap.size + 1) rfl 34 V _ (fun W hW => hW.2.2) Tryz.underlying34 rfl iV.out) ⟨Hd, fX, fY⟩ ?_
     try simp only [la, Act.put]
     refine uq 9 rfl ⟨Hd, fX, fY⟩ ?_
     try simp only [la, Act.put]
     refine us 10 rfl ⟨Hd, fX, fY⟩ (fun wS hSw => by
      have cc := (hSw.2.1.cell 35).trans h35
      go_simp
      try with_reducible rfl) ?_
     try simp only [la, Act.put]
     refine uq 11 rfl ⟨Hd, fX, fY⟩ ?_
     try simp only [la, Act.put]
     refine uq 12 rfl ⟨Hd, fX, fY⟩ ?_
     try simp only [la, Act.put]
     refine wpAnyT_ready (rs := [0, 7]) (by kernel_rfl) (by simp) (AllReadyT.cons rfl (fun K hK => ?_) (AllReadyT.cons rfl (fun K hK => ?_) AllReadyT.nil))
     · go_simp
       generalize hge : World.alloc _ _ = w1_
       have fo1 : w1_.ownsRow (w.heap.size + 3) 34 38 (.slice (some ⟨wd.heap.size, 0, none⟩) 0 0) 0 [] := by subst hge; exact World.ownsRow_lit (size := 38) wd #[] 0 Zd (Nat.zero_le _) rfl
       have hb1 := al1 hge
       clear hge
       have fX1 := fX.below hb1
       have fY1 := fY.below hb1
       have fR1 := fR.below hb1
       have Hb1 := below_of Hd hb1 Hd.size
       have Zb1 := Nat.le_trans Zd hb1.size
       refine hK.out _ _ ⟨Hb1, fX1, fY1⟩ fun _ => ?_
       clear hK K
       try simp only [la, Act.put]
       refine wpAnyT_ready (rs := [5, 7]) (by kernel_rfl) (by simp) (AllReadyT.cons rfl (fun K hK => ?_) (AllReadyT.cons rfl (fun K hK => ?_) AllReadyT.nil))
       · refine step_append_cells (by rfl) (.tmp 82) (.tmp 86) 25 (by rfl) (w.heap.size + 3) 34 (.agg Mir.ver0) 38 144 (by kernel_rfl) (by kernel_rfl) rfl (by omega) (.slice (some ⟨wd.heap.size, 0, none⟩) 0 0) (0) ([] : List Value) fo1 (by rfl) B k cb L1 (by rfl) hl1.out (HL1.out.below Hb1) ho1.out (by unfold maxLen; omega) (by omega) Zb1 ?_
         intro v2 w2_ fo2 hg2 st2
         have fX2 := fX1.grown hg2 (ng fo1 (by omega))
         have fY2 := fY1.grown hg2 (ng fo1 (by omega))
         have fR2 := fR1.grown hg2 (ng fo1 (by omega))
         have Hb2 := below_grown Hb1 hg2 Hb1.size (ob fo1)
         have Zb2 := Nat.le_trans Zb1 hg2.size
         obtain ⟨A2, c2, rfl, le2, lm2, -⟩ := own_form fo2
         rw [Nat.zero_add] at fo2 le2 
         simp only [Nat.zero_add]
         refine hK.out _ _ ⟨Hb2, fX2, fY2⟩ fun _ => ?_
         clear hK K
         try simp only [la, Act.put]
         refine uy 7 rfl (fun K hK => ?_)
         refine step_oneV (by rfl) (.tmp 88) (by rfl) V zV.out (by rfl) ?_
         generalize hge : World.alloc _ _ = w3_
         have fE3 : Blk w3_ w2_.heap.size 34 V := by subst hge; exact Blk.new _ _ _
         have hb3 := al1 hge
         clear hge
         have fX3 := fX2.below hb3
         have fY3 := fY2.below hb3
         have fR3 := fR2.below hb3
         have fo3 := own_below fo2 hb3
         have apoE3 := apart_new fo2
         have loE3 : (w.heap.size + 3) ≤ w2_.heap.size := Zb2
         have Hb3 := below_of Hb2 hb3 Hb2.size
         have Zb3 := Nat.le_trans Zb2 hb3.size
         refine hK.out _ _ ⟨Hb3, fX3, fY3⟩ fun _ => ?_
         clear hK K
         try simp only [la, Act.put]
         refine uy 8 rfl (fun K hK => ?_)
         refine step_append_cells (by rfl) (.tmp 87) (.tmp 89) 25 (by rfl) (w.heap.size + 3) 34 (.agg Mir.ver0) 38 144 (by kernel_rfl) (by kernel_rfl) rfl (by omega) (.slice A2 k c2) k (([] : List Value) ++ L1) fo3 (by rfl) (some ⟨w2_.heap.size, 0, none⟩) (1) (1) V.toList (by rfl) (by rw [Array.length_toList, zV.out]) (cells_blk fE3) (by have := aV.out; rw [Array.all_eq_true'] at this; simpa using this) (by unfold maxLen; omega) (by omega) Zb3 ?_
         intro v4 w4_ fo4 hg4 st4
         have apoE4 := apart_sits st4 apoE3 fE3.lt
         have fX4 := fX3.grown hg4 (ng fo3 (by omega))
         have fY4 := fY3.grown hg4 (ng fo3 (by omega))
         have fR4 := fR3.grown hg4 (ng fo3 (by omega))
         have fE4 := fE3.grown hg4 (fun e => apoE3 e.symm)
         have Hb4 := below_grown Hb3 hg4 Hb3.size (ob fo3)
         have Zb4 := Nat.le_trans Zb3 hg4.size
         obtain ⟨A4, c4, rfl, le4, lm4, -⟩ := own_form fo4
         refine hK.out _ _ ⟨Hb4, fX4, fY4⟩ fun _ => ?_
         clear hK K
         try simp only [la, Act.put]
         refine uy 13 rfl (fun K hK => ?_)
         refine step_append_cells (by rfl) (.tmp 90) (.tmp 94) 25 (by rfl) (w.heap.size + 3) 34 (.agg Mir.ver0) 38 144 (by kernel_rfl) (by kernel_rfl) rfl (by omega) (.slice A4 (k + 1) c4) (k + 1) ((([] : List Value) ++ L1) ++ V.toList) fo4 (by rfl) XA (n2 - k) (cb - k) L3 (by rfl) hl3.out (HL3.out.below Hb4) ho3.out (by unfold maxLen; omega) (by omega) Zb4 ?_
         intro v5 w5_ fo5 hg5 st5
         have apoE5 := apart_sits st5 apoE4 fE4.lt
         have fX5 := fX4.grown hg5 (ng fo4 (by omega))
         have fY5 := fY4.grown hg5 (ng fo4 (by omega))
         have fR5 := fR4.grown hg5 (ng fo4 (by omega))
         have fE5 := fE4.grown hg5 (fun e => apoE4 e.symm)
         have Hb5 := below_grown Hb4 hg5 Hb4.size (ob fo4)
         have Zb5 := Nat.le_trans Zb4 hg5.size
         obtain ⟨A5, c5, rfl, le5, lm5, -⟩ := own_form fo5
         refine hK.out _ _ ⟨Hb5, fX5, fY5⟩ fun _ => ?_
         clear hK K
         try simp only [la, Act.put]
         refine uq 14 rfl ⟨Hb5, fX5, fY5⟩ ?_
         try simp only [la, Act.put]
         refine ul rfl (fun K hK => ?_)
         refine step_put_cell (by rfl) _ _ _ (by rfl) w.heap.size 35 (.slice A5 (k + 1 + (n2 - k)) c5) (by rfl) (by rfl) _ _ fX5 (by rw [zF.out]; omega) (by kernel_rfl) (by rfl) ?_
         intro w6_ fX6 hg6 hz6
         have neY6 := fY5.lt
         have fY6 := fY5.gx hg6
         have neR6 := fR5.lt
         have fR6 := fR5.gx hg6
         have neE6 := fE5.lt
         have fE6 := fE5.gx hg6
         have fo6 := fo5.kept hg6 (.inr (ng fo5 (by omega)).symm)
         have Hb6 := bgx Hb5 hg6 Hb5.size
         have Zb6 := Nat.le_trans Zb5 hg6.size
         refine hK.out _ _ ?_
         clear hK K
         try simp only [la, Act.put]
         refine ud ?_ _
         obtain ⟨pO, hpO⟩ := exq wd.heap.size
         obtain ⟨pE, hpE⟩ := exq w2_.heap.size
         rw [hpO, hpE]
         exact tail w6_ pO pE A2 c2 A4 c4 A5 c5 ⟨(hGs.out _ _) ▸ fX6, fR6, Hb6, fo6⟩
       refine step_oneV (by rfl) (.tmp 88) (by rfl) V zV.out (by rfl) ?_
       generalize hge : World.alloc _ _ = w2_
       have fE2 : Blk w2_ w1_.heap.size 34 V := by subst hge; exact Blk.new _ _ _
       have hb2 := al1 hge
       clear hge
       have fX2 := fX1.below hb2
       have fY2 := fY1.below hb2
       have fR2 := fR1.below hb2
       have fo2 := own_below fo1 hb2
       have apoE2 := apart_new fo1
       have loE2 : (w.heap.size + 3) ≤ w1_.heap.size := Zb1
       have Hb2 := below_of Hb1 hb2 Hb1.size
       have Zb2 := Nat.le_trans Zb1 hb2.size
       refine hK.out _ _ ⟨Hb2, fX2, fY2⟩ fun _ => ?_
       clear hK K
       try simp only [la, Act.put]
       refine uy 5 rfl (fun K hK => ?_)
       refine step_append_cells (by rfl) (.tmp 82) (.tmp 86) 25 (by rfl) (w.heap.size + 3) 34 (.agg Mir.ver0) 38 144 (by kernel_rfl) (by kernel_rfl) rfl (by omega) (.slice (some ⟨wd.heap.size, 0, none⟩) 0 0) (0) ([] : List Value) fo2 (by rfl) B k cb L1 (by rfl) hl1.out (HL1.out.below Hb2) ho1.out (by unfold maxLen; omega) (by omega) Zb2 ?_
       intro v3 w3_ fo3 hg3 st3
       have apoE3 := apart_sits st3 apoE2 fE2.lt
       have fX3 := fX2.grown hg3 (ng fo2 (by omega))
       have fY3 := fY2.grown hg3 (ng fo2 (by omega))
       have fR3 := fR2.grown hg3 (ng fo2 (by omega))
       have fE3 := fE2.grown hg3 (fun e => apoE2 e.symm)
       have Hb3 := below_grown Hb2 hg3 Hb2.size (ob fo2)
       have Zb3 := Nat.le_trans Zb2 hg3.size
       obtain ⟨A3, c3, rfl, le3, lm3, -⟩ := own_form fo3
       rw [Nat.zero_add] at fo3 le3 apoE3
       simp only [Nat.zero_add]
       refine hK.out _ _ ⟨Hb3, fX3, fY3⟩ fun _ => ?_
       clear hK K
       try simp only [la, Act.put]
       refine uy 8 rfl (fun K hK => ?_)
       refine step_append_cells (by rfl) (.tmp 87) (.tmp 89) 25 (by rfl) (w.heap.size + 3) 34 (.agg Mir.ver0) 38 144 (by kernel_rfl) (by kernel_rfl) rfl (by omega) (.slice A3 k c3) k (([] : List Value) ++ L1) fo3 (by rfl) (some ⟨w1_.heap.size, 0, none⟩) (1) (1) V.toList (by rfl) (by rw [Array.length_toList, zV.out]) (cells_blk fE3) (by have := aV.out; rw [Array.all_eq_true'] at this; simpa using this) (by unfold maxLen; omega) (by omega) Zb3 ?_
       intro v4 w4_ fo4 hg4 st4
       have apoE4 := apart_sits st4 apoE3 fE3.lt
       have fX4 := fX3.grown hg4 (ng fo3 (by omega))
       have fY4 := fY3.grown hg4 (ng fo3 (by omega))
       have fR4 := fR3.grown hg4 (ng fo3 (by omega))
       have fE4 := fE3.grown hg4 (fun e => apoE3 e.symm)
       have Hb4 := below_grown Hb3 hg4 Hb3.size (ob fo3)
       have Zb4 := Nat.le_trans Zb3 hg4.size
       obtain ⟨A4, c4, rfl, le4, lm4, -⟩ := own_form fo4
       refine hK.out _ _ ⟨Hb4, fX4, fY4⟩ fun _ => ?_
       clear hK K
       try simp only [la, Act.put]
       refine uy 13 rfl (fun K hK => ?_)
       refine step_append_cells (by rfl) (.tmp 90) (.tmp 94) 25 (by rfl) (w.heap.size + 3) 34 (.agg Mir.ver0) 38 144 (by kernel_rfl) (by kernel_rfl) rfl (by omega) (.slice A4 (k + 1) c4) (k + 1) ((([] : List Value) ++ L1) ++ V.toList) fo4 (by rfl) XA (n2 - k) (cb - k) L3 (by rfl) hl3.out (HL3.out.below Hb4) ho3.out (by unfold maxLen; omega) (by omega) Zb4 ?_
       intro v5 w5_ fo5 hg5 st5
       have apoE5 := apart_sits st5 apoE4 fE4.lt
       have fX5 := fX4.grown hg5 (ng fo4 (by omega))
       have fY5 := fY4.grown hg5 (ng fo4 (by omega))
       have fR5 := fR4.grown hg5 (ng fo4 (by omega))
       have fE5 := fE4.grown hg5 (fun e => apoE4 e.symm)
       have Hb5 := below_grown Hb4 hg5 Hb4.size (ob fo4)
       have Zb5 := Nat.le_trans Zb4 hg5.size
       obtain ⟨A5, c5, rfl, le5, lm5, -⟩ := own_form fo5
       refine hK.out _ _ ⟨Hb5, fX5, fY5⟩ fun _ => ?_
       clear hK K
       try simp only [la, Act.put]
       refine uq 14 rfl ⟨Hb5, fX5, fY5⟩ ?_
       try simp only [la, Act.put]
       refine ul rfl (fun K hK => ?_)
       refine step_put_cell (by rfl) _ _ _ (by rfl) w.heap.size 35 (.slice A5 (k + 1 + (n2 - k)) c5) (by rfl) (by rfl) _ _ fX5 (by rw [zF.out]; omega) (by kernel_rfl) (by rfl) ?_
       intro w6_ fX6 hg6 hz6
       have neY6 := fY5.lt
       have fY6 := fY5.gx hg6
       have neR6 := fR5.lt
       have fR6 := fR5.gx hg6
       have neE6 := fE5.lt
       have fE6 := fE5.gx hg6
       have fo6 := fo5.kept hg6 (.inr (ng fo5 (by omega)).symm)
       have Hb6 := bgx Hb5 hg6 Hb5.size
       have Zb6 := Nat.le_trans Zb5 hg6.size
       refine hK.out _ _ ?_
       clear hK K
       try simp only [la, Act.put]
       refine ud ?_ _
       obtain ⟨pO, hpO⟩ := exq wd.heap.size
       obtain ⟨pE, hpE⟩ := exq w1_.heap.size
       rw [hpO, hpE]
       exact tail w6_ pO pE A3 c3 A4 c4 A5 c5 ⟨(hGs.out _ _) ▸ fX6, fR6, Hb6, fo6⟩
     refine step_oneV (by rfl) (.tmp 88) (by rfl) V zV.out (by rfl) ?_
     generalize hge : World.alloc _ _ = w1_
     have fE1 : Blk w1_ wd.heap.size 34 V := by subst hge; exact Blk.new _ _ _
     have hb1 := al1 hge
     clear hge
     have fX1 := fX.below hb1
     have fY1 := fY.below hb1
     have fR1 := fR.below hb1
     have loE1 : (w.heap.size + 3) ≤ wd.heap.size := Zd
     have Hb1 := below_of Hd hb1 Hd.size
     have Zb1 := Nat.le_trans Zd hb1.size
     refine hK.out _ _ ⟨Hb1, fX1, fY1⟩ fun _ => ?_
     clear hK K
     try simp only [la, Act.put]
     refine uy 0 rfl (fun K hK => ?_)
     go_simp
     generalize hge : World.alloc _ _ = w2_
     have fo2 : w2_.ownsRow (w.heap.size + 3) 34 38 (.slice (some ⟨w1_.heap.size, 0, none⟩) 0 0) 0 [] := by subst hge; exact World.ownsRow_lit (size := 38) w1_ #[] 0 Zb1 (Nat.zero_le _) rfl
     have hb2 := al1 hge
     clear hge
     have fX2 := fX1.below hb2
     have fY2 := fY1.below hb2
     have fR2 := fR1.below hb2
     have fE2 := fE1.below hb2
     have apoE2 : Apart (.slice (some ⟨w1_.heap.size, 0, none⟩) 0 0) wd.heap.size := apart_lit2 fE1.lt
     have Hb2 := below_of Hb1 hb2 Hb1.size
     have Zb2 := Nat.le_trans Zb1 hb2.size
     refine hK.out _ _ ⟨Hb2, fX2, fY2⟩ fun _ => ?_
     clear hK K
     try simp only [la, Act.put]
     refine uy 5 rfl (fun K hK => ?_)
     refine step_append_cells (by rfl) (.tmp 82) (.tmp 86) 25 (by rfl) (w.heap.size + 3) 34 (.agg Mir.ver0) 38 144 (by kernel_rfl) (by kernel_rfl) rfl (by omega) (.slice (some ⟨w1_.heap.size, 0, none⟩) 0 0) (0) ([] : List Value) fo2 (by rfl) B k cb L1 (by rfl) hl1.out (HL1.out.below Hb2) ho1.out (by unfold maxLen; omega) (by omega) Zb2 ?_
     intro v3 w3_ fo3 hg3 st3
     have apoE3 := apart_sits st3 apoE2 fE2.lt
     have fX3 := fX2.grown hg3 (ng fo2 (by omega))
     have fY3 := fY2.grown hg3 (ng fo2 (by omega))
     have fR3 := fR2.grown hg3 (ng fo2 (by omega))
     have fE3 := fE2.grown hg3 (fun e => apoE2 e.symm)
     have Hb3 := below_grown Hb2 hg3 Hb2.size (ob fo2)
     have Zb3 := Nat.le_trans Zb2 hg3.size
     obtain ⟨A3, c3, rfl, le3, lm3, -⟩ := own_form fo3
     rw [Nat.zero_add] at fo3 le3 apoE3
     simp only [Nat.zero_add]
     refine hK.out _ _ ⟨Hb3, fX3, fY3⟩ fun _ => ?_
     clear hK K
     try simp only [la, Act.put]
     refine uy 8 rfl (fun K hK => ?_)
     refine step_append_cells (by rfl) (.tmp 87) (.tmp 89) 25 (by rfl) (w.heap.size + 3) 34 (.agg Mir.ver0) 38 144 (by kernel_rfl) (by kernel_rfl) rfl (by omega) (.slice A3 k c3) k (([] : List Value) ++ L1) fo3 (by rfl) (some ⟨wd.heap.size, 0, none⟩) (1) (1) V.toList (by rfl) (by rw [Array.length_toList, zV.out]) (cells_blk fE3) (by have := aV.out; rw [Array.all_eq_true'] at this; simpa using this) (by unfold maxLen; omega) (by omega) Zb3 ?_
     intro v4 w4_ fo4 hg4 st4
     have apoE4 := apart_sits st4 apoE3 fE3.lt
     have fX4 := fX3.grown hg4 (ng fo3 (by omega))
     have fY4 := fY3.grown hg4 (ng fo3 (by omega))
     have fR4 := fR3.grown hg4 (ng fo3 (by omega))
     have fE4 := fE3.grown hg4 (fun e => apoE3 e.symm)
     have Hb4 := below_grown Hb3 hg4 Hb3.size (ob fo3)
     have Zb4 := Nat.le_trans Zb3 hg4.size
     obtain ⟨A4, c4, rfl, le4, lm4, -⟩ := own_form fo4
     refine hK.out _ _ ⟨Hb4, fX4, fY4⟩ fun _ => ?_
     clear hK K
     try simp only [la, Act.put]
     refine uy 13 rfl (fun K hK => ?_)
     refine step_append_cells (by rfl) (.tmp 90) (.tmp 94) 25 (by rfl) (w.heap.size + 3) 34 (.agg Mir.ver0) 38 144 (by kernel_rfl) (by kernel_rfl) rfl (by omega) (.slice A4 (k + 1) c4) (k + 1) ((([] : List Value) ++ L1) ++ V.toList) fo4 (by rfl) XA (n2 - k) (cb - k) L3 (by rfl) hl3.out (HL3.out.below Hb4) ho3.out (by unfold maxLen; omega) (by omega) Zb4 ?_
     intro v5 w5_ fo5 hg5 st5
     have apoE5 := apart_sits st5 apoE4 fE4.lt
     have fX5 := fX4.grown hg5 (ng fo4 (by omega))
     have fY5 := fY4.grown hg5 (ng fo4 (by omega))
     have fR5 := fR4.grown hg5 (ng fo4 (by omega))
     have fE5 := fE4.grown hg5 (fun e => apoE4 e.symm)
     have Hb5 := below_grown Hb4 hg5 Hb4.size (ob fo4)
     have Zb5 := Nat.le_trans Zb4 hg5.size
     obtain ⟨A5, c5, rfl, le5, lm5, -⟩ := own_form fo5
     refine hK.out _ _ ⟨Hb5, fX5, fY5⟩ fun _ => ?_
     clear hK K
     try simp only [la, Act.put]
     refine uq 14 rfl ⟨Hb5, fX5, fY5⟩ ?_
     try simp only [la, Act.put]
     refine ul rfl (fun K hK => ?_)
     refine step_put_cell (by rfl) _ _ _ (by rfl) w.heap.size 35 (.slice A5 (k + 1 + (n2 - k)) c5) (by rfl) (by rfl) _ _ fX5 (by rw [zF.out]; omega) (by kernel_rfl) (by rfl) ?_
     intro w6_ fX6 hg6 hz6
     have neY6 := fY5.lt
     have fY6 := fY5.gx hg6
     have neR6 := fR5.lt
     have fR6 := fR5.gx hg6
     have neE6 := fE5.lt
     have fE6 := fE5.gx hg6
     have fo6 := fo5.kept hg6 (.inr (ng fo5 (by omega)).symm)
     have Hb6 := bgx Hb5 hg6 Hb5.size
     have Zb6 := Nat.le_trans Zb5 hg6.size
     refine hK.out _ _ ?_
     clear hK K
     try simp only [la, Act.put]
     refine ud ?_ _
     obtain ⟨pO, hpO⟩ := exq w1_.heap.size
     obtain ⟨pE, hpE⟩ := exq wd.heap.size
     rw [hpO, hpE]
     exact tail w6_ pO pE A3 c3 A4 c4 A5 c5 ⟨(hGs.out _ _) ▸ fX6, fR6, Hb6, fo6⟩
   intro wf pO pE A1 c1 A2 c2 A9 c9 ⟨gX, gR, gH, gj⟩
   have HXE := θ gX
   have HRE := θ gR
   have HBE := θ gH
   have HOE := θ gj
   clear gX gR gH gj
   obtain ⟨G, hG⟩ := exq (Mir.folA f.pub many no (.slice A n1 ca) (.slice A9 (k + 1 + (n2 - k)) c9))
   have iG := θ (show (Tryz.prog.info? 48).map (·.size) = some G.size by rw [← hG]; exact infoFol Hpd.out.1 ..)
   have aG := θ (show G.all (·.oneCell') = true by rw [← hG]; exact Mir.folA_all Hpd.out.1 rfl rfl)
   have zG := θ (show G.size = 36 by rw [← hG]; exact Mir.folA_size Hpd.out.1 ..)
   rw [hG] at HXE
   have HGG := θ hG
   clear hG hGs
   go_wp2_with (first
    | (refine wpList_load_blk rfl 48 (.tmp 2) rfl w.heap.size rfl 48 G _ HXE.out Tryz.underlying48 rfl iG.out ?_)
    | (refine wpList_put_blk rfl 48 (.tmp 4) (.tmp 97) rfl (w.heap.size + 2) G rfl rfl 48 Z HRE.out iG.out (by rw [zZ.out, zG.out]) aG.out ?_
       intro w6 h6 hg6 hz6
       have hR6 := θ h6
       have hB6 := θ (below_grown HBE.out hg6 HBE.out.size (fun k hk => by cases hk; omega))
       have hO6 := θ (HOE.out.kept hg6 (.inr (fun e => by have := own_base HOE.out _ e; omega)))
       clear h6 hg6 hz6))
   obtain ⟨Aq, cq, hvq, hkq, hmq, -⟩ := own_form hO6.out
   cases hvq
   have hcf := Mir.cut_filter f.ea k vn Hcut.out
   have rr : RS = ({ f with ea := f.ea.take k ++ [v] ++ f.ea.drop k }, 0) := by rw [rr.out, hcf.1, hcf.2]
   have hlen : (f.ea.take k ++ [v] ++ f.ea.drop k).length = k + 1 + (n2 - k) := by simp [Hn2.out]; omega
   refine ret_row2 (u := .int .i64 0) rfl (w.heap.size + 2) 48 G _ rfl rfl hR6.out Tryz.underlying48 rfl iG.out rfl ⟨G, by rw [rr], ?_, hB6.out⟩
   rw [rr]
   refine ⟨A, ca, A9, c9, ?_, Hpd.out, HA.out.below hB6.out, VersC.insert hB6.out Hv1.out Hv3.out HV.out k (by rw [HL1e.out, HL3e.out]; have := Cells.own hO6.out; simpa using this), ?_, hcaH.out.2, ?_, hmq⟩
   · show G = Mir.folA f.pub f.many f.no (.slice A f.it.length ca) (.slice A9 (f.ea.take k ++ [v] ++ f.ea.drop k).length c9)
     rw [← HGG.out, hlen, Hmany.out, Hno.out, Hn1.out]
   · show f.it.length ≤ ca
     rw [Hn1.out]; exact hcaH.out.1
   show (f.ea.take k ++ [v] ++ f.ea.drop k).length ≤ c9
   rw [hlen]; exact hkq
 have hvno : vn = no + 1 := by omega
 have dgt : decide (no + 1 < vn) = false := decide_eq_false hgt
 have rr0 := θ (show RS = if (Mir.apS f v).2 = false then (Mir.fo0, 430) else (Mir.drain f.ea (Mir.apS f v).1, 0) by rw [HRS.out, if_neg (by simp), if_neg (by simp), if_neg (by rintro (h | h); cases h; omega), if_neg hgt])
 have HO4 := θ ((HF.out.folO (ok := fun b => b < w.heap.size ∨ w.heap.size + 3 ≤ b) (fun b hb => .inl hb)).below HB4.out)
 clear HRS hgt
 go_wp2_with (first
  | (refine wpList_load_blk rfl 48 (.tmp 2) rfl w.heap.size rfl 48 F _ HX4.out Tryz.underlying48 rfl iF.out ?_)
  | (refine wpList_load_blk rfl 34 (.tmp 3) rfl (w.heap.size + 1) rfl 34 V _ HY4.out Tryz.underlying34 rfl iV.out ?_))
 refine (rapplied_any (fun b => b < w.heap.size ∨ w.heap.size + 3 ≤ b) f v F V w w5 HB4.out HO4.out HV.out (fun b hb => .inr (by omega)) Hs.out Hsv.out (Mir.app_small Hs.out Hsv.out) (by rw [Hvn.out, Hno.out]; exact hvno) (by rw [Hno.out]; exact hno0) (by rw [Hno.out]; omega)).mono ?_
 rintro e w6 ⟨F5, rfl, HO5, hb5⟩
 have HB5 := θ (bo HB4 hb5)
 have HR5 := θ (HR4.out.below hb5)
 have iF5 := θ (HO5.fol HB5.out).info
 have zF5 := θ (HO5.fol HB5.out).size
 have aF5 := θ (HO5.fol HB5.out).all
 have HO5h := θ HO5.lt
 have Hsg5 := θ (Mir.apS_small Hs.out Hsv.out)
 have Hea5 := θ (Mir.apS_ea f v)
 have Hno5 := θ (Mir.apS_no f v)
 have hz5 := Nat.le_trans hz4 hb5.size
 obtain ⟨g5, hg5⟩ := exq (Mir.apS f v)
 rw [hg5] at HO5h Hsg5 Hea5 Hno5 rr0 ⊢
 obtain ⟨g5, ab⟩ := g5
 simp only [] at HO5h Hsg5 Hea5 Hno5 rr0 ⊢
 clear HO5 hb5 hg5 x33 x35 y0 HX4 HY4 HR4 HB4 HO4 hz4
 go_upto_region 20 with (
  (refine wpList_put_blk rfl 48 (.tmp 9) (.tmp 102) rfl w6.heap.size F5 rfl rfl 48 (Mir.folA z32 0 0 (.slice none 0 0) (.slice none 0 0)) (by exact Blk.new _ _ _) iF5.out (by rw [zF5.out]; exact Mir.folA_size z32_length ..) aF5.out ?_
   intro w7 h7 hg7 hz7
   have hb7 := θ (below_put hg7)
   have HP7 := θ h7
   clear h7 hg7 hz7))
 have HR7 := θ (HR5.out.below hb7.out)
 have HB7 := θ (below_of HB5.out hb7.out HB5.out.size)
 have HO7 := θ ((HO5h.out.below hb7.out).mono (ok' := fun b => b ≠ w6.heap.size ∧ b ≠ w.heap.size + 2) (fun b hb => ⟨by omega, by omega⟩))
 have lt7 := HP7.out.lt
 obtain ⟨p9, hp9⟩ := exq w6.heap.size
 rw [hp9] at HP7 HO7 hz5 lt7 ⊢
 clear hb7 hp9 HR5 HB5 HO5h
 cases ab with
 | false =>
   have rr : RS = (Mir.fo0, 430) := by rw [rr0.out]; rfl
   have RZ := θ rr
   clear rr
   go_wp2_with (first
    | (refine wpList_built rfl 48 #[] rfl [] (by simp) Z bZ.out ?_)
    | (refine wpList_store_same rfl 48 (.tmp 4) (.tmp 106) rfl (w.heap.size + 2) Z rfl rfl 48 HR7.out iZ.out aZ.out ?_))
   exact ret_row2 (u := .int .i64 430) rfl (w.heap.size + 2) 48 Z _ rfl rfl HR7.out Tryz.underlying48 rfl iZ.out rfl ⟨Z, by rw [RZ.out], by rw [RZ.out]; exact FZ.out _, HB7.out⟩
 | true =>
 obtain ⟨RF, hRF⟩ := exq (Mir.drain f.ea g5)
 have HRS2 := θ (show RS = (RF, 0) by rw [rr0.out, ← hRF]; rfl)
 have hdr0 := θ (show Mir.drain g5.ea g5 = RF by rw [Hea5.out]; exact hRF)
 have hb50 : 0 ≤ g5.no ∧ g5.no + g5.ea.length ≤ 10000 := by
  have h1 := Hno5.out
  rw [if_pos rfl, Hvn.out] at h1
  rw [h1, Hea5.out, Hn2.out]
  omega
 obtain ⟨okk, hokk⟩ : ∃ o : Nat → Prop, (fun b => b ≠ p9 ∧ b ≠ w.heap.size + 2) = o := ⟨_, rfl⟩
 rw [hokk] at HO7
 have hnP := θ (show ¬ okk p9 by rw [← hokk]; simp)
 have hnR := θ (show ¬ okk (w.heap.size + 2) by rw [← hokk]; simp)
 have hokI := θ (show ∀ b, p9 < b → w.heap.size + 2 < b → okk b by rw [← hokk]; exact fun b h1 h2 => ⟨by omega, by omega⟩)
 clear hRF rr0 hokk
 go_wp2_with fail
 go_loopw [121] (fun _ W => ∃ (g : Mir.Fo) (G : Array Value), Hid (FolO w W okk g G) ∧ Hid (Blk W p9 48 G) ∧ Hid (Blk W (w.heap.size + 2) 48 Z) ∧ Hid (Mir.SmF g) ∧ Hid (Mir.drain g.ea g = RF) ∧ 0 ≤ g.no ∧ g.no + g.ea.length ≤ 10000 ∧ Hid (Below w.heap.size w W)) (fun _ W => lenV ((W.cell? ⟨p9, 35, none⟩).getD undef))
 case atStart => exact ⟨g5, F5, HO7, HP7, HR7, Hsg5, hdr0, hb50.1, hb50.2, HB7⟩
 obtain ⟨wq, rfl⟩ : ∃ v : World, v = wr := ⟨_, rfl⟩
 obtain ⟨g, G, HOq, HPq, HRq, Hsg, hdr, hn0, hnb, HBq⟩ := hrel
 have hmes : Hid (lenV ((wq.cell? ⟨p9, 35, none⟩).getD undef) = g.ea.length) := θ (by
  have c5 : wq.cell? ⟨p9, 35, none⟩ = G[35]? := HPq.out.cell 35
  obtain ⟨A7, ca7, B7, cb7, z7, hF7, hp7, -⟩ := HOq.out
  rw [hF7, Mir.folA_hi hp7.1 _ _ _ _ 3] at c5
  rw [c5]; rfl)
 obtain ⟨gno, hgno⟩ := exq g.no
 obtain ⟨ne, hne⟩ := exq g.ea.length
 obtain ⟨A', ca', B', cb', za, hGe, hpd', hza, hda', hcA, hvB, hca1, hca2, hcb1, hcb2⟩ := HOq.out
 rw [hne] at hGe hcb1 hnb
 rw [hgno] at hGe hnb hn0
 have iG := θ (HOq.out.fol HBq.out).info
 have aG := θ (HOq.out.fol HBq.out).all
 have zG := θ (HOq.out.fol HBq.out).size
 have g33 : G[33]? = some (.int .i64 gno) := by rw [hGe]; exact Mir.folA_hi hpd'.1 _ _ _ _ 1
 have g35 : G[35]? = some (.slice B' ne cb') := by rw [hGe]; exact Mir.folA_hi hpd'.1 _ _ _ _ 3
 have HGe := θ hGe
 have HPd := θ hpd'
 have HZa := θ hza
 have HDa := θ hda'
 have HcA := θ hcA
 have HvB := θ hvB
 have Hca := θ (And.intro hca1 hca2)
 have Hcb := θ (And.intro hcb1 hcb2)
 have Hgno := θ hgno
 have Hne := θ hne
 have z33 : wq.cell? ⟨p9, 33, none⟩ = some (.int .i64 gno) := (HPq.out.cell 33).trans g33
 have z35 : wq.cell? ⟨p9, 35, none⟩ = some (.slice B' ne cb') := (HPq.out.cell 35).trans g35
 have ltP : p9 < wq.heap.size := HPq.out.lt
 clear hGe hpd' hza hda' hcA hvB hca1 hca2 hcb1 hcb2 hgno hne
 cases hea : g.ea with
 | nil =>
   have e0 : ne = 0 := by rw [← Hne.out, hea]; rfl
   have Hea := θ hea
   have d0 : decide ((0 : Int) < (ne : Int)) = false := decide_eq_false (by omega)
   have d0' : decide (0 < ne) = false := decide_eq_false (by omega)
   have RR := θ (show RS = (g, 0) by rw [HRS2.out, ← hdr.out, Hea.out, Mir.drain_nil, ← Hea.out])
   clear hea e0
   go_upto_region 22 with fail
   go_quiet (fail)
   go_upto_region 28 with fail
   generalize hdw : World.drewN _ _ = wp
   have HPp := θ (show Blk wp p9 48 G by rw [← hdw]; exact HPq.out)
   have HRp := θ (show Blk wp (w.heap.size + 2) 48 Z by rw [← hdw]; exact HRq.out)
   have HBp := θ (show Below w.heap.size w wp by rw [← hdw]; exact below_drewN HBq.out _)
   have HOp := θ (show FolO w wp okk g G by rw [← hdw]; exact HOq.out)
   clear hdw HPq HRq HBq HOq HcA z33 z35 ltP
   go_wp2_with (first
    | (refine wpList_load_blk rfl 48 (.tmp 9) rfl p9 rfl 48 G _ HPp.out Tryz.underlying48 rfl iG.out ?_)
    | (refine wpList_put_blk rfl 48 (.tmp 4) (.tmp 138) rfl (w.heap.size + 2) G rfl rfl 48 Z HRp.out iG.out (by rw [zZ.out, zG.out]) aG.out ?_
       intro w9 h9 hg9 hz9
       have hR9 := θ h9
       have hB9 := θ (below_grown HBp.out hg9 HBp.out.size (fun k hk => by cases hk; omega))
       have hO9 := θ (HOp.out.grown hg9 (fun g e => by injection e with e; subst e; exact hnR.out))
       clear h9 hg9 hz9))
   exact ret_row2 (u := .int .i64 0) rfl (w.heap.size + 2) 48 G _ rfl rfl hR9.out Tryz.underlying48 rfl iG.out rfl ⟨G, by rw [RR.out], by rw [RR.out]; exact hO9.out.fol hB9.out, hB9.out⟩
 | cons v0 l =>
   have e1 : ne = l.length + 1 := by rw [← Hne.out, hea]; rfl
   have d0 : decide ((0 : Int) < (ne : Int)) = true := decide_eq_true (by omega)
   have d0' : decide (0 < ne) = true := decide_eq_true (by omega)
   have zne : (0 : Int) < (ne : Int) := by omega
   obtain ⟨b, off, rfl, hb, hcs⟩ := HvB.out.at_ (by rw [hea]; simp)
   obtain ⟨V0, hV0, hr0⟩ := hcs 0 v0 (by rw [hea]; rfl)
   rw [Nat.zero_mul, Nat.add_zero] at hr0
   have Hr0 := θ hr0
   have HV0 := θ hV0
   have Hea := θ hea
   have He1 := θ e1
   obtain ⟨n0, hn0v⟩ := exq v0.no
   have Hn0v := θ hn0v
   have v0c : wq.cell? ⟨b, off, none⟩ = some (.int .i64 n0) := by
    have h1 := hr0 0 (.int .i64 n0) (by rw [Array.getElem?_toList, hV0.c0, hn0v])
    exact cellkM HBq.out (by simpa using h1)
   clear hcs hV0 hr0 hea e1 hn0v
   have ew : IntKind.i64.wrap (gno + 1) = gno + 1 := IntWalk.i64_in _ (by omega)
   by_cases hnx : n0 = gno + 1
   rotate_left
   · have dnx : (n0 == gno + 1) = false := by simpa using hnx
     have dnx2 : decide (n0 = gno + 1) = false := decide_eq_false hnx
     have RR := θ (show RS = (g, 0) by rw [HRS2.out, ← hdr.out, Hea.out, Mir.drain_cons, if_neg (by rw [Hn0v.out, Hgno.out]; exact hnx), ← Hea.out])
     clear hnx
     go_upto_region 22 with fail
     go_quiet (fail)
     go_upto_region 28 with fail
     generalize hdw : World.drewN _ _ = wp
     have HPp := θ (show Blk wp p9 48 G by rw [← hdw]; exact HPq.out)
     have HRp := θ (show Blk wp (w.heap.size + 2) 48 Z by rw [← hdw]; exact HRq.out)
     have HBp := θ (show Below w.heap.size w wp by rw [← hdw]; exact below_drewN HBq.out _)
     have HOp := θ (show FolO w wp okk g G by rw [← hdw]; exact HOq.out)
     clear hdw HPq HRq HBq HOq HcA z33 z35 ltP
     go_wp2_with (first
      | (refine wpList_load_blk rfl 48 (.tmp 9) rfl p9 rfl 48 G _ HPp.out Tryz.underlying48 rfl iG.out ?_)
      | (refine wpList_put_blk rfl 48 (.tmp 4) (.tmp 138) rfl (w.heap.size + 2) G rfl rfl 48 Z HRp.out iG.out (by rw [zZ.out, zG.out]) aG.out ?_
         intro w9 h9 hg9 hz9
         have hR9 := θ h9
         have hB9 := θ (below_grown HBp.out hg9 HBp.out.size (fun k hk => by cases hk; omega))
         have hO9 := θ (HOp.out.grown hg9 (fun g e => by injection e with e; subst e; exact hnR.out))
         clear h9 hg9 hz9))
     exact ret_row2 (u := .int .i64 0) rfl (w.heap.size + 2) 48 G _ rfl rfl hR9.out Tryz.underlying48 rfl iG.out rfl ⟨G, by rw [RR.out], by rw [RR.out]; exact hO9.out.fol hB9.out, hB9.out⟩
   have dnx : (n0 == gno + 1) = true := by simpa using hnx
   have dnx2 : decide (n0 = gno + 1) = true := decide_eq_true hnx
   have Hnx := θ hnx
   obtain ⟨XB, hXB⟩ := exq (if cb' = 1 then some (⟨b, off, none⟩ : Addr) else some ⟨b, off + 38, none⟩)
   have HXB := θ hXB
   clear hnx
   go_upto_region 22 with fail
   go_quiet (fail)
   go_upto_region 23 with fail
   generalize hdw : World.drewN _ _ = wp
   have HPp := θ (show Blk wp p9 48 G by rw [← hdw]; exact HPq.out)
   have HRp := θ (show Blk wp (w.heap.size + 2) 48 Z by rw [← hdw]; exact HRq.out)
   have HBp := θ (show Below w.heap.size w wp by rw [← hdw]; exact below_drewN HBq.out _)
   have HcAp := θ (show CellsO okk wp A' (itZ za) by rw [← hdw]; exact HcA.out)
   have HRg := θ (show wp.rangeAt b off V0.toList from fun j u hu => cellkM HBp.out (Hr0.out j u hu))
   clear hdw z33 z35 v0c ltP HPq HRq HBq HOq HcA
   have z35 : wp.cell? ⟨p9, 35, none⟩ = some (.slice (some ⟨b, off, none⟩) ne cb') := (HPp.out.cell 35).trans g35
   go_upto_region 24 with (first
    | (refine wpList_put_blk rfl 34 (.tmp 11) (.tmp 125) rfl wp.heap.size V0 rfl rfl 34 Mir.ver0 (by exact Blk.new _ _ _) HV0.out.info (by rw [Mir.ver0_size, HV0.out.size]) HV0.out.all ?_
       intro w8 h8 hg8 hz8
       have hb8 := θ (below_put hg8)
       have HQ8 := θ h8
       clear h8 hg8 hz8)
    | (refine wpList_load_mid rfl 34 (.tmp 124) rfl b off rfl V0.toList _ HRg.out Tryz.underlying34 rfl (by rw [Array.length_toList]; exact HV0.out.info) ?_))
   have HP8 := θ (HPp.out.below hb8.out)
   have HR8 := θ (HRp.out.below hb8.out)
   have HB8 := θ (below_of HBp.out hb8.out HBp.out.size)
   have HcA8 := θ (HcAp.out.below hb8.out)
   have lt9 := HPp.out.lt
   obtain ⟨p1, hp1⟩ := exq wp.heap.size
   rw [hp1] at HQ8 lt9 ⊢
   clear z35 hb8 hp1 HPp HRp HBp HcAp HRg
   have z35 : w8.cell? ⟨p9, 35, none⟩ = some (.slice (some ⟨b, off, none⟩) ne cb') := (HP8.out.cell 35).trans g35
   have f35 : w8.frozen? ⟨p9, 35, none⟩ = false := HP8.out.frozen 35
   have h1n : (1 : Int) ≤ (ne : Int) := by omega
   have h1c : (1 : Int) ≤ (cb' : Int) := by have := Hcb.out.1; omega
   have h1n' : 1 ≤ ne := by omega
   have h1c' : 1 ≤ cb' := by omega
   go_upto_region 25 with fail
   generalize hge : World.setCell _ _ _ = w9
   have hg9 : w8.grownBy w9 (some p9) := by subst hge; exact grown_setOne _
   obtain ⟨G1, hG1⟩ := exq (Mir.folA g.pub g.many gno (.slice A' g.it.length ca') (.slice XB (ne - 1) (cb' - 1)))
   have HP9 := θ (show Blk w9 p9 48 G1 by subst hge; have := HP8.out.set_ 35 (.slice XB (ne - 1) (cb' - 1)); rwa [HGe.out, folA_ear HPd.out.1, hG1] at this)
   have HQ9 := θ (HQ8.out.grown hg9 (by first | (simp; done) | (simp; omega)))
   have HR9 := θ (HR8.out.grown hg9 (by first | (simp; done) | (simp; omega)))
   have HB9 := θ (below_grown HB8.out hg9 HB8.out.size (fun k hk => by cases hk; omega))
   have HO9 : Hid (FolO w w9 okk { g with ea := l } G1) := θ ⟨A', ca', XB, cb' - 1, za, by
    show G1 = Mir.folA g.pub g.many g.no (.slice A' g.it.length ca') (.slice XB l.length (cb' - 1))
    rw [← hG1, Hgno.out, show l.length = ne - 1 by rw [He1.out]; rfl], HPd.out, HZa.out, HDa.out, HcA8.out.grown hg9 (fun g e => by injection e with e; subst e; exact hnP.out), by
    have := HvB.out
    rw [Hea.out] at this
    have h2 := VersC.tail_ (c := cb') this (by rw [← He1.out]; exact Hcb.out.1)
    rw [HXB.out] at h2
    exact h2, Hca.out.1, Hca.out.2, by show l.length ≤ cb' - 1; have := Hcb.out.1; have := He1.out; omega, by have := Hcb.out.2; omega⟩
   have iG1 := θ (HO9.out.fol HB9.out).info
   have zG1 := θ (HO9.out.fol HB9.out).size
   have Hsg1 : Hid (Mir.SmF { g with ea := l }) := θ ⟨Hsg.out.1, Hsg.out.2.1, by show l.length ≤ 1000000; have := Hsg.out.2.2.1; rw [Hea.out] at this; simp at this; omega, fun x hx => Hsg.out.2.2.2 x (by rw [Hea.out]; exact List.mem_cons_of_mem _ hx)⟩
   have Hsv0 : Hid (Mir.SmV v0) := θ (Hsg.out.2.2.2 v0 (by rw [Hea.out]; exact List.mem_cons_self))
   have hz9 : w.heap.size + 2 < w9.heap.size := HR9.out.lt
   have hz9' : p9 < w9.heap.size := HP9.out.lt
   clear hge hg9 hG1 z35 f35 HP8 HQ8 HR8 HB8 HcA8
   go_wp2_with (first
    | (refine wpList_load_blk rfl 48 (.tmp 9) rfl p9 rfl 48 G1 _ HP9.out Tryz.underlying48 rfl iG1.out ?_)
    | (refine wpList_load_blk rfl 34 (.tmp 11) rfl p1 rfl 34 V0 _ HQ9.out Tryz.underlying34 rfl HV0.out.info ?_))
   refine (rapplied_any okk { g with ea := l } v0 G1 V0 w w9 HB9.out HO9.out HV0.out (fun b hb => hokI.out b (by omega) (by omega)) Hsg1.out Hsv0.out (Mir.app_small Hsg1.out Hsv0.out) (by show v0.no = g.no + 1; rw [Hn0v.out, Hgno.out]; exact Hnx.out) (by show 0 ≤ g.no; rw [Hgno.out]; exact hn0) (by show g.no ≤ 1000000; rw [Hgno.out]; omega)).mono ?_
   rintro e wa ⟨F6, rfl, HO6, hb6⟩
   have HBa := θ (bo HB9 hb6)
   have HPa := θ (HP9.out.below hb6)
   have HRa := θ (HR9.out.below hb6)
   have HO1a := θ (HO9.out.below hb6)
   have HO6h := θ HO6
   have iF6 := θ (HO6.fol HBa.out).info
   have zF6 := θ (HO6.fol HBa.out).size
   have aF6 := θ (HO6.fol HBa.out).all
   have Hsg6 := θ (Mir.apS_small Hsg1.out Hsv0.out)
   have Hea6 := θ (Mir.apS_ea { g with ea := l } v0)
   have Hno6 := θ (Mir.apS_no { g with ea := l } v0)
   have Hsm6 := θ (fun h => Mir.apS_no2 (f := { g with ea := l }) (v := v0) h)
   have hdr6 := θ (show Mir.drain (Mir.apS { g with ea := l } v0).1.ea (Mir.apS { g with ea := l } v0).1 = RF by
    rw [Hea6.out, ← hdr.out, Hea.out, Mir.drain_cons, if_pos (by rw [Hn0v.out, Hgno.out]; exact Hnx.out)])
   obtain ⟨g6, hg6⟩ : ∃ x, Mir.apS { g with ea := l } v0 = x := ⟨_, rfl⟩
   rw [hg6] at HO6h Hsg6 Hea6 Hno6 hdr6 Hsm6 ⊢
   obtain ⟨g6, is⟩ := g6
   simp only [] at HO6h Hsg6 Hea6 Hno6 hdr6 Hsm6 ⊢
   have hb60 : 0 ≤ g6.no ∧ g6.no + g6.ea.length ≤ 10000 := by
    have h1 := Hno6.out
    have h2 := Hn0v.out
    have h3 := Hgno.out
    have h4 := Hnx.out
    have h5 := He1.out
    rw [Hea6.out]
    show 0 ≤ g6.no ∧ g6.no + (l.length : Int) ≤ 10000
    rw [h1]
    split
    · omega
    show 0 ≤ g.no ∧ g.no + (l.length : Int) ≤ 10000
    omega
   have hl6 : g6.ea.length < ne := by rw [Hea6.out, He1.out]; exact Nat.lt_succ_self _
   clear HO6 hb6 hg6 HP9 HQ9 HR9 HB9 HO9
   go_upto_region 26 with (
    (refine wpList_put_blk rfl 48 (.tmp 12) (.tmp 134) rfl wa.heap.size F6 rfl rfl 48 (Mir.folA z32 0 0 (.slice none 0 0) (.slice none 0 0)) (by exact Blk.new _ _ _) iF6.out (by rw [zF6.out]; exact Mir.folA_size z32_length ..) aF6.out ?_
     intro wb h8 hg8 hz8
     have hb8 := θ (below_put hg8)
     have HQb := θ h8
     clear h8 hg8 hz8))
   have HBb := θ (below_of HBa.out hb8.out HBa.out.size)
   have HPb := θ (HPa.out.below hb8.out)
   have HRb := θ (HRa.out.below hb8.out)
   have HO1b := θ (HO1a.out.below hb8.out)
   have HO6b := θ (HO6h.out.below hb8.out)
   have hpa : p9 < wa.heap.size := HPa.out.lt
   obtain ⟨p2, hp2⟩ := exq wa.heap.size
   rw [hp2] at HQb hpa ⊢
   clear hb8 hp2 HBa HPa HRa HO1a HO6h
   cases is with
   | false =>
     have hgg := Hsm6.out rfl
     have HO1c := θ (show FolO w wb okk g6 G1 by rw [hgg]; exact HO1b.out)
     clear hgg
     go_wp2_with fail
     go_roundw
     case rel => exact ⟨g6, G1, HO1c, HPb, HRb, Hsg6, hdr6, hb60.1, hb60.2, HBb⟩
     case measure =>
      have c5 : wb.cell? ⟨p9, 35, none⟩ = G1[35]? := HPb.out.cell 35
      obtain ⟨A7, ca7, B7, cb7, z7, hF7, hp7, -⟩ := HO1c.out
      rw [hF7, Mir.folA_hi hp7.1 _ _ _ _ 3] at c5
      show lenV ((wb.cell? ⟨p9, 35, none⟩).getD undef) < _
      rw [c5, hmes.out, Hne.out]
      exact hl6
   | true =>
     go_wp2_with (first
      | (refine wpList_load_blk rfl 48 (.tmp 12) rfl p2 rfl 48 F6 _ HQb.out Tryz.underlying48 rfl iF6.out ?_)
      | (refine wpList_put_blk rfl 48 (.tmp 9) (.tmp 137) rfl p9 F6 rfl rfl 48 G1 HPb.out iF6.out (by rw [zF6.out, zG1.out]) aF6.out ?_
         intro wd h9 hg9 hz9
         have HPd9 := θ h9
         have HRd := θ (HRb.out.grown hg9 (by first | (simp; done) | (simp; omega)))
         have HBd := θ (below_grown HBb.out hg9 HBb.out.size (fun k hk => by cases hk; omega))
         have HOd := θ (HO6b.out.grown hg9 (fun g e => by injection e with e; subst e; exact hnP.out))
         clear h9 hg9 hz9))
     go_roundw
     case rel => exact ⟨g6, F6, HOd, HPd9, Hsg6, hdr6, hb60.1, hb60.2⟩
     case measure =>
      have c5 : wd.cell? ⟨p9, 35, none⟩ = F6[35]? := HPd9.out.cell 35
      obtain ⟨A7, ca7, B7, cb7, z7, hF7, hp7, -⟩ := HOd.out
      rw [hF7, Mir.folA_hi hp7.1 _ _ _ _ 3] at c5
      show lenV ((wd.cell? ⟨p9, 35, none⟩).getD undef) < _
      rw [c5, hmes.out, Hne.out]
      exact hl6
end Go.Proofs.YtkflpoiobpblhaaGreat
