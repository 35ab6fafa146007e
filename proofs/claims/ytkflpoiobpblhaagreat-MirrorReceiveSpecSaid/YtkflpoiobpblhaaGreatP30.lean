/- Walks and plain laws that the statement rests on: MVf, MVer, MPl. -/
import Derived.Deep.RegionHeld3
import Derived.Test.YtkflpoiobpblhaaGreatP00
import Derived.Test.YtkflpoiobpblhaaGreatP22
import Derived.Test.YtkflpoiobpblhaaGreatP27
import Derived.Test.YtkflpoiobpblhaaGreatP28
import Derived.Test.YtkflpoiobpblhaaGreatP29
import Derived.Test.YtkflpoiobpblhaaGreatPS
namespace Go.Proofs.YtkflpoiobpblhaaGreat
open Go.RowKit
set_option linter.unusedVariables false
set_option linter.unusedSimpArgs false
namespace Mir
structure Sg where
 i : Int
 o : List (List Nat)
 c : List (List Nat)
 p : List (List Nat)
structure Ve where
 no : Int
 st : List Nat
 ch : List Ch
 sg : Sg
def sgOk (root : List Nat) (n : Int) (msg : List Nat) (g : Sg) : Bool :=
 if 1 ≤ n ∧ n ≤ 4096 ∧ 0 ≤ g.i ∧ g.i < n ∧ g.o.length = 64 ∧ g.c.length = 64 ∧ msg.length ≤ 65536 then verS root n.toNat g.i.toNat msg g.o g.c g.p else false
def verE (root : List Nat) (n : Int) (v : Ve) : Int :=
 if v.no < 1 ∨ 4096 < v.no then 450 else if chOk v.ch = false then 430 else if v.sg.i ≠ v.no - 1 ∨ sgOk root n (mesS v.no.toNat v.st v.ch) v.sg = false then 451 else 0
end Mir
def SigC (w : World) (g : Mir.Sg) (s0 s1 s2 s3 : Value) : Prop :=
 ∃ (Ao : Option Addr) (co : Nat) (Ac : Option Addr) (cc : Nat) (Ap : Option Addr) (cp : Nat), s0 = .int .i64 g.i ∧ s1 = .slice Ao g.o.length co ∧ s2 = .slice Ac g.c.length cc ∧ s3 = .slice Ap g.p.length cp ∧
  Cells w Ao (bytesV g.o.flatten) ∧ Cells w Ac (bytesV g.c.flatten) ∧ Cells w Ap (bytesV g.p.flatten) ∧ IsL g.o ∧ IsL g.c ∧ IsL g.p ∧ g.o.length ≤ co ∧ co ≤ maxLen ∧ g.c.length ≤ cc ∧ cc ≤ maxLen ∧ g.p.length ≤ cp ∧ cp ≤ maxLen
theorem SigC.below {w w' : World} {g : Mir.Sg} {s0 s1 s2 s3 : Value} (h : SigC w g s0 s1 s2 s3) (hb : Below w.heap.size w w') : SigC w' g s0 s1 s2 s3 := by
 obtain ⟨Ao, co, Ac, cc, Ap, cp, h0, h1, h2, h3, a, b, c, r⟩ := h
 exact ⟨Ao, co, Ac, cc, Ap, cp, h0, h1, h2, h3, a.below hb, b.below hb, c.below hb, r⟩
def VerC (w : World) (v : Mir.Ve) (V : Array Value) : Prop :=
 ∃ (A : Option Addr) (c : Nat) (s0 s1 s2 s3 : Value), V = Mir.verA v.no v.st (.slice A v.ch.length c) s0 s1 s2 s3 ∧ IsD v.st ∧ ChangesC w A v.ch ∧ v.ch.length ≤ c ∧ c ≤ maxLen ∧ SigC w v.sg s0 s1 s2 s3
theorem VerC.below {w w' : World} {v : Mir.Ve} {V : Array Value} (h : VerC w v V) (hb : Below w.heap.size w w') : VerC w' v V := by
 obtain ⟨A, c, s0, s1, s2, s3, e, hd, hc, h1, h2, hs⟩ := h
 exact ⟨A, c, s0, s1, s2, s3, e, hd, hc.below hb, h1, h2, hs.below hb⟩
theorem byteL_num (n : Nat) : ByteL (Mir.numS n) := byteL_of (Mir.numS_bytes n)
theorem mesS_length (no : Nat) (st : List Nat) (l : List Mir.Ch) (h : IsD st) : (Mir.mesS no st l).length = 72 := by
 unfold Mir.mesS
 rw [List.length_append, List.length_append, h.1, (treeS_isD _).1]; rfl
theorem mesS_byte (no : Nat) (st : List Nat) (l : List Mir.Ch) (h : IsD st) : ByteL (Mir.mesS no st l) := ((byteL_num no).append h.2).append (treeS_isD _).2
theorem sverify_any (root : List Nat) (n : Int) (msg : List Nat) (A : Option Addr) (k c : Nat) (g : Mir.Sg) (s0 s1 s2 s3 : Value) (w : World) (hr : IsD root) (hA : Cells w A (bytesV msg)) (hm : msg.length = k) (h8 : ByteL msg) (hg : SigC w g s0 s1 s2 s3) :
    Calls Tryz.prog 39 #[.agg (arrK .u8 root), .int .i64 n, .slice A k c, .agg #[s0, s1, s2, s3]] w fun e w' => e = .returned (.bool (Mir.sgOk root n msg g)) ∧ Below w.heap.size w w' := by
 obtain ⟨Ao, co, Ac, cc, Ap, cp, rfl, rfl, rfl, rfl, ho, hc, hp, iO, iC, iP, a1, a2, a3, a4, a5, a6⟩ := hg
 unfold Mir.sgOk
 by_cases h : 1 ≤ n ∧ n ≤ 4096 ∧ 0 ≤ g.i ∧ g.i < n ∧ g.o.length = 64 ∧ g.c.length = 64 ∧ msg.length ≤ 65536
 · rw [if_pos h]
   obtain ⟨h1, h2, h3, h4, h5, h6, h7⟩ := h
   obtain ⟨m, rfl⟩ := Int.eq_ofNat_of_zero_le (show 0 ≤ n by omega)
   obtain ⟨i, hi⟩ := Int.eq_ofNat_of_zero_le h3
   rw [hi, h5, h6]
   exact Verify_good root m i msg A k c g.o g.c g.p Ao Ac Ap co cc g.p.length cp w hr (by omega) (by omega) (by omega) hA hm (by omega) h8 h5 h6 rfl iO iC iP ho hc hp a5 a6
 · rw [if_neg h]
   exact Verify_bad root n g.i A k c Ao Ac Ap g.o.length co g.c.length cc g.p.length cp w (by rw [hm] at h; exact h)
end Go.Proofs.YtkflpoiobpblhaaGreat
namespace Go.Proofs.YtkflpoiobpblhaaGreat
open Go.RowKit
set_option linter.unusedVariables false
set_option linter.unusedSimpArgs false
theorem infoVer {st : List Nat} (h : st.length = 32) (no : Int) (C s0 s1 s2 s3 : Value) : (Tryz.prog.info? 34).map (·.size) = some (Mir.verA no st C s0 s1 s2 s3).size := by rw [Mir.verA_size h]; kernel_rfl
theorem chOk_size {l : List Mir.Ch} (h : Mir.chOk l = true) : l.length ≤ 65536 ∧ ∀ x ∈ l, x.1.1.size ≤ 64 := by
 unfold Mir.chOk at h
 rw [Bool.and_eq_true, decide_eq_true_eq] at h
 refine ⟨h.2, fun x hx => ?_⟩
 obtain ⟨i, hi, rfl⟩ := List.getElem_of_mem hx
 have := List.all_eq_true.1 h.1 i (List.mem_range.2 hi)
 unfold Mir.chAt Mir.incAt Mir.nameB at this
 rw [chNames_get (List.getElem?_eq_getElem hi)] at this
 simp only [Bool.and_eq_true, decide_eq_true_eq] at this
 omega
set_option maxRecDepth 100000 in
set_option maxHeartbeats 2000000 in
theorem mverify_any (root : List Nat) (n : Int) (v : Mir.Ve) (V : Array Value) (w : World) (hr : IsD root) (hV : VerC w v V) (hl : v.ch.length ≤ 1000000) (hs : ∀ x ∈ v.ch, x.1.2.length ≤ 900000) :
    Calls Tryz.prog 14 #[.agg (arrK .u8 root), .int .i64 n, .agg V] w fun e w' => e = .returned (.int .i64 (Mir.verE root n v)) ∧ Below w.heap.size w w' := by
 obtain ⟨A, c, s0, s1, s2, s3, rfl, hst, hC, hlc, hcm, hg⟩ := hV
 obtain ⟨no, st, ch, g⟩ := v
 simp only [] at hst hC hlc hg hl hs ⊢
 obtain ⟨i0, hi0⟩ : ∃ i, s0 = .int .i64 i ∧ i = g.i := by
  obtain ⟨Ao, co, Ac, cc, Ap, cp, h0, -⟩ := hg
  exact ⟨_, h0, rfl⟩
 obtain ⟨rfl, hig⟩ := hi0
 have h0 := Mir.verA_0 no st (.slice A ch.length c) (.int .i64 i0) s1 s2 s3
 have hhi := Mir.verA_hi hst.1 no (.slice A ch.length c) (.int .i64 i0) s1 s2 s3
 have h33 := hhi 0
 have h34 := hhi 1
 have h35 := hhi 2
 have h36 := hhi 3
 have h37 := hhi 4
 have iV := Lib.hid (infoVer hst.1 no (.slice A ch.length c) (.int .i64 i0) s1 s2 s3)
 have Hr := Lib.hid hr
 have HC := Lib.hid hC
 have Hg := Lib.hid hg
 obtain ⟨R, hR⟩ : ∃ R, Mir.verE root n ⟨no, st, ch, g⟩ = R := ⟨_, rfl⟩
 have HR := Lib.hid hR
 rw [hR]
 unfold Mir.verE at hR
 simp only [] at hR
 have HMs := Lib.hid (fun (A' : Option Addr) W (hno : 0 ≤ no ∧ no < 9223372036854775808) (h1 : ch.length ≤ 70000) (hC : ChangesC W A ch) (h2 : ∀ x ∈ ch, x.1.1.size ≤ 64) => by
  have := message_any no.toNat st A ch.length c ch (.int .i64 i0) s1 s2 s3 W hst rfl h1 (by omega) hC (fun x hx => ⟨h2 x hx, hs x hx⟩)
  rwa [Int.toNat_of_nonneg hno.1] at this)
 have HVa := Lib.hid (fun W h => mvalid_any A ch.length c ch W rfl hl h)
 obtain ⟨V, hVe⟩ : ∃ V, Mir.verA no st (.slice A ch.length c) (.int .i64 i0) s1 s2 s3 = V := ⟨_, rfl⟩
 rw [hVe] at h0 h33 h34 h35 h36 h37 iV HMs ⊢
 have oV := Lib.hid (show V.size = 38 by rw [← hVe]; exact Mir.verA_size hst.1 ..)
 have Hst := Lib.hid hst
 have Hig := Lib.hid hig
 clear hhi hVe hr hC hg hs hst hig
 by_cases hn1 : no < 1
 · rw [if_pos (Or.inl hn1)] at hR
   subst hR
   have d1 : decide (no < 1) = true := by simpa using hn1
   go_enter Tryz.func14, Tryz.ntmps14
   go_upto_region 1 with (fail)
   generalize hge2 : World.alloc (World.alloc _ _) _ = w1
   have hX0 := (show Blk w1 w.heap.size 29 (arrK .u8 root) by subst hge2; exact (Blk.new w 29 (arrK .u8 root)).below ((Below.refl _ _).alloc (Nat.le_refl _) _))
   have hV0 := (show Blk w1 (w.heap.size + 1) 34 V by subst hge2; have := Blk.new (w.alloc (.cells (arrK .u8 root) 29)) 34 V; simpa using this)
   have HX := Lib.hid hX0
   have HV := Lib.hid hV0
   have HB := Lib.hid (show Below w.heap.size w w1 by subst hge2; exact below_of ((Below.refl _ _).alloc (Nat.le_refl _) _) ((Below.refl _ _).alloc (Nat.le_refl _) _) (by simp))
   have y0 : w1.cell? ⟨w.heap.size + 1, 0, none⟩ = some (.int .i64 no) := (HV.out.cell 0).trans h0
   have y33 : w1.cell? ⟨w.heap.size + 1, 33, none⟩ = some (.slice A ch.length c) := (HV.out.cell 33).trans h33
   clear hge2 hX0 hV0
   go_wp2_with (fail)
   go_ret
   exact ⟨rfl, HB.out⟩
 by_cases hn2 : 4096 < no
 · rw [if_pos (Or.inr hn2)] at hR
   subst hR
   have d1 : decide (no < 1) = false := by simpa using hn1
   have d2 : decide (4096 < no) = true := by simpa using hn2
   go_enter Tryz.func14, Tryz.ntmps14
   go_upto_region 1 with (fail)
   generalize hge2 : World.alloc (World.alloc _ _) _ = w1
   have hX0 := (show Blk w1 w.heap.size 29 (arrK .u8 root) by subst hge2; exact (Blk.new w 29 (arrK .u8 root)).below ((Below.refl _ _).alloc (Nat.le_refl _) _))
   have hV0 := (show Blk w1 (w.heap.size + 1) 34 V by subst hge2; have := Blk.new (w.alloc (.cells (arrK .u8 root) 29)) 34 V; simpa using this)
   have HX := Lib.hid hX0
   have HV := Lib.hid hV0
   have HB := Lib.hid (show Below w.heap.size w w1 by subst hge2; exact below_of ((Below.refl _ _).alloc (Nat.le_refl _) _) ((Below.refl _ _).alloc (Nat.le_refl _) _) (by simp))
   have y0 : w1.cell? ⟨w.heap.size + 1, 0, none⟩ = some (.int .i64 no) := (HV.out.cell 0).trans h0
   have y33 : w1.cell? ⟨w.heap.size + 1, 33, none⟩ = some (.slice A ch.length c) := (HV.out.cell 33).trans h33
   clear hge2 hX0 hV0
   go_wp2_with (fail)
   go_ret
   exact ⟨rfl, HB.out⟩
 rw [if_neg (by omega)] at hR
 have d1 : decide (no < 1) = false := by simpa using hn1
 have d2 : decide (4096 < no) = false := by simpa using hn2
 cases hok : Mir.chOk ch with
 | false =>
   rw [hok, if_pos rfl] at hR
   subst hR
   rw [hok] at HVa
   go_enter Tryz.func14, Tryz.ntmps14
   go_upto_region 1 with (fail)
   generalize hge2 : World.alloc (World.alloc _ _) _ = w1
   have hX0 := (show Blk w1 w.heap.size 29 (arrK .u8 root) by subst hge2; exact (Blk.new w 29 (arrK .u8 root)).below ((Below.refl _ _).alloc (Nat.le_refl _) _))
   have hV0 := (show Blk w1 (w.heap.size + 1) 34 V by subst hge2; have := Blk.new (w.alloc (.cells (arrK .u8 root) 29)) 34 V; simpa using this)
   have HX := Lib.hid hX0
   have HV := Lib.hid hV0
   have HB := Lib.hid (show Below w.heap.size w w1 by subst hge2; exact below_of ((Below.refl _ _).alloc (Nat.le_refl _) _) ((Below.refl _ _).alloc (Nat.le_refl _) _) (by simp))
   have y0 : w1.cell? ⟨w.heap.size + 1, 0, none⟩ = some (.int .i64 no) := (HV.out.cell 0).trans h0
   have y33 : w1.cell? ⟨w.heap.size + 1, 33, none⟩ = some (.slice A ch.length c) := (HV.out.cell 33).trans h33
   clear hge2 hX0 hV0
   go_wp2_with (fail)
   refine (HVa.out _ (HC.out.below HB.out)).mono ?_
   rintro e w2 ⟨rfl, hb2⟩
   have HX2 := Lib.hid (HX.out.below hb2)
   have HV2 := Lib.hid (HV.out.below hb2)
   have HB2 := Lib.hid (below_of HB.out hb2 HB.out.size)
   have HC2 := Lib.hid (HC.out.below HB2.out)
   have Hg2 := Lib.hid (Hg.out.below HB2.out)
   have z0 : w2.cell? ⟨w.heap.size + 1, 0, none⟩ = some (.int .i64 no) := (HV2.out.cell 0).trans h0
   have z34 : w2.cell? ⟨w.heap.size + 1, 34, none⟩ = some (.int .i64 i0) := (HV2.out.cell 34).trans h34
   have z35 : w2.cell? ⟨w.heap.size + 1, 35, none⟩ = some s1 := (HV2.out.cell 35).trans h35
   have z36 : w2.cell? ⟨w.heap.size + 1, 36, none⟩ = some s2 := (HV2.out.cell 36).trans h36
   have z37 : w2.cell? ⟨w.heap.size + 1, 37, none⟩ = some s3 := (HV2.out.cell 37).trans h37
   have ltV : w.heap.size + 1 < w2.heap.size := HV2.out.lt
   have ltX : w.heap.size < w2.heap.size := HX2.out.lt
   clear hb2 y0 y33
   go_wp2_with (fail)
   go_ret
   exact ⟨rfl, HB2.out⟩
 | true =>
   rw [hok, if_neg (by simp)] at hR
   rw [hok] at HVa
   obtain ⟨hle, hsm⟩ := chOk_size hok
   have Hle := Lib.hid (show ch.length ≤ 70000 by omega)
   have Hsm := Lib.hid hsm
   have hno : 0 ≤ no ∧ no < 9223372036854775808 := by omega
   have e1 : IntKind.i64.wrap (no - 1) = no - 1 := by rw [IntKind.wrap_i64]; omega
   clear hle hsm
   by_cases hi : i0 = no - 1
   · have d3 : (i0 != no - 1) = false := by simp [hi]
     have Hi := Lib.hid hi
     obtain ⟨b9, hb9⟩ : ∃ b, Mir.sgOk root n (Mir.mesS no.toNat st ch) g = b := ⟨_, rfl⟩
     have HSv := Lib.hid (fun (A9 : Option Addr) (c9 : Nat) W (h9 : Cells W A9 (bytesV (Mir.mesS no.toNat st ch))) hg => sverify_any root n (Mir.mesS no.toNat st ch) A9 72 c9 g (.int .i64 i0) s1 s2 s3 W Hr.out h9 (mesS_length _ _ _ Hst.out) (mesS_byte _ _ _ Hst.out) hg)
     cases b9 with
     | false =>
       rw [if_pos (Or.inr hb9)] at hR
       subst hR
       clear hi
       go_enter Tryz.func14, Tryz.ntmps14
       go_upto_region 1 with (fail)
       generalize hge2 : World.alloc (World.alloc _ _) _ = w1
       have hX0 := (show Blk w1 w.heap.size 29 (arrK .u8 root) by subst hge2; exact (Blk.new w 29 (arrK .u8 root)).below ((Below.refl _ _).alloc (Nat.le_refl _) _))
       have hV0 := (show Blk w1 (w.heap.size + 1) 34 V by subst hge2; have := Blk.new (w.alloc (.cells (arrK .u8 root) 29)) 34 V; simpa using this)
       have HX := Lib.hid hX0
       have HV := Lib.hid hV0
       have HB := Lib.hid (show Below w.heap.size w w1 by subst hge2; exact below_of ((Below.refl _ _).alloc (Nat.le_refl _) _) ((Below.refl _ _).alloc (Nat.le_refl _) _) (by simp))
       have y0 : w1.cell? ⟨w.heap.size + 1, 0, none⟩ = some (.int .i64 no) := (HV.out.cell 0).trans h0
       have y33 : w1.cell? ⟨w.heap.size + 1, 33, none⟩ = some (.slice A ch.length c) := (HV.out.cell 33).trans h33
       clear hge2 hX0 hV0
       go_wp2_with (fail)
       refine (HVa.out _ (HC.out.below HB.out)).mono ?_
       rintro e w2 ⟨rfl, hb2⟩
       have HX2 := Lib.hid (HX.out.below hb2)
       have HV2 := Lib.hid (HV.out.below hb2)
       have HB2 := Lib.hid (below_of HB.out hb2 HB.out.size)
       have HC2 := Lib.hid (HC.out.below HB2.out)
       have Hg2 := Lib.hid (Hg.out.below HB2.out)
       have z0 : w2.cell? ⟨w.heap.size + 1, 0, none⟩ = some (.int .i64 no) := (HV2.out.cell 0).trans h0
       have z34 : w2.cell? ⟨w.heap.size + 1, 34, none⟩ = some (.int .i64 i0) := (HV2.out.cell 34).trans h34
       have z35 : w2.cell? ⟨w.heap.size + 1, 35, none⟩ = some s1 := (HV2.out.cell 35).trans h35
       have z36 : w2.cell? ⟨w.heap.size + 1, 36, none⟩ = some s2 := (HV2.out.cell 36).trans h36
       have z37 : w2.cell? ⟨w.heap.size + 1, 37, none⟩ = some s3 := (HV2.out.cell 37).trans h37
       have ltV : w.heap.size + 1 < w2.heap.size := HV2.out.lt
       have ltX : w.heap.size < w2.heap.size := HX2.out.lt
       clear hb2 y0 y33
       go_upto_region 5 with (fail)
       refine wp_region_held_drew (S := fun W => Below w2.heap.size w2 W) (by kernel_rfl) (below_drewN (Below.refl _ _) 1) (fun Hd => ?_)
       have Hd : Below w2.heap.size w2 w2.drew := below_drewN (Below.refl _ _) 1
       have Zd : w2.heap.size ≤ w2.drew.heap.size := Nat.le_refl _
       generalize World.drew w2 = wd at *
       refine tq 0 rfl Hd ?_
       refine tq 1 rfl Hd ?_
       try simp only [la, Act.put]
       refine ts 2 rfl Hd (fun wS hSw => by
        have cc := (hSw.cell (p := ⟨w.heap.size + 1, 34, none⟩) ltV).trans z34
        go_simp
        try with_reducible rfl) ?_
       refine tq 3 rfl Hd ?_
       try simp only [la, Act.put]
       refine ts 4 rfl Hd (fun wS hSw => by
        have cc := (hSw.cell (p := ⟨w.heap.size + 1, 0, none⟩) ltV).trans z0
        go_simp
        try with_reducible rfl) ?_
       refine tq 5 rfl Hd ?_
       try simp only [la, Act.put]
       refine tq 6 rfl Hd ?_
       refine tq 7 rfl Hd ?_
       try simp only [la, Act.put]
       refine tg 8 (.agg (arrK .u8 root)) rfl (yields_load_blk (by rfl) _ _ rfl (w.heap.size) rfl 29 (arrK .u8 root) (.array 32 5) (fun W hW => (HX2.out.below hW)) (by kernel_rfl) rfl (info32 Hr.out.1)) Hd ?_
       refine tq 9 rfl Hd ?_
       try simp only [la, Act.put]
       refine tg 10 (.agg (V)) rfl (yields_load_blk (by rfl) _ _ rfl (w.heap.size + 1) rfl 34 (V) _ (fun W hW => (HV2.out.below hW)) Tryz.underlying34 rfl iV.out) Hd ?_
       refine tq 12 rfl Hd ?_
       try simp only [la, Act.put]
       refine ts 13 rfl Hd (fun wS hSw => by
        have c34 := (hSw.cell (p := ⟨w.heap.size + 1, 34, none⟩) ltV).trans z34
        have c35 := (hSw.cell (p := ⟨w.heap.size + 1, 35, none⟩) ltV).trans z35
        have c36 := (hSw.cell (p := ⟨w.heap.size + 1, 36, none⟩) ltV).trans z36
        have c37 := (hSw.cell (p := ⟨w.heap.size + 1, 37, none⟩) ltV).trans z37
        go_simp
        try with_reducible rfl) ?_
       try simp only [la, Act.put]
       refine ty 11 rfl (fun K hK => ?_)
       go_simp
       refine (HMs.out none _ hno Hle.out (HC2.out.below Hd) Hsm.out).mono ?_
       rintro e w1_ ⟨A9, c9, rfl, hk9, hm9, hc9, hb1⟩
       have Hb1 := below_of Hd hb1 Hd.size
       have Zb1 := Nat.le_trans Zd hb1.size
       go_wp2_with (fail)
       refine hK.out _ _ Hb1 fun _ => ?_
       clear hK K
       try simp only [la, Act.put]
       refine ty 14 rfl (fun K hK => ?_)
       go_simp
       refine (HSv.out A9 c9 _ hc9 (Hg2.out.below Hb1)).mono ?_
       rintro e w2_ ⟨rfl, hb2⟩
       rw [hb9]
       have fm2 := hc9.below hb2
       have Hb2 := below_of Hb1 hb2 Hb1.size
       have Zb2 := Nat.le_trans Zb1 hb2.size
       go_wp2_with (fail)
       refine hK.out _ _ Hb2 fun _ => ?_
       clear hK K
       refine tq 15 rfl Hb2 ?_
       try simp only [la, Act.put]
       refine tq 16 rfl Hb2 ?_
       refine tq 17 rfl Hb2 ?_
       try simp only [la, Act.put]
       refine td ?_ _
       go_wp2_with (fail)
       go_ret
       exact ⟨rfl, below_of HB2.out Hb2 HB2.out.size⟩
     | true =>
       rw [if_neg (by rintro (h | h); exact h (Hig.out ▸ hi); exact absurd (hb9.symm.trans h) (by simp))] at hR
       subst hR
       clear hi
       go_enter Tryz.func14, Tryz.ntmps14
       go_upto_region 1 with (fail)
       generalize hge2 : World.alloc (World.alloc _ _) _ = w1
       have hX0 := (show Blk w1 w.heap.size 29 (arrK .u8 root) by subst hge2; exact (Blk.new w 29 (arrK .u8 root)).below ((Below.refl _ _).alloc (Nat.le_refl _) _))
       have hV0 := (show Blk w1 (w.heap.size + 1) 34 V by subst hge2; have := Blk.new (w.alloc (.cells (arrK .u8 root) 29)) 34 V; simpa using this)
       have HX := Lib.hid hX0
       have HV := Lib.hid hV0
       have HB := Lib.hid (show Below w.heap.size w w1 by subst hge2; exact below_of ((Below.refl _ _).alloc (Nat.le_refl _) _) ((Below.refl _ _).alloc (Nat.le_refl _) _) (by simp))
       have y0 : w1.cell? ⟨w.heap.size + 1, 0, none⟩ = some (.int .i64 no) := (HV.out.cell 0).trans h0
       have y33 : w1.cell? ⟨w.heap.size + 1, 33, none⟩ = some (.slice A ch.length c) := (HV.out.cell 33).trans h33
       clear hge2 hX0 hV0
       go_wp2_with (fail)
       refine (HVa.out _ (HC.out.below HB.out)).mono ?_
       rintro e w2 ⟨rfl, hb2⟩
       have HX2 := Lib.hid (HX.out.below hb2)
       have HV2 := Lib.hid (HV.out.below hb2)
       have HB2 := Lib.hid (below_of HB.out hb2 HB.out.size)
       have HC2 := Lib.hid (HC.out.below HB2.out)
       have Hg2 := Lib.hid (Hg.out.below HB2.out)
       have z0 : w2.cell? ⟨w.heap.size + 1, 0, none⟩ = some (.int .i64 no) := (HV2.out.cell 0).trans h0
       have z34 : w2.cell? ⟨w.heap.size + 1, 34, none⟩ = some (.int .i64 i0) := (HV2.out.cell 34).trans h34
       have z35 : w2.cell? ⟨w.heap.size + 1, 35, none⟩ = some s1 := (HV2.out.cell 35).trans h35
       have z36 : w2.cell? ⟨w.heap.size + 1, 36, none⟩ = some s2 := (HV2.out.cell 36).trans h36
       have z37 : w2.cell? ⟨w.heap.size + 1, 37, none⟩ = some s3 := (HV2.out.cell 37).trans h37
       have ltV : w.heap.size + 1 < w2.heap.size := HV2.out.lt
       have ltX : w.heap.size < w2.heap.size := HX2.out.lt
       clear hb2 y0 y33
       go_upto_region 5 with (fail)
       refine wp_region_held_drew (S := fun W => Below w2.heap.size w2 W) (by kernel_rfl) (below_drewN (Below.refl _ _) 1) (fun Hd => ?_)
       have Hd : Below w2.heap.size w2 w2.drew := below_drewN (Below.refl _ _) 1
       have Zd : w2.heap.size ≤ w2.drew.heap.size := Nat.le_refl _
       generalize World.drew w2 = wd at *
       refine tq 0 rfl Hd ?_
       refine tq 1 rfl Hd ?_
       try simp only [la, Act.put]
       refine ts 2 rfl Hd (fun wS hSw => by
        have cc := (hSw.cell (p := ⟨w.heap.size + 1, 34, none⟩) ltV).trans z34
        go_simp
        try with_reducible rfl) ?_
       refine tq 3 rfl Hd ?_
       try simp only [la, Act.put]
       refine ts 4 rfl Hd (fun wS hSw => by
        have cc := (hSw.cell (p := ⟨w.heap.size + 1, 0, none⟩) ltV).trans z0
        go_simp
        try with_reducible rfl) ?_
       refine tq 5 rfl Hd ?_
       try simp only [la, Act.put]
       refine tq 6 rfl Hd ?_
       refine tq 7 rfl Hd ?_
       try simp only [la, Act.put]
       refine tg 8 (.agg (arrK .u8 root)) rfl (yields_load_blk (by rfl) _ _ rfl (w.heap.size) rfl 29 (arrK .u8 root) (.array 32 5) (fun W hW => (HX2.out.below hW)) (by kernel_rfl) rfl (info32 Hr.out.1)) Hd ?_
       refine tq 9 rfl Hd ?_
       try simp only [la, Act.put]
       refine tg 10 (.agg (V)) rfl (yields_load_blk (by rfl) _ _ rfl (w.heap.size + 1) rfl 34 (V) _ (fun W hW => (HV2.out.below hW)) Tryz.underlying34 rfl iV.out) Hd ?_
       refine tq 12 rfl Hd ?_
       try simp only [la, Act.put]
       refine ts 13 rfl Hd (fun wS hSw => by
        have c34 := (hSw.cell (p := ⟨w.heap.size + 1, 34, none⟩) ltV).trans z34
        have c35 := (hSw.cell (p := ⟨w.heap.size + 1, 35, none⟩) ltV).trans z35
        have c36 := (hSw.cell (p := ⟨w.heap.size + 1, 36, none⟩) ltV).trans z36
        have c37 := (hSw.cell (p := ⟨w.heap.size + 1, 37, none⟩) ltV).trans z37
        go_simp
        try with_reducible rfl) ?_
       try simp only [la, Act.put]
       refine ty 11 rfl (fun K hK => ?_)
       go_simp
       refine (HMs.out none _ hno Hle.out (HC2.out.below Hd) Hsm.out).mono ?_
       rintro e w1_ ⟨A9, c9, rfl, hk9, hm9, hc9, hb1⟩
       have Hb1 := below_of Hd hb1 Hd.size
       have Zb1 := Nat.le_trans Zd hb1.size
       go_wp2_with (fail)
       refine hK.out _ _ Hb1 fun _ => ?_
       clear hK K
       try simp only [la, Act.put]
       refine ty 14 rfl (fun K hK => ?_)
       go_simp
       refine (HSv.out A9 c9 _ hc9 (Hg2.out.below Hb1)).mono ?_
       rintro e w2_ ⟨rfl, hb2⟩
       rw [hb9]
       have fm2 := hc9.below hb2
       have Hb2 := below_of Hb1 hb2 Hb1.size
       have Zb2 := Nat.le_trans Zb1 hb2.size
       go_wp2_with (fail)
       refine hK.out _ _ Hb2 fun _ => ?_
       clear hK K
       refine tq 15 rfl Hb2 ?_
       try simp only [la, Act.put]
       refine tq 16 rfl Hb2 ?_
       refine tq 17 rfl Hb2 ?_
       try simp only [la, Act.put]
       refine td ?_ _
       go_wp2_with (fail)
       go_ret
       exact ⟨rfl, below_of HB2.out Hb2 HB2.out.size⟩
   · have d3 : (i0 != no - 1) = true := by simp [hi]
     have d4 : i0 ≠ no - 1 := hi
     rw [if_pos (Or.inl (by rw [← Hig.out]; exact hi))] at hR
     subst hR
     go_enter Tryz.func14, Tryz.ntmps14
     go_upto_region 1 with (fail)
     generalize hge2 : World.alloc (World.alloc _ _) _ = w1
     have hX0 := (show Blk w1 w.heap.size 29 (arrK .u8 root) by subst hge2; exact (Blk.new w 29 (arrK .u8 root)).below ((Below.refl _ _).alloc (Nat.le_refl _) _))
     have hV0 := (show Blk w1 (w.heap.size + 1) 34 V by subst hge2; have := Blk.new (w.alloc (.cells (arrK .u8 root) 29)) 34 V; simpa using this)
     have HX := Lib.hid hX0
     have HV := Lib.hid hV0
     have HB := Lib.hid (show Below w.heap.size w w1 by subst hge2; exact below_of ((Below.refl _ _).alloc (Nat.le_refl _) _) ((Below.refl _ _).alloc (Nat.le_refl _) _) (by simp))
     have y0 : w1.cell? ⟨w.heap.size + 1, 0, none⟩ = some (.int .i64 no) := (HV.out.cell 0).trans h0
     have y33 : w1.cell? ⟨w.heap.size + 1, 33, none⟩ = some (.slice A ch.length c) := (HV.out.cell 33).trans h33
     clear hge2 hX0 hV0
     go_wp2_with (fail)
     refine (HVa.out _ (HC.out.below HB.out)).mono ?_
     rintro e w2 ⟨rfl, hb2⟩
     have HX2 := Lib.hid (HX.out.below hb2)
     have HV2 := Lib.hid (HV.out.below hb2)
     have HB2 := Lib.hid (below_of HB.out hb2 HB.out.size)
     have HC2 := Lib.hid (HC.out.below HB2.out)
     have Hg2 := Lib.hid (Hg.out.below HB2.out)
     have z0 : w2.cell? ⟨w.heap.size + 1, 0, none⟩ = some (.int .i64 no) := (HV2.out.cell 0).trans h0
     have z34 : w2.cell? ⟨w.heap.size + 1, 34, none⟩ = some (.int .i64 i0) := (HV2.out.cell 34).trans h34
     have z35 : w2.cell? ⟨w.heap.size + 1, 35, none⟩ = some s1 := (HV2.out.cell 35).trans h35
     have z36 : w2.cell? ⟨w.heap.size + 1, 36, none⟩ = some s2 := (HV2.out.cell 36).trans h36
     have z37 : w2.cell? ⟨w.heap.size + 1, 37, none⟩ = some s3 := (HV2.out.cell 37).trans h37
     have ltV : w.heap.size + 1 < w2.heap.size := HV2.out.lt
     have ltX : w.heap.size < w2.heap.size := HX2.out.lt
     clear hb2 y0 y33
     go_upto_region 5 with (fail)
     refine wp_region_held_drew (S := fun W => Below w2.heap.size w2 W) (by kernel_rfl) (below_drewN (Below.refl _ _) 1) (fun Hd => ?_)
     have Hd : Below w2.heap.size w2 w2.drew := below_drewN (Below.refl _ _) 1
     have Zd : w2.heap.size ≤ w2.drew.heap.size := Nat.le_refl _
     generalize World.drew w2 = wd at *
     refine tq 0 rfl Hd ?_
     refine tq 1 rfl Hd ?_
     try simp only [la, Act.put]
     refine ts 2 rfl Hd (fun wS hSw => by
      have cc := (hSw.cell (p := ⟨w.heap.size + 1, 34, none⟩) ltV).trans z34
      go_simp
      try with_reducible rfl) ?_
     refine tq 3 rfl Hd ?_
     try simp only [la, Act.put]
     refine ts 4 rfl Hd (fun wS hSw => by
      have cc := (hSw.cell (p := ⟨w.heap.size + 1, 0, none⟩) ltV).trans z0
      go_simp
      try with_reducible rfl) ?_
     refine tq 5 rfl Hd ?_
     try simp only [la, Act.put]
     refine tq 6 rfl Hd ?_
     refine tq 7 rfl Hd ?_
     try simp only [la, Act.put]
     refine tn 8 rfl Hd ?_
     refine tn 9 rfl Hd ?_
     try simp only [la, Act.put]
     refine tn 10 rfl Hd ?_
     refine tn 11 rfl Hd ?_
     try simp only [la, Act.put]
     refine tn 12 rfl Hd ?_
     refine tn 13 rfl Hd ?_
     try simp only [la, Act.put]
     refine tn 14 rfl Hd ?_
     refine tn 15 rfl Hd ?_
     try simp only [la, Act.put]
     refine tq 16 rfl Hd ?_
     refine tq 17 rfl Hd ?_
     try simp only [la, Act.put]
     refine td ?_ _
     go_wp2_with (fail)
     go_ret
     exact ⟨rfl, below_of HB2.out Hd HB2.out.size⟩
end Go.Proofs.YtkflpoiobpblhaaGreat
namespace Go.Proofs.YtkflpoiobpblhaaGreat
open Go.RowKit
set_option linter.unusedVariables false
set_option linter.unusedSimpArgs false
namespace Mir
theorem bl_irrefl : ∀ x : List UInt8, Op.bytesLess x x = false
 | [] => rfl
 | a :: x => by simp [Op.bytesLess, bl_irrefl x]
theorem bl_trans : ∀ x y z : List UInt8, Op.bytesLess x y = true → Op.bytesLess y z = true → Op.bytesLess x z = true
 | [], [], _, h, _ => by simp [Op.bytesLess] at h
 | [], _ :: _, [], _, h => by simp [Op.bytesLess] at h
 | [], _ :: _, _ :: _, _, _ => rfl
 | _ :: _, [], _, h, _ => by simp [Op.bytesLess] at h
 | _ :: _, _ :: _, [], _, h => by simp [Op.bytesLess] at h
 | a :: x, b :: y, c :: z, h1, h2 => by
   simp only [Op.bytesLess, Bool.or_eq_true, Bool.and_eq_true, decide_eq_true_eq, beq_iff_eq] at *
   rcases h1 with h1 | ⟨rfl, h1⟩
   · rcases h2 with h2 | ⟨rfl, h2⟩
     · exact .inl (UInt8.lt_trans h1 h2)
     · exact .inl h1
   · rcases h2 with h2 | ⟨rfl, h2⟩
     · exact .inl h2
     · exact .inr ⟨rfl, bl_trans x y z h1 h2⟩
theorem bl_tri : ∀ x y : List UInt8, Op.bytesLess x y = false → Op.bytesLess y x = false → x = y
 | [], [], _, _ => rfl
 | [], _ :: _, h, _ => by simp [Op.bytesLess] at h
 | _ :: _, [], _, h => by simp [Op.bytesLess] at h
 | a :: x, b :: y, h1, h2 => by
   simp only [Op.bytesLess, Bool.or_eq_false_iff, Bool.and_eq_false_iff, decide_eq_false_iff_not, beq_eq_false_iff_ne] at h1 h2
   have e : a = b := UInt8.le_antisymm (UInt8.not_lt.1 h2.1) (UInt8.not_lt.1 h1.1)
   subst e
   rw [bl_tri x y (by simpa using h1.2) (by simpa using h2.2)]
theorem nlt_irrefl (x : ByteArray) : nlt x x = false := bl_irrefl _
theorem nlt_trans {x y z : ByteArray} (h : nlt x y = true) (h' : nlt y z = true) : nlt x z = true := bl_trans _ _ _ h h'
theorem nlt_ne {x y : ByteArray} (h : nlt x y = true) : x ≠ y := fun e => by subst e; rw [nlt_irrefl] at h; cases h
theorem nlt_asymm {x y : ByteArray} (h : nlt x y = true) : nlt y x = false := by
 cases h' : nlt y x with
 | false => rfl
 | true => have := nlt_trans h h'; rw [nlt_irrefl] at this; cases this
theorem nlt_tri {x y : ByteArray} (h : nlt x y = false) (h' : nlt y x = false) : x = y := by
 have := bl_tri _ _ h h'
 rw [ByteArray.toList_eq, ByteArray.toList_eq] at this
 exact ByteArray.ext (Array.toList_inj.1 this)
abbrev Inc (ns : List ByteArray) : Prop := ns.Pairwise (fun a b => nlt a b = true)
theorem incAt_get {ns : List ByteArray} {i : Nat} (hi : i < ns.length) : incAt ns i = (nameB ns[i] && (decide (i = 0) || nlt (ns.getD (i - 1) ⟨#[]⟩) ns[i])) := by
 unfold incAt
 rw [show ns.getD i ⟨#[]⟩ = ns[i] from by rw [List.getD_eq_getElem?_getD, List.getElem?_eq_getElem hi]; rfl]
theorem incS_iff {ns : List ByteArray} : incS ns = true ↔ (∀ s ∈ ns, nameB s = true) ∧ Inc ns := by
 constructor
 · intro h
   have hA : ∀ i (hi : i < ns.length), incAt ns i = true := fun i hi => List.all_eq_true.1 h i (List.mem_range.2 hi)
   refine ⟨fun s hs => ?_, ?_⟩
   · obtain ⟨i, hi, rfl⟩ := List.getElem_of_mem hs
     have := hA i hi
     rw [incAt_get hi, Bool.and_eq_true] at this
     exact this.1
   · rw [Inc, List.pairwise_iff_getElem]
     intro i j hi hj hij
     induction j with
     | zero => omega
     | succ j ih =>
       have := hA (j + 1) hj
       rw [incAt_get hj, Bool.and_eq_true, Bool.or_eq_true, Nat.add_sub_cancel, List.getD_eq_getElem?_getD, List.getElem?_eq_getElem (show j < ns.length by omega)] at this
       have h2 : nlt ns[j] ns[j + 1] = true := by simpa using this.2
       rcases Nat.lt_or_eq_of_le (Nat.le_of_lt_succ hij) with h3 | rfl
       · exact nlt_trans (ih (by omega) h3) h2
       · exact h2
 · rintro ⟨h1, h2⟩
   refine incS_good fun k hk => ?_
   rw [incAt_get hk, h1 _ (List.getElem_mem hk), Bool.true_and]
   cases k with
   | zero => rfl
   | succ k =>
     rw [Nat.add_sub_cancel, List.getD_eq_getElem?_getD, List.getElem?_eq_getElem (show k < ns.length by omega)]
     rw [Inc, List.pairwise_iff_getElem] at h2
     have := h2 k (k + 1) (by omega) hk (by omega)
     simpa using this
def diffS : List It → List It → List Ch
 | [], [] => []
 | x :: a, [] => ((x.1, []), true) :: diffS a []
 | [], y :: b => (y, false) :: diffS [] b
 | x :: a, y :: b => if nlt x.1 y.1 = true then ((x.1, []), true) :: diffS a (y :: b) else if nlt y.1 x.1 = true then (y, false) :: diffS (x :: a) b else (if itEq x y = true then [] else [(y, false)]) ++ diffS a b
termination_by a b => a.length + b.length
theorem diffS_nil : diffS [] [] = [] := by unfold diffS; rfl
theorem diffS_left (x : It) (a : List It) : diffS (x :: a) [] = ((x.1, []), true) :: diffS a [] := by rw [diffS]
theorem diffS_right (y : It) (b : List It) : diffS [] (y :: b) = (y, false) :: diffS [] b := by rw [diffS]
theorem diffS_both (x y : It) (a b : List It) : diffS (x :: a) (y :: b) = if nlt x.1 y.1 = true then ((x.1, []), true) :: diffS a (y :: b) else if nlt y.1 x.1 = true then (y, false) :: diffS (x :: a) b else (if itEq x y = true then [] else [(y, false)]) ++ diffS a b := by rw [diffS]
theorem diffS_induct {P : List It → List It → Prop} (h0 : P [] []) (h1 : ∀ x a, P a [] → P (x :: a) []) (h2 : ∀ y b, P [] b → P [] (y :: b)) (h3 : ∀ x a y b, nlt x.1 y.1 = true → P a (y :: b) → P (x :: a) (y :: b))
    (h4 : ∀ x a y b, nlt x.1 y.1 = false → nlt y.1 x.1 = true → P (x :: a) b → P (x :: a) (y :: b)) (h5 : ∀ x a y b, x.1 = y.1 → P a b → P (x :: a) (y :: b)) : ∀ a b, P a b
 | [], [] => h0
 | x :: a, [] => h1 x a (diffS_induct h0 h1 h2 h3 h4 h5 a [])
 | [], y :: b => h2 y b (diffS_induct h0 h1 h2 h3 h4 h5 [] b)
 | x :: a, y :: b => by
   cases e : nlt x.1 y.1 with
   | true => exact h3 x a y b e (diffS_induct h0 h1 h2 h3 h4 h5 a (y :: b))
   | false =>
     cases e' : nlt y.1 x.1 with
     | true => exact h4 x a y b e e' (diffS_induct h0 h1 h2 h3 h4 h5 (x :: a) b)
     | false => exact h5 x a y b (nlt_tri e e') (diffS_induct h0 h1 h2 h3 h4 h5 a b)
termination_by a b => a.length + b.length
theorem diffS_mem : ∀ (a b : List It) (c : Ch), c ∈ diffS a b → (∃ x ∈ a, c = ((x.1, []), true)) ∨ (∃ y ∈ b, c = (y, false)) := by
 refine diffS_induct ?_ ?_ ?_ ?_ ?_ ?_
 · intro c h; rw [diffS_nil] at h; cases h
 · intro x a ih c h
   rw [diffS_left] at h
   rcases List.mem_cons.1 h with rfl | h
   · exact .inl ⟨x, by simp, rfl⟩
   · rcases ih c h with ⟨z, hz, e⟩ | h
     · exact .inl ⟨z, by simp [hz], e⟩
     · exact .inr h
 · intro y b ih c h
   rw [diffS_right] at h
   rcases List.mem_cons.1 h with rfl | h
   · exact .inr ⟨y, by simp, rfl⟩
   · rcases ih c h with h | ⟨z, hz, e⟩
     · exact .inl h
     · exact .inr ⟨z, by simp [hz], e⟩
 · intro x a y b e ih c h
   rw [diffS_both, if_pos e] at h
   rcases List.mem_cons.1 h with rfl | h
   · exact .inl ⟨x, by simp, rfl⟩
   · rcases ih c h with ⟨z, hz, e⟩ | h
     · exact .inl ⟨z, by simp [hz], e⟩
     · exact .inr h
 · intro x a y b e e' ih c h
   rw [diffS_both, if_neg (by rw [e]; simp), if_pos e'] at h
   rcases List.mem_cons.1 h with rfl | h
   · exact .inr ⟨y, by simp, rfl⟩
   · rcases ih c h with h | ⟨z, hz, e⟩
     · exact .inl h
     · exact .inr ⟨z, by simp [hz], e⟩
 · intro x a y b e ih c h
   rw [diffS_both, e, nlt_irrefl, if_neg (by simp), if_neg (by simp)] at h
   rcases List.mem_append.1 h with h | h
   · by_cases he : itEq x y = true
     · rw [if_pos he] at h; cases h
     · rw [if_neg he] at h
       exact .inr ⟨y, by simp, by simpa using h⟩
   · rcases ih c h with ⟨z, hz, e⟩ | ⟨z, hz, e⟩
     · exact .inl ⟨z, by simp [hz], e⟩
     · exact .inr ⟨z, by simp [hz], e⟩
theorem diffS_names {a b : List It} {c : Ch} (h : c ∈ diffS a b) : c.1.1 ∈ a.map Prod.fst ∨ c.1.1 ∈ b.map Prod.fst := by
 rcases diffS_mem a b c h with ⟨x, hx, rfl⟩ | ⟨y, hy, rfl⟩
 · exact .inl (List.mem_map.2 ⟨x, hx, rfl⟩)
 · exact .inr (List.mem_map.2 ⟨y, hy, rfl⟩)
theorem inc_cons {x : It} {a : List It} : Inc ((x :: a).map Prod.fst) ↔ (∀ z ∈ a, nlt x.1 z.1 = true) ∧ Inc (a.map Prod.fst) := by
 rw [List.map_cons, Inc, List.pairwise_cons]
 constructor
 · rintro ⟨h1, h2⟩; exact ⟨fun z hz => h1 _ (List.mem_map.2 ⟨z, hz, rfl⟩), h2⟩
 · rintro ⟨h1, h2⟩; exact ⟨fun z hz => by obtain ⟨u, hu, rfl⟩ := List.mem_map.1 hz; exact h1 u hu, h2⟩
theorem diffS_above {a b : List It} {s : ByteArray} (ha : ∀ z ∈ a, nlt s z.1 = true) (hb : ∀ z ∈ b, nlt s z.1 = true) : ∀ c ∈ diffS a b, nlt s c.1.1 = true := by
 intro c hc
 rcases diffS_mem a b c hc with ⟨x, hx, rfl⟩ | ⟨y, hy, rfl⟩
 · exact ha x hx
 · exact hb y hy
theorem diffS_inc : ∀ a b : List It, Inc (a.map Prod.fst) → Inc (b.map Prod.fst) → Inc ((diffS a b).map chN) := by
 have cons : ∀ (c : Ch) (d : List Ch), (∀ z ∈ d, nlt c.1.1 z.1.1 = true) → Inc (d.map chN) → Inc ((c :: d).map chN) := by
  intro c d h1 h2
  rw [List.map_cons, Inc, List.pairwise_cons]
  exact ⟨fun z hz => by obtain ⟨u, hu, rfl⟩ := List.mem_map.1 hz; exact h1 u hu, h2⟩
 refine diffS_induct ?_ ?_ ?_ ?_ ?_ ?_
 · intro _ _; rw [diffS_nil]; exact .nil
 · intro x a ih ha hb
   rw [inc_cons] at ha
   rw [diffS_left]
   exact cons _ _ (diffS_above ha.1 (by simp)) (ih ha.2 hb)
 · intro y b ih ha hb
   rw [inc_cons] at hb
   rw [diffS_right]
   exact cons _ _ (diffS_above (by simp) hb.1) (ih ha hb.2)
 · intro x a y b e ih ha hb
   rw [inc_cons] at ha
   rw [diffS_both, if_pos e]
   refine cons _ _ (diffS_above ha.1 fun z hz => ?_) (ih ha.2 hb)
   rcases List.mem_cons.1 hz with rfl | hz
   · exact e
   · exact nlt_trans e ((inc_cons.1 hb).1 z hz)
 · intro x a y b e e' ih ha hb
   rw [inc_cons] at hb
   rw [diffS_both, if_neg (by rw [e]; simp), if_pos e']
   refine cons _ _ (diffS_above (fun z hz => ?_) hb.1) (ih ha hb.2)
   rcases List.mem_cons.1 hz with rfl | hz
   · exact e'
   · exact nlt_trans e' ((inc_cons.1 ha).1 z hz)
 · intro x a y b e ih ha hb
   rw [inc_cons] at ha hb
   rw [diffS_both, e, nlt_irrefl, if_neg (by simp), if_neg (by simp)]
   have h := ih ha.2 hb.2
   by_cases he : itEq x y = true
   · rw [if_pos he]; exact h
   · rw [if_neg he]
     exact cons _ _ (diffS_above (by rw [← e]; exact ha.1) hb.1) h
theorem diffS_length : ∀ a b : List It, (diffS a b).length ≤ a.length + b.length := by
 refine diffS_induct ?_ ?_ ?_ ?_ ?_ ?_
 · rw [diffS_nil]; simp
 · intro x a ih; rw [diffS_left]; simp at ih ⊢; omega
 · intro x a ih; rw [diffS_right]; simp at ih ⊢; omega
 · intro x a y b e ih
   rw [diffS_both, if_pos e]; simp at ih ⊢; omega
 · intro x a y b e e' ih
   rw [diffS_both, if_neg (by rw [e]; simp), if_pos e']; simp at ih ⊢; omega
 · intro x a y b e ih
   rw [diffS_both, e, nlt_irrefl, if_neg (by simp), if_neg (by simp)]
   by_cases he : itEq x y = true
   · rw [if_pos he]; simp; omega
   · rw [if_neg he]; simp; omega
def okC (a : List It) (x : Ch) : Bool :=
 match a.find? (fun y => decide (y.1 = x.1.1)) with
 | none => !x.2
 | some y => if x.2 then decide (x.1.2 = []) else !itEq y x.1
def hasN (ns : List ByteArray) (s : ByteArray) : Bool := ns.any fun x => decide (x = s)
theorem hasN_iff {ns : List ByteArray} {s : ByteArray} : hasN ns s = true ↔ s ∈ ns := by
 unfold hasN
 rw [List.any_eq_true]
 exact ⟨fun ⟨x, hx, h⟩ => by rw [← of_decide_eq_true h]; exact hx, fun h => ⟨s, h, decide_eq_true rfl⟩⟩
theorem hasN_cons {ns : List ByteArray} {s t : ByteArray} : hasN (t :: ns) s = (decide (t = s) || hasN ns s) := by unfold hasN; rw [List.any_cons]
theorem hasN_false {ns : List ByteArray} {s : ByteArray} (h : s ∉ ns) : hasN ns s = false := by
 cases e : hasN ns s with
 | false => rfl
 | true => exact absurd (hasN_iff.1 e) h
def merged (a : List It) (l : List Ch) : List It := (l.filter fun x => !x.2).map (·.1) ++ a.filter fun x : It => !hasN (l.map chN) x.1
def leI (x y : It) : Bool := !nlt y.1 x.1
def sortI (l : List It) : List It := l.mergeSort leI
def appE (a : List It) (l : List Ch) : Int :=
 if itE a ≠ 0 then itE a else if ¬(l.length ≤ 65536 ∧ incS (l.map chN) = true) then 430 else if l.all (okC a) = false then 430 else if 65536 < (merged a l).length then 2 else 0
def appS (a : List It) (l : List Ch) : List It := if appE a l = 0 then sortI (merged a l) else []
theorem leI_trans (x y z : It) : leI x y = true → leI y z = true → leI x z = true := by
 unfold leI
 intro h1 h2
 cases h : nlt z.1 x.1 with
 | false => rfl
 | true =>
   cases h3 : nlt x.1 y.1 with
   | true =>
     have := nlt_trans h h3
     rw [this] at h2; cases h2
   | false =>
     have e : x.1 = y.1 := nlt_tri h3 (by simpa using h1)
     rw [← e, h] at h2; cases h2
theorem leI_total (x y : It) : (leI x y || leI y x) = true := by
 unfold leI
 cases h : nlt y.1 x.1 with
 | false => rfl
 | true => rw [nlt_asymm h]; rfl
theorem sorted_unique : ∀ (u v : List It), u.Perm v → u.Pairwise (fun x y => leI x y = true) → Inc (v.map Prod.fst) → u = v
 | [], v, hp, _, _ => by rw [List.nil_perm.1 hp]
 | x :: u, [], hp, _, _ => by have := hp.length_eq; simp at this
 | x :: u, y :: v, hp, hu, hv => by
   rw [inc_cons] at hv
   rw [List.pairwise_cons] at hu
   have e : x = y := by
    have hx : x ∈ y :: v := hp.subset (by simp)
    have hy : y ∈ x :: u := hp.symm.subset (by simp)
    rcases List.mem_cons.1 hx with h | h
    · exact h
    · rcases List.mem_cons.1 hy with h' | h'
      · exact h'.symm
      · have h1 := hv.1 x h
        have h2 := hu.1 y h'
        unfold leI at h2
        rw [h1] at h2; cases h2
   subst e
   rw [sorted_unique u v ((List.perm_cons x).1 hp) hu.2 hv.2]
theorem sortI_eq {u v : List It} (hp : u.Perm v) (hv : Inc (v.map Prod.fst)) : sortI u = v :=
 sorted_unique _ _ ((List.mergeSort_perm u leI).trans hp) (List.pairwise_mergeSort leI_trans leI_total u) hv
theorem filter_above {a : List It} {s : ByteArray} {ns : List ByteArray} (h : ∀ z ∈ a, nlt s z.1 = true) : (a.filter fun x : It => !hasN (s :: ns) x.1) = a.filter fun x : It => !hasN ns x.1 := by
 apply List.filter_congr
 intro z hz
 rw [hasN_cons, decide_eq_false (nlt_ne (h z hz)), Bool.false_or]
theorem itEq_iff {x y : It} : itEq x y = true ↔ x = y := by
 unfold itEq
 rw [Bool.and_eq_true, decide_eq_true_eq, decide_eq_true_eq]
 exact ⟨fun h => Prod.ext h.1 h.2, fun h => by rw [h]; exact ⟨rfl, rfl⟩⟩
theorem merged_diff : ∀ a b : List It, Inc (a.map Prod.fst) → Inc (b.map Prod.fst) → (merged a (diffS a b)).Perm b := by
 refine diffS_induct ?_ ?_ ?_ ?_ ?_ ?_
 · intro _ _; rw [diffS_nil]; exact .refl _
 · intro x a ih ha hb
   rw [inc_cons] at ha
   have := ih ha.2 hb
   rw [diffS_left]
   unfold merged at this ⊢
   rw [List.filter_cons_of_neg (by simp), List.map_cons, List.filter_cons_of_neg (by simp [chN, hasN_cons]), show chN ((x.1, []), true) = x.1 from rfl, filter_above ha.1]
   exact this
 · intro y b ih ha hb
   rw [inc_cons] at hb
   have := ih ha hb.2
   rw [diffS_right]
   unfold merged at this ⊢
   rw [List.filter_cons_of_pos (by simp), List.map_cons, List.filter_nil, List.append_nil]
   rw [List.filter_nil, List.append_nil] at this
   exact this.cons y
 · intro x a y b e ih ha hb
   rw [inc_cons] at ha
   have := ih ha.2 hb
   rw [diffS_both, if_pos e]
   unfold merged at this ⊢
   rw [List.filter_cons_of_neg (by simp), List.map_cons, List.filter_cons_of_neg (by simp [chN, hasN_cons]), show chN ((x.1, []), true) = x.1 from rfl, filter_above ha.1]
   exact this
 · intro x a y b e e' ih ha hb
   have ha' := ha
   rw [inc_cons] at ha hb
   have := ih ha' hb.2
   rw [diffS_both, if_neg (by rw [e]; simp), if_pos e']
   unfold merged at this ⊢
   rw [List.filter_cons_of_pos (by simp), List.map_cons, List.map_cons, show chN (y, false) = y.1 from rfl, filter_above (a := x :: a) (s := y.1)]
   · exact this.cons y
   · intro z hz
     rcases List.mem_cons.1 hz with rfl | hz
     · exact e'
     · exact nlt_trans e' (ha.1 z hz)
 · intro x a y b e ih ha hb
   rw [inc_cons] at ha hb
   have := ih ha.2 hb.2
   rw [diffS_both, e, nlt_irrefl, if_neg (by simp), if_neg (by simp)]
   unfold merged at this ⊢
   by_cases he : itEq x y = true
   · rw [if_pos he, List.nil_append]
     have hx : x.1 ∉ (diffS a b).map chN := fun h => by
      obtain ⟨c, hc, hce⟩ := List.mem_map.1 h
      have := diffS_above ha.1 (by rw [e]; exact hb.1) c hc
      rw [show chN c = c.1.1 from rfl] at hce
      rw [hce, nlt_irrefl] at this; cases this
     rw [List.filter_cons_of_pos (by rw [hasN_false hx]; rfl)]
     rw [itEq_iff.1 he]
     exact List.perm_middle.trans (this.cons y)
   · rw [if_neg he, List.singleton_append, List.filter_cons_of_pos (by simp), List.map_cons, List.map_cons, show chN (y, false) = y.1 from rfl, List.filter_cons_of_neg (by simp [hasN_cons, e]), filter_above (by rw [← e]; exact ha.1)]
     exact this.cons y
theorem find_inc {a : List It} (ha : Inc (a.map Prod.fst)) {x : It} (hx : x ∈ a) : a.find? (fun y => decide (y.1 = x.1)) = some x := by
 induction a with
 | nil => cases hx
 | cons z a ih =>
   rw [inc_cons] at ha
   rcases List.mem_cons.1 hx with rfl | hx
   · rw [List.find?_cons_of_pos (by simp)]
   · rw [List.find?_cons_of_neg (by simpa using nlt_ne (ha.1 x hx))]
     exact ih ha.2 hx
theorem diff_ok_at : ∀ a b : List It, Inc (a.map Prod.fst) → Inc (b.map Prod.fst) → ∀ c ∈ diffS a b, c.2 = false → ∀ x ∈ a, x.1 = c.1.1 → itEq x c.1 = false := by
 refine diffS_induct ?_ ?_ ?_ ?_ ?_ ?_
 · intro _ _ c hc; rw [diffS_nil] at hc; cases hc
 · intro x a ih ha hb c hc hg z hz hzc
   rw [diffS_left] at hc
   rcases diffS_mem _ _ c (by rw [diffS_left]; exact hc) with ⟨u, _, rfl⟩ | ⟨u, hu, _⟩
   · cases hg
   · cases hu
 · intro y b ih ha hb c hc hg z hz; cases hz
 · intro x a y b e ih ha hb c hc hg z hz hzc
   have ha' := ha
   rw [inc_cons] at ha
   rw [diffS_both, if_pos e] at hc
   rcases List.mem_cons.1 hc with rfl | hc
   · cases hg
   · rcases List.mem_cons.1 hz with hzx | hz
     · have := diffS_above (s := x.1) ha.1 (fun u hu => by
         rcases List.mem_cons.1 hu with rfl | hu
         · exact e
         · exact nlt_trans e ((inc_cons.1 hb).1 u hu)) c hc
       rw [hzx] at hzc
       exact absurd hzc (nlt_ne this)
     · exact ih ha.2 hb c hc hg z hz hzc
 · intro x a y b e e' ih ha hb c hc hg z hz hzc
   rw [inc_cons] at hb
   rw [diffS_both, if_neg (by rw [e]; simp), if_pos e'] at hc
   rcases List.mem_cons.1 hc with rfl | hc
   · have : nlt y.1 z.1 = true := by
       rcases List.mem_cons.1 hz with rfl | hz
       · exact e'
       · exact nlt_trans e' ((inc_cons.1 ha).1 z hz)
     exact absurd hzc (nlt_ne this).symm
   · exact ih ha hb.2 c hc hg z hz hzc
 · intro x a y b e ih ha hb c hc hg z hz hzc
   rw [inc_cons] at ha hb
   rw [diffS_both, e, nlt_irrefl, if_neg (by simp), if_neg (by simp)] at hc
   rcases List.mem_append.1 hc with hc | hc
   · by_cases he : itEq x y = true
     · rw [if_pos he] at hc; cases hc
     · rw [if_neg he, List.mem_singleton] at hc
       subst hc
       rcases List.mem_cons.1 hz with rfl | hz
       · simpa using he
       · have := ha.1 z hz
         rw [e] at this
         exact absurd hzc (nlt_ne this).symm
   · rcases List.mem_cons.1 hz with hzx | hz
     · have := diffS_above (s := x.1) ha.1 (by rw [e]; exact hb.1) c hc
       rw [hzx] at hzc
       exact absurd hzc (nlt_ne this)
     · exact ih ha.2 hb.2 c hc hg z hz hzc
theorem diff_ok {a b : List It} (ha : Inc (a.map Prod.fst)) (hb : Inc (b.map Prod.fst)) : (diffS a b).all (okC a) = true := by
 rw [List.all_eq_true]
 intro c hc
 unfold okC
 rcases diffS_mem a b c hc with ⟨x, hx, rfl⟩ | ⟨y, hy, rfl⟩
 · rw [show ((x.1, []), true).1.1 = x.1 from rfl, find_inc ha hx]; rfl
 · split
   · rfl
   · rename_i z hz
     have h1 := List.mem_of_find?_eq_some hz
     have h2 := List.find?_some hz
     rw [diff_ok_at a b ha hb _ hc rfl z h1 (by simpa using h2)]; rfl
theorem itE_inc {l : List It} (h : itE l = 0) : l.length ≤ 65536 ∧ (∀ x ∈ l, nameB x.1 = true) ∧ Inc (l.map Prod.fst) := by
 obtain ⟨h1, h2⟩ := itE_zero h
 obtain ⟨h3, h4⟩ := incS_iff.1 h2
 exact ⟨h1, fun x hx => h3 _ (List.mem_map.2 ⟨x, hx, rfl⟩), h4⟩
theorem diff_names {a b : List It} (ha : itE a = 0) (hb : itE b = 0) : incS ((diffS a b).map chN) = true := by
 obtain ⟨-, a2, a3⟩ := itE_inc ha
 obtain ⟨-, b2, b3⟩ := itE_inc hb
 refine incS_iff.2 ⟨fun s hs => ?_, diffS_inc a b a3 b3⟩
 obtain ⟨c, hc, rfl⟩ := List.mem_map.1 hs
 rcases diffS_mem a b c hc with ⟨x, hx, rfl⟩ | ⟨y, hy, rfl⟩
 · exact a2 x hx
 · exact b2 y hy
theorem chOk_diff {a b : List It} (ha : itE a = 0) (hb : itE b = 0) (hl : a.length + b.length ≤ 65536) : chOk (diffS a b) = true := by
 have h1 := diff_names ha hb
 have h2 := diffS_length a b
 unfold chOk
 rw [Bool.and_eq_true, decide_eq_true_eq]
 refine ⟨chS_good fun k hk => ?_, by omega⟩
 unfold chAt
 rw [List.all_eq_true.1 h1 k (List.mem_range.2 (by simpa using hk)), List.getElem?_eq_getElem hk, Bool.true_and]
 rcases diffS_mem a b _ (List.getElem_mem hk) with ⟨x, hx, e⟩ | ⟨y, hy, e⟩ <;> rw [e] <;> simp
theorem app_diff {a b : List It} (ha : itE a = 0) (hb : itE b = 0) (hl : a.length + b.length ≤ 65536) : appE a (diffS a b) = 0 ∧ appS a (diffS a b) = b := by
 obtain ⟨a1, a2, a3⟩ := itE_inc ha
 obtain ⟨b1, b2, b3⟩ := itE_inc hb
 have hp := merged_diff a b a3 b3
 have he : appE a (diffS a b) = 0 := by
  unfold appE
  have h2 := diffS_length a b
  rw [if_neg (by simpa using ha), if_neg (by rw [diff_names ha hb]; simp; omega), if_neg (by rw [diff_ok a3 b3]; simp), if_neg (by rw [hp.length_eq]; omega)]
 refine ⟨he, ?_⟩
 unfold appS
 rw [if_pos he]
 exact sortI_eq hp b3
end Mir
end Go.Proofs.YtkflpoiobpblhaaGreat
