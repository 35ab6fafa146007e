/- Walks and plain laws that the statement rests on: MVf, MVer. -/
import Derived.Deep.RegionHeld3
import Derived.Test.YtkflpoiobpblhaaP00
import Derived.Test.YtkflpoiobpblhaaP21
import Derived.Test.YtkflpoiobpblhaaP27
import Derived.Test.YtkflpoiobpblhaaP29
import Derived.Test.YtkflpoiobpblhaaP30
namespace Go.Proofs.Ytkflpoiobpblhaa
open Go.RowKit
set_option linter.unusedVariables false
set_option linter.unusedSimpArgs false
namespace Mir
structure Sg where
  i : Int
  o : List (List Nat)
  c : List (List Nat)
  p : List (List Nat)
structure Ve where
  no : Int
  st : List Nat
  ch : List Ch
  sg : Sg
def sgOk (root : List Nat) (n : Int) (msg : List Nat) (g : Sg) : Bool :=
  if 1 ≤ n ∧ n ≤ 4096 ∧ 0 ≤ g.i ∧ g.i < n ∧ g.o.length = 64 ∧ g.c.length = 64 ∧ msg.length ≤ 65536 then verS root n.toNat g.i.toNat msg g.o g.c g.p else false
def verE (root : List Nat) (n : Int) (v : Ve) : Int :=
  if v.no < 1 ∨ 4096 < v.no then 450 else if chOk v.ch = false then 430 else if v.sg.i ≠ v.no - 1 ∨ sgOk root n (mesS v.no.toNat v.st v.ch) v.sg = false then 451 else 0
end Mir
def SigC (w : World) (g : Mir.Sg) (s0 s1 s2 s3 : Value) : Prop :=
  ∃ (Ao : Option Addr) (co : Nat) (Ac : Option Addr) (cc : Nat) (Ap : Option Addr) (cp : Nat), s0 = .int .i64 g.i ∧ s1 = .slice Ao g.o.length co ∧ s2 = .slice Ac g.c.length cc ∧ s3 = .slice Ap g.p.length cp ∧
    Cells w Ao (bytesV g.o.flatten) ∧ Cells w Ac (bytesV g.c.flatten) ∧ Cells w Ap (bytesV g.p.flatten) ∧ IsL g.o ∧ IsL g.c ∧ IsL g.p ∧ g.o.length ≤ co ∧ co ≤ maxLen ∧ g.c.length ≤ cc ∧ cc ≤ maxLen ∧ g.p.length ≤ cp ∧ cp ≤ maxLen
theorem SigC.below {w w' : World} {g : Mir.Sg} {s0 s1 s2 s3 : Value} (h : SigC w g s0 s1 s2 s3) (hb : Below w.heap.size w w') : SigC w' g s0 s1 s2 s3 := by
  obtain ⟨Ao, co, Ac, cc, Ap, cp, h0, h1, h2, h3, a, b, c, r⟩ := h
  exact ⟨Ao, co, Ac, cc, Ap, cp, h0, h1, h2, h3, a.below hb, b.below hb, c.below hb, r⟩
def VerC (w : World) (v : Mir.Ve) (V : Array Value) : Prop :=
  ∃ (A : Option Addr) (c : Nat) (s0 s1 s2 s3 : Value), V = Mir.verA v.no v.st (.slice A v.ch.length c) s0 s1 s2 s3 ∧ IsD v.st ∧ ChangesC w A v.ch ∧ v.ch.length ≤ c ∧ c ≤ maxLen ∧ SigC w v.sg s0 s1 s2 s3
theorem VerC.below {w w' : World} {v : Mir.Ve} {V : Array Value} (h : VerC w v V) (hb : Below w.heap.size w w') : VerC w' v V := by
  obtain ⟨A, c, s0, s1, s2, s3, e, hd, hc, h1, h2, hs⟩ := h
  exact ⟨A, c, s0, s1, s2, s3, e, hd, hc.below hb, h1, h2, hs.below hb⟩
theorem byteL_num (n : Nat) : ByteL (Mir.numS n) := byteL_of (Mir.numS_bytes n)
theorem mesS_length (no : Nat) (st : List Nat) (l : List Mir.Ch) (h : IsD st) : (Mir.mesS no st l).length = 72 := by
  unfold Mir.mesS
  rw [List.length_append, List.length_append, h.1, (treeS_isD _).1]; rfl
theorem mesS_byte (no : Nat) (st : List Nat) (l : List Mir.Ch) (h : IsD st) : ByteL (Mir.mesS no st l) := ((byteL_num no).append h.2).append (treeS_isD _).2
theorem sverify_any (root : List Nat) (n : Int) (msg : List Nat) (A : Option Addr) (k c : Nat) (g : Mir.Sg) (s0 s1 s2 s3 : Value) (w : World) (hr : IsD root) (hA : Cells w A (bytesV msg)) (hm : msg.length = k) (h8 : ByteL msg) (hg : SigC w g s0 s1 s2 s3) :
    Calls Try.prog 32 #[.agg (arrK .u8 root), .int .i64 n, .slice A k c, .agg #[s0, s1, s2, s3]] w fun e w' => e = .returned (.bool (Mir.sgOk root n msg g)) ∧ Below w.heap.size w w' := by
  obtain ⟨Ao, co, Ac, cc, Ap, cp, rfl, rfl, rfl, rfl, ho, hc, hp, iO, iC, iP, a1, a2, a3, a4, a5, a6⟩ := hg
  unfold Mir.sgOk
  by_cases h : 1 ≤ n ∧ n ≤ 4096 ∧ 0 ≤ g.i ∧ g.i < n ∧ g.o.length = 64 ∧ g.c.length = 64 ∧ msg.length ≤ 65536
  · rw [if_pos h]
    obtain ⟨h1, h2, h3, h4, h5, h6, h7⟩ := h
    obtain ⟨m, rfl⟩ := Int.eq_ofNat_of_zero_le (show 0 ≤ n by omega)
    obtain ⟨i, hi⟩ := Int.eq_ofNat_of_zero_le h3
    rw [hi, h5, h6]
    exact Verify_good root m i msg A k c g.o g.c g.p Ao Ac Ap co cc g.p.length cp w hr (by omega) (by omega) (by omega) hA hm (by omega) h8 h5 h6 rfl iO iC iP ho hc hp a5 a6
  · rw [if_neg h]
    exact Verify_bad root n g.i A k c Ao Ac Ap g.o.length co g.c.length cc g.p.length cp w (by rw [hm] at h; exact h)
end Go.Proofs.Ytkflpoiobpblhaa
namespace Go.Proofs.Ytkflpoiobpblhaa
open Go.RowKit
set_option linter.unusedVariables false
set_option linter.unusedSimpArgs false
theorem infoVer {st : List Nat} (h : st.length = 32) (no : Int) (C s0 s1 s2 s3 : Value) : (Try.prog.info? 38).map (·.size) = some (Mir.verA no st C s0 s1 s2 s3).size := by rw [Mir.verA_size h]; kernel_rfl
theorem chOk_size {l : List Mir.Ch} (h : Mir.chOk l = true) : l.length ≤ 65536 ∧ ∀ x ∈ l, x.1.1.size ≤ 64 := by
  unfold Mir.chOk at h
  rw [Bool.and_eq_true, decide_eq_true_eq] at h
  refine ⟨h.2, fun x hx => ?_⟩
  obtain ⟨i, hi, rfl⟩ := List.getElem_of_mem hx
  have := List.all_eq_true.1 h.1 i (List.mem_range.2 hi)
  unfold Mir.chAt Mir.incAt Mir.nameB at this
  rw [chNames_get (List.getElem?_eq_getElem hi)] at this
  simp only [Bool.and_eq_true, decide_eq_true_eq] at this
  omega
set_option maxRecDepth 100000 in
set_option maxHeartbeats 2000000 in
theorem mverify_any (root : List Nat) (n : Int) (v : Mir.Ve) (V : Array Value) (w : World) (hr : IsD root) (hV : VerC w v V) (hl : v.ch.length ≤ 1000000) (hs : ∀ x ∈ v.ch, x.1.2.length ≤ 900000) :
    Calls Try.prog 13 #[.agg (arrK .u8 root), .int .i64 n, .agg V] w fun e w' => e = .returned (.int .i64 (Mir.verE root n v)) ∧ Below w.heap.size w w' := by
  obtain ⟨A, c, s0, s1, s2, s3, rfl, hst, hC, hlc, hcm, hg⟩ := hV
  obtain ⟨no, st, ch, g⟩ := v
  simp only [] at hst hC hlc hg hl hs ⊢
  obtain ⟨i0, hi0⟩ : ∃ i, s0 = .int .i64 i ∧ i = g.i := by
    obtain ⟨Ao, co, Ac, cc, Ap, cp, h0, -⟩ := hg
    exact ⟨_, h0, rfl⟩
  obtain ⟨rfl, hig⟩ := hi0
  have h0 := Mir.verA_0 no st (.slice A ch.length c) (.int .i64 i0) s1 s2 s3
  have hhi := Mir.verA_hi hst.1 no (.slice A ch.length c) (.int .i64 i0) s1 s2 s3
  have h33 := hhi 0
  have h34 := hhi 1
  have h35 := hhi 2
  have h36 := hhi 3
  have h37 := hhi 4
  have iV := Lib.hid (infoVer hst.1 no (.slice A ch.length c) (.int .i64 i0) s1 s2 s3)
  have Hr := Lib.hid hr
  have HC := Lib.hid hC
  have Hg := Lib.hid hg
  obtain ⟨R, hR⟩ : ∃ R, Mir.verE root n ⟨no, st, ch, g⟩ = R := ⟨_, rfl⟩
  have HR := Lib.hid hR
  rw [hR]
  unfold Mir.verE at hR
  simp only [] at hR
  have HMs := Lib.hid (fun (A' : Option Addr) W (hno : 0 ≤ no ∧ no < 9223372036854775808) (h1 : ch.length ≤ 70000) (hC : ChangesC W A ch) (h2 : ∀ x ∈ ch, x.1.1.size ≤ 64) => by
    have := message_any no.toNat st A ch.length c ch (.int .i64 i0) s1 s2 s3 W hst rfl h1 (by omega) hC (fun x hx => ⟨h2 x hx, hs x hx⟩)
    rwa [Int.toNat_of_nonneg hno.1] at this)
  have HVa := Lib.hid (fun W h => mvalid_any A ch.length c ch W rfl hl h)
  obtain ⟨V, hVe⟩ : ∃ V, Mir.verA no st (.slice A ch.length c) (.int .i64 i0) s1 s2 s3 = V := ⟨_, rfl⟩
  rw [hVe] at h0 h33 h34 h35 h36 h37 iV HMs ⊢
  have oV := Lib.hid (show V.size = 38 by rw [← hVe]; exact Mir.verA_size hst.1 ..)
  have Hst := Lib.hid hst
  have Hig := Lib.hid hig
  clear hhi hVe hr hC hg hs hst hig
  by_cases hn1 : no < 1
  · rw [if_pos (Or.inl hn1)] at hR
    subst hR
    have d1 : decide (no < 1) = true := by simpa using hn1
    go_enter Try.func13, Try.ntmps13
    go_upto_region 1 with (fail)
    generalize hge2 : World.alloc (World.alloc _ _) _ = w1
    have hX0 := (show Blk w1 w.heap.size 28 (arrK .u8 root) by subst hge2; exact (Blk.new w 28 (arrK .u8 root)).below ((Below.refl _ _).alloc (Nat.le_refl _) _))
    have hV0 := (show Blk w1 (w.heap.size + 1) 38 V by subst hge2; have := Blk.new (w.alloc (.cells (arrK .u8 root) 28)) 38 V; simpa using this)
    have HX := Lib.hid hX0
    have HV := Lib.hid hV0
    have HB := Lib.hid (show Below w.heap.size w w1 by subst hge2; exact below_of ((Below.refl _ _).alloc (Nat.le_refl _) _) ((Below.refl _ _).alloc (Nat.le_refl _) _) (by simp))
    have y0 : w1.cell? ⟨w.heap.size + 1, 0, none⟩ = some (.int .i64 no) := (HV.out.cell 0).trans h0
    have y33 : w1.cell? ⟨w.heap.size + 1, 33, none⟩ = some (.slice A ch.length c) := (HV.out.cell 33).trans h33
    clear hge2 hX0 hV0
    go_wp2_with (fail)
    go_ret
    exact ⟨rfl, HB.out⟩
  by_cases hn2 : 4096 < no
  · rw [if_pos (Or.inr hn2)] at hR
    subst hR
    have d1 : decide (no < 1) = false := by simpa using hn1
    have d2 : decide (4096 < no) = true := by simpa using hn2
    go_enter Try.func13, Try.ntmps13
    go_upto_region 1 with (fail)
    generalize hge2 : World.alloc (World.alloc _ _) _ = w1
    have hX0 := (show Blk w1 w.heap.size 28 (arrK .u8 root) by subst hge2; exact (Blk.new w 28 (arrK .u8 root)).below ((Below.refl _ _).alloc (Nat.le_refl _) _))
    have hV0 := (show Blk w1 (w.heap.size + 1) 38 V by subst hge2; have := Blk.new (w.alloc (.cells (arrK .u8 root) 28)) 38 V; simpa using this)
    have HX := Lib.hid hX0
    have HV := Lib.hid hV0
    have HB := Lib.hid (show Below w.heap.size w w1 by subst hge2; exact below_of ((Below.refl _ _).alloc (Nat.le_refl _) _) ((Below.refl _ _).alloc (Nat.le_refl _) _) (by simp))
    have y0 : w1.cell? ⟨w.heap.size + 1, 0, none⟩ = some (.int .i64 no) := (HV.out.cell 0).trans h0
    have y33 : w1.cell? ⟨w.heap.size + 1, 33, none⟩ = some (.slice A ch.length c) := (HV.out.cell 33).trans h33
    clear hge2 hX0 hV0
    go_wp2_with (fail)
    go_ret
    exact ⟨rfl, HB.out⟩
  rw [if_neg (by omega)] at hR
  have d1 : decide (no < 1) = false := by simpa using hn1
  have d2 : decide (4096 < no) = false := by simpa using hn2
  cases hok : Mir.chOk ch with
  | false =>
    rw [hok, if_pos rfl] at hR
    subst hR
    rw [hok] at HVa
    go_enter Try.func13, Try.ntmps13
    go_upto_region 1 with (fail)
    generalize hge2 : World.alloc (World.alloc _ _) _ = w1
    have hX0 := (show Blk w1 w.heap.size 28 (arrK .u8 root) by subst hge2; exact (Blk.new w 28 (arrK .u8 root)).below ((Below.refl _ _).alloc (Nat.le_refl _) _))
    have hV0 := (show Blk w1 (w.heap.size + 1) 38 V by subst hge2; have := Blk.new (w.alloc (.cells (arrK .u8 root) 28)) 38 V; simpa using this)
    have HX := Lib.hid hX0
    have HV := Lib.hid hV0
    have HB := Lib.hid (show Below w.heap.size w w1 by subst hge2; exact below_of ((Below.refl _ _).alloc (Nat.le_refl _) _) ((Below.refl _ _).alloc (Nat.le_refl _) _) (by simp))
    have y0 : w1.cell? ⟨w.heap.size + 1, 0, none⟩ = some (.int .i64 no) := (HV.out.cell 0).trans h0
    have y33 : w1.cell? ⟨w.heap.size + 1, 33, none⟩ = some (.slice A ch.length c) := (HV.out.cell 33).trans h33
    clear hge2 hX0 hV0
    go_wp2_with (fail)
    refine (HVa.out _ (HC.out.below HB.out)).mono ?_
    rintro e w2 ⟨rfl, hb2⟩
    have HX2 := Lib.hid (HX.out.below hb2)
    have HV2 := Lib.hid (HV.out.below hb2)
    have HB2 := Lib.hid (below_of HB.out hb2 HB.out.size)
    have HC2 := Lib.hid (HC.out.below HB2.out)
    have Hg2 := Lib.hid (Hg.out.below HB2.out)
    have z0 : w2.cell? ⟨w.heap.size + 1, 0, none⟩ = some (.int .i64 no) := (HV2.out.cell 0).trans h0
    have z34 : w2.cell? ⟨w.heap.size + 1, 34, none⟩ = some (.int .i64 i0) := (HV2.out.cell 34).trans h34
    have z35 : w2.cell? ⟨w.heap.size + 1, 35, none⟩ = some s1 := (HV2.out.cell 35).trans h35
    have z36 : w2.cell? ⟨w.heap.size + 1, 36, none⟩ = some s2 := (HV2.out.cell 36).trans h36
    have z37 : w2.cell? ⟨w.heap.size + 1, 37, none⟩ = some s3 := (HV2.out.cell 37).trans h37
    have ltV : w.heap.size + 1 < w2.heap.size := HV2.out.lt
    have ltX : w.heap.size < w2.heap.size := HX2.out.lt
    clear hb2 y0 y33
    go_wp2_with (fail)
    go_ret
    exact ⟨rfl, HB2.out⟩
  | true =>
    rw [hok, if_neg (by simp)] at hR
    rw [hok] at HVa
    obtain ⟨hle, hsm⟩ := chOk_size hok
    have Hle := Lib.hid (show ch.length ≤ 70000 by omega)
    have Hsm := Lib.hid hsm
    have hno : 0 ≤ no ∧ no < 9223372036854775808 := by omega
    have e1 : IntKind.i64.wrap (no - 1) = no - 1 := by rw [IntKind.wrap_i64]; omega
    clear hle hsm
    by_cases hi : i0 = no - 1
    · have d3 : (i0 != no - 1) = false := by simp [hi]
      have Hi := Lib.hid hi
      obtain ⟨b9, hb9⟩ : ∃ b, Mir.sgOk root n (Mir.mesS no.toNat st ch) g = b := ⟨_, rfl⟩
      have HSv := Lib.hid (fun (A9 : Option Addr) (c9 : Nat) W (h9 : Cells W A9 (bytesV (Mir.mesS no.toNat st ch))) hg => sverify_any root n (Mir.mesS no.toNat st ch) A9 72 c9 g (.int .i64 i0) s1 s2 s3 W Hr.out h9 (mesS_length _ _ _ Hst.out) (mesS_byte _ _ _ Hst.out) hg)
      cases b9 with
      | false =>
        rw [if_pos (Or.inr hb9)] at hR
        subst hR
        clear hi
        go_enter Try.func13, Try.ntmps13
        go_upto_region 1 with (fail)
        generalize hge2 : World.alloc (World.alloc _ _) _ = w1
        have hX0 := (show Blk w1 w.heap.size 28 (arrK .u8 root) by subst hge2; exact (Blk.new w 28 (arrK .u8 root)).below ((Below.refl _ _).alloc (Nat.le_refl _) _))
        have hV0 := (show Blk w1 (w.heap.size + 1) 38 V by subst hge2; have := Blk.new (w.alloc (.cells (arrK .u8 root) 28)) 38 V; simpa using this)
        have HX := Lib.hid hX0
        have HV := Lib.hid hV0
        have HB := Lib.hid (show Below w.heap.size w w1 by subst hge2; exact below_of ((Below.refl _ _).alloc (Nat.le_refl _) _) ((Below.refl _ _).alloc (Nat.le_refl _) _) (by simp))
        have y0 : w1.cell? ⟨w.heap.size + 1, 0, none⟩ = some (.int .i64 no) := (HV.out.cell 0).trans h0
        have y33 : w1.cell? ⟨w.heap.size + 1, 33, none⟩ = some (.slice A ch.length c) := (HV.out.cell 33).trans h33
        clear hge2 hX0 hV0
        go_wp2_with (fail)
        refine (HVa.out _ (HC.out.below HB.out)).mono ?_
        rintro e w2 ⟨rfl, hb2⟩
        have HX2 := Lib.hid (HX.out.below hb2)
        have HV2 := Lib.hid (HV.out.below hb2)
        have HB2 := Lib.hid (below_of HB.out hb2 HB.out.size)
        have HC2 := Lib.hid (HC.out.below HB2.out)
        have Hg2 := Lib.hid (Hg.out.below HB2.out)
        have z0 : w2.cell? ⟨w.heap.size + 1, 0, none⟩ = some (.int .i64 no) := (HV2.out.cell 0).trans h0
        have z34 : w2.cell? ⟨w.heap.size + 1, 34, none⟩ = some (.int .i64 i0) := (HV2.out.cell 34).trans h34
        have z35 : w2.cell? ⟨w.heap.size + 1, 35, none⟩ = some s1 := (HV2.out.cell 35).trans h35
        have z36 : w2.cell? ⟨w.heap.size + 1, 36, none⟩ = some s2 := (HV2.out.cell 36).trans h36
        have z37 : w2.cell? ⟨w.heap.size + 1, 37, none⟩ = some s3 := (HV2.out.cell 37).trans h37
        have ltV : w.heap.size + 1 < w2.heap.size := HV2.out.lt
        have ltX : w.heap.size < w2.heap.size := HX2.out.lt
        clear hb2 y0 y33
        go_upto_region 5 with (fail)
        refine wp_region_held_drew (S := fun W => Below w2.heap.size w2 W) (by kernel_rfl) (below_drewN (Below.refl _ _) 1) (fun Hd => ?_)
        have Hd : Below w2.heap.size w2 w2.drew := below_drewN (Below.refl _ _) 1
        have Zd : w2.heap.size ≤ w2.drew.heap.size := Nat.le_refl _
        generalize World.drew w2 = wd at *
        refine wpAnyH_take (i := 0) (v := ?_) rfl (by kernel_rfl) (by kernel_rfl) (by kernel_rfl) (fun _ _ _ h => h) (Or.inl ⟨by rfl, ?_⟩) Hd ?_
        rotate_left
        · intro wS hSw
          go_simp
          try with_reducible rfl
        try simp only [la0, la1, la2, Act.put, la3, la4, la5]
        refine wpAnyH_take (i := 1) (v := ?_) rfl (by kernel_rfl) (by kernel_rfl) (by kernel_rfl) (fun _ _ _ h => h) (Or.inl ⟨by rfl, ?_⟩) Hd ?_
        rotate_left
        · intro wS hSw
          go_simp
          try with_reducible rfl
        try simp only [la0, la1, la2, Act.put, la3, la4, la5]
        refine wpAnyH_take (i := 2) (v := ?_) rfl (by kernel_rfl) (by kernel_rfl) (by kernel_rfl) (fun _ _ _ h => h) (Or.inl ⟨by rfl, ?_⟩) Hd ?_
        rotate_left
        · intro wS hSw
          have cc := (hSw.cell (p := ⟨w.heap.size + 1, 34, none⟩) ltV).trans z34
          go_simp
          try with_reducible rfl
        try simp only [la0, la1, la2, Act.put, la3, la4, la5]
        refine wpAnyH_take (i := 3) (v := ?_) rfl (by kernel_rfl) (by kernel_rfl) (by kernel_rfl) (fun _ _ _ h => h) (Or.inl ⟨by rfl, ?_⟩) Hd ?_
        rotate_left
        · intro wS hSw
          go_simp
          try with_reducible rfl
        try simp only [la0, la1, la2, Act.put, la3, la4, la5]
        refine wpAnyH_take (i := 4) (v := ?_) rfl (by kernel_rfl) (by kernel_rfl) (by kernel_rfl) (fun _ _ _ h => h) (Or.inl ⟨by rfl, ?_⟩) Hd ?_
        rotate_left
        · intro wS hSw
          have cc := (hSw.cell (p := ⟨w.heap.size + 1, 0, none⟩) ltV).trans z0
          go_simp
          try with_reducible rfl
        try simp only [la0, la1, la2, Act.put, la3, la4, la5]
        refine wpAnyH_take (i := 5) (v := ?_) rfl (by kernel_rfl) (by kernel_rfl) (by kernel_rfl) (fun _ _ _ h => h) (Or.inl ⟨by rfl, ?_⟩) Hd ?_
        rotate_left
        · intro wS hSw
          go_simp
          try with_reducible rfl
        try simp only [la0, la1, la2, Act.put, la3, la4, la5]
        refine wpAnyH_take (i := 6) (v := ?_) rfl (by kernel_rfl) (by kernel_rfl) (by kernel_rfl) (fun _ _ _ h => h) (Or.inl ⟨by rfl, ?_⟩) Hd ?_
        rotate_left
        · intro wS hSw
          go_simp
          try with_reducible rfl
        try simp only [la0, la1, la2, Act.put, la3, la4, la5]
        refine wpAnyH_take (i := 7) (v := ?_) rfl (by kernel_rfl) (by kernel_rfl) (by kernel_rfl) (fun _ _ _ h => h) (Or.inl ⟨by rfl, ?_⟩) Hd ?_
        rotate_left
        · intro wS hSw
          go_simp
          try with_reducible rfl
        try simp only [la0, la1, la2, Act.put, la3, la4, la5]
        refine wpAnyH_take (i := 8) (v := .agg (arrK .u8 root)) rfl (by kernel_rfl) (by kernel_rfl) (by kernel_rfl) (fun _ _ _ h => h) (yields_load_blk (by rfl) _ _ rfl (w.heap.size) rfl 28 (arrK .u8 root) (.array 32 5) (fun W hW => (HX2.out.below hW)) (by kernel_rfl) rfl (info32 Hr.out.1)) Hd ?_
        try simp only [la0, la1, la2, Act.put, la3, la4, la5]
        refine wpAnyH_take (i := 9) (v := ?_) rfl (by kernel_rfl) (by kernel_rfl) (by kernel_rfl) (fun _ _ _ h => h) (Or.inl ⟨by rfl, ?_⟩) Hd ?_
        rotate_left
        · intro wS hSw
          go_simp
          try with_reducible rfl
        try simp only [la0, la1, la2, Act.put, la3, la4, la5]
        refine wpAnyH_take (i := 10) (v := .agg (V)) rfl (by kernel_rfl) (by kernel_rfl) (by kernel_rfl) (fun _ _ _ h => h) (yields_load_blk (by rfl) _ _ rfl (w.heap.size + 1) rfl 38 (V) _ (fun W hW => (HV2.out.below hW)) Try.underlying38 rfl iV.out) Hd ?_
        try simp only [la0, la1, la2, Act.put, la3, la4, la5]
        refine wpAnyH_take (i := 12) (v := ?_) rfl (by kernel_rfl) (by kernel_rfl) (by kernel_rfl) (fun _ _ _ h => h) (Or.inl ⟨by rfl, ?_⟩) Hd ?_
        rotate_left
        · intro wS hSw
          go_simp
          try with_reducible rfl
        try simp only [la0, la1, la2, Act.put, la3, la4, la5]
        refine wpAnyH_take (i := 13) (v := ?_) rfl (by kernel_rfl) (by kernel_rfl) (by kernel_rfl) (fun _ _ _ h => h) (Or.inl ⟨by rfl, ?_⟩) Hd ?_
        rotate_left
        · intro wS hSw
          have c34 := (hSw.cell (p := ⟨w.heap.size + 1, 34, none⟩) ltV).trans z34
          have c35 := (hSw.cell (p := ⟨w.heap.size + 1, 35, none⟩) ltV).trans z35
          have c36 := (hSw.cell (p := ⟨w.heap.size + 1, 36, none⟩) ltV).trans z36
          have c37 := (hSw.cell (p := ⟨w.heap.size + 1, 37, none⟩) ltV).trans z37
          go_simp
          try with_reducible rfl
        try simp only [la0, la1, la2, Act.put, la3, la4, la5]
        refine wpAnyH_ready (rs := [11]) (by kernel_rfl) (by simp) (AllReadyH.cons rfl (fun K hK => ?_) AllReadyH.nil)
        go_simp
        refine (HMs.out none _ hno Hle.out (HC2.out.below Hd) Hsm.out).mono ?_
        rintro e w1_ ⟨A9, c9, rfl, hk9, hm9, hc9, hb1⟩
        have Hb1 : Below w2.heap.size w2 w1_ := below_of Hd hb1 Hd.size
        have Zb1 : w2.heap.size ≤ w1_.heap.size := Nat.le_trans Zd hb1.size
        go_wp2_with (fail)
        refine hK.out _ _ Hb1 fun _ => ?_
        clear hK K
        try simp only [la0, la1, la2, Act.put, la3, la4, la5]
        refine wpAnyH_ready (rs := [14]) (by kernel_rfl) (by simp) (AllReadyH.cons rfl (fun K hK => ?_) AllReadyH.nil)
        go_simp
        refine (HSv.out A9 c9 _ hc9 (Hg2.out.below Hb1)).mono ?_
        rintro e w2_ ⟨rfl, hb2⟩
        rw [hb9]
        have fm2 := hc9.below hb2
        have Hb2 : Below w2.heap.size w2 w2_ := below_of Hb1 hb2 Hb1.size
        have Zb2 : w2.heap.size ≤ w2_.heap.size := Nat.le_trans Zb1 hb2.size
        go_wp2_with (fail)
        refine hK.out _ _ Hb2 fun _ => ?_
        clear hK K
        try simp only [la0, la1, la2, Act.put, la3, la4, la5]
        refine wpAnyH_take (i := 15) (v := ?_) rfl (by kernel_rfl) (by kernel_rfl) (by kernel_rfl) (fun _ _ _ h => h) (Or.inl ⟨by rfl, ?_⟩) Hb2 ?_
        rotate_left
        · intro wS hSw
          go_simp
          try with_reducible rfl
        try simp only [la0, la1, la2, Act.put, la3, la4, la5]
        refine wpAnyH_take (i := 16) (v := ?_) rfl (by kernel_rfl) (by kernel_rfl) (by kernel_rfl) (fun _ _ _ h => h) (Or.inl ⟨by rfl, ?_⟩) Hb2 ?_
        rotate_left
        · intro wS hSw
          go_simp
          try with_reducible rfl
        try simp only [la0, la1, la2, Act.put, la3, la4, la5]
        refine wpAnyH_take (i := 17) (v := ?_) rfl (by kernel_rfl) (by kernel_rfl) (by kernel_rfl) (fun _ _ _ h => h) (Or.inl ⟨by rfl, ?_⟩) Hb2 ?_
        rotate_left
        · intro wS hSw
          go_simp
          try with_reducible rfl
        try simp only [la0, la1, la2, Act.put, la3, la4, la5]
        refine wpAnyH_done (by kernel_rfl) ?_ _
        go_wp2_with (fail)
        go_ret
        exact ⟨rfl, below_of HB2.out Hb2 HB2.out.size⟩
      | true =>
        rw [if_neg (by rintro (h | h); exact h (Hig.out ▸ hi); exact absurd (hb9.symm.trans h) (by simp))] at hR
        subst hR
        clear hi
        go_enter Try.func13, Try.ntmps13
        go_upto_region 1 with (fail)
        generalize hge2 : World.alloc (World.alloc _ _) _ = w1
        have hX0 := (show Blk w1 w.heap.size 28 (arrK .u8 root) by subst hge2; exact (Blk.new w 28 (arrK .u8 root)).below ((Below.refl _ _).alloc (Nat.le_refl _) _))
        have hV0 := (show Blk w1 (w.heap.size + 1) 38 V by subst hge2; have := Blk.new (w.alloc (.cells (arrK .u8 root) 28)) 38 V; simpa using this)
        have HX := Lib.hid hX0
        have HV := Lib.hid hV0
        have HB := Lib.hid (show Below w.heap.size w w1 by subst hge2; exact below_of ((Below.refl _ _).alloc (Nat.le_refl _) _) ((Below.refl _ _).alloc (Nat.le_refl _) _) (by simp))
        have y0 : w1.cell? ⟨w.heap.size + 1, 0, none⟩ = some (.int .i64 no) := (HV.out.cell 0).trans h0
        have y33 : w1.cell? ⟨w.heap.size + 1, 33, none⟩ = some (.slice A ch.length c) := (HV.out.cell 33).trans h33
        clear hge2 hX0 hV0
        go_wp2_with (fail)
        refine (HVa.out _ (HC.out.below HB.out)).mono ?_
        rintro e w2 ⟨rfl, hb2⟩
        have HX2 := Lib.hid (HX.out.below hb2)
        have HV2 := Lib.hid (HV.out.below hb2)
        have HB2 := Lib.hid (below_of HB.out hb2 HB.out.size)
        have HC2 := Lib.hid (HC.out.below HB2.out)
        have Hg2 := Lib.hid (Hg.out.below HB2.out)
        have z0 : w2.cell? ⟨w.heap.size + 1, 0, none⟩ = some (.int .i64 no) := (HV2.out.cell 0).trans h0
        have z34 : w2.cell? ⟨w.heap.size + 1, 34, none⟩ = some (.int .i64 i0) := (HV2.out.cell 34).trans h34
        have z35 : w2.cell? ⟨w.heap.size + 1, 35, none⟩ = some s1 := (HV2.out.cell 35).trans h35
        have z36 : w2.cell? ⟨w.heap.size + 1, 36, none⟩ = some s2 := (HV2.out.cell 36).trans h36
        have z37 : w2.cell? ⟨w.heap.size + 1, 37, none⟩ = some s3 := (HV2.out.cell 37).trans h37
        have ltV : w.heap.size + 1 < w2.heap.size := HV2.out.lt
        have ltX : w.heap.size < w2.heap.size := HX2.out.lt
        clear hb2 y0 y33
        go_upto_region 5 with (fail)
        refine wp_region_held_drew (S := fun W => Below w2.heap.size w2 W) (by kernel_rfl) (below_drewN (Below.refl _ _) 1) (fun Hd => ?_)
        have Hd : Below w2.heap.size w2 w2.drew := below_drewN (Below.refl _ _) 1
        have Zd : w2.heap.size ≤ w2.drew.heap.size := Nat.le_refl _
        generalize World.drew w2 = wd at *
        refine wpAnyH_take (i := 0) (v := ?_) rfl (by kernel_rfl) (by kernel_rfl) (by kernel_rfl) (fun _ _ _ h => h) (Or.inl ⟨by rfl, ?_⟩) Hd ?_
        rotate_left
        · intro wS hSw
          go_simp
          try with_reducible rfl
        try simp only [la0, la1, la2, Act.put, la3, la4, la5]
        refine wpAnyH_take (i := 1) (v := ?_) rfl (by kernel_rfl) (by kernel_rfl) (by kernel_rfl) (fun _ _ _ h => h) (Or.inl ⟨by rfl, ?_⟩) Hd ?_
        rotate_left
        · intro wS hSw
          go_simp
          try with_reducible rfl
        try simp only [la0, la1, la2, Act.put, la3, la4, la5]
        refine wpAnyH_take (i := 2) (v := ?_) rfl (by kernel_rfl) (by kernel_rfl) (by kernel_rfl) (fun _ _ _ h => h) (Or.inl ⟨by rfl, ?_⟩) Hd ?_
        rotate_left
        · intro wS hSw
          have cc := (hSw.cell (p := ⟨w.heap.size + 1, 34, none⟩) ltV).trans z34
          go_simp
          try with_reducible rfl
        try simp only [la0, la1, la2, Act.put, la3, la4, la5]
        refine wpAnyH_take (i := 3) (v := ?_) rfl (by kernel_rfl) (by kernel_rfl) (by kernel_rfl) (fun _ _ _ h => h) (Or.inl ⟨by rfl, ?_⟩) Hd ?_
        rotate_left
        · intro wS hSw
          go_simp
          try with_reducible rfl
        try simp only [la0, la1, la2, Act.put, la3, la4, la5]
        refine wpAnyH_take (i := 4) (v := ?_) rfl (by kernel_rfl) (by kernel_rfl) (by kernel_rfl) (fun _ _ _ h => h) (Or.inl ⟨by rfl, ?_⟩) Hd ?_
        rotate_left
        · intro wS hSw
          have cc := (hSw.cell (p := ⟨w.heap.size + 1, 0, none⟩) ltV).trans z0
          go_simp
          try with_reducible rfl
        try simp only [la0, la1, la2, Act.put, la3, la4, la5]
        refine wpAnyH_take (i := 5) (v := ?_) rfl (by kernel_rfl) (by kernel_rfl) (by kernel_rfl) (fun _ _ _ h => h) (Or.inl ⟨by rfl, ?_⟩) Hd ?_
        rotate_left
        · intro wS hSw
          go_simp
          try with_reducible rfl
        try simp only [la0, la1, la2, Act.put, la3, la4, la5]
        refine wpAnyH_take (i := 6) (v := ?_) rfl (by kernel_rfl) (by kernel_rfl) (by kernel_rfl) (fun _ _ _ h => h) (Or.inl ⟨by rfl, ?_⟩) Hd ?_
        rotate_left
        · intro wS hSw
          go_simp
          try with_reducible rfl
        try simp only [la0, la1, la2, Act.put, la3, la4, la5]
        refine wpAnyH_take (i := 7) (v := ?_) rfl (by kernel_rfl) (by kernel_rfl) (by kernel_rfl) (fun _ _ _ h => h) (Or.inl ⟨by rfl, ?_⟩) Hd ?_
        rotate_left
        · intro wS hSw
          go_simp
          try with_reducible rfl
        try simp only [la0, la1, la2, Act.put, la3, la4, la5]
        refine wpAnyH_take (i := 8) (v := .agg (arrK .u8 root)) rfl (by kernel_rfl) (by kernel_rfl) (by kernel_rfl) (fun _ _ _ h => h) (yields_load_blk (by rfl) _ _ rfl (w.heap.size) rfl 28 (arrK .u8 root) (.array 32 5) (fun W hW => (HX2.out.below hW)) (by kernel_rfl) rfl (info32 Hr.out.1)) Hd ?_
        try simp only [la0, la1, la2, Act.put, la3, la4, la5]
        refine wpAnyH_take (i := 9) (v := ?_) rfl (by kernel_rfl) (by kernel_rfl) (by kernel_rfl) (fun _ _ _ h => h) (Or.inl ⟨by rfl, ?_⟩) Hd ?_
        rotate_left
        · intro wS hSw
          go_simp
          try with_reducible rfl
        try simp only [la0, la1, la2, Act.put, la3, la4, la5]
        refine wpAnyH_take (i := 10) (v := .agg (V)) rfl (by kernel_rfl) (by kernel_rfl) (by kernel_rfl) (fun _ _ _ h => h) (yields_load_blk (by rfl) _ _ rfl (w.heap.size + 1) rfl 38 (V) _ (fun W hW => (HV2.out.below hW)) Try.underlying38 rfl iV.out) Hd ?_
        try simp only [la0, la1, la2, Act.put, la3, la4, la5]
        refine wpAnyH_take (i := 12) (v := ?_) rfl (by kernel_rfl) (by kernel_rfl) (by kernel_rfl) (fun _ _ _ h => h) (Or.inl ⟨by rfl, ?_⟩) Hd ?_
        rotate_left
        · intro wS hSw
          go_simp
          try with_reducible rfl
        try simp only [la0, la1, la2, Act.put, la3, la4, la5]
        refine wpAnyH_take (i := 13) (v := ?_) rfl (by kernel_rfl) (by kernel_rfl) (by kernel_rfl) (fun _ _ _ h => h) (Or.inl ⟨by rfl, ?_⟩) Hd ?_
        rotate_left
        · intro wS hSw
          have c34 := (hSw.cell (p := ⟨w.heap.size + 1, 34, none⟩) ltV).trans z34
          have c35 := (hSw.cell (p := ⟨w.heap.size + 1, 35, none⟩) ltV).trans z35
          have c36 := (hSw.cell (p := ⟨w.heap.size + 1, 36, none⟩) ltV).trans z36
          have c37 := (hSw.cell (p := ⟨w.heap.size + 1, 37, none⟩) ltV).trans z37
          go_simp
          try with_reducible rfl
        try simp only [la0, la1, la2, Act.put, la3, la4, la5]
        refine wpAnyH_ready (rs := [11]) (by kernel_rfl) (by simp) (AllReadyH.cons rfl (fun K hK => ?_) AllReadyH.nil)
        go_simp
        refine (HMs.out none _ hno Hle.out (HC2.out.below Hd) Hsm.out).mono ?_
        rintro e w1_ ⟨A9, c9, rfl, hk9, hm9, hc9, hb1⟩
        have Hb1 : Below w2.heap.size w2 w1_ := below_of Hd hb1 Hd.size
        have Zb1 : w2.heap.size ≤ w1_.heap.size := Nat.le_trans Zd hb1.size
        go_wp2_with (fail)
        refine hK.out _ _ Hb1 fun _ => ?_
        clear hK K
        try simp only [la0, la1, la2, Act.put, la3, la4, la5]
        refine wpAnyH_ready (rs := [14]) (by kernel_rfl) (by simp) (AllReadyH.cons rfl (fun K hK => ?_) AllReadyH.nil)
        go_simp
        refine (HSv.out A9 c9 _ hc9 (Hg2.out.below Hb1)).mono ?_
        rintro e w2_ ⟨rfl, hb2⟩
        rw [hb9]
        have fm2 := hc9.below hb2
        have Hb2 : Below w2.heap.size w2 w2_ := below_of Hb1 hb2 Hb1.size
        have Zb2 : w2.heap.size ≤ w2_.heap.size := Nat.le_trans Zb1 hb2.size
        go_wp2_with (fail)
        refine hK.out _ _ Hb2 fun _ => ?_
        clear hK K
        try simp only [la0, la1, la2, Act.put, la3, la4, la5]
        refine wpAnyH_take (i := 15) (v := ?_) rfl (by kernel_rfl) (by kernel_rfl) (by kernel_rfl) (fun _ _ _ h => h) (Or.inl ⟨by rfl, ?_⟩) Hb2 ?_
        rotate_left
        · intro wS hSw
          go_simp
          try with_reducible rfl
        try simp only [la0, la1, la2, Act.put, la3, la4, la5]
        refine wpAnyH_take (i := 16) (v := ?_) rfl (by kernel_rfl) (by kernel_rfl) (by kernel_rfl) (fun _ _ _ h => h) (Or.inl ⟨by rfl, ?_⟩) Hb2 ?_
        rotate_left
        · intro wS hSw
          go_simp
          try with_reducible rfl
        try simp only [la0, la1, la2, Act.put, la3, la4, la5]
        refine wpAnyH_take (i := 17) (v := ?_) rfl (by kernel_rfl) (by kernel_rfl) (by kernel_rfl) (fun _ _ _ h => h) (Or.inl ⟨by rfl, ?_⟩) Hb2 ?_
        rotate_left
        · intro wS hSw
          go_simp
          try with_reducible rfl
        try simp only [la0, la1, la2, Act.put, la3, la4, la5]
        refine wpAnyH_done (by kernel_rfl) ?_ _
        go_wp2_with (fail)
        go_ret
        exact ⟨rfl, below_of HB2.out Hb2 HB2.out.size⟩
    · have d3 : (i0 != no - 1) = true := by simp [hi]
      have d4 : i0 ≠ no - 1 := hi
      rw [if_pos (Or.inl (by rw [← Hig.out]; exact hi))] at hR
      subst hR
      go_enter Try.func13, Try.ntmps13
      go_upto_region 1 with (fail)
      generalize hge2 : World.alloc (World.alloc _ _) _ = w1
      have hX0 := (show Blk w1 w.heap.size 28 (arrK .u8 root) by subst hge2; exact (Blk.new w 28 (arrK .u8 root)).below ((Below.refl _ _).alloc (Nat.le_refl _) _))
      have hV0 := (show Blk w1 (w.heap.size + 1) 38 V by subst hge2; have := Blk.new (w.alloc (.cells (arrK .u8 root) 28)) 38 V; simpa using this)
      have HX := Lib.hid hX0
      have HV := Lib.hid hV0
      have HB := Lib.hid (show Below w.heap.size w w1 by subst hge2; exact below_of ((Below.refl _ _).alloc (Nat.le_refl _) _) ((Below.refl _ _).alloc (Nat.le_refl _) _) (by simp))
      have y0 : w1.cell? ⟨w.heap.size + 1, 0, none⟩ = some (.int .i64 no) := (HV.out.cell 0).trans h0
      have y33 : w1.cell? ⟨w.heap.size + 1, 33, none⟩ = some (.slice A ch.length c) := (HV.out.cell 33).trans h33
      clear hge2 hX0 hV0
      go_wp2_with (fail)
      refine (HVa.out _ (HC.out.below HB.out)).mono ?_
      rintro e w2 ⟨rfl, hb2⟩
      have HX2 := Lib.hid (HX.out.below hb2)
      have HV2 := Lib.hid (HV.out.below hb2)
      have HB2 := Lib.hid (below_of HB.out hb2 HB.out.size)
      have HC2 := Lib.hid (HC.out.below HB2.out)
      have Hg2 := Lib.hid (Hg.out.below HB2.out)
      have z0 : w2.cell? ⟨w.heap.size + 1, 0, none⟩ = some (.int .i64 no) := (HV2.out.cell 0).trans h0
      have z34 : w2.cell? ⟨w.heap.size + 1, 34, none⟩ = some (.int .i64 i0) := (HV2.out.cell 34).trans h34
      have z35 : w2.cell? ⟨w.heap.size + 1, 35, none⟩ = some s1 := (HV2.out.cell 35).trans h35
      have z36 : w2.cell? ⟨w.heap.size + 1, 36, none⟩ = some s2 := (HV2.out.cell 36).trans h36
      have z37 : w2.cell? ⟨w.heap.size + 1, 37, none⟩ = some s3 := (HV2.out.cell 37).trans h37
      have ltV : w.heap.size + 1 < w2.heap.size := HV2.out.lt
      have ltX : w.heap.size < w2.heap.size := HX2.out.lt
      clear hb2 y0 y33
      go_upto_region 5 with (fail)
      refine wp_region_held_drew (S := fun W => Below w2.heap.size w2 W) (by kernel_rfl) (below_drewN (Below.refl _ _) 1) (fun Hd => ?_)
      have Hd : Below w2.heap.size w2 w2.drew := below_drewN (Below.refl _ _) 1
      have Zd : w2.heap.size ≤ w2.drew.heap.size := Nat.le_refl _
      generalize World.drew w2 = wd at *
      refine wpAnyH_take (i := 0) (v := ?_) rfl (by kernel_rfl) (by kernel_rfl) (by kernel_rfl) (fun _ _ _ h => h) (Or.inl ⟨by rfl, ?_⟩) Hd ?_
      rotate_left
      · intro wS hSw
        go_simp
        try with_reducible rfl
      try simp only [la0, la1, la2, Act.put, la3, la4, la5]
      refine wpAnyH_take (i := 1) (v := ?_) rfl (by kernel_rfl) (by kernel_rfl) (by kernel_rfl) (fun _ _ _ h => h) (Or.inl ⟨by rfl, ?_⟩) Hd ?_
      rotate_left
      · intro wS hSw
        go_simp
        try with_reducible rfl
      try simp only [la0, la1, la2, Act.put, la3, la4, la5]
      refine wpAnyH_take (i := 2) (v := ?_) rfl (by kernel_rfl) (by kernel_rfl) (by kernel_rfl) (fun _ _ _ h => h) (Or.inl ⟨by rfl, ?_⟩) Hd ?_
      rotate_left
      · intro wS hSw
        have cc := (hSw.cell (p := ⟨w.heap.size + 1, 34, none⟩) ltV).trans z34
        go_simp
        try with_reducible rfl
      try simp only [la0, la1, la2, Act.put, la3, la4, la5]
      refine wpAnyH_take (i := 3) (v := ?_) rfl (by kernel_rfl) (by kernel_rfl) (by kernel_rfl) (fun _ _ _ h => h) (Or.inl ⟨by rfl, ?_⟩) Hd ?_
      rotate_left
      · intro wS hSw
        go_simp
        try with_reducible rfl
      try simp only [la0, la1, la2, Act.put, la3, la4, la5]
      refine wpAnyH_take (i := 4) (v := ?_) rfl (by kernel_rfl) (by kernel_rfl) (by kernel_rfl) (fun _ _ _ h => h) (Or.inl ⟨by rfl, ?_⟩) Hd ?_
      rotate_left
      · intro wS hSw
        have cc := (hSw.cell (p := ⟨w.heap.size + 1, 0, none⟩) ltV).trans z0
        go_simp
        try with_reducible rfl
      try simp only [la0, la1, la2, Act.put, la3, la4, la5]
      refine wpAnyH_take (i := 5) (v := ?_) rfl (by kernel_rfl) (by kernel_rfl) (by kernel_rfl) (fun _ _ _ h => h) (Or.inl ⟨by rfl, ?_⟩) Hd ?_
      rotate_left
      · intro wS hSw
        go_simp
        try with_reducible rfl
      try simp only [la0, la1, la2, Act.put, la3, la4, la5]
      refine wpAnyH_take (i := 6) (v := ?_) rfl (by kernel_rfl) (by kernel_rfl) (by kernel_rfl) (fun _ _ _ h => h) (Or.inl ⟨by rfl, ?_⟩) Hd ?_
      rotate_left
      · intro wS hSw
        go_simp
        try with_reducible rfl
      try simp only [la0, la1, la2, Act.put, la3, la4, la5]
      refine wpAnyH_take (i := 7) (v := ?_) rfl (by kernel_rfl) (by kernel_rfl) (by kernel_rfl) (fun _ _ _ h => h) (Or.inl ⟨by rfl, ?_⟩) Hd ?_
      rotate_left
      · intro wS hSw
        go_simp
        try with_reducible rfl
      try simp only [la0, la1, la2, Act.put, la3, la4, la5]
      refine wpAnyH_take (i := 8) (v := undef) rfl (by kernel_rfl) (by kernel_rfl) (by kernel_rfl) (fun _ _ _ h => h) (Or.inr ⟨by rfl, rfl⟩) Hd ?_
      try simp only [la0, la1, la2, Act.put, la3, la4, la5]
      refine wpAnyH_take (i := 9) (v := undef) rfl (by kernel_rfl) (by kernel_rfl) (by kernel_rfl) (fun _ _ _ h => h) (Or.inr ⟨by rfl, rfl⟩) Hd ?_
      try simp only [la0, la1, la2, Act.put, la3, la4, la5]
      refine wpAnyH_take (i := 10) (v := undef) rfl (by kernel_rfl) (by kernel_rfl) (by kernel_rfl) (fun _ _ _ h => h) (Or.inr ⟨by rfl, rfl⟩) Hd ?_
      try simp only [la0, la1, la2, Act.put, la3, la4, la5]
      refine wpAnyH_take (i := 11) (v := undef) rfl (by kernel_rfl) (by kernel_rfl) (by kernel_rfl) (fun _ _ _ h => h) (Or.inr ⟨by rfl, rfl⟩) Hd ?_
      try simp only [la0, la1, la2, Act.put, la3, la4, la5]
      refine wpAnyH_take (i := 12) (v := undef) rfl (by kernel_rfl) (by kernel_rfl) (by kernel_rfl) (fun _ _ _ h => h) (Or.inr ⟨by rfl, rfl⟩) Hd ?_
      try simp only [la0, la1, la2, Act.put, la3, la4, la5]
      refine wpAnyH_take (i := 13) (v := undef) rfl (by kernel_rfl) (by kernel_rfl) (by kernel_rfl) (fun _ _ _ h => h) (Or.inr ⟨by rfl, rfl⟩) Hd ?_
      try simp only [la0, la1, la2, Act.put, la3, la4, la5]
      refine wpAnyH_take (i := 14) (v := undef) rfl (by kernel_rfl) (by kernel_rfl) (by kernel_rfl) (fun _ _ _ h => h) (Or.inr ⟨by rfl, rfl⟩) Hd ?_
      try simp only [la0, la1, la2, Act.put, la3, la4, la5]
      refine wpAnyH_take (i := 15) (v := undef) rfl (by kernel_rfl) (by kernel_rfl) (by kernel_rfl) (fun _ _ _ h => h) (Or.inr ⟨by rfl, rfl⟩) Hd ?_
      try simp only [la0, la1, la2, Act.put, la3, la4, la5]
      refine wpAnyH_take (i := 16) (v := ?_) rfl (by kernel_rfl) (by kernel_rfl) (by kernel_rfl) (fun _ _ _ h => h) (Or.inl ⟨by rfl, ?_⟩) Hd ?_
      rotate_left
      · intro wS hSw
        go_simp
        try with_reducible rfl
      try simp only [la0, la1, la2, Act.put, la3, la4, la5]
      refine wpAnyH_take (i := 17) (v := ?_) rfl (by kernel_rfl) (by kernel_rfl) (by kernel_rfl) (fun _ _ _ h => h) (Or.inl ⟨by rfl, ?_⟩) Hd ?_
      rotate_left
      · intro wS hSw
        go_simp
        try with_reducible rfl
      try simp only [la0, la1, la2, Act.put, la3, la4, la5]
      refine wpAnyH_done (by kernel_rfl) ?_ _
      go_wp2_with (fail)
      go_ret
      exact ⟨rfl, below_of HB2.out Hd HB2.out.size⟩
end Go.Proofs.Ytkflpoiobpblhaa
