/- Walks and plain laws that the statement rests on: MR6. -/
import Derived.Test.YtkflpoiobpblhaaGreatP00
import Derived.Test.YtkflpoiobpblhaaGreatP37
import Derived.Test.YtkflpoiobpblhaaGreatP43
import Derived.Test.YtkflpoiobpblhaaGreatP46
import Derived.Test.YtkflpoiobpblhaaGreatPS
import Derived.Test.YtkflpoiobpblhaaGreatP44
set_option maxRecDepth 100000
set_option maxHeartbeats 16000000
set_option linter.unusedVariables false
set_option linter.unusedSimpArgs false
namespace Go.Proofs.YtkflpoiobpblhaaGreat
open Go.RowKit Go.Shelf
theorem rsamech_any (A B : Option Addr) (n c d : Nat) (l : List Mir.Ch) (w : World) (hl : l.length = n) (hn : n ≤ 1000000) (hA : ChangesC w A l) (hB : ChangesC w B l) :
    Calls Tryz.prog 37 #[.slice A n c, .slice B n d] w fun e w' => e = .returned (.bool true) ∧ Below w.heap.size w w' := by
 have HA := θ hA
 have HB := θ hB
 have Hl := θ hl
 clear hA hB hl
 go_enter Tryz.func37, Tryz.ntmps37
 go_wp2_with fail
 go_loopw [5] (fun i wr => ∃ k : Nat, k ≤ n ∧ i = .int .i64 k ∧ Hid (Below w.heap.size w wr)) (fun i _ => n - (intOf i).toNat)
 case atStart => exact ⟨0, by omega, rfl, θ (Below.refl _ _)⟩
 obtain ⟨wk, rfl⟩ : ∃ v : World, v = wr := ⟨_, rfl⟩
 obtain ⟨k, hk, rfl, hBw⟩ := hrel
 by_cases hlt : k < n
 · obtain ⟨⟨⟨s1, d1⟩, g1⟩, hx⟩ := getElem?_lt (l := l) (k := k) (by rw [Hl.out]; exact hlt)
   obtain ⟨b1, o1, rfl, hb1, hc1⟩ := (HA.out.below hBw.out).at_ (by rw [Hl.out]; omega)
   obtain ⟨b2, o2, rfl, hb2, hc2⟩ := (HB.out.below hBw.out).at_ (by rw [Hl.out]; omega)
   obtain ⟨D1, e1, x0, x1, x2, -, -, hD1, h81⟩ := hc1 _ _ hx
   obtain ⟨D2, e2, y0, y1, y2, -, -, hD2, h82⟩ := hc2 _ _ hx
   simp only [] at x0 x1 x2 y0 y1 y2 hD1 hD2 h81 h82
   have HD1 := θ hD1
   have HD2 := θ hD2
   obtain ⟨S1, hS1⟩ := exq (strOfNums (d1.map Int.ofNat))
   have HS1 := θ hS1
   obtain ⟨md, hmd⟩ := exq d1.length
   rw [hmd] at x1 y1
   have Hm1 := θ hmd
   have gN : (s1.toList == s1.toList) = true := by simp
   have gD : (S1.toList == S1.toList) = true := by simp
   have gg : (g1 == g1) = true := by simp
   have gg2 : (g1 != g1) = false := by simp
   have gg3 : decide (g1 = g1) = true := by simp
   clear hc1 hc2 hx hD1 hD2 h81 h82 hS1 hmd
   go_upto_region 6 with fail
   refine wp_region_held_drew (S := fun W => Below wk.heap.size wk W) (by kernel_rfl) (below_drewN (Below.refl _ _) 1) (fun Hd => ?_)
   have Hd : Below wk.heap.size wk wk.drew := below_drewN (Below.refl _ _) 1
   have Zd : wk.heap.size ≤ wk.drew.heap.size := Nat.le_refl _
   generalize World.drew wk = wd at *
   refine tq 0 rfl Hd ?_
   refine tq 1 rfl Hd ?_
   try simp only [la, Act.put]
   refine tq 2 rfl Hd ?_
   refine tq 3 rfl Hd ?_
   try simp only [la, Act.put]
   refine ts 4 rfl Hd (fun wS hSw => by
    have cc := (hSw.cell (p := ⟨b1, o1 + k * 3 + 2, none⟩) hb1).trans x2
    go_simp
    try with_reducible rfl) ?_
   refine tq 5 rfl Hd ?_
   try simp only [la, Act.put]
   refine tq 6 rfl Hd ?_
   refine tq 7 rfl Hd ?_
   try simp only [la, Act.put]
   refine tq 8 rfl Hd ?_
   refine ts 9 rfl Hd (fun wS hSw => by
    have cc := (hSw.cell (p := ⟨b2, o2 + k * 3 + 2, none⟩) hb2).trans y2
    go_simp
    try with_reducible rfl) ?_
   try simp only [la, Act.put]
   refine tq 10 rfl Hd ?_
   refine tq 11 rfl Hd ?_
   try simp only [la, Act.put]
   refine tq 12 rfl Hd ?_
   refine tq 13 rfl Hd ?_
   try simp only [la, Act.put]
   refine tq 14 rfl Hd ?_
   refine tq 15 rfl Hd ?_
   try simp only [la, Act.put]
   refine tq 16 rfl Hd ?_
   refine ts 17 rfl Hd (fun wS hSw => by
    have cc := (hSw.cell (p := ⟨b1, o1 + k * 3, none⟩) hb1).trans x0
    go_simp
    try with_reducible rfl) ?_
   try simp only [la, Act.put]
   refine tq 18 rfl Hd ?_
   refine tq 19 rfl Hd ?_
   try simp only [la, Act.put]
   refine tq 20 rfl Hd ?_
   refine tq 21 rfl Hd ?_
   try simp only [la, Act.put]
   refine tq 22 rfl Hd ?_
   refine ts 23 rfl Hd (fun wS hSw => by
    have cc := (hSw.cell (p := ⟨b2, o2 + k * 3, none⟩) hb2).trans y0
    go_simp
    try with_reducible rfl) ?_
   try simp only [la, Act.put]
   refine tq 24 rfl Hd ?_
   refine tq 25 rfl Hd ?_
   try simp only [la, Act.put]
   refine tq 26 rfl Hd ?_
   refine tq 27 rfl Hd ?_
   try simp only [la, Act.put]
   refine tq 28 rfl Hd ?_
   refine tq 29 rfl Hd ?_
   try simp only [la, Act.put]
   refine tq 30 rfl Hd ?_
   refine tq 31 rfl Hd ?_
   try simp only [la, Act.put]
   refine ts 32 rfl Hd (fun wS hSw => by
    have cc := (hSw.cell (p := ⟨b1, o1 + k * 3 + 1, none⟩) hb1).trans x1
    go_simp
    try with_reducible rfl) ?_
   refine ts 33 rfl Hd (fun wS hSw => by
    have cv : (convert 22 9 (.slice D1 md e1)).run Tryz.prog wS = .ok (.string S1) wS := by
     have := (bytesIn_of (HD1.out.below hSw)).convert (P := Tryz.prog) (by simp) e1 22 5 9 Tryz.underlying22 Tryz.underlying5 Tryz.underlying9
     rw [HS1.out, Hm1.out] at this
     exact this
    go_simp
    try with_reducible rfl) ?_
   try simp only [la, Act.put]
   refine tq 34 rfl Hd ?_
   refine tq 35 rfl Hd ?_
   try simp only [la, Act.put]
   refine tq 36 rfl Hd ?_
   refine tq 37 rfl Hd ?_
   try simp only [la, Act.put]
   refine tq 38 rfl Hd ?_
   refine ts 39 rfl Hd (fun wS hSw => by
    have cc := (hSw.cell (p := ⟨b2, o2 + k * 3 + 1, none⟩) hb2).trans y1
    go_simp
    try with_reducible rfl) ?_
   try simp only [la, Act.put]
   refine ts 40 rfl Hd (fun wS hSw => by
    have cv : (convert 22 9 (.slice D2 md e2)).run Tryz.prog wS = .ok (.string S1) wS := by
     have := (bytesIn_of (HD2.out.below hSw)).convert (P := Tryz.prog) (by simp) e2 22 5 9 Tryz.underlying22 Tryz.underlying5 Tryz.underlying9
     rw [HS1.out, Hm1.out] at this
     exact this
    go_simp
    try with_reducible rfl) ?_
   refine tq 41 rfl Hd ?_
   try simp only [la, Act.put]
   refine tq 42 rfl Hd ?_
   try simp only [la, Act.put]
   refine td ?_ _
   have hB2 := θ (bo hBw Hd)
   go_wp2_with fail
   go_roundw
   case rel => exact ⟨k + 1, by omega, by go_num, hB2⟩
   case measure => simp [intOf]; omega
 obtain rfl : k = n := by omega
 go_wp2_with fail
 go_ret
 exact ⟨rfl, hBw.out⟩
theorem ver_range {w w' : World} {v : Mir.Ve} {V : Array Value} {X : Nat} {t : TypeId} (hV : VerC w v V) (hX : Blk w' X t V) : w'.rangeAt X 1 (v.st.map fun (n : Nat) => Value.int .u8 (n : Int)) := fun i u hu => by
 obtain ⟨hd, hm⟩ := hV.st
 have hi : i < 32 := by have := (List.getElem?_eq_some_iff.1 hu).1; rw [List.length_map, hd.1] at this; exact this
 rw [hX.cell, hm i hi, ← Array.getElem?_toList, arrK_toList]
 exact hu
theorem rsamev_any (v : Mir.Ve) (V U : Array Value) (w : World) (hV : VerC w v V) (hU : VerC w v U) (hc : v.ch.length ≤ 1000000) (ho : v.sg.o.length ≤ 1000000) (hcl : v.sg.c.length ≤ 1000000) (hp : v.sg.p.length ≤ 1000000) :
    Calls Tryz.prog 12 #[.agg V, .agg U] w fun e w' => e = .returned (.bool true) ∧ Below w.heap.size w w' := by
 have HV := θ hV
 have HU := θ hU
 have Hd := θ hV.st.1
 obtain ⟨A, c, s0, s1, s2, s3, hVe, hst, hC, -, -, hg⟩ := hV
 obtain ⟨A', c', t0, t1, t2, t3, hUe, -, hC', -, -, hg'⟩ := hU
 obtain ⟨Ao, co, Ac, cc, Ap, cp, rfl, rfl, rfl, rfl, x1, x2, x3, iO, iC, iP, -⟩ := hg
 obtain ⟨Ao', co', Ac', cc', Ap', cp', rfl, rfl, rfl, rfl, y1, y2, y3, -⟩ := hg'
 obtain ⟨no, hno⟩ := exq v.no
 obtain ⟨nc, hnc⟩ := exq v.ch.length
 obtain ⟨n1, hn1⟩ := exq v.sg.o.length
 obtain ⟨n2, hn2⟩ := exq v.sg.c.length
 obtain ⟨n3, hn3⟩ := exq v.sg.p.length
 obtain ⟨si, hsi⟩ := exq v.sg.i
 rw [hno, hnc, hn1, hn2, hn3, hsi] at hVe hUe
 rw [hnc] at hc
 rw [hn1] at ho
 rw [hn2] at hcl
 rw [hn3] at hp
 have hhi := Mir.verA_hi hst.1 no (.slice A nc c) (.int .i64 si) (.slice Ao n1 co) (.slice Ac n2 cc) (.slice Ap n3 cp)
 have ghi := Mir.verA_hi hst.1 no (.slice A' nc c') (.int .i64 si) (.slice Ao' n1 co') (.slice Ac' n2 cc') (.slice Ap' n3 cp')
 have h0 := Mir.verA_0 no v.st (.slice A nc c) (.int .i64 si) (.slice Ao n1 co) (.slice Ac n2 cc) (.slice Ap n3 cp)
 have g0 := Mir.verA_0 no v.st (.slice A' nc c') (.int .i64 si) (.slice Ao' n1 co') (.slice Ac' n2 cc') (.slice Ap' n3 cp')
 rw [← hVe] at hhi h0
 rw [← hUe] at ghi g0
 have HSc := θ (fun W h1 h2 => rsamech_any A A' nc c c' v.ch W hnc hc h1 h2)
 have HSs := θ (fun W a1 a2 a3 a4 a5 a6 => samesig_any si Ao Ao' Ac Ac' Ap Ap' n1 n2 n3 co co' cc cc' cp cp' v.sg.o v.sg.c v.sg.p W hn1 hn2 hn3 iO iC iP ho hcl hp a1 a2 a3 a4 a5 a6)
 have HC := θ (And.intro hC hC')
 have HX := θ (And.intro x1 (And.intro x2 x3))
 have HY := θ (And.intro y1 (And.intro y2 y3))
 have hEq : ∀ W, (Op.equalIn 10000 29 (.agg (v.st.map fun (n : Nat) => Value.int .u8 (n : Int)).toArray) (.agg (v.st.map fun (n : Nat) => Value.int .u8 (n : Int)).toArray)).run Tryz.prog W = .ok true W := fun W => by
  have := run_eqD hst hst W
  rw [decide_eq_true rfl] at this
  have e : arrK .u8 v.st = (v.st.map fun (n : Nat) => Value.int .u8 (n : Int)).toArray := by rw [← arrK_toList]
  rw [← e]
  exact this
 have f33 := hhi 0
 have f34 := hhi 1
 have f35 := hhi 2
 have f36 := hhi 3
 have f37 := hhi 4
 have q33 := ghi 0
 have q34 := ghi 1
 have q35 := ghi 2
 have q36 := ghi 3
 have q37 := ghi 4
 have gi : (no == no) = true := by simp
 have gi2 : decide (no = no) = true := by simp
 clear hhi ghi hVe hUe hst hC hC' x1 x2 x3 y1 y2 y3 iO iC iP hno hnc hn1 hn2 hn3 hsi
 go_enter Tryz.func12, Tryz.ntmps12
 go_upto_region 1 with fail
 generalize hge : World.alloc (World.alloc _ _) _ = w1
 have HBV := θ (show Blk w1 w.heap.size 34 V by subst hge; exact (blk_two w V U 34 34).1)
 have HBU := θ (show Blk w1 (w.heap.size + 1) 34 U by subst hge; exact (blk_two w V U 34 34).2)
 have HB := θ (al2 hge)
 clear hge
 have c0 : w1.cell? ⟨w.heap.size, 0, none⟩ = some (.int .i64 no) := (HBV.out.cell 0).trans h0
 have d0 : w1.cell? ⟨w.heap.size + 1, 0, none⟩ = some (.int .i64 no) := (HBU.out.cell 0).trans g0
 have c33 : w1.cell? ⟨w.heap.size, 33, none⟩ = some (.slice A nc c) := (HBV.out.cell 33).trans f33
 have d33 : w1.cell? ⟨w.heap.size + 1, 33, none⟩ = some (.slice A' nc c') := (HBU.out.cell 33).trans q33
 have R1 := θ (ver_range HV.out HBV.out)
 have R2 := θ (ver_range HU.out HBU.out)
 go_wp2_with (first
  | (refine wpList_load_mid_g 29 (.tmp 11) (by rfl) (by kernel_rfl) w.heap.size 1 rfl (v.st.map fun (n : Nat) => Value.int .u8 (n : Int)) (.array 32 5) R1.out (by kernel_rfl) rfl (dV_info Hd.out.1) ?_)
  | (refine wpList_load_mid_g 29 (.tmp 13) (by rfl) (by kernel_rfl) (w.heap.size + 1) 1 rfl (v.st.map fun (n : Nat) => Value.int .u8 (n : Int)) (.array 32 5) R2.out (by kernel_rfl) rfl (dV_info Hd.out.1) ?_))
 refine (HSc.out w1 (HC.out.1.below HB.out) (HC.out.2.below HB.out)).mono ?_
 rintro e w2 ⟨rfl, hb2⟩
 have HB2 := θ (bo HB hb2)
 have HBV2 := θ (HBV.out.below hb2)
 have HBU2 := θ (HBU.out.below hb2)
 clear hb2 c0 d0 c33 d33 R1 R2
 have c34 : w2.cell? ⟨w.heap.size, 34, none⟩ = some (.int .i64 si) := (HBV2.out.cell 34).trans f34
 have c35 : w2.cell? ⟨w.heap.size, 35, none⟩ = some (.slice Ao n1 co) := (HBV2.out.cell 35).trans f35
 have c36 : w2.cell? ⟨w.heap.size, 36, none⟩ = some (.slice Ac n2 cc) := (HBV2.out.cell 36).trans f36
 have c37 : w2.cell? ⟨w.heap.size, 37, none⟩ = some (.slice Ap n3 cp) := (HBV2.out.cell 37).trans f37
 have d34 : w2.cell? ⟨w.heap.size + 1, 34, none⟩ = some (.int .i64 si) := (HBU2.out.cell 34).trans q34
 have d35 : w2.cell? ⟨w.heap.size + 1, 35, none⟩ = some (.slice Ao' n1 co') := (HBU2.out.cell 35).trans q35
 have d36 : w2.cell? ⟨w.heap.size + 1, 36, none⟩ = some (.slice Ac' n2 cc') := (HBU2.out.cell 36).trans q36
 have d37 : w2.cell? ⟨w.heap.size + 1, 37, none⟩ = some (.slice Ap' n3 cp') := (HBU2.out.cell 37).trans q37
 go_wp2_with fail
 refine (HSs.out w2 (HX.out.1.below HB2.out) (HY.out.1.below HB2.out) (HX.out.2.1.below HB2.out) (HY.out.2.1.below HB2.out) (HX.out.2.2.below HB2.out) (HY.out.2.2.below HB2.out)).mono ?_
 rintro e w3 ⟨rfl, hb3⟩
 go_wp2_with fail
 go_ret
 exact ⟨rfl, bo HB2 hb3⟩
end Go.Proofs.YtkflpoiobpblhaaGreat
