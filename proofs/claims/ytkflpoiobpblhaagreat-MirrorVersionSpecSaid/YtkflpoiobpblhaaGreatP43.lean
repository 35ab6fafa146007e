/- Walks and plain laws that the statement rests on: MRf1, MSame, MSf. -/
import Derived.Deep.RegionHeld3
import Derived.Test.YtkflpoiobpblhaaGreatP00
import Derived.Test.YtkflpoiobpblhaaGreatP03
import Derived.Test.YtkflpoiobpblhaaGreatP37
import Derived.Test.YtkflpoiobpblhaaGreatPS
namespace Go.Proofs.YtkflpoiobpblhaaGreat
open Go.RowKit
set_option linter.unusedVariables false
set_option linter.unusedSimpArgs false
namespace Mir
def fewA (x : It) : Bool := decide (x.1.size ≤ 100) && decide (x.2.length ≤ 300)
def fewI (l : List It) : Bool := l.all fewA && decide (l.length ≤ 12)
def fewC (l : List Ch) : Bool := (l.all fun x => fewA x.1) && decide (l.length ≤ 12)
def fewV (v : Ve) : Bool := fewC v.ch && decide (v.sg.o.length ≤ 70) && decide (v.sg.c.length ≤ 70) && decide (v.sg.p.length ≤ 20)
theorem few_at {α : Type} {f : α → Bool} {l : List α} (h : ∀ k x, k < l.length → l[k]? = some x → f x = true) : l.all f = true := List.all_eq_true.2 fun x hx => by
  obtain ⟨k, hk, rfl⟩ := List.getElem_of_mem hx
  exact h k _ hk (List.getElem?_eq_getElem hk)
theorem few_bad {α : Type} {f : α → Bool} {l : List α} {k : Nat} {x : α} (h : l[k]? = some x) (hb : f x = false) : l.all f = false := List.all_eq_false.2 ⟨x, List.mem_of_getElem? h, by rw [hb]; simp⟩
end Mir
set_option maxRecDepth 100000 in
set_option maxHeartbeats 4000000 in
theorem rfew_any (A : Option Addr) (n c : Nat) (l : List Mir.It) (w : World) (hl : l.length = n) (hn : n ≤ 9223372036854775807) (hC : ItemsC w A l) :
    Calls Tryz.prog 7 #[.slice A n c] w fun e w' => e = .returned (.bool (Mir.fewI l)) ∧ w' = w := by
  have HC := Lib.hid hC
  have Hl := Lib.hid hl
  obtain ⟨R, hR⟩ : ∃ R, Mir.fewI l = R := ⟨_, rfl⟩
  have HR := Lib.hid hR
  rw [hR]
  clear hC hl hR
  go_enter Tryz.func7, Tryz.ntmps7
  go_wp2_with (fail)
  go_loopw [3] (fun i wr => ∃ k : Nat, k ≤ n ∧ i = .int .i64 k ∧ wr = w ∧ Hid (∀ j x, j < k → l[j]? = some x → Mir.fewA x = true)) (fun i _ => n - (intOf i).toNat)
  case atStart => exact ⟨0, by omega, rfl, rfl, Lib.hid (fun j x h => by omega)⟩
  case round =>
    obtain ⟨k, hk, rfl, rfl, hg⟩ := hrel
    by_cases hlt : k < n
    · obtain ⟨⟨s, dat⟩, hx⟩ := getElem?_lt (l := l) (k := k) (by rw [Hl.out]; exact hlt)
      obtain ⟨b, off, rfl, hb, hcs⟩ := HC.out.at_ (by rw [Hl.out]; omega)
      obtain ⟨D, cd, hc1, hc2, -⟩ := hcs _ _ hx
      simp only [] at hc1 hc2
      have Hx := Lib.hid hx
      obtain ⟨md, hmd⟩ : ∃ m, dat.length = m := ⟨_, rfl⟩
      rw [hmd] at hc2
      have Hmd := Lib.hid hmd
      obtain ⟨z, hz⟩ : ∃ m, s.size = m := ⟨_, rfl⟩
      have Hz := Lib.hid hz
      clear hcs hx hmd
      by_cases h1 : 100 < z
      · have d1 : decide ((100 : Int) < (s.size : Int)) = true := by simp; omega
        clear hz
        go_wp2_with (fail)
        go_ret
        exact ⟨by rw [← HR.out]; unfold Mir.fewI; rw [Mir.few_bad Hx.out (by unfold Mir.fewA; rw [Hz.out, decide_eq_false (by omega)]; rfl)]; rfl, rfl⟩
      · have d1 : decide ((100 : Int) < (s.size : Int)) = false := by simp; omega
        clear hz
        by_cases h2 : 300 < md
        · have d2 : decide ((300 : Int) < (md : Int)) = true := by simp; omega
          go_wp2_with (fail)
          go_ret
          exact ⟨by rw [← HR.out]; unfold Mir.fewI; rw [Mir.few_bad Hx.out (by unfold Mir.fewA; rw [Hmd.out, decide_eq_false (p := md ≤ 300) (by omega), Bool.and_false])]; rfl, rfl⟩
        · have d2 : decide ((300 : Int) < (md : Int)) = false := by simp; omega
          go_wp2_with (fail)
          go_roundw
          case rel => exact ⟨k + 1, by omega, by go_num, by first | rfl | trivial, Lib.hid (fun j x hj hx => by
            rcases Nat.lt_or_eq_of_le (Nat.le_of_lt_succ hj) with h | rfl
            · exact hg.out j x h hx
            · rw [Hx.out] at hx; cases hx
              unfold Mir.fewA
              rw [Hz.out, Hmd.out, decide_eq_true (by omega), decide_eq_true (by omega)]; rfl)⟩
          case measure => simp [intOf]; omega
    · obtain rfl : k = n := by omega
      go_wp2_with (fail)
      go_ret
      refine ⟨?_, rfl⟩
      rw [← HR.out]
      unfold Mir.fewI
      rw [Mir.few_at (fun j x hj hx => hg.out j x (by rw [← Hl.out]; exact hj) hx), Bool.true_and, Hl.out]
      exact ret_bool (by by_cases h : k ≤ 12 <;> simp [h] <;> omega)
set_option maxRecDepth 100000 in
set_option maxHeartbeats 4000000 in
theorem rfewC_any (A : Option Addr) (n c : Nat) (l : List Mir.Ch) (w : World) (hl : l.length = n) (hn : n ≤ 9223372036854775807) (hC : ChangesC w A l) :
    Calls Tryz.prog 8 #[.slice A n c] w fun e w' => e = .returned (.bool (Mir.fewC l)) ∧ Below w.heap.size w w' := by
  have HC := Lib.hid hC
  have Hl := Lib.hid hl
  have HF := Lib.hid (fun A x W h => rfew_any A 1 1 [x] W rfl (by omega) h)
  obtain ⟨R, hR⟩ : ∃ R, Mir.fewC l = R := ⟨_, rfl⟩
  have HR := Lib.hid hR
  rw [hR]
  clear hC hl hR
  go_enter Tryz.func8, Tryz.ntmps8
  go_wp2_with (fail)
  go_loopw [3] (fun i wr => ∃ k : Nat, k ≤ n ∧ i = .int .i64 k ∧ Hid (Below w.heap.size w wr) ∧ Hid (∀ (j : Nat) (x : Mir.Ch), j < k → l[j]? = some x → Mir.fewA x.1 = true)) (fun i _ => n - (intOf i).toNat)
  case atStart => exact ⟨0, by omega, rfl, Lib.hid (Below.refl _ _), Lib.hid (fun j x h => by omega)⟩
  case round =>
    obtain ⟨wk, rfl⟩ : ∃ v : World, v = wr := ⟨_, rfl⟩
    obtain ⟨k, hk, rfl, hB, hg⟩ := hrel
    by_cases hlt : k < n
    · obtain ⟨⟨⟨s, dat⟩, gon⟩, hx⟩ := getElem?_lt (l := l) (k := k) (by rw [Hl.out]; exact hlt)
      obtain ⟨b, off, rfl, hb, hcs⟩ := (HC.out.below hB.out).at_ (by rw [Hl.out]; omega)
      obtain ⟨D, cd, hc1, hc2, hc3, hcd, hcm, hcD, h8⟩ := hcs _ _ hx
      simp only [] at hc1 hc2 hc3 hcd hcD h8
      have Hx := Lib.hid hx
      have HcD := Lib.hid hcD
      have H8 := Lib.hid h8
      clear hcs hx hcD h8
      go_wp2_with (fail)
      generalize hge : World.alloc _ _ = wx
      have bX : Blk wx wk.heap.size 61 #[.string s, .slice D dat.length cd] := by subst hge; exact Blk.new wk _ _
      have hbX : Below wk.heap.size wk wx := by subst hge; exact (Below.refl _ _).alloc (Nat.le_refl _) _
      clear hge
      have hIt : ItemsC wx (some ⟨wk.heap.size, 0, none⟩) [(s, dat)] := ⟨[(D, cd)], rfl, cells_blk bX, fun i g x e1 e2 => by
        match i with
        | 0 => simp at e1 e2; subst e1; subst e2; exact ⟨hcd, hcm, HcD.out.below hbX, H8.out⟩
        | i + 1 => simp at e2⟩
      refine (HF.out _ _ _ hIt).mono ?_
      rintro e w2 ⟨rfl, rfl⟩
      have hB2 := Lib.hid (below_of hB.out hbX hB.out.size)
      obtain ⟨q, hq⟩ : ∃ q, Mir.fewI [(s, dat)] = q := ⟨_, rfl⟩
      have hqa : Mir.fewA (s, dat) = q := by rw [← hq]; unfold Mir.fewI; simp
      rw [hq]
      have Hqa := Lib.hid hqa
      clear hIt bX hbX hc1 hc2 hc3 hq hqa
      cases q with
      | false =>
        go_wp2_with (fail)
        go_ret
        exact ⟨by rw [← HR.out]; unfold Mir.fewC; rw [Mir.few_bad (f := fun x => Mir.fewA x.1) Hx.out Hqa.out]; rfl, hB2.out⟩
      | true =>
        go_wp2_with (fail)
        go_roundw
        case rel => exact ⟨k + 1, by omega, by go_num, hB2, Lib.hid (fun j x hj hx => by
          rcases Nat.lt_or_eq_of_le (Nat.le_of_lt_succ hj) with h | rfl
          · exact hg.out j x h hx
          · rw [Hx.out] at hx; cases hx; exact Hqa.out)⟩
        case measure => simp [intOf]; omega
    · obtain rfl : k = n := by omega
      go_wp2_with (fail)
      go_ret
      refine ⟨?_, hB.out⟩
      rw [← HR.out]
      unfold Mir.fewC
      rw [Mir.few_at (f := fun x => Mir.fewA x.1) (fun j x hj hx => hg.out j x (by rw [← Hl.out]; exact hj) hx), Bool.true_and, Hl.out]
      exact ret_bool (by by_cases h : k ≤ 12 <;> simp [h] <;> omega)
set_option maxRecDepth 100000 in
set_option maxHeartbeats 4000000 in
theorem rfewV_any (v : Mir.Ve) (V : Array Value) (w : World) (hV : VerC w v V) :
    Calls Tryz.prog 9 #[.agg V] w fun e w' => e = .returned (.bool (Mir.fewV v)) ∧ Below w.heap.size w w' := by
  obtain ⟨A, c, s0, s1, s2, s3, hVe, hst, hC, hlc, hcm, hg⟩ := hV
  obtain ⟨Ao, co, Ac, cc, Ap, cp, rfl, rfl, rfl, rfl, -⟩ := hg
  have hhi := Mir.verA_hi hst.1 v.no (.slice A v.ch.length c) (.int .i64 v.sg.i) (.slice Ao v.sg.o.length co) (.slice Ac v.sg.c.length cc) (.slice Ap v.sg.p.length cp)
  rw [← hVe] at hhi
  have h33 : V[33]? = some (.slice A v.ch.length c) := hhi 0
  have h35 : V[35]? = some (.slice Ao v.sg.o.length co) := hhi 2
  have h36 : V[36]? = some (.slice Ac v.sg.c.length cc) := hhi 3
  have h37 : V[37]? = some (.slice Ap v.sg.p.length cp) := hhi 4
  have HF := Lib.hid (fun W h => rfewC_any A v.ch.length c v.ch W rfl (by unfold maxLen at hcm; omega) h)
  have HC := Lib.hid hC
  obtain ⟨q, hq⟩ : ∃ q, Mir.fewC v.ch = q := ⟨_, rfl⟩
  have hR : Mir.fewV v = (q && decide (v.sg.o.length ≤ 70) && decide (v.sg.c.length ≤ 70) && decide (v.sg.p.length ≤ 20)) := by unfold Mir.fewV; rw [hq]
  rw [hq] at HF
  rw [hR]
  obtain ⟨n0, hn0⟩ : ∃ n, v.ch.length = n := ⟨_, rfl⟩
  obtain ⟨n1, hn1⟩ : ∃ n, v.sg.o.length = n := ⟨_, rfl⟩
  obtain ⟨n2, hn2⟩ : ∃ n, v.sg.c.length = n := ⟨_, rfl⟩
  obtain ⟨n3, hn3⟩ : ∃ n, v.sg.p.length = n := ⟨_, rfl⟩
  rw [hn0] at h33 HF
  rw [hn1] at h35
  rw [hn2] at h36
  rw [hn3] at h37
  rw [hn1, hn2, hn3]
  clear hVe hst hC hlc hcm hhi hq hR hn0 hn1 hn2 hn3
  have key : ∀ R, R = (q && decide (n1 ≤ 70) && decide (n2 ≤ 70) && decide (n3 ≤ 20)) → Calls Tryz.prog 9 #[.agg V] w fun e w' => e = .returned (.bool R) ∧ Below w.heap.size w w' := by
    intro R hR
    have HR := Lib.hid hR
    clear hR
    cases q with
    | false =>
      go_enter Tryz.func9, Tryz.ntmps9
      go_upto_region 1 with (fail)
      generalize hge : World.alloc _ _ = w1
      have hX0 := (show Blk w1 w.heap.size 34 V by subst hge; exact Blk.new w _ _)
      have HX := Lib.hid hX0
      have HBw := Lib.hid (show Below w.heap.size w w1 by subst hge; exact (Below.refl _ _).alloc (Nat.le_refl _) _)
      have y33 : w1.cell? ⟨w.heap.size, 33, none⟩ = some (.slice A n0 c) := (HX.out.cell 33).trans h33
      clear hge hX0
      go_wp2_with (fail)
      refine (HF.out _ (HC.out.below HBw.out)).mono ?_
      rintro e w2 ⟨rfl, hb2⟩
      have HB2 := Lib.hid (below_of HBw.out hb2 HBw.out.size)
      have z35 : w2.cell? ⟨w.heap.size, 35, none⟩ = some (.slice Ao n1 co) := ((HX.out.below hb2).cell 35).trans h35
      have z36 : w2.cell? ⟨w.heap.size, 36, none⟩ = some (.slice Ac n2 cc) := ((HX.out.below hb2).cell 36).trans h36
      have z37 : w2.cell? ⟨w.heap.size, 37, none⟩ = some (.slice Ap n3 cp) := ((HX.out.below hb2).cell 37).trans h37
      clear hb2 y33
      go_wp2_with (fail)
      go_ret
      exact ⟨ret_bool (by rw [HR.out]; rfl), HB2.out⟩
    | true =>
      by_cases h1 : n1 ≤ 70
      · have d1 : decide ((n1 : Int) ≤ 70) = true := by simp; omega
        by_cases h2 : n2 ≤ 70
        · have d2 : decide ((n2 : Int) ≤ 70) = true := by simp; omega
          by_cases h3 : n3 ≤ 20
          · have d3 : decide ((n3 : Int) ≤ 20) = true := by simp; omega
            go_enter Tryz.func9, Tryz.ntmps9
            go_upto_region 1 with (fail)
            generalize hge : World.alloc _ _ = w1
            have hX0 := (show Blk w1 w.heap.size 34 V by subst hge; exact Blk.new w _ _)
            have HX := Lib.hid hX0
            have HBw := Lib.hid (show Below w.heap.size w w1 by subst hge; exact (Below.refl _ _).alloc (Nat.le_refl _) _)
            have y33 : w1.cell? ⟨w.heap.size, 33, none⟩ = some (.slice A n0 c) := (HX.out.cell 33).trans h33
            clear hge hX0
            go_wp2_with (fail)
            refine (HF.out _ (HC.out.below HBw.out)).mono ?_
            rintro e w2 ⟨rfl, hb2⟩
            have HB2 := Lib.hid (below_of HBw.out hb2 HBw.out.size)
            have z35 : w2.cell? ⟨w.heap.size, 35, none⟩ = some (.slice Ao n1 co) := ((HX.out.below hb2).cell 35).trans h35
            have z36 : w2.cell? ⟨w.heap.size, 36, none⟩ = some (.slice Ac n2 cc) := ((HX.out.below hb2).cell 36).trans h36
            have z37 : w2.cell? ⟨w.heap.size, 37, none⟩ = some (.slice Ap n3 cp) := ((HX.out.below hb2).cell 37).trans h37
            clear hb2 y33
            go_wp2_with (fail)
            go_ret
            exact ⟨ret_bool (by rw [HR.out]; simp [h1, h2, h3]), HB2.out⟩
          · have d3 : decide ((n3 : Int) ≤ 20) = false := by simp; omega
            go_enter Tryz.func9, Tryz.ntmps9
            go_upto_region 1 with (fail)
            generalize hge : World.alloc _ _ = w1
            have hX0 := (show Blk w1 w.heap.size 34 V by subst hge; exact Blk.new w _ _)
            have HX := Lib.hid hX0
            have HBw := Lib.hid (show Below w.heap.size w w1 by subst hge; exact (Below.refl _ _).alloc (Nat.le_refl _) _)
            have y33 : w1.cell? ⟨w.heap.size, 33, none⟩ = some (.slice A n0 c) := (HX.out.cell 33).trans h33
            clear hge hX0
            go_wp2_with (fail)
            refine (HF.out _ (HC.out.below HBw.out)).mono ?_
            rintro e w2 ⟨rfl, hb2⟩
            have HB2 := Lib.hid (below_of HBw.out hb2 HBw.out.size)
            have z35 : w2.cell? ⟨w.heap.size, 35, none⟩ = some (.slice Ao n1 co) := ((HX.out.below hb2).cell 35).trans h35
            have z36 : w2.cell? ⟨w.heap.size, 36, none⟩ = some (.slice Ac n2 cc) := ((HX.out.below hb2).cell 36).trans h36
            have z37 : w2.cell? ⟨w.heap.size, 37, none⟩ = some (.slice Ap n3 cp) := ((HX.out.below hb2).cell 37).trans h37
            clear hb2 y33
            go_wp2_with (fail)
            go_ret
            exact ⟨ret_bool (by rw [HR.out]; simp; omega), HB2.out⟩
        · have d2 : decide ((n2 : Int) ≤ 70) = false := by simp; omega
          go_enter Tryz.func9, Tryz.ntmps9
          go_upto_region 1 with (fail)
          generalize hge : World.alloc _ _ = w1
          have hX0 := (show Blk w1 w.heap.size 34 V by subst hge; exact Blk.new w _ _)
          have HX := Lib.hid hX0
          have HBw := Lib.hid (show Below w.heap.size w w1 by subst hge; exact (Below.refl _ _).alloc (Nat.le_refl _) _)
          have y33 : w1.cell? ⟨w.heap.size, 33, none⟩ = some (.slice A n0 c) := (HX.out.cell 33).trans h33
          clear hge hX0
          go_wp2_with (fail)
          refine (HF.out _ (HC.out.below HBw.out)).mono ?_
          rintro e w2 ⟨rfl, hb2⟩
          have HB2 := Lib.hid (below_of HBw.out hb2 HBw.out.size)
          have z35 : w2.cell? ⟨w.heap.size, 35, none⟩ = some (.slice Ao n1 co) := ((HX.out.below hb2).cell 35).trans h35
          have z36 : w2.cell? ⟨w.heap.size, 36, none⟩ = some (.slice Ac n2 cc) := ((HX.out.below hb2).cell 36).trans h36
          have z37 : w2.cell? ⟨w.heap.size, 37, none⟩ = some (.slice Ap n3 cp) := ((HX.out.below hb2).cell 37).trans h37
          clear hb2 y33
          go_wp2_with (fail)
          go_ret
          exact ⟨ret_bool (by rw [HR.out]; simp; omega), HB2.out⟩
      · have d1 : decide ((n1 : Int) ≤ 70) = false := by simp; omega
        go_enter Tryz.func9, Tryz.ntmps9
        go_upto_region 1 with (fail)
        generalize hge : World.alloc _ _ = w1
        have hX0 := (show Blk w1 w.heap.size 34 V by subst hge; exact Blk.new w _ _)
        have HX := Lib.hid hX0
        have HBw := Lib.hid (show Below w.heap.size w w1 by subst hge; exact (Below.refl _ _).alloc (Nat.le_refl _) _)
        have y33 : w1.cell? ⟨w.heap.size, 33, none⟩ = some (.slice A n0 c) := (HX.out.cell 33).trans h33
        clear hge hX0
        go_wp2_with (fail)
        refine (HF.out _ (HC.out.below HBw.out)).mono ?_
        rintro e w2 ⟨rfl, hb2⟩
        have HB2 := Lib.hid (below_of HBw.out hb2 HBw.out.size)
        have z35 : w2.cell? ⟨w.heap.size, 35, none⟩ = some (.slice Ao n1 co) := ((HX.out.below hb2).cell 35).trans h35
        have z36 : w2.cell? ⟨w.heap.size, 36, none⟩ = some (.slice Ac n2 cc) := ((HX.out.below hb2).cell 36).trans h36
        have z37 : w2.cell? ⟨w.heap.size, 37, none⟩ = some (.slice Ap n3 cp) := ((HX.out.below hb2).cell 37).trans h37
        clear hb2 y33
        go_wp2_with (fail)
        go_ret
        exact ⟨ret_bool (by rw [HR.out]; simp; omega), HB2.out⟩
  exact key _ rfl
end Go.Proofs.YtkflpoiobpblhaaGreat
namespace Go.Proofs.YtkflpoiobpblhaaGreat
open Go.RowKit Go.Shelf
set_option linter.unusedVariables false
set_option linter.unusedSimpArgs false
end Go.Proofs.YtkflpoiobpblhaaGreat
namespace Go.Proofs.YtkflpoiobpblhaaGreat
open Go.RowKit
set_option linter.unusedVariables false
set_option linter.unusedSimpArgs false
end Go.Proofs.YtkflpoiobpblhaaGreat
