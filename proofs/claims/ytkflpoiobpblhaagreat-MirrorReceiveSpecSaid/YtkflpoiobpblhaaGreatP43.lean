/- Walks and plain laws that the statement rests on: MRf1, MSame, MSf. -/
import Derived.Deep.RegionHeld3
import Derived.Test.YtkflpoiobpblhaaGreatP00
import Derived.Test.YtkflpoiobpblhaaGreatP03
import Derived.Test.YtkflpoiobpblhaaGreatP37
import Derived.Test.YtkflpoiobpblhaaGreatPS
import Derived.Test.YtkflpoiobpblhaaGreatP44
set_option maxRecDepth 100000
set_option maxHeartbeats 16000000
set_option linter.unusedVariables false
set_option linter.unusedSimpArgs false
namespace Go.Proofs.YtkflpoiobpblhaaGreat
open Go.RowKit
namespace Mir
def fewA (x : It) : Bool := decide (x.1.size ≤ 100) && decide (x.2.length ≤ 300)
def fewI (l : List It) : Bool := l.all fewA && decide (l.length ≤ 12)
def fewC (l : List Ch) : Bool := (l.all fun x => fewA x.1) && decide (l.length ≤ 12)
def fewV (v : Ve) : Bool := fewC v.ch && decide (v.sg.o.length ≤ 70) && decide (v.sg.c.length ≤ 70) && decide (v.sg.p.length ≤ 20)
theorem few_at {α : Type} {f : α → Bool} {l : List α} (h : ∀ k x, k < l.length → l[k]? = some x → f x = true) : l.all f = true := List.all_eq_true.2 fun x hx => by
 obtain ⟨k, hk, rfl⟩ := List.getElem_of_mem hx
 exact h k _ hk (List.getElem?_eq_getElem hk)
theorem few_bad {α : Type} {f : α → Bool} {l : List α} {k : Nat} {x : α} (h : l[k]? = some x) (hb : f x = false) : l.all f = false := List.all_eq_false.2 ⟨x, List.mem_of_getElem? h, by rw [hb]; simp⟩
end Mir
theorem rfew_any (A : Option Addr) (n c : Nat) (l : List Mir.It) (w : World) (hl : l.length = n) (hn : n ≤ 9223372036854775807) (hC : ItemsC w A l) :
    Calls Tryz.prog 7 #[.slice A n c] w fun e w' => e = .returned (.bool (Mir.fewI l)) ∧ w' = w := by
 have HC := θ hC
 have Hl := θ hl
 obtain ⟨R, hR⟩ := exq (Mir.fewI l)
 have HR := θ hR
 rw [hR]
 clear hC hl hR
 go_enter Tryz.func7, Tryz.ntmps7
 go_wp2_with fail
 go_loopw [3] (fun i wr => ∃ k : Nat, k ≤ n ∧ i = .int .i64 k ∧ wr = w ∧ Hid (∀ j x, j < k → l[j]? = some x → Mir.fewA x = true)) (fun i _ => n - (intOf i).toNat)
 case atStart => exact ⟨0, by omega, rfl, rfl, θ (fun j x h => by omega)⟩
 obtain ⟨k, hk, rfl, rfl, hg⟩ := hrel
 by_cases hlt : k < n
 · obtain ⟨⟨s, dat⟩, hx⟩ := getElem?_lt (l := l) (k := k) (by rw [Hl.out]; exact hlt)
   obtain ⟨b, off, rfl, hb, hcs⟩ := HC.out.at_ (by rw [Hl.out]; omega)
   obtain ⟨D, cd, hc1, hc2, -⟩ := hcs _ _ hx
   simp only [] at hc1 hc2
   have Hx := θ hx
   obtain ⟨md, hmd⟩ := exq dat.length
   rw [hmd] at hc2
   have Hmd := θ hmd
   obtain ⟨z, hz⟩ := exq s.size
   have Hz := θ hz
   clear hcs hx hmd
   by_cases h1 : 100 < z
   · have d1 : decide ((100 : Int) < (s.size : Int)) = true := by simp; omega
     clear hz
     go_wp2_with fail
     go_ret
     exact ⟨by rw [← HR.out]; unfold Mir.fewI; rw [Mir.few_bad Hx.out (by unfold Mir.fewA; rw [Hz.out, decide_eq_false (by omega)]; rfl)]; rfl, rfl⟩
   have d1 : decide ((100 : Int) < (s.size : Int)) = false := by simp; omega
   clear hz
   by_cases h2 : 300 < md
   · have d2 : decide ((300 : Int) < (md : Int)) = true := by simp; omega
     go_wp2_with fail
     go_ret
     exact ⟨by rw [← HR.out]; unfold Mir.fewI; rw [Mir.few_bad Hx.out (by unfold Mir.fewA; rw [Hmd.out, decide_eq_false (p := md ≤ 300) (by omega), Bool.and_false])]; rfl, rfl⟩
   have d2 : decide ((300 : Int) < (md : Int)) = false := by simp; omega
   go_wp2_with fail
   go_roundw
   case rel => exact ⟨k + 1, by omega, by go_num, by first | rfl | trivial, θ (fun j x hj hx => by
    rcases Nat.lt_or_eq_of_le (Nat.le_of_lt_succ hj) with h | rfl
    · exact hg.out j x h hx
    · rw [Hx.out] at hx; cases hx
      unfold Mir.fewA
      rw [Hz.out, Hmd.out, decide_eq_true (by omega), decide_eq_true (by omega)]; rfl)⟩
   case measure => simp [intOf]; omega
 obtain rfl : k = n := by omega
 go_wp2_with fail
 go_ret
 refine ⟨?_, rfl⟩
 rw [← HR.out]
 unfold Mir.fewI
 rw [Mir.few_at (fun j x hj hx => hg.out j x (by rw [← Hl.out]; exact hj) hx), Bool.true_and, Hl.out]
 exact ret_bool (by by_cases h : k ≤ 12 <;> simp [h] <;> omega)
theorem rfewC_any (A : Option Addr) (n c : Nat) (l : List Mir.Ch) (w : World) (hl : l.length = n) (hn : n ≤ 9223372036854775807) (hC : ChangesC w A l) :
    Calls Tryz.prog 8 #[.slice A n c] w fun e w' => e = .returned (.bool (Mir.fewC l)) ∧ Below w.heap.size w w' := by
 have HC := θ hC
 have Hl := θ hl
 have HF := θ (fun A x W h => rfew_any A 1 1 [x] W rfl (by omega) h)
 obtain ⟨R, hR⟩ := exq (Mir.fewC l)
 have HR := θ hR
 rw [hR]
 clear hC hl hR
 go_enter Tryz.func8, Tryz.ntmps8
 go_wp2_with fail
 go_loopw [3] (fun i wr => ∃ k : Nat, k ≤ n ∧ i = .int .i64 k ∧ Hid (Below w.heap.size w wr) ∧ Hid (∀ (j : Nat) (x : Mir.Ch), j < k → l[j]? = some x → Mir.fewA x.1 = true)) (fun i _ => n - (intOf i).toNat)
 case atStart => exact ⟨0, by omega, rfl, θ (Below.refl _ _), θ (fun j x h => by omega)⟩
 obtain ⟨wk, rfl⟩ : ∃ v : World, v = wr := ⟨_, rfl⟩
 obtain ⟨k, hk, rfl, hB, hg⟩ := hrel
 by_cases hlt : k < n
 · obtain ⟨⟨⟨s, dat⟩, gon⟩, hx⟩ := getElem?_lt (l := l) (k := k) (by rw [Hl.out]; exact hlt)
   obtain ⟨b, off, rfl, hb, hcs⟩ := (HC.out.below hB.out).at_ (by rw [Hl.out]; omega)
   obtain ⟨D, cd, hc1, hc2, hc3, hcd, hcm, hcD, h8⟩ := hcs _ _ hx
   simp only [] at hc1 hc2 hc3 hcd hcD h8
   have Hx := θ hx
   have HcD := θ hcD
   have H8 := θ h8
   clear hcs hx hcD h8
   go_wp2_with fail
   generalize hge : World.alloc _ _ = wx
   have bX : Blk wx wk.heap.size 61 #[.string s, .slice D dat.length cd] := by subst hge; exact Blk.new wk _ _
   have hbX := al1 hge
   clear hge
   have hIt : ItemsC wx (some ⟨wk.heap.size, 0, none⟩) [(s, dat)] := ⟨[(D, cd)], rfl, cells_blk bX, fun i g x e1 e2 => by
    match i with
    | 0 => simp at e1 e2; subst e1; subst e2; exact ⟨hcd, hcm, HcD.out.below hbX, H8.out⟩
    | i + 1 => simp at e2⟩
   refine (HF.out _ _ _ hIt).mono ?_
   rintro e w2 ⟨rfl, rfl⟩
   have hB2 := θ (bo hB hbX)
   obtain ⟨q, hq⟩ := exq (Mir.fewI [(s, dat)])
   have hqa : Mir.fewA (s, dat) = q := by rw [← hq]; unfold Mir.fewI; simp
   rw [hq]
   have Hqa := θ hqa
   clear hIt bX hbX hc1 hc2 hc3 hq hqa
   cases q with
   | false =>
     go_wp2_with fail
     go_ret
     exact ⟨by rw [← HR.out]; unfold Mir.fewC; rw [Mir.few_bad (f := fun x => Mir.fewA x.1) Hx.out Hqa.out]; rfl, hB2.out⟩
   | true =>
     go_wp2_with fail
     go_roundw
     case rel => exact ⟨k + 1, by omega, by go_num, hB2, θ (fun j x hj hx => by
      rcases Nat.lt_or_eq_of_le (Nat.le_of_lt_succ hj) with h | rfl
      · exact hg.out j x h hx
      · rw [Hx.out] at hx; cases hx; exact Hqa.out)⟩
     case measure => simp [intOf]; omega
 obtain rfl : k = n := by omega
 go_wp2_with fail
 go_ret
 refine ⟨?_, hB.out⟩
 rw [← HR.out]
 unfold Mir.fewC
 rw [Mir.few_at (f := fun x => Mir.fewA x.1) (fun j x hj hx => hg.out j x (by rw [← Hl.out]; exact hj) hx), Bool.true_and, Hl.out]
 exact ret_bool (by by_cases h : k ≤ 12 <;> simp [h] <;> omega)
theorem rfewV_any (v : Mir.Ve) (V : Array Value) (w : World) (hV : VerC w v V) :
    Calls Tryz.prog 9 #[.agg V] w fun e w' => e = .returned (.bool (Mir.fewV v)) ∧ Below w.heap.size w w' := by
 obtain ⟨A, c, s0, s1, s2, s3, hVe, hst, hC, hlc, hcm, hg⟩ := hV
 obtain ⟨Ao, co, Ac, cc, Ap, cp, rfl, rfl, rfl, rfl, -⟩ := hg
 have hhi := Mir.verA_hi hst.1 v.no (.slice A v.ch.length c) (.int .i64 v.sg.i) (.slice Ao v.sg.o.length co) (.slice Ac v.sg.c.length cc) (.slice Ap v.sg.p.length cp)
 rw [← hVe] at hhi
 have h33 : V[33]? = some (.slice A v.ch.length c) := hhi 0
 have h35 : V[35]? = some (.slice Ao v.sg.o.length co) := hhi 2
 have h36 : V[36]? = some (.slice Ac v.sg.c.length cc) := hhi 3
 have h37 : V[37]? = some (.slice Ap v.sg.p.length cp) := hhi 4
 have HF := θ (fun W h => rfewC_any A v.ch.length c v.ch W rfl (by unfold maxLen at hcm; omega) h)
 have HC := θ hC
 obtain ⟨q, hq⟩ := exq (Mir.fewC v.ch)
 have hR : Mir.fewV v = (q && decide (v.sg.o.length ≤ 70) && decide (v.sg.c.length ≤ 70) && decide (v.sg.p.length ≤ 20)) := by unfold Mir.fewV; rw [hq]
 rw [hq] at HF
 rw [hR]
 obtain ⟨n0, hn0⟩ := exq v.ch.length
 obtain ⟨n1, hn1⟩ := exq v.sg.o.length
 obtain ⟨n2, hn2⟩ := exq v.sg.c.length
 obtain ⟨n3, hn3⟩ := exq v.sg.p.length
 rw [hn0] at h33 HF
 rw [hn1] at h35
 rw [hn2] at h36
 rw [hn3] at h37
 rw [hn1, hn2, hn3]
 clear hVe hst hC hlc hcm hhi hq hR hn0 hn1 hn2 hn3
 have key : ∀ R, R = (q && decide (n1 ≤ 70) && decide (n2 ≤ 70) && decide (n3 ≤ 20)) → Calls Tryz.prog 9 #[.agg V] w fun e w' => e = .returned (.bool R) ∧ Below w.heap.size w w' := by
  intro R hR
  have HR := θ hR
  clear hR
  cases q with
  | false =>
    go_enter Tryz.func9, Tryz.ntmps9
    go_upto_region 1 with fail
    generalize hge : World.alloc _ _ = w1
    have hX0 := (show Blk w1 w.heap.size 34 V by subst hge; exact Blk.new w _ _)
    have HX := θ hX0
    have HBw := θ (al1 hge)
    have y33 : w1.cell? ⟨w.heap.size, 33, none⟩ = some (.slice A n0 c) := (HX.out.cell 33).trans h33
    clear hge hX0
    go_wp2_with fail
    refine (HF.out _ (HC.out.below HBw.out)).mono ?_
    rintro e w2 ⟨rfl, hb2⟩
    have HB2 := θ (bo HBw hb2)
    have z35 : w2.cell? ⟨w.heap.size, 35, none⟩ = some (.slice Ao n1 co) := ((HX.out.below hb2).cell 35).trans h35
    have z36 : w2.cell? ⟨w.heap.size, 36, none⟩ = some (.slice Ac n2 cc) := ((HX.out.below hb2).cell 36).trans h36
    have z37 : w2.cell? ⟨w.heap.size, 37, none⟩ = some (.slice Ap n3 cp) := ((HX.out.below hb2).cell 37).trans h37
    clear hb2 y33
    go_wp2_with fail
    go_ret
    exact ⟨ret_bool (by rw [HR.out]; rfl), HB2.out⟩
  | true =>
    by_cases h1 : n1 ≤ 70
    · have d1 : decide ((n1 : Int) ≤ 70) = true := by simp; omega
      by_cases h2 : n2 ≤ 70
      · have d2 : decide ((n2 : Int) ≤ 70) = true := by simp; omega
        by_cases h3 : n3 ≤ 20
        · have d3 : decide ((n3 : Int) ≤ 20) = true := by simp; omega
          go_enter Tryz.func9, Tryz.ntmps9
          go_upto_region 1 with fail
          generalize hge : World.alloc _ _ = w1
          have hX0 := (show Blk w1 w.heap.size 34 V by subst hge; exact Blk.new w _ _)
          have HX := θ hX0
          have HBw := θ (al1 hge)
          have y33 : w1.cell? ⟨w.heap.size, 33, none⟩ = some (.slice A n0 c) := (HX.out.cell 33).trans h33
          clear hge hX0
          go_wp2_with fail
          refine (HF.out _ (HC.out.below HBw.out)).mono ?_
          rintro e w2 ⟨rfl, hb2⟩
          have HB2 := θ (bo HBw hb2)
          have z35 : w2.cell? ⟨w.heap.size, 35, none⟩ = some (.slice Ao n1 co) := ((HX.out.below hb2).cell 35).trans h35
          have z36 : w2.cell? ⟨w.heap.size, 36, none⟩ = some (.slice Ac n2 cc) := ((HX.out.below hb2).cell 36).trans h36
          have z37 : w2.cell? ⟨w.heap.size, 37, none⟩ = some (.slice Ap n3 cp) := ((HX.out.below hb2).cell 37).trans h37
          clear hb2 y33
          go_wp2_with fail
          go_ret
          exact ⟨ret_bool (by rw [HR.out]; simp [h1, h2, h3]), HB2.out⟩
        have d3 : decide ((n3 : Int) ≤ 20) = false := by simp; omega
        go_enter Tryz.func9, Tryz.ntmps9
        go_upto_region 1 with fail
        generalize hge : World.alloc _ _ = w1
        have hX0 := (show Blk w1 w.heap.size 34 V by subst hge; exact Blk.new w _ _)
        have HX := θ hX0
        have HBw := θ (al1 hge)
        have y33 : w1.cell? ⟨w.heap.size, 33, none⟩ = some (.slice A n0 c) := (HX.out.cell 33).trans h33
        clear hge hX0
        go_wp2_with fail
        refine (HF.out _ (HC.out.below HBw.out)).mono ?_
        rintro e w2 ⟨rfl, hb2⟩
        have HB2 := θ (bo HBw hb2)
        have z35 : w2.cell? ⟨w.heap.size, 35, none⟩ = some (.slice Ao n1 co) := ((HX.out.below hb2).cell 35).trans h35
        have z36 : w2.cell? ⟨w.heap.size, 36, none⟩ = some (.slice Ac n2 cc) := ((HX.out.below hb2).cell 36).trans h36
        have z37 : w2.cell? ⟨w.heap.size, 37, none⟩ = some (.slice Ap n3 cp) := ((HX.out.below hb2).cell 37).trans h37
        clear hb2 y33
        go_wp2_with fail
        go_ret
        exact ⟨ret_bool (by rw [HR.out]; simp; omega), HB2.out⟩
      have d2 : decide ((n2 : Int) ≤ 70) = false := by simp; omega
      go_enter Tryz.func9, Tryz.ntmps9
      go_upto_region 1 with fail
      generalize hge : World.alloc _ _ = w1
      have hX0 := (show Blk w1 w.heap.size 34 V by subst hge; exact Blk.new w _ _)
      have HX := θ hX0
      have HBw := θ (al1 hge)
      have y33 : w1.cell? ⟨w.heap.size, 33, none⟩ = some (.slice A n0 c) := (HX.out.cell 33).trans h33
      clear hge hX0
      go_wp2_with fail
      refine (HF.out _ (HC.out.below HBw.out)).mono ?_
      rintro e w2 ⟨rfl, hb2⟩
      have HB2 := θ (bo HBw hb2)
      have z35 : w2.cell? ⟨w.heap.size, 35, none⟩ = some (.slice Ao n1 co) := ((HX.out.below hb2).cell 35).trans h35
      have z36 : w2.cell? ⟨w.heap.size, 36, none⟩ = some (.slice Ac n2 cc) := ((HX.out.below hb2).cell 36).trans h36
      have z37 : w2.cell? ⟨w.heap.size, 37, none⟩ = some (.slice Ap n3 cp) := ((HX.out.below hb2).cell 37).trans h37
      clear hb2 y33
      go_wp2_with fail
      go_ret
      exact ⟨ret_bool (by rw [HR.out]; simp; omega), HB2.out⟩
    have d1 : decide ((n1 : Int) ≤ 70) = false := by simp; omega
    go_enter Tryz.func9, Tryz.ntmps9
    go_upto_region 1 with fail
    generalize hge : World.alloc _ _ = w1
    have hX0 := (show Blk w1 w.heap.size 34 V by subst hge; exact Blk.new w _ _)
    have HX := θ hX0
    have HBw := θ (al1 hge)
    have y33 : w1.cell? ⟨w.heap.size, 33, none⟩ = some (.slice A n0 c) := (HX.out.cell 33).trans h33
    clear hge hX0
    go_wp2_with fail
    refine (HF.out _ (HC.out.below HBw.out)).mono ?_
    rintro e w2 ⟨rfl, hb2⟩
    have HB2 := θ (bo HBw hb2)
    have z35 : w2.cell? ⟨w.heap.size, 35, none⟩ = some (.slice Ao n1 co) := ((HX.out.below hb2).cell 35).trans h35
    have z36 : w2.cell? ⟨w.heap.size, 36, none⟩ = some (.slice Ac n2 cc) := ((HX.out.below hb2).cell 36).trans h36
    have z37 : w2.cell? ⟨w.heap.size, 37, none⟩ = some (.slice Ap n3 cp) := ((HX.out.below hb2).cell 37).trans h37
    clear hb2 y33
    go_wp2_with fail
    go_ret
    exact ⟨ret_bool (by rw [HR.out]; simp; omega), HB2.out⟩
 exact key _ rfl
end Go.Proofs.YtkflpoiobpblhaaGreat
namespace Go.Proofs.YtkflpoiobpblhaaGreat
open Go.RowKit Go.Shelf
namespace Mir
def sameI (a b : List It) : Bool := decide (a.length = b.length) && (a.zip b).all fun p => itEq p.1 p.2
theorem sameI_len {a b : List It} (h : a.length ≠ b.length) : sameI a b = false := by unfold sameI; rw [decide_eq_false h]; rfl
theorem sameI_bad {a b : List It} {k : Nat} {x y : It} (hx : a[k]? = some x) (hy : b[k]? = some y) (h : itEq x y = false) : sameI a b = false := by
 unfold sameI
 rw [few_bad (f := fun p : It × It => itEq p.1 p.2) (k := k) (x := (x, y)) (by rw [List.getElem?_zip_eq_some]; exact ⟨hx, hy⟩) h, Bool.and_false]
theorem sameI_good {a b : List It} (hl : a.length = b.length) (h : ∀ (k : Nat) (x y : It), a[k]? = some x → b[k]? = some y → itEq x y = true) : sameI a b = true := by
 unfold sameI
 rw [decide_eq_true hl, Bool.true_and]
 refine few_at fun k p hk hp => ?_
 obtain ⟨x, y⟩ := p
 rw [List.getElem?_zip_eq_some] at hp
 exact h k x y hp.1 hp.2
theorem sameI_self (a : List It) : sameI a a = true := sameI_good rfl fun k x y h1 h2 => by rw [h1] at h2; cases h2; exact itEq_iff.2 rfl
end Mir
theorem str_eq {x y : List Nat} (h1 : ∀ b ∈ x, b < 256) (h2 : ∀ b ∈ y, b < 256) : ((strOfNums (x.map Int.ofNat)).toList == (strOfNums (y.map Int.ofNat)).toList) = decide (x = y) := by
 rw [Lib.strOfNums_toList, Lib.strOfNums_toList]
 exact bytesOf_eq h1 h2
theorem name_eq (x y : ByteArray) : (x.toList == y.toList) = decide (x = y) := by
 by_cases h : x = y
 · subst h; simp
 rw [decide_eq_false h]
 simp only [beq_eq_false_iff_ne, ne_eq]
 intro e
 rw [ByteArray.toList_eq, ByteArray.toList_eq] at e
 exact h (ByteArray.ext (Array.toList_inj.1 e))
theorem rsame_any (A B : Option Addr) (n m c d : Nat) (a b : List Mir.It) (w : World) (ha : a.length = n) (hb : b.length = m) (hn : n ≤ 9223372036854775807) (hA : ItemsC w A a) (hB : ItemsC w B b) :
    Calls Tryz.prog 47 #[.slice A n c, .slice B m d] w fun e w' => e = .returned (.bool (Mir.sameI a b)) ∧ Below w.heap.size w w' := by
 have HA := θ hA
 have HB := θ hB
 have Ha := θ ha
 have Hb := θ hb
 obtain ⟨R, hR⟩ := exq (Mir.sameI a b)
 rw [hR]
 have HR := θ hR
 clear hA hB ha hb hR
 by_cases hnm : n = m
 · subst hnm
   go_enter Tryz.func47, Tryz.ntmps47
   go_wp2_with fail
   go_loopw [5] (fun i wr => ∃ k : Nat, k ≤ n ∧ i = .int .i64 k ∧ Hid (Below w.heap.size w wr) ∧ Hid (∀ j x y, j < k → a[j]? = some x → b[j]? = some y → Mir.itEq x y = true)) (fun i _ => n - (intOf i).toNat)
   case atStart => exact ⟨0, by omega, rfl, θ (Below.refl _ _), θ (fun j x y h => by omega)⟩
   obtain ⟨wk, rfl⟩ : ∃ v : World, v = wr := ⟨_, rfl⟩
   obtain ⟨k, hk, rfl, hBw, hg⟩ := hrel
   by_cases hlt : k < n
   · obtain ⟨⟨s1, d1⟩, hx⟩ := getElem?_lt (l := a) (k := k) (by rw [Ha.out]; exact hlt)
     obtain ⟨⟨s2, d2⟩, hy⟩ := getElem?_lt (l := b) (k := k) (by rw [Hb.out]; exact hlt)
     obtain ⟨b1, o1, rfl, hb1, hc1⟩ := (HA.out.below hBw.out).at_ (by rw [Ha.out]; omega)
     obtain ⟨b2, o2, rfl, hb2, hc2⟩ := (HB.out.below hBw.out).at_ (by rw [Hb.out]; omega)
     obtain ⟨D1, e1, x0, x1, -, -, hD1, h81⟩ := hc1 _ _ hx
     obtain ⟨D2, e2, y0, y1, -, -, hD2, h82⟩ := hc2 _ _ hy
     simp only [] at x0 x1 y0 y1 hD1 hD2 h81 h82
     have Hx := θ hx
     have Hy := θ hy
     have HD1 := θ hD1
     have HD2 := θ hD2
     have Hse := θ (str_eq h81 h82)
     obtain ⟨S1, hS1⟩ := exq (strOfNums (d1.map Int.ofNat))
     obtain ⟨S2, hS2⟩ := exq (strOfNums (d2.map Int.ofNat))
     rw [hS1, hS2] at Hse
     have HS1 := θ hS1
     have HS2 := θ hS2
     have gN := name_eq s1 s2
     clear hc1 hc2 hx hy hD1 hD2 h81 h82 hS1 hS2
     obtain ⟨m1, hm1⟩ := exq d1.length
     obtain ⟨m2, hm2⟩ := exq d2.length
     rw [hm1] at x1
     rw [hm2] at y1
     have Hm1 := θ hm1
     have Hm2 := θ hm2
     clear hm1 hm2
     by_cases hs : s1 = s2
     · rw [decide_eq_true hs] at gN
       have Hs := θ hs
       clear hs
       by_cases hd : d1 = d2
       · have gD : (S1.toList == S2.toList) = true := by rw [Hse.out]; exact decide_eq_true hd
         have Hd' := θ hd
         clear hd
         go_upto_region 6 with fail
         refine wp_region_held_drew (S := fun W => Below wk.heap.size wk W) (by kernel_rfl) (below_drewN (Below.refl _ _) 1) (fun Hd => ?_)
         have Hd : Below wk.heap.size wk wk.drew := below_drewN (Below.refl _ _) 1
         have Zd : wk.heap.size ≤ wk.drew.heap.size := Nat.le_refl _
         generalize World.drew wk = wd at *
         refine tq 0 rfl Hd ?_
         refine tq 1 rfl Hd ?_
         try simp only [la, Act.put]
         refine tq 2 rfl Hd ?_
         refine tq 3 rfl Hd ?_
         try simp only [la, Act.put]
         refine ts 4 rfl Hd (fun wS hSw => by
          have cc := (hSw.cell (p := ⟨b1, o1 + k * 2, none⟩) hb1).trans x0
          go_simp
          try with_reducible rfl) ?_
         refine tq 5 rfl Hd ?_
         try simp only [la, Act.put]
         refine tq 6 rfl Hd ?_
         refine tq 7 rfl Hd ?_
         try simp only [la, Act.put]
         refine tq 8 rfl Hd ?_
         refine ts 9 rfl Hd (fun wS hSw => by
          have cc := (hSw.cell (p := ⟨b2, o2 + k * 2, none⟩) hb2).trans y0
          go_simp
          try with_reducible rfl) ?_
         try simp only [la, Act.put]
         refine tq 10 rfl Hd ?_
         refine tq 11 rfl Hd ?_
         try simp only [la, Act.put]
         refine tq 12 rfl Hd ?_
         refine tq 13 rfl Hd ?_
         try simp only [la, Act.put]
         refine tq 14 rfl Hd ?_
         refine tq 15 rfl Hd ?_
         try simp only [la, Act.put]
         refine ts 16 rfl Hd (fun wS hSw => by
          have cc := (hSw.cell (p := ⟨b1, o1 + k * 2 + 1, none⟩) hb1).trans x1
          go_simp
          try with_reducible rfl) ?_
         refine ts 17 rfl Hd (fun wS hSw => by
          have cv : (convert 22 9 (.slice D1 m1 e1)).run Tryz.prog wS = .ok (.string S1) wS := by
           have := (bytesIn_of (HD1.out.below hSw)).convert (P := Tryz.prog) (by simp) e1 22 5 9 Tryz.underlying22 Tryz.underlying5 Tryz.underlying9
           rw [HS1.out, Hm1.out] at this
           exact this
          go_simp
          try with_reducible rfl) ?_
         try simp only [la, Act.put]
         refine tq 18 rfl Hd ?_
         refine tq 19 rfl Hd ?_
         try simp only [la, Act.put]
         refine tq 20 rfl Hd ?_
         refine tq 21 rfl Hd ?_
         try simp only [la, Act.put]
         refine ts 22 rfl Hd (fun wS hSw => by
          have cc := (hSw.cell (p := ⟨b2, o2 + k * 2 + 1, none⟩) hb2).trans y1
          go_simp
          try with_reducible rfl) ?_
         refine ts 23 rfl Hd (fun wS hSw => by
          have cv : (convert 22 9 (.slice D2 m2 e2)).run Tryz.prog wS = .ok (.string S2) wS := by
           have := (bytesIn_of (HD2.out.below hSw)).convert (P := Tryz.prog) (by simp) e2 22 5 9 Tryz.underlying22 Tryz.underlying5 Tryz.underlying9
           rw [HS2.out, Hm2.out] at this
           exact this
          go_simp
          try with_reducible rfl) ?_
         try simp only [la, Act.put]
         refine tq 24 rfl Hd ?_
         refine tq 25 rfl Hd ?_
         try simp only [la, Act.put]
         refine td ?_ _
         have HY := Hd
         have hB2 := θ (bo hBw HY)
         go_wp2_with fail
         go_roundw
         case rel => exact ⟨k + 1, by omega, by go_num, hB2, θ (fun j x y hj h1 h2 => by
          rcases Nat.lt_or_eq_of_le (Nat.le_of_lt_succ hj) with h | rfl
          · exact hg.out j x y h h1 h2
          · rw [Hx.out] at h1; rw [Hy.out] at h2; cases h1; cases h2
            exact Mir.itEq_iff.2 (Prod.ext Hs.out Hd'.out))⟩
         case measure => simp [intOf]; omega
       have gD : (S1.toList == S2.toList) = false := by rw [Hse.out]; exact decide_eq_false hd
       have Hd' := θ hd
       clear hd
       go_upto_region 6 with fail
       refine wp_region_held_drew (S := fun W => Below wk.heap.size wk W) (by kernel_rfl) (below_drewN (Below.refl _ _) 1) (fun Hd => ?_)
       have Hd : Below wk.heap.size wk wk.drew := below_drewN (Below.refl _ _) 1
       have Zd : wk.heap.size ≤ wk.drew.heap.size := Nat.le_refl _
       generalize World.drew wk = wd at *
       refine tq 0 rfl Hd ?_
       refine tq 1 rfl Hd ?_
       try simp only [la, Act.put]
       refine tq 2 rfl Hd ?_
       refine tq 3 rfl Hd ?_
       try simp only [la, Act.put]
       refine ts 4 rfl Hd (fun wS hSw => by
        have cc := (hSw.cell (p := ⟨b1, o1 + k * 2, none⟩) hb1).trans x0
        go_simp
        try with_reducible rfl) ?_
       refine tq 5 rfl Hd ?_
       try simp only [la, Act.put]
       refine tq 6 rfl Hd ?_
       refine tq 7 rfl Hd ?_
       try simp only [la, Act.put]
       refine tq 8 rfl Hd ?_
       refine ts 9 rfl Hd (fun wS hSw => by
        have cc := (hSw.cell (p := ⟨b2, o2 + k * 2, none⟩) hb2).trans y0
        go_simp
        try with_reducible rfl) ?_
       try simp only [la, Act.put]
       refine tq 10 rfl Hd ?_
       refine tq 11 rfl Hd ?_
       try simp only [la, Act.put]
       refine tq 12 rfl Hd ?_
       refine tq 13 rfl Hd ?_
       try simp only [la, Act.put]
       refine tq 14 rfl Hd ?_
       refine tq 15 rfl Hd ?_
       try simp only [la, Act.put]
       refine ts 16 rfl Hd (fun wS hSw => by
        have cc := (hSw.cell (p := ⟨b1, o1 + k * 2 + 1, none⟩) hb1).trans x1
        go_simp
        try with_reducible rfl) ?_
       refine ts 17 rfl Hd (fun wS hSw => by
        have cv : (convert 22 9 (.slice D1 m1 e1)).run Tryz.prog wS = .ok (.string S1) wS := by
         have := (bytesIn_of (HD1.out.below hSw)).convert (P := Tryz.prog) (by simp) e1 22 5 9 Tryz.underlying22 Tryz.underlying5 Tryz.underlying9
         rw [HS1.out, Hm1.out] at this
         exact this
        go_simp
        try with_reducible rfl) ?_
       try simp only [la, Act.put]
       refine tq 18 rfl Hd ?_
       refine tq 19 rfl Hd ?_
       try simp only [la, Act.put]
       refine tq 20 rfl Hd ?_
       refine tq 21 rfl Hd ?_
       try simp only [la, Act.put]
       refine ts 22 rfl Hd (fun wS hSw => by
        have cc := (hSw.cell (p := ⟨b2, o2 + k * 2 + 1, none⟩) hb2).trans y1
        go_simp
        try with_reducible rfl) ?_
       refine ts 23 rfl Hd (fun wS hSw => by
        have cv : (convert 22 9 (.slice D2 m2 e2)).run Tryz.prog wS = .ok (.string S2) wS := by
         have := (bytesIn_of (HD2.out.below hSw)).convert (P := Tryz.prog) (by simp) e2 22 5 9 Tryz.underlying22 Tryz.underlying5 Tryz.underlying9
         rw [HS2.out, Hm2.out] at this
         exact this
        go_simp
        try with_reducible rfl) ?_
       try simp only [la, Act.put]
       refine tq 24 rfl Hd ?_
       refine tq 25 rfl Hd ?_
       try simp only [la, Act.put]
       refine td ?_ _
       have HY := Hd
       have hB2 := θ (bo hBw HY)
       go_wp2_with fail
       go_ret
       exact ⟨ret_bool (by rw [← HR.out]; exact (Mir.sameI_bad Hx.out Hy.out (by cases e : Mir.itEq (s1, d1) (s2, d2) with | false => rfl | true => have := Mir.itEq_iff.1 e; exact absurd (congrArg Prod.snd this) Hd'.out)).symm), hB2.out⟩
     rw [decide_eq_false hs] at gN
     have Hs := θ hs
     clear hs
     go_upto_region 6 with fail
     refine wp_region_held_drew (S := fun W => Below wk.heap.size wk W) (by kernel_rfl) (below_drewN (Below.refl _ _) 1) (fun Hd => ?_)
     have Hd : Below wk.heap.size wk wk.drew := below_drewN (Below.refl _ _) 1
     have Zd : wk.heap.size ≤ wk.drew.heap.size := Nat.le_refl _
     generalize World.drew wk = wd at *
     refine tq 0 rfl Hd ?_
     refine tq 1 rfl Hd ?_
     try simp only [la, Act.put]
     refine tq 2 rfl Hd ?_
     refine tq 3 rfl Hd ?_
     try simp only [la, Act.put]
     refine ts 4 rfl Hd (fun wS hSw => by
      have cc := (hSw.cell (p := ⟨b1, o1 + k * 2, none⟩) hb1).trans x0
      go_simp
      try with_reducible rfl) ?_
     refine tq 5 rfl Hd ?_
     try simp only [la, Act.put]
     refine tq 6 rfl Hd ?_
     refine tq 7 rfl Hd ?_
     try simp only [la, Act.put]
     refine tq 8 rfl Hd ?_
     refine ts 9 rfl Hd (fun wS hSw => by
      have cc := (hSw.cell (p := ⟨b2, o2 + k * 2, none⟩) hb2).trans y0
      go_simp
      try with_reducible rfl) ?_
     try simp only [la, Act.put]
     refine tq 10 rfl Hd ?_
     refine tq 11 rfl Hd ?_
     try simp only [la, Act.put]
     refine tn 12 rfl Hd ?_
     refine tn 13 rfl Hd ?_
     try simp only [la, Act.put]
     refine tn 14 rfl Hd ?_
     refine tn 15 rfl Hd ?_
     try simp only [la, Act.put]
     refine tn 16 rfl Hd ?_
     refine tn 17 rfl Hd ?_
     try simp only [la, Act.put]
     refine tn 18 rfl Hd ?_
     refine tn 19 rfl Hd ?_
     try simp only [la, Act.put]
     refine tn 20 rfl Hd ?_
     refine tn 21 rfl Hd ?_
     try simp only [la, Act.put]
     refine tn 22 rfl Hd ?_
     refine tn 23 rfl Hd ?_
     try simp only [la, Act.put]
     refine tn 24 rfl Hd ?_
     refine tq 25 rfl Hd ?_
     try simp only [la, Act.put]
     refine td ?_ _
     have HY := Hd
     have hB2 := θ (bo hBw HY)
     go_wp2_with fail
     go_ret
     exact ⟨ret_bool (by rw [← HR.out]; exact (Mir.sameI_bad Hx.out Hy.out (by cases e : Mir.itEq (s1, d1) (s2, d2) with | false => rfl | true => have := Mir.itEq_iff.1 e; exact absurd (congrArg Prod.fst this) Hs.out)).symm), hB2.out⟩
   obtain rfl : k = n := by omega
   go_wp2_with fail
   go_ret
   exact ⟨ret_bool (by rw [← HR.out]; exact (Mir.sameI_good (by rw [Ha.out, Hb.out]) (fun j x y h1 h2 => hg.out j x y (by have := (List.getElem?_eq_some_iff.1 h1).1; rwa [Ha.out] at this) h1 h2)).symm), hBw.out⟩
 have dne : ((n : Int) == (m : Int)) = false := by simp; omega
 have dne2 : ((n : Int) != (m : Int)) = true := by simp; omega
 go_enter Tryz.func47, Tryz.ntmps47
 go_wp2_with fail
 go_ret
 exact ⟨ret_bool (by rw [← HR.out]; exact (Mir.sameI_len (by rw [Ha.out, Hb.out]; exact hnm)).symm), Below.refl _ _⟩
end Go.Proofs.YtkflpoiobpblhaaGreat
namespace Go.Proofs.YtkflpoiobpblhaaGreat
open Go.RowKit
theorem fol_range {w w' : World} {f : Mir.Fo} {F : Array Value} {X : Nat} {t : TypeId} (hF : FolC w f F) (hX : Blk w' X t F) : w'.rangeAt X 0 (f.pub.map fun (n : Nat) => Value.int .u8 (n : Int)) := fun i u hu => by
 obtain ⟨A, ca, B, cb, hFe, hd, -⟩ := hF
 have hi : i < 32 := by have := (List.getElem?_eq_some_iff.1 hu).1; rw [List.length_map, hd.1] at this; exact this
 rw [Nat.zero_add, hX.cell i, hFe, Mir.folA_low hd.1 _ _ _ _ hi, ← Array.getElem?_toList, arrK_toList]
 exact hu
end Go.Proofs.YtkflpoiobpblhaaGreat
