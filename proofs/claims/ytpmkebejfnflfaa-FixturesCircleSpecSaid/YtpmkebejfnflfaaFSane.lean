/- Circle's contract; the walk of sane (fixtures' laws). -/
import Derived.Test.YtpmkebejfnflfaaFCr1
namespace Go.Proofs.Ytpmkebejfnflfaa
open Go.RowKit
theorem circle_any (A : Option Addr) (n c : Nat) (cl : List Int) (double : Bool) (w : World) (hl : cl.length = n) (hA : Ints w A cl) :
    Calls Try.prog 11 #[.slice A n c, .bool double] w (CircPost w cl double) := by
  cases hv : Fix.validC cl with
  | false => exact circle_bad A n c cl double w hl hA hv
  | true => exact circle_good A n c cl double w hl hA hv
theorem Blk.cellv' {w : World} {g : Nat} {t : TypeId} {cs : Array Value} (h : Blk w g t cs) {i : Nat} {v : Value} (hv : cs[i]? = some v) : w.cell? ⟨g, i, none⟩ = some v := (h.cell i).trans hv
theorem list_results {tmps : Array Value} {w : World} {L : Nat} {v : Value} (h2 : tmps.getD 2 undef = .pointer (some ⟨L, 0, none⟩)) (hb : Blk w L 26 #[v]) :
    (results Try.f27 tmps).run Try.prog w = .ok (.agg #[v]) w := by
  have hc := hb.cell 0
  have h2' : tmps[2]?.getD undef = .pointer (some ⟨L, 0, none⟩) := by simpa using h2
  have hc' : w.cell? ⟨L, 0, none⟩ = some v := hc
  simp [results, Try.results27, go_sem]
  rw [h2']
  simp [go_sem, hc']
attribute [local go_sem] Oper.semAt_some
set_option maxHeartbeats 4000000 in
theorem list_any (A : Option Addr) (n c : Nat) (w : World) : Calls Try.prog 27 #[.slice A n c] w fun e w' => e = .returned (.agg #[.slice A n c]) ∧ Below w.heap.size w w' := by
  go_enter Try.func27, Try.ntmps27
  go_wp2_with (fail)
  refine bodyPost_ret (list_results (L := w.heap.size) (v := .slice A n c) rfl ?_) rfl ⟨rfl, ?_⟩
  · exact Blk.new w _ _
  · exact (Below.refl _ w).alloc (Nat.le_refl _) _
theorem ints_lit {w : World} {b : Nat} {l : List Int} {cs : Array Value} (h : Blk w b 3 cs) (hc : cs.toList = l.map (Value.int .i64)) : Ints w (some ⟨b, 0, none⟩) l := by
  refine .inr ⟨b, 0, rfl, h.lt, fun j u hu => ?_⟩
  rw [Nat.zero_add, h.cell j, ← Array.getElem?_toList, hc]
  exact hu
theorem iv_lit {w : World} {b : Nat} {x y : Int} (h : Blk w b 51 #[.int .i64 x, .int .i64 y]) : IvC w (some ⟨b, 0, none⟩) [(x, y)] := by
  refine .inr ⟨b, 0, rfl, h.lt, fun j u hu => ?_⟩
  rw [Nat.zero_add, h.cell j, ← Array.getElem?_toList]
  exact hu
theorem rounds_lit {w : World} {b : Nat} {cs : Array Value} {hs : List (Option Addr × Nat)} {ls : List (List (Int × Int))} (h : Blk w b 46 cs) (hl : hs.length = ls.length) (hc : cs.toList = rowV hs ls)
    (hi : ∀ (k : Nat) (h : Option Addr × Nat) (l : List (Int × Int)), hs[k]? = some h → ls[k]? = some l → l.length ≤ h.2 ∧ h.2 ≤ maxLen ∧ IvC w h.1 l) : RoundsC w (some ⟨b, 0, none⟩) ls := by
  refine ⟨hs, hl, .inr ⟨b, 0, rfl, h.lt, fun j u hu => ?_⟩, hi⟩
  rw [Nat.zero_add, h.cell j, ← Array.getElem?_toList, hc]
  exact hu
def ex3 : List (List (Int × Int)) := [[(2, 3)], [(3, 1)], [(1, 2)]]
def ex2 : List (List (Int × Int)) := [[(1, 2)], [(1, 2)]]
theorem ex_circ : Fix.circM [1, 2, 3] false = ex3 ∧ Fix.circE [1, 2, 3] = 0 := by decide +kernel
theorem ex_full : Fix.fullR [1, 2, 3] ex3 false = true ∧ Fix.checkE [1, 2, 3] ex3 = 0 := by decide +kernel
theorem ex_dates : Fix.datesL 3 0 20 3 5 = [0, 7, 14] ∧ Fix.datesE 3 0 20 3 5 = 0 := by decide +kernel
theorem ex_check : Fix.checkE [1, 2] ex2 = 300 := by decide +kernel
theorem ex_breaks : Fix.breaksP (ex2.map (Fix.patM 2)) = 1 ∧ ex2.map (Fix.patM 1) = [1, 1] := by decide +kernel
theorem ex3_len : ∀ l ∈ ex3, l.length ≤ 1000000 := by decide
theorem ex3_wf : ∀ l ∈ ex3, ∀ x ∈ l, WfM x := by
  intro l hl x hx
  simp [ex3] at hl
  rcases hl with rfl | rfl | rfl <;> simp at hx <;> subst hx <;> exact ⟨by decide, by decide⟩
theorem ex2_wf : ∀ l ∈ ex2, ∀ x ∈ l, WfM x := by
  intro l hl x hx
  simp [ex2] at hl
  subst hl
  simp at hx
  subst hx
  exact ⟨by decide, by decide⟩
def mtO (x y : Int) : Obj := .cells #[.int .i64 x, .int .i64 y] 51
theorem world_ex3 (w3 : World) :
    RoundsC ((((w3.alloc (mtO 2 3)).alloc (mtO 3 1)).alloc (mtO 1 2)).alloc (.cells #[.slice (some ⟨w3.heap.size, 0, none⟩) 1 1, .slice (some ⟨w3.heap.size + 1, 0, none⟩) 1 1, .slice (some ⟨w3.heap.size + 1 + 1, 0, none⟩) 1 1] 46)) (some ⟨w3.heap.size + 1 + 1 + 1, 0, none⟩) ex3 := by
  have b1 := (((Blk.new w3 51 #[.int .i64 2, .int .i64 3]).alloc (mtO 3 1)).alloc (mtO 1 2)).alloc (.cells #[.slice (some ⟨w3.heap.size, 0, none⟩) 1 1, .slice (some ⟨w3.heap.size + 1, 0, none⟩) 1 1, .slice (some ⟨w3.heap.size + 1 + 1, 0, none⟩) 1 1] 46)
  have b2 := ((Blk.new (w3.alloc (mtO 2 3)) 51 #[.int .i64 3, .int .i64 1]).alloc (mtO 1 2)).alloc (.cells #[.slice (some ⟨w3.heap.size, 0, none⟩) 1 1, .slice (some ⟨w3.heap.size + 1, 0, none⟩) 1 1, .slice (some ⟨w3.heap.size + 1 + 1, 0, none⟩) 1 1] 46)
  have b3 := (Blk.new ((w3.alloc (mtO 2 3)).alloc (mtO 3 1)) 51 #[.int .i64 1, .int .i64 2]).alloc (.cells #[.slice (some ⟨w3.heap.size, 0, none⟩) 1 1, .slice (some ⟨w3.heap.size + 1, 0, none⟩) 1 1, .slice (some ⟨w3.heap.size + 1 + 1, 0, none⟩) 1 1] 46)
  have b4 := Blk.new (((w3.alloc (mtO 2 3)).alloc (mtO 3 1)).alloc (mtO 1 2)) 46 #[.slice (some ⟨w3.heap.size, 0, none⟩) 1 1, .slice (some ⟨w3.heap.size + 1, 0, none⟩) 1 1, .slice (some ⟨w3.heap.size + 1 + 1, 0, none⟩) 1 1]
  have s2 : (w3.alloc (mtO 2 3)).heap.size = w3.heap.size + 1 := by simp
  have s3 : ((w3.alloc (mtO 2 3)).alloc (mtO 3 1)).heap.size = w3.heap.size + 1 + 1 := by simp
  have s4 : (((w3.alloc (mtO 2 3)).alloc (mtO 3 1)).alloc (mtO 1 2)).heap.size = w3.heap.size + 1 + 1 + 1 := by simp
  rw [s2] at b2
  rw [s3] at b3
  rw [s4] at b4
  refine rounds_lit (hs := [(some ⟨w3.heap.size, 0, none⟩, 1), (some ⟨w3.heap.size + 1, 0, none⟩, 1), (some ⟨w3.heap.size + 1 + 1, 0, none⟩, 1)]) b4 rfl rfl fun k h l e1 e2 => ?_
  match k, e1, e2 with
  | 0, e1, e2 => simp [ex3] at e1 e2; subst e1; subst e2; exact ⟨by simp, (show (1 : Nat) ≤ maxLen by decide), iv_lit b1⟩
  | 1, e1, e2 => simp [ex3] at e1 e2; subst e1; subst e2; exact ⟨by simp, (show (1 : Nat) ≤ maxLen by decide), iv_lit b2⟩
  | 2, e1, e2 => simp [ex3] at e1 e2; subst e1; subst e2; exact ⟨by simp, (show (1 : Nat) ≤ maxLen by decide), iv_lit b3⟩
  | k + 3, e1, e2 => simp at e1
theorem world_ex2 (w3 : World) :
    RoundsC (((w3.alloc (mtO 1 2)).alloc (mtO 1 2)).alloc (.cells #[.slice (some ⟨w3.heap.size, 0, none⟩) 1 1, .slice (some ⟨w3.heap.size + 1, 0, none⟩) 1 1] 46)) (some ⟨w3.heap.size + 1 + 1, 0, none⟩) ex2 := by
  have b1 := ((Blk.new w3 51 #[.int .i64 1, .int .i64 2]).alloc (mtO 1 2)).alloc (.cells #[.slice (some ⟨w3.heap.size, 0, none⟩) 1 1, .slice (some ⟨w3.heap.size + 1, 0, none⟩) 1 1] 46)
  have b2 := (Blk.new (w3.alloc (mtO 1 2)) 51 #[.int .i64 1, .int .i64 2]).alloc (.cells #[.slice (some ⟨w3.heap.size, 0, none⟩) 1 1, .slice (some ⟨w3.heap.size + 1, 0, none⟩) 1 1] 46)
  have b4 := Blk.new ((w3.alloc (mtO 1 2)).alloc (mtO 1 2)) 46 #[.slice (some ⟨w3.heap.size, 0, none⟩) 1 1, .slice (some ⟨w3.heap.size + 1, 0, none⟩) 1 1]
  have s2 : (w3.alloc (mtO 1 2)).heap.size = w3.heap.size + 1 := by simp
  have s4 : ((w3.alloc (mtO 1 2)).alloc (mtO 1 2)).heap.size = w3.heap.size + 1 + 1 := by simp
  rw [s2] at b2
  rw [s4] at b4
  refine rounds_lit (hs := [(some ⟨w3.heap.size, 0, none⟩, 1), (some ⟨w3.heap.size + 1, 0, none⟩, 1)]) b4 rfl rfl fun k h l e1 e2 => ?_
  match k, e1, e2 with
  | 0, e1, e2 => simp [ex2] at e1 e2; subst e1; subst e2; exact ⟨by simp, (show (1 : Nat) ≤ maxLen by decide), iv_lit b1⟩
  | 1, e1, e2 => simp [ex2] at e1 e2; subst e1; subst e2; exact ⟨by simp, (show (1 : Nat) ≤ maxLen by decide), iv_lit b2⟩
  | k + 2, e1, e2 => simp at e1
set_option maxRecDepth 100000 in
set_option maxHeartbeats 8000000 in
theorem fsane_any (w : World) :
    Calls Try.prog 10 #[] w fun e w' => e = .returned (.bool true) ∧ Below w.heap.size w w' := by
  go_enter Try.func10, Try.ntmps10
  go_wp2_with (fail)
  generalize hge : World.alloc _ _ = w1
  have HI1 := Lib.hid (show Ints w1 (some ⟨w.heap.size, 0, none⟩) [1, 2, 3] by subst hge; exact ints_lit (Blk.new w _ _) rfl)
  have HB1 := Lib.hid (show Below w.heap.size w w1 by subst hge; exact (Below.refl _ w).alloc (Nat.le_refl _) _)
  clear hge
  refine (circle_any _ 3 3 [1, 2, 3] false w1 rfl HI1.out).mono ?_
  rintro e w2 ⟨A, q, c, rfl, hq, hqc, hcm, hR, hb2⟩
  rw [ex_circ.1] at hq hR
  rw [ex_circ.2]
  obtain rfl : q = 3 := hq
  have HR2 := Lib.hid hR
  have HB2 := Lib.hid (below_of HB1.out hb2 HB1.out.size)
  clear hR hb2
  go_upto_region 2 with (fail)
  generalize hge : World.alloc _ _ = w3
  have H1 := Lib.hid (show Blk w3 w2.heap.size 26 #[.slice A 3 c] by subst hge; exact Blk.new w2 _ _)
  have hb3 : Below w2.heap.size w2 w3 := by subst hge; exact (Below.refl _ _).alloc (Nat.le_refl _) _
  have HR3 := Lib.hid (HR2.out.below hb3)
  have HB3 := Lib.hid (below_of HB2.out hb3 HB2.out.size)
  clear hb3 hge HR2
  obtain ⟨X1, hX1⟩ : ∃ X, w2.heap.size = X := ⟨_, rfl⟩
  rw [hX1] at H1 ⊢
  clear hX1
  go_wp2_with (fail)
  generalize hge : World.alloc _ _ = w4
  have HX4 := Lib.hid (show RoundsC w4 (some ⟨w3.heap.size + 1 + 1 + 1, 0, none⟩) ex3 by subst hge; exact world_ex3 w3)
  have hb4 : Below w3.heap.size w3 w4 := by subst hge; exact ((((Below.refl _ w3).alloc (Nat.le_refl _) _).alloc (by simp) _).alloc (by simp; omega) _).alloc (by simp; omega) _
  have HR4 := Lib.hid (HR3.out.below hb4)
  have HB4 := Lib.hid (below_of HB3.out hb4 HB3.out.size)
  have H4 := Lib.hid (H1.out.below hb4)
  clear hb4 hge HR3 H1
  generalize (some ⟨w3.heap.size + 1 + 1 + 1, 0, none⟩ : Option Addr) = AX at *
  refine (list_any _ _ _ _).mono ?_
  rintro e w5 ⟨rfl, hb5⟩
  have HX5 := Lib.hid (HX4.out.below hb5)
  have HR5 := Lib.hid (HR4.out.below hb5)
  have HB5 := Lib.hid (below_of HB4.out hb5 HB4.out.size)
  have H5 := Lib.hid (H4.out.below hb5)
  clear hb5 HX4 HR4 H4
  go_upto_region 3 with (fail)
  generalize hge : World.alloc _ _ = w6
  have H6b := Lib.hid (show Blk w6 w5.heap.size 26 #[.slice AX 3 3] by subst hge; exact Blk.new w5 _ _)
  have hb6 : Below w5.heap.size w5 w6 := by subst hge; exact (Below.refl _ _).alloc (Nat.le_refl _) _
  have HX6 := Lib.hid (HX5.out.below hb6)
  have HR6 := Lib.hid (HR5.out.below hb6)
  have HB6 := Lib.hid (below_of HB5.out hb6 HB5.out.size)
  have H6 := Lib.hid (H5.out.below hb6)
  clear hb6 hge HX5 HR5 H5
  obtain ⟨X2, hX2⟩ : ∃ X, w5.heap.size = X := ⟨_, rfl⟩
  rw [hX2] at H6b ⊢
  clear hX2
  have q1 := H6.out.cellv' (i := 0) rfl
  go_wp2_with (fail)
  generalize hge : World.alloc _ _ = w7
  have HI7 := Lib.hid (show Ints w7 (some ⟨w6.heap.size, 0, none⟩) [1, 2, 3] by subst hge; exact ints_lit (Blk.new w6 _ _) rfl)
  have hb7 : Below w6.heap.size w6 w7 := by subst hge; exact (Below.refl _ _).alloc (Nat.le_refl _) _
  refine (full_any A 3 c ex3 _ 3 3 [1, 2, 3] false w7 rfl (by omega) (HR6.out.below hb7) rfl (Nat.le_refl _) HI7.out (by decide) ex3_wf).mono ?_
  rintro e w8 ⟨rfl, hb8⟩
  rw [ex_full.1, ex_full.2]
  have hb78 : Below w6.heap.size w6 w8 := below_of hb7 hb8 hb7.size
  have HX8 := Lib.hid (HX6.out.below hb78)
  have HR8 := Lib.hid (HR6.out.below hb78)
  have HB8 := Lib.hid (below_of HB6.out hb78 HB6.out.size)
  have H8 := Lib.hid (H6.out.below hb78)
  have H8b := Lib.hid (H6b.out.below hb78)
  clear hb7 hb8 hb78 hge HX6 HR6 H6 H6b q1
  go_wp2_with (fail)
  refine (dates_any 3 0 20 3 5 w8).mono ?_
  rintro e w9 ⟨A9, q, c9, rfl, hq, hqc9, hcm9, -, hC9, hb9⟩
  rw [ex_dates.1] at hq hC9
  rw [ex_dates.2]
  obtain rfl : q = 3 := hq.symm
  have HD9 := Lib.hid hC9
  have HX9 := Lib.hid (HX8.out.below hb9)
  have HR9 := Lib.hid (HR8.out.below hb9)
  have HB9 := Lib.hid (below_of HB8.out hb9 HB8.out.size)
  have H9 := Lib.hid (H8.out.below hb9)
  have H9b := Lib.hid (H8b.out.below hb9)
  clear hC9 hb9 HX8 HR8 H8 H8b
  go_wp2_with (fail)
  generalize hge : World.alloc _ _ = w10
  have HT10 := Lib.hid (show RoundsC w10 (some ⟨w9.heap.size + 1 + 1, 0, none⟩) ex2 by subst hge; exact world_ex2 w9)
  have hb10 : Below w9.heap.size w9 w10 := by subst hge; exact (((Below.refl _ w9).alloc (Nat.le_refl _) _).alloc (by simp) _).alloc (by simp; omega) _
  have HX10 := Lib.hid (HX9.out.below hb10)
  have HR10 := Lib.hid (HR9.out.below hb10)
  have HB10 := Lib.hid (below_of HB9.out hb10 HB9.out.size)
  have H10 := Lib.hid (H9.out.below hb10)
  have H10b := Lib.hid (H9b.out.below hb10)
  have HD10 := Lib.hid (HD9.out.below hb10)
  clear hb10 hge HX9 HR9 H9 H9b HD9
  generalize (some ⟨w9.heap.size + 1 + 1, 0, none⟩ : Option Addr) = AT at *
  refine (list_any _ _ _ _).mono ?_
  rintro e w11 ⟨rfl, hb11⟩
  go_upto_region 6 with (fail)
  generalize hge : World.alloc _ _ = w12
  have H12c := Lib.hid (show Blk w12 w11.heap.size 26 #[.slice AT 2 2] by subst hge; exact Blk.new w11 _ _)
  have hb12 : Below w10.heap.size w10 w12 := below_of hb11 (by subst hge; exact (Below.refl _ _).alloc (Nat.le_refl _) _) hb11.size
  have HX12 := Lib.hid (HX10.out.below hb12)
  have HR12 := Lib.hid (HR10.out.below hb12)
  have HT12 := Lib.hid (HT10.out.below hb12)
  have HB12 := Lib.hid (below_of HB10.out hb12 HB10.out.size)
  have H12 := Lib.hid (H10.out.below hb12)
  have H12b := Lib.hid (H10b.out.below hb12)
  have HD12 := Lib.hid (HD10.out.below hb12)
  obtain ⟨X3, hX3⟩ : ∃ X, w11.heap.size = X := ⟨_, rfl⟩
  rw [hX3] at H12c ⊢
  clear hX3 hb11 hb12 hge HX10 HR10 HT10 H10 H10b HD10
  have q1 := H12.out.cellv' (i := 0) rfl
  have q2 := H12b.out.cellv' (i := 0) rfl
  have q3 := H12c.out.cellv' (i := 0) rfl
  go_wp2_with (fail)
  refine (same30_any A 3 c ex3 AX 3 3 ex3 w12 rfl rfl (by omega) (by omega) HR12.out HX12.out ex3_len ex3_len).mono ?_
  rintro e w13 ⟨rfl, hb13⟩
  rw [show decide (ex3 = ex3) = true by simp]
  have HT13 := Lib.hid (HT12.out.below hb13)
  have HB13 := Lib.hid (below_of HB12.out hb13 HB12.out.size)
  have H13c := Lib.hid (H12c.out.below hb13)
  have HD13 := Lib.hid (HD12.out.below hb13)
  clear hb13 HR12 HX12 q1 q2 q3 H12 H12b HT12 H12c HD12
  have q3 := H13c.out.cellv' (i := 0) rfl
  go_wp2_with (fail)
  generalize hge : World.alloc _ _ = w14
  have HI14 := Lib.hid (show Cells w14 (some ⟨w13.heap.size, 0, none⟩) (intV [0, 7, 14]) by subst hge; exact ints_lit (l := [0, 7, 14]) (Blk.new w13 _ _) rfl)
  have hb14 : Below w13.heap.size w13 w14 := by subst hge; exact (Below.refl _ _).alloc (Nat.le_refl _) _
  refine (sameInts_any A9 3 c9 [0, 7, 14] _ 3 3 [0, 7, 14] w14 rfl rfl (by omega) (by omega) (HD13.out.below hb14) HI14.out).mono ?_
  rintro e w15 ⟨rfl, hb15⟩
  rw [show decide (([0, 7, 14] : List Int) = [0, 7, 14]) = true by simp]
  have hb135 : Below w13.heap.size w13 w15 := below_of hb14 hb15 hb14.size
  have HT15 := Lib.hid (HT13.out.below hb135)
  have HB15 := Lib.hid (below_of HB13.out hb135 HB13.out.size)
  have H15c := Lib.hid (H13c.out.below hb135)
  clear hb14 hb15 hb135 hge q3 HT13 H13c HD13 HI14
  have q3 := H15c.out.cellv' (i := 0) rfl
  go_wp2_with (fail)
  generalize hge : World.alloc _ _ = w16
  have HI16 := Lib.hid (show Ints w16 (some ⟨w15.heap.size, 0, none⟩) [1, 2] by subst hge; exact ints_lit (Blk.new w15 _ _) rfl)
  have hb16 : Below w15.heap.size w15 w16 := by subst hge; exact (Below.refl _ _).alloc (Nat.le_refl _) _
  refine (check30_any AT 2 2 ex2 _ 2 2 [1, 2] w16 rfl (by omega) (HT15.out.below hb16) rfl HI16.out (by decide) ex2_wf).mono ?_
  rintro e w17 ⟨rfl, hb17⟩
  rw [ex_check]
  have hb157 : Below w15.heap.size w15 w17 := below_of hb16 hb17 hb16.size
  have HT17 := Lib.hid (HT15.out.below hb157)
  have HB17 := Lib.hid (below_of HB15.out hb157 HB15.out.size)
  have H17c := Lib.hid (H15c.out.below hb157)
  clear hb16 hb17 hb157 hge q3 HT15 H15c HI16
  have q3 := H17c.out.cellv' (i := 0) rfl
  go_wp2_with (fail)
  refine (breaks_any AT 2 2 ex2 2 w17 rfl (by omega) HT17.out (by decide)).mono ?_
  rintro e w18 ⟨rfl, hb18⟩
  rw [ex_breaks.1]
  have HT18 := Lib.hid (HT17.out.below hb18)
  have HB18 := Lib.hid (below_of HB17.out hb18 HB17.out.size)
  have H18c := Lib.hid (H17c.out.below hb18)
  clear hb18 q3 HT17 H17c
  have q3 := H18c.out.cellv' (i := 0) rfl
  go_wp2_with (fail)
  refine (pattern_any AT 2 2 ex2 1 w18 rfl (by omega) HT18.out (by decide)).mono ?_
  rintro e w19 ⟨A19, c19, rfl, hown, hc19, hm19, hb19⟩
  rw [ex_breaks.2] at hown
  have HP19 := Lib.hid (Cells.own hown)
  have HB19 := Lib.hid (below_of HB18.out hb19 HB18.out.size)
  clear hb19 hown q3 HT18 H18c
  go_wp2_with (fail)
  generalize hge : World.alloc _ _ = w20
  have HI20 := Lib.hid (show Cells w20 (some ⟨w19.heap.size, 0, none⟩) (intV [1, 1]) by subst hge; exact ints_lit (l := [1, 1]) (Blk.new w19 _ _) rfl)
  have hb20 : Below w19.heap.size w19 w20 := by subst hge; exact (Below.refl _ _).alloc (Nat.le_refl _) _
  refine (sameInts_any A19 2 c19 [1, 1] _ 2 2 [1, 1] w20 rfl rfl (by omega) (by omega) (HP19.out.below hb20) HI20.out).mono ?_
  rintro e w21 ⟨rfl, hb21⟩
  rw [show decide (([1, 1] : List Int) = [1, 1]) = true by simp]
  have HB21 := Lib.hid (below_of HB19.out (below_of hb20 hb21 hb20.size) HB19.out.size)
  clear hb20 hb21 hge HP19 HI20
  go_wp2_with (fail)
  go_ret
  exact ⟨rfl, HB21.out⟩
end Go.Proofs.Ytpmkebejfnflfaa
