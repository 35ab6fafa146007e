/- The walk of Grew. -/
import Derived.Test.YtcijhakofoklcaaWBoth
import Derived.Test.YtcijhakofoklcaaSane
namespace Go.Proofs.Ytcijhakofoklcaa
open Go.RowKit
/-- What Grew answers. -/
def grewR (a b : List Nat) (n m : Int) (p : List (List Nat)) : Bool := decide (1 ≤ n ∧ n ≤ m ∧ m ≤ 1099511627776) && grewS a b n.toNat m.toNat p
theorem six_blocks (w : World) (c1 c2 c3 c4 c5 c6 : Array Value) (t1 t2 t3 t4 t5 t6 : TypeId) :
    ∃ w1, w1 = (((((w.alloc (.cells c1 t1)).alloc (.cells c2 t2)).alloc (.cells c3 t3)).alloc (.cells c4 t4)).alloc (.cells c5 t5)).alloc (.cells c6 t6) ∧ Blk w1 w.heap.size t1 c1 ∧ Blk w1 (w.heap.size + 1) t2 c2 ∧ Blk w1 (w.heap.size + 1 + 1) t3 c3 ∧ Blk w1 (w.heap.size + 1 + 1 + 1) t4 c4 ∧ Blk w1 (w.heap.size + 1 + 1 + 1 + 1) t5 c5 ∧ Blk w1 (w.heap.size + 1 + 1 + 1 + 1 + 1) t6 c6 ∧ Below w.heap.size w w1 := by
  refine ⟨_, rfl, ?_, ?_, ?_, ?_, ?_, ?_, ?_⟩
  · exact (((((Blk.new w t1 c1).alloc _).alloc _).alloc _).alloc _).alloc _
  · exact ((((by have := Blk.new (w.alloc (.cells c1 t1)) t2 c2; simpa using this : Blk ((w.alloc (.cells c1 t1)).alloc (.cells c2 t2)) (w.heap.size + 1) t2 c2).alloc _).alloc _).alloc _).alloc _
  · exact (((by have := Blk.new ((w.alloc (.cells c1 t1)).alloc (.cells c2 t2)) t3 c3; simpa using this : Blk (((w.alloc (.cells c1 t1)).alloc (.cells c2 t2)).alloc (.cells c3 t3)) (w.heap.size + 1 + 1) t3 c3).alloc _).alloc _).alloc _
  · exact ((by have := Blk.new (((w.alloc (.cells c1 t1)).alloc (.cells c2 t2)).alloc (.cells c3 t3)) t4 c4; simpa using this : Blk ((((w.alloc (.cells c1 t1)).alloc (.cells c2 t2)).alloc (.cells c3 t3)).alloc (.cells c4 t4)) (w.heap.size + 1 + 1 + 1) t4 c4).alloc _).alloc _
  · exact (by have := Blk.new ((((w.alloc (.cells c1 t1)).alloc (.cells c2 t2)).alloc (.cells c3 t3)).alloc (.cells c4 t4)) t5 c5; simpa using this : Blk (((((w.alloc (.cells c1 t1)).alloc (.cells c2 t2)).alloc (.cells c3 t3)).alloc (.cells c4 t4)).alloc (.cells c5 t5)) (w.heap.size + 1 + 1 + 1 + 1) t5 c5).alloc _
  · have := Blk.new (((((w.alloc (.cells c1 t1)).alloc (.cells c2 t2)).alloc (.cells c3 t3)).alloc (.cells c4 t4)).alloc (.cells c5 t5)) t6 c6
    simpa using this
  · exact ((((((Below.refl _ _).alloc (Nat.le_refl _) _).alloc (by simp) _).alloc (by simp; omega) _).alloc (by simp; omega) _).alloc (by simp; omega) _).alloc (by simp; omega) _
set_option linter.unusedVariables false in
set_option linter.unusedSimpArgs false in
set_option maxRecDepth 100000 in
set_option maxHeartbeats 8000000 in
theorem grew_in (a b : List Nat) (n m : Nat) (A : Option Addr) (q c : Nat) (p : List (List Nat)) (w : World) (ha : IsD a) (hb : IsD b) (hn1 : 1 ≤ n) (hn : n ≤ m) (hm : m ≤ 1099511627776) (hp : p.length = q) (hP : IsL p) (hqc : q ≤ c) (hA : Cells w A (bytesV p.flatten)) :
    Calls Try.prog 38 #[.agg (arrK .u8 a), .agg (arrK .u8 b), .int .i64 n, .int .i64 m, .slice A q c] w fun e w' => e = .returned (.bool (grewP a b n m p)) ∧ Below w.heap.size w w' := by
  have Ha := Lib.hid ha
  have Hb := Lib.hid hb
  have lz := Lib.hid z32_length
  have q1 : decide ((n : Int) < 1) = false := by simp; omega
  have q1' : decide (n < 1) = false := by simp; omega
  have q2 : decide ((m : Int) < (n : Int)) = false := by simp; omega
  have q2' : decide (m < n) = false := by simp; omega
  have q3 : decide ((1099511627776 : Int) < (m : Int)) = false := by simp; omega
  have q3' : decide (1099511627776 < m) = false := by simp; omega
  have P := Lib.hid (fun w1 hB h1 h3 h4 h5 h6 => both1_any m n true a p true w w1 w.heap.size (w.heap.size + 1 + 1) (w.heap.size + 1 + 1 + 1) (w.heap.size + 1 + 1 + 1 + 1) (w.heap.size + 1 + 1 + 1 + 1 + 1) hn1 hn hm ha hP hB (by omega) (by omega) (by omega) (by omega) (by omega) (by omega) h1 h5 h6 ⟨A, q, c, h3, hp, hqc, hA, h4⟩)
  obtain ⟨Dx0, Dy0, -⟩ := bothP_isD m n true a (p, true) ha hP
  unfold grewP
  obtain ⟨⟨⟨x, y⟩, rest, ok⟩, hbp⟩ : ∃ r, bothP a n m true (p, true) = r := ⟨_, rfl⟩
  rw [hbp] at P Dx0 Dy0 ⊢
  simp only [] at P Dx0 Dy0 ⊢
  have Dx := Lib.hid Dx0
  have Dy := Lib.hid Dy0
  clear hbp Dx0 Dy0 ha hb hP hA hp hqc hn1 hn hm
  have HE1 := Lib.hid (fun W => run_eqD Dx.out Ha.out W)
  have HE2 := Lib.hid (fun W => run_eqD Dy.out Hb.out W)
  obtain ⟨r1, hr1⟩ : ∃ r, decide (x = a) = r := ⟨_, rfl⟩
  obtain ⟨r2, hr2⟩ : ∃ r, decide (y = b) = r := ⟨_, rfl⟩
  rw [hr1] at HE1 ⊢
  rw [hr2] at HE2 ⊢
  clear hr1 hr2
  obtain ⟨k, hk⟩ : ∃ k, rest.length = k := ⟨_, rfl⟩
  have Hk := Lib.hid hk
  rw [hk]
  clear hk
  by_cases hk0 : k = 0
  · obtain rfl := hk0
    have hd : decide (0 = 0) = true := rfl
    cases ok <;> cases r1 <;> cases r2
    all_goals
      simp only [Bool.and_true, Bool.true_and, Bool.and_false, Bool.false_and, decide_true]
      go_enter Try.func38, Try.ntmps38
      go_wp2_with (fail)
      obtain ⟨w1, hw1, g1, g2, g3, g4, g5, g6, gB⟩ := six_blocks w (arrK .u8 a) (arrK .u8 b) #[.slice A q c] #[.bool true] #[TC (w.heap.size + 1 + 1) (w.heap.size + 1 + 1 + 1)] #[BC w.heap.size (w.heap.size + 1 + 1 + 1 + 1) (w.heap.size + 1 + 1 + 1 + 1 + 1)] 37 37 28 4 81 82
      simp only [TC, BC] at hw1
      rw [← hw1]
      refine (P.out w1 gB g1 g3 g4 g5 g6).mono ?_
      rintro e w2 ⟨rfl, ⟨A2, q2_, c2, k1, rfl, k3, k4, k5⟩, hB2, hF2⟩
      have HA2 := Lib.hid (g1.fr2 hF2 (by omega) (by omega))
      have HB2 := Lib.hid (g2.fr2 hF2 (by omega) (by omega))
      have HR2 := Lib.hid k1
      have HO2 := Lib.hid k5
      have HW2 := Lib.hid hB2
      have l4 := k5.lt
      simp only [Hk.out] at HR2
      clear hw1 g1 g2 g3 g4 g5 g6 gB k1 k3 k4 k5 hB2 hF2
      go_wp2_with (first
        | (refine wpList_load_blk_g 37 (.tmp 5) (by rfl) (by rfl) (w.heap.size) rfl 37 (arrK .u8 a) (.array 32 5) HA3.out (by kernel_rfl) rfl (info32 Ha.out.1) ?_)
        | (refine wpList_load_blk_g 37 (.tmp 6) (by rfl) (by rfl) (w.heap.size + 1) rfl 37 (arrK .u8 b) (.array 32 5) HB3.out (by kernel_rfl) rfl (info32 Hb.out.1) ?_)
        | (refine wpList_load_blk_g 37 (.tmp 14) (by rfl) (by rfl) (w2.heap.size) rfl 37 (arrK .u8 x) (.array 32 5) HX3.out (by kernel_rfl) rfl (info32 Dx.out.1) ?_)
        | (refine wpList_load_blk_g 37 (.tmp 15) (by rfl) (by rfl) (w2.heap.size + 1) rfl 37 (arrK .u8 y) (.array 32 5) HY3.out (by kernel_rfl) rfl (info32 Dy.out.1) ?_)
        | (refine wpList_put_blk rfl 37 (.tmp 15) (.tmp 35) rfl (w2.heap.size + 1) (arrK .u8 y) rfl rfl 37 (arrK .u8 z32) HY.out (info32 Dy.out.1) (by rw [len32 Dy.out.1, len32 lz.out]) (arrK_all _ _) ?_
           intro w4 HY4 hg4 hz4
           have HX3 := Lib.hid (HX.out.grown hg4 (by simp)); have HY3 := Lib.hid HY4
           have hb4 := below_grown hb3.out hg4 hb3.out.size (by simp)
           have HA3 := Lib.hid (HA2.out.below hb4); have HB3 := Lib.hid (HB2.out.below hb4)
           have e30 : w4.cell? ⟨w.heap.size + 1 + 1, 0, none⟩ = some (.slice A2 _ c2) := cellv1 (HR2.out.below hb4)
           have e4 : w4.cell? ⟨w.heap.size + 1 + 1 + 1, 0, none⟩ = some (.bool _) := cellv1 (HO2.out.below hb4)
           have HBf := Lib.hid (HW2.out.trans (hb4.mono HW2.out.size))
           have eq1 := HE1.out; have eq2 := HE2.out
           clear hg4 hz4 hb4 HY4)
        | (refine wpList_put_blk rfl 37 (.tmp 14) (.tmp 34) rfl w2.heap.size (arrK .u8 x) rfl rfl 37 (arrK .u8 z32) (blk_two w2 (arrK .u8 z32) (arrK .u8 z32) 37 37).1 (info32 Dx.out.1) (by rw [len32 Dx.out.1, len32 lz.out]) (arrK_all _ _) ?_
           intro w3 HX3' hg3 hz3
           have HX := Lib.hid HX3'
           have HY := Lib.hid ((blk_two w2 (arrK .u8 z32) (arrK .u8 z32) 37 37).2.grown hg3 (by simp))
           have hb3 := Lib.hid (show Below w2.heap.size w2 w3 from below_grown (((Below.refl w2.heap.size w2).alloc (Nat.le_refl _) (.cells (arrK .u8 z32) 37)).alloc (by simp) (.cells (arrK .u8 z32) 37)) hg3 (by simp; omega) (by simp))
           clear hg3 hz3 HX3'))
      go_ret
      exact ⟨rfl, HBf.out⟩
  · have hd : decide (k = 0) = false := by simpa using hk0
    have e1 : ((k : Int) == 0) = false := by simp; omega
    have e2 : (k == 0) = false := by simp; omega
    rw [hd]
    clear hk0
    cases ok
    all_goals
      simp only [Bool.and_true, Bool.true_and, Bool.and_false, Bool.false_and]
      go_enter Try.func38, Try.ntmps38
      go_wp2_with (fail)
      obtain ⟨w1, hw1, g1, g2, g3, g4, g5, g6, gB⟩ := six_blocks w (arrK .u8 a) (arrK .u8 b) #[.slice A q c] #[.bool true] #[TC (w.heap.size + 1 + 1) (w.heap.size + 1 + 1 + 1)] #[BC w.heap.size (w.heap.size + 1 + 1 + 1 + 1) (w.heap.size + 1 + 1 + 1 + 1 + 1)] 37 37 28 4 81 82
      simp only [TC, BC] at hw1
      rw [← hw1]
      refine (P.out w1 gB g1 g3 g4 g5 g6).mono ?_
      rintro e w2 ⟨rfl, ⟨A2, q2_, c2, k1, rfl, k3, k4, k5⟩, hB2, hF2⟩
      have HA2 := Lib.hid (g1.fr2 hF2 (by omega) (by omega))
      have HB2 := Lib.hid (g2.fr2 hF2 (by omega) (by omega))
      have HR2 := Lib.hid k1
      have HO2 := Lib.hid k5
      have HW2 := Lib.hid hB2
      have l4 := k5.lt
      simp only [Hk.out] at HR2
      clear hw1 g1 g2 g3 g4 g5 g6 gB k1 k3 k4 k5 hB2 hF2
      go_wp2_with (first
        | (refine wpList_load_blk_g 37 (.tmp 5) (by rfl) (by rfl) (w.heap.size) rfl 37 (arrK .u8 a) (.array 32 5) HA3.out (by kernel_rfl) rfl (info32 Ha.out.1) ?_)
        | (refine wpList_load_blk_g 37 (.tmp 6) (by rfl) (by rfl) (w.heap.size + 1) rfl 37 (arrK .u8 b) (.array 32 5) HB3.out (by kernel_rfl) rfl (info32 Hb.out.1) ?_)
        | (refine wpList_load_blk_g 37 (.tmp 14) (by rfl) (by rfl) (w2.heap.size) rfl 37 (arrK .u8 x) (.array 32 5) HX3.out (by kernel_rfl) rfl (info32 Dx.out.1) ?_)
        | (refine wpList_load_blk_g 37 (.tmp 15) (by rfl) (by rfl) (w2.heap.size + 1) rfl 37 (arrK .u8 y) (.array 32 5) HY3.out (by kernel_rfl) rfl (info32 Dy.out.1) ?_)
        | (refine wpList_put_blk rfl 37 (.tmp 15) (.tmp 35) rfl (w2.heap.size + 1) (arrK .u8 y) rfl rfl 37 (arrK .u8 z32) HY.out (info32 Dy.out.1) (by rw [len32 Dy.out.1, len32 lz.out]) (arrK_all _ _) ?_
           intro w4 HY4 hg4 hz4
           have HX3 := Lib.hid (HX.out.grown hg4 (by simp)); have HY3 := Lib.hid HY4
           have hb4 := below_grown hb3.out hg4 hb3.out.size (by simp)
           have HA3 := Lib.hid (HA2.out.below hb4); have HB3 := Lib.hid (HB2.out.below hb4)
           have e30 : w4.cell? ⟨w.heap.size + 1 + 1, 0, none⟩ = some (.slice A2 _ c2) := cellv1 (HR2.out.below hb4)
           have e4 : w4.cell? ⟨w.heap.size + 1 + 1 + 1, 0, none⟩ = some (.bool _) := cellv1 (HO2.out.below hb4)
           have HBf := Lib.hid (HW2.out.trans (hb4.mono HW2.out.size))
           have eq1 := HE1.out; have eq2 := HE2.out
           clear hg4 hz4 hb4 HY4)
        | (refine wpList_put_blk rfl 37 (.tmp 14) (.tmp 34) rfl w2.heap.size (arrK .u8 x) rfl rfl 37 (arrK .u8 z32) (blk_two w2 (arrK .u8 z32) (arrK .u8 z32) 37 37).1 (info32 Dx.out.1) (by rw [len32 Dx.out.1, len32 lz.out]) (arrK_all _ _) ?_
           intro w3 HX3' hg3 hz3
           have HX := Lib.hid HX3'
           have HY := Lib.hid ((blk_two w2 (arrK .u8 z32) (arrK .u8 z32) 37 37).2.grown hg3 (by simp))
           have hb3 := Lib.hid (show Below w2.heap.size w2 w3 from below_grown (((Below.refl w2.heap.size w2).alloc (Nat.le_refl _) (.cells (arrK .u8 z32) 37)).alloc (by simp) (.cells (arrK .u8 z32) 37)) hg3 (by simp; omega) (by simp))
           clear hg3 hz3 HX3'))
      go_ret
      exact ⟨rfl, HBf.out⟩
theorem grew_any (a b : List Nat) (n m : Int) (A : Option Addr) (q c : Nat) (p : List (List Nat)) (w : World) (ha : IsD a) (hb : IsD b) (hp : p.length = q) (hP : IsL p) (hqc : q ≤ c) (hA : Cells w A (bytesV p.flatten)) :
    Calls Try.prog 38 #[.agg (arrK .u8 a), .agg (arrK .u8 b), .int .i64 n, .int .i64 m, .slice A q c] w fun e w' => e = .returned (.bool (grewR a b n m p)) ∧ Below w.heap.size w w' := by
  by_cases h : 1 ≤ n ∧ n ≤ m ∧ m ≤ 1099511627776
  · obtain ⟨k, rfl⟩ := Int.eq_ofNat_of_zero_le (show 0 ≤ n by omega)
    obtain ⟨j, rfl⟩ := Int.eq_ofNat_of_zero_le (show 0 ≤ m by omega)
    have e : grewR a b (k : Int) (j : Int) p = grewP a b k j p := by
      unfold grewR
      rw [decide_eq_true h, Bool.true_and, Int.toNat_natCast, Int.toNat_natCast, grewP_eq a b p (by omega) (by omega)]
    rw [e]
    exact grew_in a b k j A q c p w ha hb (by omega) (by omega) (by omega) hp hP hqc hA
  · have e : grewR a b n m p = false := by unfold grewR; rw [decide_eq_false h]; rfl
    rw [e]
    have h' : n < 1 ∨ (1 ≤ n ∧ m < n) ∨ (1 ≤ n ∧ n ≤ m ∧ 1099511627776 < m) := by omega
    clear h e ha hb hp hP hqc hA
    rcases h' with h | ⟨h0, h⟩ | ⟨h0, h1, h⟩
    · have q1 : decide (n < 1) = true := by simp; omega
      go_enter Try.func38, Try.ntmps38
      go_wp2_with (fail)
      go_ret
      exact ⟨rfl, ((((Below.refl _ _).alloc (Nat.le_refl _) _).alloc (by simp) _).alloc (by simp; omega) _)⟩
    · have q1 : decide (n < 1) = false := by simp; omega
      have q2 : decide (m < n) = true := by simp; omega
      go_enter Try.func38, Try.ntmps38
      go_wp2_with (fail)
      go_ret
      exact ⟨rfl, ((((Below.refl _ _).alloc (Nat.le_refl _) _).alloc (by simp) _).alloc (by simp; omega) _)⟩
    · have q1 : decide (n < 1) = false := by simp; omega
      have q2 : decide (m < n) = false := by simp; omega
      have q3 : decide (1099511627776 < m) = true := by simp; omega
      go_enter Try.func38, Try.ntmps38
      go_wp2_with (fail)
      go_ret
      exact ⟨rfl, ((((Below.refl _ _).alloc (Nat.le_refl _) _).alloc (by simp) _).alloc (by simp; omega) _)⟩
end Go.Proofs.Ytcijhakofoklcaa
