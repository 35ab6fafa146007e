/- The walk of sane (calendar's laws). -/
import Derived.Test.YtlijdbgknbeefaaDoorIvJ
import Derived.Test.YtlijdbgknbeefaaDoorCalE
namespace Go.Proofs.YtlijdbgknbeefaaDoor
open Go.RowKit
theorem day_1 : Cal.dayN 2000 2 29 = 59 ∧ Cal.dayE 2000 2 29 = 0 := by decide +kernel
theorem day_2 : Cal.dayN 2000 2 30 = 0 ∧ Cal.dayE 2000 2 30 = 10 := by decide +kernel
theorem wd_0 : wdN 0 = 5 ∧ wdE 0 = 0 := by decide +kernel
theorem nx_4 : nextN 0 4 = 6 ∧ nextE 0 4 = 0 := by decide +kernel
theorem nx_7 : nextN 0 7 = 0 ∧ nextE 0 7 = 1 := by decide +kernel
theorem date_366 {y m d : Int} (h : IsDate 366 y m d) : y = 2001 ∧ m = 1 ∧ d = 1 := by
  have h1 : IsDate 366 2001 1 1 := by
    unfold IsDate
    rw [if_pos (by decide +kernel)]
    exact ⟨(Cal.okB_iff _ _ _).1 (by decide +kernel), by decide +kernel⟩
  exact isDate_one h h1
theorem date_m1 {y m d : Int} (h : IsDate (-1) y m d) : y = 0 ∧ m = 0 ∧ d = 0 := by
  unfold IsDate at h
  rwa [if_neg (by decide +kernel)] at h
theorem dateE_1 : dateE 366 = 0 ∧ dateE (-1) = 10 := by decide +kernel
def exL : List (Int × Int) := [(5, 6), (1, 2), (3, 3)]
def exU : List (Int × Int) := [(1, 3), (5, 6)]
theorem ex_all : allI exL = true := by decide +kernel
theorem ex_union : Iv.IsUnion exL exU := by
  have h := Iv.union_merge (l := exL) (s := [(1, 2), (3, 3), (5, 6)]) (fun a ha => List.all_eq_true.1 ex_all a ha) (by decide +kernel) (by decide +kernel)
  have e : Iv.merge [(1, 2), (3, 3), (5, 6)] = exU := by decide +kernel
  rwa [e] at h
theorem ex_in : Iv.inU 2 exU = true ∧ Iv.inU 4 exU = false := by decide +kernel
set_option maxRecDepth 100000 in
set_option maxHeartbeats 8000000 in
theorem csane_any (w : World) (hL : Lens w) :
    Calls Tryd.prog 10 #[] w fun e w' => e = .returned (.bool true) ∧ Below w.heap.size w w' := by
  have HL := Lib.hid hL
  clear hL
  go_enter Tryd.func10, Tryd.ntmps10
  go_wp2_with (fail)
  refine (Day_any 2000 2 29 w HL.out).mono ?_
  rintro e w1 ⟨rfl, hb1⟩
  rw [day_1.1, day_1.2]
  have HB1 := Lib.hid hb1
  clear hb1
  go_wp2_with (fail)
  refine (Date_any 366 w1 (HL.out.below HB1.out)).mono ?_
  rintro e w2 ⟨y, m, d, hd, rfl, hb2⟩
  obtain ⟨rfl, rfl, rfl⟩ := date_366 hd
  rw [dateE_1.1]
  have HB2 := Lib.hid (below_of HB1.out hb2 HB1.out.size)
  clear hb2 hd
  go_upto_region 3 with (fail)
  generalize hge : World.alloc _ _ = w2b
  have H3 := Lib.hid (show Blk w2b w2.heap.size 23 #[.int .i64 2001, .int .i64 1, .int .i64 1] by subst hge; exact Blk.new w2 _ _)
  have HB2b := Lib.hid (show Below w.heap.size w w2b by subst hge; exact HB2.out.alloc HB2.out.size _)
  clear hge
  obtain ⟨X3, hX3⟩ : ∃ X, w2.heap.size = X := ⟨_, rfl⟩
  rw [hX3] at H3 ⊢
  clear hX3
  go_wp2_with (fail)
  refine (Weekday_any 0 w2b).mono ?_
  rintro e w' ⟨rfl, rfl⟩
  rw [wd_0.1, wd_0.2]
  go_wp2_with (fail)
  refine (Next_any 0 4 w2b).mono ?_
  rintro e w' ⟨rfl, rfl⟩
  rw [nx_4.1, nx_4.2]
  go_wp2_with (fail)
  generalize hge : World.alloc _ _ = w3
  have HC3 := Lib.hid (show IvC w3 (some ⟨w2b.heap.size, 0, none⟩) exL by
    subst hge
    refine .inr ⟨w2b.heap.size, 0, rfl, by simp, fun j u hu => ?_⟩
    rw [Nat.zero_add, (Blk.new w2b _ _).cell j]
    simpa [exL, ivV] using hu)
  have HB3 := Lib.hid (show Below w.heap.size w w3 by subst hge; exact HB2b.out.alloc HB2b.out.size _)
  have H3c := Lib.hid (show Blk w3 X3 23 #[.int .i64 2001, .int .i64 1, .int .i64 1] by subst hge; exact H3.out.alloc _)
  clear hge
  refine (Union_any _ 3 3 exL w3 rfl (by omega) HC3.out).mono ?_
  rintro e w4 (⟨_, A, c, u, rfl, hu, hc1, hc2, hC4, hb4⟩ | ⟨h, _, _⟩)
  rotate_left
  · rw [ex_all] at h; cases h
  obtain rfl := Iv.union_one hu ex_union
  have HC4 := Lib.hid hC4
  have HB4 := Lib.hid (below_of HB3.out hb4 HB3.out.size)
  have H4 := Lib.hid (H3c.out.below hb4)
  have H2 : exU.length = 2 := rfl
  rw [H2] at hc1 ⊢
  clear hu hC4 hb4 H2
  go_wp2_with (fail)
  refine (Day_any 2000 2 30 w4 (HL.out.below HB4.out)).mono ?_
  rintro e w5 ⟨rfl, hb5⟩
  rw [day_2.1, day_2.2]
  have HC5 := Lib.hid (HC4.out.below hb5)
  have HB5 := Lib.hid (below_of HB4.out hb5 HB4.out.size)
  have H5 := Lib.hid (H4.out.below hb5)
  clear hb5
  go_wp2_with (fail)
  refine (Date_any (-1) w5 (HL.out.below HB5.out)).mono ?_
  rintro e w6 ⟨y, m, d, hd, rfl, hb6⟩
  obtain ⟨rfl, rfl, rfl⟩ := date_m1 hd
  rw [dateE_1.2]
  have HC6 := Lib.hid (HC5.out.below hb6)
  have HB6 := Lib.hid (below_of HB5.out hb6 HB5.out.size)
  have H6 := Lib.hid (H5.out.below hb6)
  clear hb6 hd
  go_upto_region 8 with (fail)
  generalize hge : World.alloc _ _ = w7
  have hb7 : Below w6.heap.size w6 w7 := by subst hge; exact (Below.refl _ _).alloc (Nat.le_refl _) _
  have HC7 := Lib.hid (HC6.out.below hb7)
  have HB7 := Lib.hid (below_of HB6.out hb7 HB6.out.size)
  have H7 := Lib.hid (H6.out.below hb7)
  clear hb7 hge
  obtain ⟨X6, hX6⟩ : ∃ X, w6.heap.size = X := ⟨_, rfl⟩
  rw [hX6]
  clear hX6
  go_wp2_with (fail)
  refine (Next_any 0 7 w7).mono ?_
  rintro e w' ⟨rfl, rfl⟩
  rw [nx_7.1, nx_7.2]
  have q0 := Blk.cellv H7.out (i := 0) rfl
  have q1 := Blk.cellv H7.out (i := 1) rfl
  have q2 := Blk.cellv H7.out (i := 2) rfl
  have hE := fun W => run_eqDt 2001 1 1 2001 1 1 W
  rw [show decide (((2001 : Int), (1 : Int), (1 : Int)) = (2001, 1, 1)) = true by decide] at hE
  go_wp2_with (fail)
  generalize hge : World.alloc _ _ = w8
  have HC8b := Lib.hid (show IvC w8 (some ⟨w7.heap.size, 0, none⟩) exU by
    subst hge
    refine .inr ⟨w7.heap.size, 0, rfl, by simp, fun j u hu => ?_⟩
    rw [Nat.zero_add, (Blk.new w7 _ _).cell j]
    simpa [exU, ivV] using hu)
  have hb8 : Below w7.heap.size w7 w8 := by subst hge; exact (Below.refl _ _).alloc (Nat.le_refl _) _
  have HC8 := Lib.hid (HC7.out.below hb8)
  have HB8 := Lib.hid (below_of HB7.out hb8 HB7.out.size)
  clear hb8 hge q0 q1 q2 hE
  refine (Same_any A 2 c exU _ 2 2 exU w8 rfl rfl (by omega) (by omega) HC8.out HC8b.out).mono ?_
  rintro e w9 ⟨rfl, hb9⟩
  rw [show decide (exU = exU) = true by simp]
  have HC9 := Lib.hid (HC8.out.below hb9)
  have HB9 := Lib.hid (below_of HB8.out hb9 HB8.out.size)
  clear hb9
  go_wp2_with (fail)
  refine (In_any 2 A 2 c exU w9 rfl (by omega) HC9.out).mono ?_
  rintro e w10 ⟨rfl, hb10⟩
  rw [ex_in.1]
  have HC10 := Lib.hid (HC9.out.below hb10)
  have HB10 := Lib.hid (below_of HB9.out hb10 HB9.out.size)
  clear hb10
  go_wp2_with (fail)
  refine (In_any 4 A 2 c exU w10 rfl (by omega) HC10.out).mono ?_
  rintro e w11 ⟨rfl, hb11⟩
  rw [ex_in.2]
  have HB11 := Lib.hid (below_of HB10.out hb11 HB10.out.size)
  clear hb11
  go_wp2_with (fail)
  go_ret
  exact ⟨rfl, HB11.out⟩
end Go.Proofs.YtlijdbgknbeefaaDoor
