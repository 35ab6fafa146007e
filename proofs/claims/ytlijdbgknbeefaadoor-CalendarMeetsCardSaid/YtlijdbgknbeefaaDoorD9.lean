/- The statement CalendarMeetsCardSaid: a day is in the meet exactly if it is in both valid intervals; no condition beside the row's own (the table of the months' lengths, tied by the given card). -/
import Derived.Test.YtlijdbgknbeefaaDoorCalW
import Derived.Test.YtlijdbgknbeefaaDoorIvM
namespace Go.Proofs.YtlijdbgknbeefaaDoor
open Go.RowKit Go.WideShapes Go.ChangeShapes Go.ChangeAt
theorem meetOk_comm (a b : Int × Int) : meetOk b a = meetOk a b := by
  unfold meetOk meetI
  rw [Int.max_comm b.1, Int.min_comm b.2, Bool.and_comm (Iv.okI b)]
theorem meetV_comm (a b : Int × Int) : meetV b a = meetV a b := by
  unfold meetV
  rw [meetOk_comm]
  unfold meetI
  rw [Int.max_comm b.1, Int.min_comm b.2]
theorem meet_in {a b : Int × Int} (h : meetOk a b = true) (n : Int) : Iv.okI (meetV a b) = true ∧ Iv.inI n (meetV a b) = (Iv.inI n a && Iv.inI n b) := by
  have e : meetV a b = meetI a b := by unfold meetV; rw [h]; rfl
  rw [e]
  unfold meetOk at h
  simp only [Bool.and_eq_true, decide_eq_true_iff] at h
  obtain ⟨⟨h1, h2⟩, h3⟩ := h
  rw [Iv.okI_iff] at h1 h2
  unfold meetI at h3 ⊢
  simp only [] at h3
  constructor
  · rw [Iv.okI_iff]; simp only []; omega
  · rw [Bool.eq_iff_iff, Bool.and_eq_true, Iv.inI_iff, Iv.inI_iff, Iv.inI_iff]; simp only []; omega
theorem meet_out {a b : Int × Int} (h : meetOk a b = false) (h1 : Iv.okI a = true) (h2 : Iv.okI b = true) (n : Int) : (Iv.inI n a && Iv.inI n b) = false ∧ meetV a b = (0, 0) := by
  have e : meetV a b = (0, 0) := by unfold meetV; rw [h]; rfl
  refine ⟨?_, e⟩
  unfold meetOk at h
  rw [h1, h2] at h
  simp only [Bool.true_and, decide_eq_false_iff_not] at h
  unfold meetI at h
  simp only [] at h
  rw [Bool.eq_false_iff, ne_eq, Bool.and_eq_true, Iv.inI_iff, Iv.inI_iff]
  omega
theorem in_one (n x y : Int) (g : Nat) (W : World) (h : Blk W g 43 #[.int .i64 x, .int .i64 y]) (b : Bool) (hb : Iv.inI n (x, y) = b) :
    Calls Tryd.prog 21 #[.int .i64 n, .slice (some ⟨g, 0, none⟩) 1 1] W fun e w' => e = .returned (.bool b) ∧ Below W.heap.size W w' := by
  have := In_any n (some ⟨g, 0, none⟩) 1 1 [(x, y)] W rfl (by omega) (.inr ⟨g, 0, rfl, h.lt, fun j u hu => by rw [Nat.zero_add, h.cell j]; simpa [ivV] using hu⟩)
  rwa [show Iv.inU n [(x, y)] = b by rw [← hb]; simp [Iv.inU]] at this
set_option linter.unusedVariables false
set_option linter.unusedSimpArgs false
set_option maxRecDepth 100000 in
set_option maxHeartbeats 8000000 in
theorem meets_a (w : World) (hL : Lens w) (ax ay bx by_ n : Int) (h1 : Iv.okI (ax, ay) = false) :
    Calls Tryd.prog 9 #[.agg #[.int .i64 ax, .int .i64 ay], .agg #[.int .i64 bx, .int .i64 by_], .int .i64 n] w (Fine w) := by
  have HL := Lib.hid hL
  clear hL
  have hmo : meetOk (ax, ay) (bx, by_) = false := by unfold meetOk; rw [h1]; rfl
  have HK1 := Lib.hid (fun W => check_of ax ay W _ h1)
  clear h1
  have HM1 := Lib.hid (fun W => Meet_any ax ay bx by_ W)
  have HM2 := Lib.hid (fun W => Meet_any bx by_ ax ay W)
  unfold MeetPost at HM1 HM2
  rw [meetV_comm, meetOk_comm, hmo] at HM2
  rw [hmo] at HM1
  obtain ⟨⟨x, y⟩, hxy⟩ : ∃ v, meetV (ax, ay) (bx, by_) = v := ⟨_, rfl⟩
  rw [hxy] at HM1 HM2
  simp only [] at HM1 HM2
  have Hxy := Lib.hid hxy
  have Hmo := Lib.hid hmo
  clear hxy hmo
  go_enter Tryd.func9, Tryd.ntmps9
  go_wp2_with (fail)
  generalize hge : World.alloc _ _ = w0
  have HA0 := Lib.hid (show Blk w0 w.heap.size 43 #[.int .i64 ax, .int .i64 ay] by subst hge; exact (Blk.new w _ _).alloc _)
  have HG0 := Lib.hid (show Blk w0 (w.heap.size + 1) 43 #[.int .i64 bx, .int .i64 by_] by subst hge; exact blk_at1 w _ _ _ _)
  have HB0 := Lib.hid (show Below w.heap.size w w0 by subst hge; exact ((Below.refl _ _).alloc (Nat.le_refl _) _).alloc (by simp) _)
  clear hge
  refine (csane_any w0 (HL.out.below HB0.out)).mono ?_
  rintro e w1 ⟨rfl, hb1⟩
  have HA1 := Lib.hid (HA0.out.below hb1)
  have HG1 := Lib.hid (HG0.out.below hb1)
  have HB1 := Lib.hid (below_of HB0.out hb1 HB0.out.size)
  clear hb1
  have a0 := HA1.out.cellv (i := 0) rfl
  have a1 := HA1.out.cellv (i := 1) rfl
  have g0 := HG1.out.cellv (i := 0) rfl
  have g1 := HG1.out.cellv (i := 1) rfl
  go_wp2_with (fail)
  refine (HM1.out w1).mono ?_
  rintro e w2 ⟨rfl, hb2⟩
  have HA2 := Lib.hid (HA1.out.below hb2)
  have HG2 := Lib.hid (HG1.out.below hb2)
  have HB2 := Lib.hid (below_of HB1.out hb2 HB1.out.size)
  clear hb2 a0 a1 g0 g1
  go_upto_region 4 with (fail)
  generalize hge : World.alloc _ _ = w3
  have HX3 := Lib.hid (show Blk w3 w2.heap.size 43 #[.int .i64 x, .int .i64 y] by subst hge; exact Blk.new w2 _ _)
  have hb3 : Below w2.heap.size w2 w3 := by subst hge; exact (Below.refl _ _).alloc (Nat.le_refl _) _
  have HA3 := Lib.hid (HA2.out.below hb3)
  have HG3 := Lib.hid (HG2.out.below hb3)
  have HB3 := Lib.hid (below_of HB2.out hb3 HB2.out.size)
  clear hge hb3
  obtain ⟨X, hX⟩ : ∃ X, w2.heap.size = X := ⟨_, rfl⟩
  rw [hX] at HX3 ⊢
  clear hX
  have a0 := HA3.out.cellv (i := 0) rfl
  have a1 := HA3.out.cellv (i := 1) rfl
  have g0 := HG3.out.cellv (i := 0) rfl
  have g1 := HG3.out.cellv (i := 1) rfl
  go_wp2_with (fail)
  refine (HM2.out w3).mono ?_
  rintro e w4 ⟨rfl, hb4⟩
  have HX4 := Lib.hid (HX3.out.below hb4)
  have HA4 := Lib.hid (HA3.out.below hb4)
  have HG4 := Lib.hid (HG3.out.below hb4)
  have HB4 := Lib.hid (below_of HB3.out hb4 HB3.out.size)
  clear hb4 a0 a1 g0 g1
  go_upto_region 5 with (fail)
  generalize hge : World.alloc _ _ = w5
  have HY5 := Lib.hid (show Blk w5 w4.heap.size 43 #[.int .i64 x, .int .i64 y] by subst hge; exact Blk.new w4 _ _)
  have hb5 : Below w4.heap.size w4 w5 := by subst hge; exact (Below.refl _ _).alloc (Nat.le_refl _) _
  have HX5 := Lib.hid (HX4.out.below hb5)
  have HA5 := Lib.hid (HA4.out.below hb5)
  have HG5 := Lib.hid (HG4.out.below hb5)
  have HB5 := Lib.hid (below_of HB4.out hb5 HB4.out.size)
  clear hge hb5
  obtain ⟨Y, hY⟩ : ∃ X, w4.heap.size = X := ⟨_, rfl⟩
  rw [hY] at HY5 ⊢
  clear hY
  have a0 := HA5.out.cellv (i := 0) rfl
  have a1 := HA5.out.cellv (i := 1) rfl
  have x0 := HX5.out.cellv (i := 0) rfl
  have x1 := HX5.out.cellv (i := 1) rfl
  have y0 := HY5.out.cellv (i := 0) rfl
  have y1 := HY5.out.cellv (i := 1) rfl
  have hE := fun W => run_eqI x y x y W
  rw [show decide ((x, y) = (x, y)) = true by simp] at hE
  go_wp2_with (fail)
  clear hE x0 x1 y0 y1 a0 a1
  refine (HK1.out w5).mono ?_
  rintro e w6 ⟨rfl, hw6⟩
  have hb6 : Below w5.heap.size w5 w6 := by rw [hw6]; exact (Below.refl _ _).alloc (Nat.le_refl _) _
  have HX6 := Lib.hid (HX5.out.below hb6)
  have HA6 := Lib.hid (HA5.out.below hb6)
  have HG6 := Lib.hid (HG5.out.below hb6)
  have HB6 := Lib.hid (below_of HB5.out hb6 HB5.out.size)
  clear hw6 hb6
  go_wp2_with (fail)
  go_ret
  exact ⟨rfl, HB6.out⟩
set_option maxRecDepth 100000 in
set_option maxHeartbeats 8000000 in
theorem meets_b (w : World) (hL : Lens w) (ax ay bx by_ n : Int) (h1 : Iv.okI (ax, ay) = true) (h2 : Iv.okI (bx, by_) = false) :
    Calls Tryd.prog 9 #[.agg #[.int .i64 ax, .int .i64 ay], .agg #[.int .i64 bx, .int .i64 by_], .int .i64 n] w (Fine w) := by
  have HL := Lib.hid hL
  clear hL
  have hmo : meetOk (ax, ay) (bx, by_) = false := by unfold meetOk; rw [h1, h2]; rfl
  have HK1 := Lib.hid (fun W => check_of ax ay W _ h1)
  have HK2 := Lib.hid (fun W => check_of bx by_ W _ h2)
  clear h1 h2
  have HM1 := Lib.hid (fun W => Meet_any ax ay bx by_ W)
  have HM2 := Lib.hid (fun W => Meet_any bx by_ ax ay W)
  unfold MeetPost at HM1 HM2
  rw [meetV_comm, meetOk_comm, hmo] at HM2
  rw [hmo] at HM1
  obtain ⟨⟨x, y⟩, hxy⟩ : ∃ v, meetV (ax, ay) (bx, by_) = v := ⟨_, rfl⟩
  rw [hxy] at HM1 HM2
  simp only [] at HM1 HM2
  have Hxy := Lib.hid hxy
  have Hmo := Lib.hid hmo
  clear hxy hmo
  go_enter Tryd.func9, Tryd.ntmps9
  go_wp2_with (fail)
  generalize hge : World.alloc _ _ = w0
  have HA0 := Lib.hid (show Blk w0 w.heap.size 43 #[.int .i64 ax, .int .i64 ay] by subst hge; exact (Blk.new w _ _).alloc _)
  have HG0 := Lib.hid (show Blk w0 (w.heap.size + 1) 43 #[.int .i64 bx, .int .i64 by_] by subst hge; exact blk_at1 w _ _ _ _)
  have HB0 := Lib.hid (show Below w.heap.size w w0 by subst hge; exact ((Below.refl _ _).alloc (Nat.le_refl _) _).alloc (by simp) _)
  clear hge
  refine (csane_any w0 (HL.out.below HB0.out)).mono ?_
  rintro e w1 ⟨rfl, hb1⟩
  have HA1 := Lib.hid (HA0.out.below hb1)
  have HG1 := Lib.hid (HG0.out.below hb1)
  have HB1 := Lib.hid (below_of HB0.out hb1 HB0.out.size)
  clear hb1
  have a0 := HA1.out.cellv (i := 0) rfl
  have a1 := HA1.out.cellv (i := 1) rfl
  have g0 := HG1.out.cellv (i := 0) rfl
  have g1 := HG1.out.cellv (i := 1) rfl
  go_wp2_with (fail)
  refine (HM1.out w1).mono ?_
  rintro e w2 ⟨rfl, hb2⟩
  have HA2 := Lib.hid (HA1.out.below hb2)
  have HG2 := Lib.hid (HG1.out.below hb2)
  have HB2 := Lib.hid (below_of HB1.out hb2 HB1.out.size)
  clear hb2 a0 a1 g0 g1
  go_upto_region 4 with (fail)
  generalize hge : World.alloc _ _ = w3
  have HX3 := Lib.hid (show Blk w3 w2.heap.size 43 #[.int .i64 x, .int .i64 y] by subst hge; exact Blk.new w2 _ _)
  have hb3 : Below w2.heap.size w2 w3 := by subst hge; exact (Below.refl _ _).alloc (Nat.le_refl _) _
  have HA3 := Lib.hid (HA2.out.below hb3)
  have HG3 := Lib.hid (HG2.out.below hb3)
  have HB3 := Lib.hid (below_of HB2.out hb3 HB2.out.size)
  clear hge hb3
  obtain ⟨X, hX⟩ : ∃ X, w2.heap.size = X := ⟨_, rfl⟩
  rw [hX] at HX3 ⊢
  clear hX
  have a0 := HA3.out.cellv (i := 0) rfl
  have a1 := HA3.out.cellv (i := 1) rfl
  have g0 := HG3.out.cellv (i := 0) rfl
  have g1 := HG3.out.cellv (i := 1) rfl
  go_wp2_with (fail)
  refine (HM2.out w3).mono ?_
  rintro e w4 ⟨rfl, hb4⟩
  have HX4 := Lib.hid (HX3.out.below hb4)
  have HA4 := Lib.hid (HA3.out.below hb4)
  have HG4 := Lib.hid (HG3.out.below hb4)
  have HB4 := Lib.hid (below_of HB3.out hb4 HB3.out.size)
  clear hb4 a0 a1 g0 g1
  go_upto_region 5 with (fail)
  generalize hge : World.alloc _ _ = w5
  have HY5 := Lib.hid (show Blk w5 w4.heap.size 43 #[.int .i64 x, .int .i64 y] by subst hge; exact Blk.new w4 _ _)
  have hb5 : Below w4.heap.size w4 w5 := by subst hge; exact (Below.refl _ _).alloc (Nat.le_refl _) _
  have HX5 := Lib.hid (HX4.out.below hb5)
  have HA5 := Lib.hid (HA4.out.below hb5)
  have HG5 := Lib.hid (HG4.out.below hb5)
  have HB5 := Lib.hid (below_of HB4.out hb5 HB4.out.size)
  clear hge hb5
  obtain ⟨Y, hY⟩ : ∃ X, w4.heap.size = X := ⟨_, rfl⟩
  rw [hY] at HY5 ⊢
  clear hY
  have a0 := HA5.out.cellv (i := 0) rfl
  have a1 := HA5.out.cellv (i := 1) rfl
  have x0 := HX5.out.cellv (i := 0) rfl
  have x1 := HX5.out.cellv (i := 1) rfl
  have y0 := HY5.out.cellv (i := 0) rfl
  have y1 := HY5.out.cellv (i := 1) rfl
  have hE := fun W => run_eqI x y x y W
  rw [show decide ((x, y) = (x, y)) = true by simp] at hE
  go_wp2_with (fail)
  clear hE x0 x1 y0 y1 a0 a1
  refine (HK1.out w5).mono ?_
  rintro e w6 ⟨rfl, hw6⟩
  have hb6 : Below w5.heap.size w5 w6 := by rw [hw6]; exact (Below.refl _ _).alloc (Nat.le_refl _) _
  have HX6 := Lib.hid (HX5.out.below hb6)
  have HA6 := Lib.hid (HA5.out.below hb6)
  have HG6 := Lib.hid (HG5.out.below hb6)
  have HB6 := Lib.hid (below_of HB5.out hb6 HB5.out.size)
  clear hw6 hb6
  have g0 := HG6.out.cellv (i := 0) rfl
  have g1 := HG6.out.cellv (i := 1) rfl
  go_wp2_with (fail)
  clear g0 g1
  refine (HK2.out w6).mono ?_
  rintro e w7 ⟨rfl, hw7⟩
  have hb7 : Below w6.heap.size w6 w7 := by rw [hw7]; exact (Below.refl _ _).alloc (Nat.le_refl _) _
  have HX7 := Lib.hid (HX6.out.below hb7)
  have HA7 := Lib.hid (HA6.out.below hb7)
  have HG7 := Lib.hid (HG6.out.below hb7)
  have HB7 := Lib.hid (below_of HB6.out hb7 HB6.out.size)
  clear hw7 hb7
  go_wp2_with (fail)
  go_ret
  exact ⟨rfl, HB7.out⟩
set_option maxRecDepth 100000 in
set_option maxHeartbeats 8000000 in
theorem meets_ff_n (w : World) (hL : Lens w) (ax ay bx by_ n : Int) (h1 : Iv.okI (ax, ay) = true) (h2 : Iv.okI (bx, by_) = true) (hmo : meetOk (ax, ay) (bx, by_) = false) (hia : Iv.inI n (ax, ay) = false) :
    Calls Tryd.prog 9 #[.agg #[.int .i64 ax, .int .i64 ay], .agg #[.int .i64 bx, .int .i64 by_], .int .i64 n] w (Fine w) := by
  have HL := Lib.hid hL
  clear hL
  have HK1 := Lib.hid (fun W => check_of ax ay W _ h1)
  have HK2 := Lib.hid (fun W => check_of bx by_ W _ h2)
  have HIa := Lib.hid (fun g W h => in_one n ax ay g W h _ hia)
  have Hmi := Lib.hid (meet_out hmo h1 h2 n).2
  clear h1 h2 hia
  have HM1 := Lib.hid (fun W => Meet_any ax ay bx by_ W)
  have HM2 := Lib.hid (fun W => Meet_any bx by_ ax ay W)
  unfold MeetPost at HM1 HM2
  rw [meetV_comm, meetOk_comm, hmo] at HM2
  rw [hmo] at HM1
  obtain ⟨⟨x, y⟩, hxy⟩ : ∃ v, meetV (ax, ay) (bx, by_) = v := ⟨_, rfl⟩
  rw [hxy] at HM1 HM2
  simp only [] at HM1 HM2
  have Hxy := Lib.hid hxy
  have Hmo := Lib.hid hmo
  clear hxy hmo
  go_enter Tryd.func9, Tryd.ntmps9
  go_wp2_with (fail)
  generalize hge : World.alloc _ _ = w0
  have HA0 := Lib.hid (show Blk w0 w.heap.size 43 #[.int .i64 ax, .int .i64 ay] by subst hge; exact (Blk.new w _ _).alloc _)
  have HG0 := Lib.hid (show Blk w0 (w.heap.size + 1) 43 #[.int .i64 bx, .int .i64 by_] by subst hge; exact blk_at1 w _ _ _ _)
  have HB0 := Lib.hid (show Below w.heap.size w w0 by subst hge; exact ((Below.refl _ _).alloc (Nat.le_refl _) _).alloc (by simp) _)
  clear hge
  refine (csane_any w0 (HL.out.below HB0.out)).mono ?_
  rintro e w1 ⟨rfl, hb1⟩
  have HA1 := Lib.hid (HA0.out.below hb1)
  have HG1 := Lib.hid (HG0.out.below hb1)
  have HB1 := Lib.hid (below_of HB0.out hb1 HB0.out.size)
  clear hb1
  have a0 := HA1.out.cellv (i := 0) rfl
  have a1 := HA1.out.cellv (i := 1) rfl
  have g0 := HG1.out.cellv (i := 0) rfl
  have g1 := HG1.out.cellv (i := 1) rfl
  go_wp2_with (fail)
  refine (HM1.out w1).mono ?_
  rintro e w2 ⟨rfl, hb2⟩
  have HA2 := Lib.hid (HA1.out.below hb2)
  have HG2 := Lib.hid (HG1.out.below hb2)
  have HB2 := Lib.hid (below_of HB1.out hb2 HB1.out.size)
  clear hb2 a0 a1 g0 g1
  go_upto_region 4 with (fail)
  generalize hge : World.alloc _ _ = w3
  have HX3 := Lib.hid (show Blk w3 w2.heap.size 43 #[.int .i64 x, .int .i64 y] by subst hge; exact Blk.new w2 _ _)
  have hb3 : Below w2.heap.size w2 w3 := by subst hge; exact (Below.refl _ _).alloc (Nat.le_refl _) _
  have HA3 := Lib.hid (HA2.out.below hb3)
  have HG3 := Lib.hid (HG2.out.below hb3)
  have HB3 := Lib.hid (below_of HB2.out hb3 HB2.out.size)
  clear hge hb3
  obtain ⟨X, hX⟩ : ∃ X, w2.heap.size = X := ⟨_, rfl⟩
  rw [hX] at HX3 ⊢
  clear hX
  have a0 := HA3.out.cellv (i := 0) rfl
  have a1 := HA3.out.cellv (i := 1) rfl
  have g0 := HG3.out.cellv (i := 0) rfl
  have g1 := HG3.out.cellv (i := 1) rfl
  go_wp2_with (fail)
  refine (HM2.out w3).mono ?_
  rintro e w4 ⟨rfl, hb4⟩
  have HX4 := Lib.hid (HX3.out.below hb4)
  have HA4 := Lib.hid (HA3.out.below hb4)
  have HG4 := Lib.hid (HG3.out.below hb4)
  have HB4 := Lib.hid (below_of HB3.out hb4 HB3.out.size)
  clear hb4 a0 a1 g0 g1
  go_upto_region 5 with (fail)
  generalize hge : World.alloc _ _ = w5
  have HY5 := Lib.hid (show Blk w5 w4.heap.size 43 #[.int .i64 x, .int .i64 y] by subst hge; exact Blk.new w4 _ _)
  have hb5 : Below w4.heap.size w4 w5 := by subst hge; exact (Below.refl _ _).alloc (Nat.le_refl _) _
  have HX5 := Lib.hid (HX4.out.below hb5)
  have HA5 := Lib.hid (HA4.out.below hb5)
  have HG5 := Lib.hid (HG4.out.below hb5)
  have HB5 := Lib.hid (below_of HB4.out hb5 HB4.out.size)
  clear hge hb5
  obtain ⟨Y, hY⟩ : ∃ X, w4.heap.size = X := ⟨_, rfl⟩
  rw [hY] at HY5 ⊢
  clear hY
  have a0 := HA5.out.cellv (i := 0) rfl
  have a1 := HA5.out.cellv (i := 1) rfl
  have x0 := HX5.out.cellv (i := 0) rfl
  have x1 := HX5.out.cellv (i := 1) rfl
  have y0 := HY5.out.cellv (i := 0) rfl
  have y1 := HY5.out.cellv (i := 1) rfl
  have hE := fun W => run_eqI x y x y W
  rw [show decide ((x, y) = (x, y)) = true by simp] at hE
  go_wp2_with (fail)
  clear hE x0 x1 y0 y1 a0 a1
  refine (HK1.out w5).mono ?_
  rintro e w6 ⟨rfl, hw6⟩
  have hb6 : Below w5.heap.size w5 w6 := by rw [hw6]; exact (Below.refl _ _).alloc (Nat.le_refl _) _
  have HX6 := Lib.hid (HX5.out.below hb6)
  have HA6 := Lib.hid (HA5.out.below hb6)
  have HG6 := Lib.hid (HG5.out.below hb6)
  have HB6 := Lib.hid (below_of HB5.out hb6 HB5.out.size)
  clear hw6 hb6
  have g0 := HG6.out.cellv (i := 0) rfl
  have g1 := HG6.out.cellv (i := 1) rfl
  go_wp2_with (fail)
  clear g0 g1
  refine (HK2.out w6).mono ?_
  rintro e w7 ⟨rfl, hw7⟩
  have hb7 : Below w6.heap.size w6 w7 := by rw [hw7]; exact (Below.refl _ _).alloc (Nat.le_refl _) _
  have HX7 := Lib.hid (HX6.out.below hb7)
  have HA7 := Lib.hid (HA6.out.below hb7)
  have HG7 := Lib.hid (HG6.out.below hb7)
  have HB7 := Lib.hid (below_of HB6.out hb7 HB6.out.size)
  clear hw7 hb7
  have a0 := HA7.out.cellv (i := 0) rfl
  have a1 := HA7.out.cellv (i := 1) rfl
  go_wp2_with (fail)
  generalize hge : World.alloc _ _ = w8
  have HT8 := Lib.hid (show Blk w8 w7.heap.size 43 #[.int .i64 ax, .int .i64 ay] by subst hge; exact Blk.new w7 _ _)
  have hb8 : Below w7.heap.size w7 w8 := by subst hge; exact (Below.refl _ _).alloc (Nat.le_refl _) _
  have HX8 := Lib.hid (HX7.out.below hb8)
  have HG8 := Lib.hid (HG7.out.below hb8)
  have HB8 := Lib.hid (below_of HB7.out hb8 HB7.out.size)
  clear hge hb8 a0 a1
  refine (HIa.out _ w8 HT8.out).mono ?_
  rintro e w9 ⟨rfl, hb9⟩
  have HX9 := Lib.hid (HX8.out.below hb9)
  have HG9 := Lib.hid (HG8.out.below hb9)
  have HB9 := Lib.hid (below_of HB8.out hb9 HB8.out.size)
  clear hb9
  have x0 := HX9.out.cellv (i := 0) rfl
  have x1 := HX9.out.cellv (i := 1) rfl
  have hE := fun W => run_eqI x y 0 0 W
  rw [show decide ((x, y) = ((0 : Int), (0 : Int))) = true by have h1 := Hmi.out; rw [Hxy.out] at h1; rw [h1]; simp] at hE
  go_wp2_with (fail)
  go_ret
  exact ⟨rfl, HB9.out⟩
set_option maxRecDepth 100000 in
set_option maxHeartbeats 8000000 in
theorem meets_ff_y (w : World) (hL : Lens w) (ax ay bx by_ n : Int) (h1 : Iv.okI (ax, ay) = true) (h2 : Iv.okI (bx, by_) = true) (hmo : meetOk (ax, ay) (bx, by_) = true) (hia : Iv.inI n (ax, ay) = false) :
    Calls Tryd.prog 9 #[.agg #[.int .i64 ax, .int .i64 ay], .agg #[.int .i64 bx, .int .i64 by_], .int .i64 n] w (Fine w) := by
  have HL := Lib.hid hL
  clear hL
  have HK1 := Lib.hid (fun W => check_of ax ay W _ h1)
  have HK2 := Lib.hid (fun W => check_of bx by_ W _ h2)
  have HIa := Lib.hid (fun g W h => in_one n ax ay g W h _ hia)
  have hmi := meet_in hmo n
  rw [show (Iv.inI n (ax, ay) && Iv.inI n (bx, by_)) = false by rw [hia]; rfl] at hmi
  have Hmi := Lib.hid hmi
  clear hmi
  clear h1 h2 hia
  have HM1 := Lib.hid (fun W => Meet_any ax ay bx by_ W)
  have HM2 := Lib.hid (fun W => Meet_any bx by_ ax ay W)
  unfold MeetPost at HM1 HM2
  rw [meetV_comm, meetOk_comm, hmo] at HM2
  rw [hmo] at HM1
  obtain ⟨⟨x, y⟩, hxy⟩ : ∃ v, meetV (ax, ay) (bx, by_) = v := ⟨_, rfl⟩
  rw [hxy] at HM1 HM2
  simp only [] at HM1 HM2
  have Hxy := Lib.hid hxy
  have Hmo := Lib.hid hmo
  clear hxy hmo
  go_enter Tryd.func9, Tryd.ntmps9
  go_wp2_with (fail)
  generalize hge : World.alloc _ _ = w0
  have HA0 := Lib.hid (show Blk w0 w.heap.size 43 #[.int .i64 ax, .int .i64 ay] by subst hge; exact (Blk.new w _ _).alloc _)
  have HG0 := Lib.hid (show Blk w0 (w.heap.size + 1) 43 #[.int .i64 bx, .int .i64 by_] by subst hge; exact blk_at1 w _ _ _ _)
  have HB0 := Lib.hid (show Below w.heap.size w w0 by subst hge; exact ((Below.refl _ _).alloc (Nat.le_refl _) _).alloc (by simp) _)
  clear hge
  refine (csane_any w0 (HL.out.below HB0.out)).mono ?_
  rintro e w1 ⟨rfl, hb1⟩
  have HA1 := Lib.hid (HA0.out.below hb1)
  have HG1 := Lib.hid (HG0.out.below hb1)
  have HB1 := Lib.hid (below_of HB0.out hb1 HB0.out.size)
  clear hb1
  have a0 := HA1.out.cellv (i := 0) rfl
  have a1 := HA1.out.cellv (i := 1) rfl
  have g0 := HG1.out.cellv (i := 0) rfl
  have g1 := HG1.out.cellv (i := 1) rfl
  go_wp2_with (fail)
  refine (HM1.out w1).mono ?_
  rintro e w2 ⟨rfl, hb2⟩
  have HA2 := Lib.hid (HA1.out.below hb2)
  have HG2 := Lib.hid (HG1.out.below hb2)
  have HB2 := Lib.hid (below_of HB1.out hb2 HB1.out.size)
  clear hb2 a0 a1 g0 g1
  go_upto_region 4 with (fail)
  generalize hge : World.alloc _ _ = w3
  have HX3 := Lib.hid (show Blk w3 w2.heap.size 43 #[.int .i64 x, .int .i64 y] by subst hge; exact Blk.new w2 _ _)
  have hb3 : Below w2.heap.size w2 w3 := by subst hge; exact (Below.refl _ _).alloc (Nat.le_refl _) _
  have HA3 := Lib.hid (HA2.out.below hb3)
  have HG3 := Lib.hid (HG2.out.below hb3)
  have HB3 := Lib.hid (below_of HB2.out hb3 HB2.out.size)
  clear hge hb3
  obtain ⟨X, hX⟩ : ∃ X, w2.heap.size = X := ⟨_, rfl⟩
  rw [hX] at HX3 ⊢
  clear hX
  have a0 := HA3.out.cellv (i := 0) rfl
  have a1 := HA3.out.cellv (i := 1) rfl
  have g0 := HG3.out.cellv (i := 0) rfl
  have g1 := HG3.out.cellv (i := 1) rfl
  go_wp2_with (fail)
  refine (HM2.out w3).mono ?_
  rintro e w4 ⟨rfl, hb4⟩
  have HX4 := Lib.hid (HX3.out.below hb4)
  have HA4 := Lib.hid (HA3.out.below hb4)
  have HG4 := Lib.hid (HG3.out.below hb4)
  have HB4 := Lib.hid (below_of HB3.out hb4 HB3.out.size)
  clear hb4 a0 a1 g0 g1
  go_upto_region 5 with (fail)
  generalize hge : World.alloc _ _ = w5
  have HY5 := Lib.hid (show Blk w5 w4.heap.size 43 #[.int .i64 x, .int .i64 y] by subst hge; exact Blk.new w4 _ _)
  have hb5 : Below w4.heap.size w4 w5 := by subst hge; exact (Below.refl _ _).alloc (Nat.le_refl _) _
  have HX5 := Lib.hid (HX4.out.below hb5)
  have HA5 := Lib.hid (HA4.out.below hb5)
  have HG5 := Lib.hid (HG4.out.below hb5)
  have HB5 := Lib.hid (below_of HB4.out hb5 HB4.out.size)
  clear hge hb5
  obtain ⟨Y, hY⟩ : ∃ X, w4.heap.size = X := ⟨_, rfl⟩
  rw [hY] at HY5 ⊢
  clear hY
  have a0 := HA5.out.cellv (i := 0) rfl
  have a1 := HA5.out.cellv (i := 1) rfl
  have x0 := HX5.out.cellv (i := 0) rfl
  have x1 := HX5.out.cellv (i := 1) rfl
  have y0 := HY5.out.cellv (i := 0) rfl
  have y1 := HY5.out.cellv (i := 1) rfl
  have hE := fun W => run_eqI x y x y W
  rw [show decide ((x, y) = (x, y)) = true by simp] at hE
  go_wp2_with (fail)
  clear hE x0 x1 y0 y1 a0 a1
  refine (HK1.out w5).mono ?_
  rintro e w6 ⟨rfl, hw6⟩
  have hb6 : Below w5.heap.size w5 w6 := by rw [hw6]; exact (Below.refl _ _).alloc (Nat.le_refl _) _
  have HX6 := Lib.hid (HX5.out.below hb6)
  have HA6 := Lib.hid (HA5.out.below hb6)
  have HG6 := Lib.hid (HG5.out.below hb6)
  have HB6 := Lib.hid (below_of HB5.out hb6 HB5.out.size)
  clear hw6 hb6
  have g0 := HG6.out.cellv (i := 0) rfl
  have g1 := HG6.out.cellv (i := 1) rfl
  go_wp2_with (fail)
  clear g0 g1
  refine (HK2.out w6).mono ?_
  rintro e w7 ⟨rfl, hw7⟩
  have hb7 : Below w6.heap.size w6 w7 := by rw [hw7]; exact (Below.refl _ _).alloc (Nat.le_refl _) _
  have HX7 := Lib.hid (HX6.out.below hb7)
  have HA7 := Lib.hid (HA6.out.below hb7)
  have HG7 := Lib.hid (HG6.out.below hb7)
  have HB7 := Lib.hid (below_of HB6.out hb7 HB6.out.size)
  clear hw7 hb7
  have a0 := HA7.out.cellv (i := 0) rfl
  have a1 := HA7.out.cellv (i := 1) rfl
  go_wp2_with (fail)
  generalize hge : World.alloc _ _ = w8
  have HT8 := Lib.hid (show Blk w8 w7.heap.size 43 #[.int .i64 ax, .int .i64 ay] by subst hge; exact Blk.new w7 _ _)
  have hb8 : Below w7.heap.size w7 w8 := by subst hge; exact (Below.refl _ _).alloc (Nat.le_refl _) _
  have HX8 := Lib.hid (HX7.out.below hb8)
  have HG8 := Lib.hid (HG7.out.below hb8)
  have HB8 := Lib.hid (below_of HB7.out hb8 HB7.out.size)
  clear hge hb8 a0 a1
  refine (HIa.out _ w8 HT8.out).mono ?_
  rintro e w9 ⟨rfl, hb9⟩
  have HX9 := Lib.hid (HX8.out.below hb9)
  have HG9 := Lib.hid (HG8.out.below hb9)
  have HB9 := Lib.hid (below_of HB8.out hb9 HB8.out.size)
  clear hb9
  have HKx := Lib.hid (fun W => check_of x y W true (by have := Hmi.out.1; rwa [Hxy.out] at this))
  have HIx := Lib.hid (fun g W h => in_one n x y g W h false (by have := Hmi.out.2; rwa [Hxy.out] at this))
  have x0 := HX9.out.cellv (i := 0) rfl
  have x1 := HX9.out.cellv (i := 1) rfl
  go_wp2_with (fail)
  refine (HKx.out w9).mono ?_
  rintro e w20 ⟨rfl, hw20⟩
  have hb20 : Below w9.heap.size w9 w20 := by rw [hw20]; exact (Below.refl _ _).alloc (Nat.le_refl _) _
  have HX20 := Lib.hid (HX9.out.below hb20)
  have HG20 := Lib.hid (HG9.out.below hb20)
  have HB20 := Lib.hid (below_of HB9.out hb20 HB9.out.size)
  clear hw20 hb20 x0 x1
  have a0 := HX20.out.cellv (i := 0) rfl
  have a1 := HX20.out.cellv (i := 1) rfl
  go_wp2_with (fail)
  generalize hge : World.alloc _ _ = w21
  have HT21 := Lib.hid (show Blk w21 w20.heap.size 43 #[.int .i64 x, .int .i64 y] by subst hge; exact Blk.new w20 _ _)
  have hb21 : Below w20.heap.size w20 w21 := by subst hge; exact (Below.refl _ _).alloc (Nat.le_refl _) _
  have HX21 := Lib.hid (HX20.out.below hb21)
  have HG21 := Lib.hid (HG20.out.below hb21)
  have HB21 := Lib.hid (below_of HB20.out hb21 HB20.out.size)
  clear hge hb21 a0 a1
  refine (HIx.out _ w21 HT21.out).mono ?_
  rintro e w22 ⟨rfl, hb22⟩
  have HX22 := Lib.hid (HX21.out.below hb22)
  have HG22 := Lib.hid (HG21.out.below hb22)
  have HB22 := Lib.hid (below_of HB21.out hb22 HB21.out.size)
  clear hb22
  go_wp2_with (fail)
  go_ret
  exact ⟨rfl, HB22.out⟩
set_option maxRecDepth 100000 in
set_option maxHeartbeats 8000000 in
theorem meets_tf_n (w : World) (hL : Lens w) (ax ay bx by_ n : Int) (h1 : Iv.okI (ax, ay) = true) (h2 : Iv.okI (bx, by_) = true) (hmo : meetOk (ax, ay) (bx, by_) = false) (hia : Iv.inI n (ax, ay) = true) (hib : Iv.inI n (bx, by_) = false) :
    Calls Tryd.prog 9 #[.agg #[.int .i64 ax, .int .i64 ay], .agg #[.int .i64 bx, .int .i64 by_], .int .i64 n] w (Fine w) := by
  have HL := Lib.hid hL
  clear hL
  have HK1 := Lib.hid (fun W => check_of ax ay W _ h1)
  have HK2 := Lib.hid (fun W => check_of bx by_ W _ h2)
  have HIa := Lib.hid (fun g W h => in_one n ax ay g W h _ hia)
  have HIb := Lib.hid (fun g W h => in_one n bx by_ g W h _ hib)
  have Hmi := Lib.hid (meet_out hmo h1 h2 n).2
  clear h1 h2 hia hib
  have HM1 := Lib.hid (fun W => Meet_any ax ay bx by_ W)
  have HM2 := Lib.hid (fun W => Meet_any bx by_ ax ay W)
  unfold MeetPost at HM1 HM2
  rw [meetV_comm, meetOk_comm, hmo] at HM2
  rw [hmo] at HM1
  obtain ⟨⟨x, y⟩, hxy⟩ : ∃ v, meetV (ax, ay) (bx, by_) = v := ⟨_, rfl⟩
  rw [hxy] at HM1 HM2
  simp only [] at HM1 HM2
  have Hxy := Lib.hid hxy
  have Hmo := Lib.hid hmo
  clear hxy hmo
  go_enter Tryd.func9, Tryd.ntmps9
  go_wp2_with (fail)
  generalize hge : World.alloc _ _ = w0
  have HA0 := Lib.hid (show Blk w0 w.heap.size 43 #[.int .i64 ax, .int .i64 ay] by subst hge; exact (Blk.new w _ _).alloc _)
  have HG0 := Lib.hid (show Blk w0 (w.heap.size + 1) 43 #[.int .i64 bx, .int .i64 by_] by subst hge; exact blk_at1 w _ _ _ _)
  have HB0 := Lib.hid (show Below w.heap.size w w0 by subst hge; exact ((Below.refl _ _).alloc (Nat.le_refl _) _).alloc (by simp) _)
  clear hge
  refine (csane_any w0 (HL.out.below HB0.out)).mono ?_
  rintro e w1 ⟨rfl, hb1⟩
  have HA1 := Lib.hid (HA0.out.below hb1)
  have HG1 := Lib.hid (HG0.out.below hb1)
  have HB1 := Lib.hid (below_of HB0.out hb1 HB0.out.size)
  clear hb1
  have a0 := HA1.out.cellv (i := 0) rfl
  have a1 := HA1.out.cellv (i := 1) rfl
  have g0 := HG1.out.cellv (i := 0) rfl
  have g1 := HG1.out.cellv (i := 1) rfl
  go_wp2_with (fail)
  refine (HM1.out w1).mono ?_
  rintro e w2 ⟨rfl, hb2⟩
  have HA2 := Lib.hid (HA1.out.below hb2)
  have HG2 := Lib.hid (HG1.out.below hb2)
  have HB2 := Lib.hid (below_of HB1.out hb2 HB1.out.size)
  clear hb2 a0 a1 g0 g1
  go_upto_region 4 with (fail)
  generalize hge : World.alloc _ _ = w3
  have HX3 := Lib.hid (show Blk w3 w2.heap.size 43 #[.int .i64 x, .int .i64 y] by subst hge; exact Blk.new w2 _ _)
  have hb3 : Below w2.heap.size w2 w3 := by subst hge; exact (Below.refl _ _).alloc (Nat.le_refl _) _
  have HA3 := Lib.hid (HA2.out.below hb3)
  have HG3 := Lib.hid (HG2.out.below hb3)
  have HB3 := Lib.hid (below_of HB2.out hb3 HB2.out.size)
  clear hge hb3
  obtain ⟨X, hX⟩ : ∃ X, w2.heap.size = X := ⟨_, rfl⟩
  rw [hX] at HX3 ⊢
  clear hX
  have a0 := HA3.out.cellv (i := 0) rfl
  have a1 := HA3.out.cellv (i := 1) rfl
  have g0 := HG3.out.cellv (i := 0) rfl
  have g1 := HG3.out.cellv (i := 1) rfl
  go_wp2_with (fail)
  refine (HM2.out w3).mono ?_
  rintro e w4 ⟨rfl, hb4⟩
  have HX4 := Lib.hid (HX3.out.below hb4)
  have HA4 := Lib.hid (HA3.out.below hb4)
  have HG4 := Lib.hid (HG3.out.below hb4)
  have HB4 := Lib.hid (below_of HB3.out hb4 HB3.out.size)
  clear hb4 a0 a1 g0 g1
  go_upto_region 5 with (fail)
  generalize hge : World.alloc _ _ = w5
  have HY5 := Lib.hid (show Blk w5 w4.heap.size 43 #[.int .i64 x, .int .i64 y] by subst hge; exact Blk.new w4 _ _)
  have hb5 : Below w4.heap.size w4 w5 := by subst hge; exact (Below.refl _ _).alloc (Nat.le_refl _) _
  have HX5 := Lib.hid (HX4.out.below hb5)
  have HA5 := Lib.hid (HA4.out.below hb5)
  have HG5 := Lib.hid (HG4.out.below hb5)
  have HB5 := Lib.hid (below_of HB4.out hb5 HB4.out.size)
  clear hge hb5
  obtain ⟨Y, hY⟩ : ∃ X, w4.heap.size = X := ⟨_, rfl⟩
  rw [hY] at HY5 ⊢
  clear hY
  have a0 := HA5.out.cellv (i := 0) rfl
  have a1 := HA5.out.cellv (i := 1) rfl
  have x0 := HX5.out.cellv (i := 0) rfl
  have x1 := HX5.out.cellv (i := 1) rfl
  have y0 := HY5.out.cellv (i := 0) rfl
  have y1 := HY5.out.cellv (i := 1) rfl
  have hE := fun W => run_eqI x y x y W
  rw [show decide ((x, y) = (x, y)) = true by simp] at hE
  go_wp2_with (fail)
  clear hE x0 x1 y0 y1 a0 a1
  refine (HK1.out w5).mono ?_
  rintro e w6 ⟨rfl, hw6⟩
  have hb6 : Below w5.heap.size w5 w6 := by rw [hw6]; exact (Below.refl _ _).alloc (Nat.le_refl _) _
  have HX6 := Lib.hid (HX5.out.below hb6)
  have HA6 := Lib.hid (HA5.out.below hb6)
  have HG6 := Lib.hid (HG5.out.below hb6)
  have HB6 := Lib.hid (below_of HB5.out hb6 HB5.out.size)
  clear hw6 hb6
  have g0 := HG6.out.cellv (i := 0) rfl
  have g1 := HG6.out.cellv (i := 1) rfl
  go_wp2_with (fail)
  clear g0 g1
  refine (HK2.out w6).mono ?_
  rintro e w7 ⟨rfl, hw7⟩
  have hb7 : Below w6.heap.size w6 w7 := by rw [hw7]; exact (Below.refl _ _).alloc (Nat.le_refl _) _
  have HX7 := Lib.hid (HX6.out.below hb7)
  have HA7 := Lib.hid (HA6.out.below hb7)
  have HG7 := Lib.hid (HG6.out.below hb7)
  have HB7 := Lib.hid (below_of HB6.out hb7 HB6.out.size)
  clear hw7 hb7
  have a0 := HA7.out.cellv (i := 0) rfl
  have a1 := HA7.out.cellv (i := 1) rfl
  go_wp2_with (fail)
  generalize hge : World.alloc _ _ = w8
  have HT8 := Lib.hid (show Blk w8 w7.heap.size 43 #[.int .i64 ax, .int .i64 ay] by subst hge; exact Blk.new w7 _ _)
  have hb8 : Below w7.heap.size w7 w8 := by subst hge; exact (Below.refl _ _).alloc (Nat.le_refl _) _
  have HX8 := Lib.hid (HX7.out.below hb8)
  have HG8 := Lib.hid (HG7.out.below hb8)
  have HB8 := Lib.hid (below_of HB7.out hb8 HB7.out.size)
  clear hge hb8 a0 a1
  refine (HIa.out _ w8 HT8.out).mono ?_
  rintro e w9 ⟨rfl, hb9⟩
  have HX9 := Lib.hid (HX8.out.below hb9)
  have HG9 := Lib.hid (HG8.out.below hb9)
  have HB9 := Lib.hid (below_of HB8.out hb9 HB8.out.size)
  clear hb9
  have a0 := HG9.out.cellv (i := 0) rfl
  have a1 := HG9.out.cellv (i := 1) rfl
  go_wp2_with (fail)
  generalize hge : World.alloc _ _ = w10
  have HT10 := Lib.hid (show Blk w10 w9.heap.size 43 #[.int .i64 bx, .int .i64 by_] by subst hge; exact Blk.new w9 _ _)
  have hb10 : Below w9.heap.size w9 w10 := by subst hge; exact (Below.refl _ _).alloc (Nat.le_refl _) _
  have HX10 := Lib.hid (HX9.out.below hb10)
  have HG10 := Lib.hid (HG9.out.below hb10)
  have HB10 := Lib.hid (below_of HB9.out hb10 HB9.out.size)
  clear hge hb10 a0 a1
  refine (HIb.out _ w10 HT10.out).mono ?_
  rintro e w11 ⟨rfl, hb11⟩
  have HX11 := Lib.hid (HX10.out.below hb11)
  have HG11 := Lib.hid (HG10.out.below hb11)
  have HB11 := Lib.hid (below_of HB10.out hb11 HB10.out.size)
  clear hb11
  have x0 := HX11.out.cellv (i := 0) rfl
  have x1 := HX11.out.cellv (i := 1) rfl
  have hE := fun W => run_eqI x y 0 0 W
  rw [show decide ((x, y) = ((0 : Int), (0 : Int))) = true by have h1 := Hmi.out; rw [Hxy.out] at h1; rw [h1]; simp] at hE
  go_wp2_with (fail)
  go_ret
  exact ⟨rfl, HB11.out⟩
set_option maxRecDepth 100000 in
set_option maxHeartbeats 8000000 in
theorem meets_tf_y (w : World) (hL : Lens w) (ax ay bx by_ n : Int) (h1 : Iv.okI (ax, ay) = true) (h2 : Iv.okI (bx, by_) = true) (hmo : meetOk (ax, ay) (bx, by_) = true) (hia : Iv.inI n (ax, ay) = true) (hib : Iv.inI n (bx, by_) = false) :
    Calls Tryd.prog 9 #[.agg #[.int .i64 ax, .int .i64 ay], .agg #[.int .i64 bx, .int .i64 by_], .int .i64 n] w (Fine w) := by
  have HL := Lib.hid hL
  clear hL
  have HK1 := Lib.hid (fun W => check_of ax ay W _ h1)
  have HK2 := Lib.hid (fun W => check_of bx by_ W _ h2)
  have HIa := Lib.hid (fun g W h => in_one n ax ay g W h _ hia)
  have HIb := Lib.hid (fun g W h => in_one n bx by_ g W h _ hib)
  have hmi := meet_in hmo n
  rw [show (Iv.inI n (ax, ay) && Iv.inI n (bx, by_)) = false by rw [hia, hib]; rfl] at hmi
  have Hmi := Lib.hid hmi
  clear hmi
  clear h1 h2 hia hib
  have HM1 := Lib.hid (fun W => Meet_any ax ay bx by_ W)
  have HM2 := Lib.hid (fun W => Meet_any bx by_ ax ay W)
  unfold MeetPost at HM1 HM2
  rw [meetV_comm, meetOk_comm, hmo] at HM2
  rw [hmo] at HM1
  obtain ⟨⟨x, y⟩, hxy⟩ : ∃ v, meetV (ax, ay) (bx, by_) = v := ⟨_, rfl⟩
  rw [hxy] at HM1 HM2
  simp only [] at HM1 HM2
  have Hxy := Lib.hid hxy
  have Hmo := Lib.hid hmo
  clear hxy hmo
  go_enter Tryd.func9, Tryd.ntmps9
  go_wp2_with (fail)
  generalize hge : World.alloc _ _ = w0
  have HA0 := Lib.hid (show Blk w0 w.heap.size 43 #[.int .i64 ax, .int .i64 ay] by subst hge; exact (Blk.new w _ _).alloc _)
  have HG0 := Lib.hid (show Blk w0 (w.heap.size + 1) 43 #[.int .i64 bx, .int .i64 by_] by subst hge; exact blk_at1 w _ _ _ _)
  have HB0 := Lib.hid (show Below w.heap.size w w0 by subst hge; exact ((Below.refl _ _).alloc (Nat.le_refl _) _).alloc (by simp) _)
  clear hge
  refine (csane_any w0 (HL.out.below HB0.out)).mono ?_
  rintro e w1 ⟨rfl, hb1⟩
  have HA1 := Lib.hid (HA0.out.below hb1)
  have HG1 := Lib.hid (HG0.out.below hb1)
  have HB1 := Lib.hid (below_of HB0.out hb1 HB0.out.size)
  clear hb1
  have a0 := HA1.out.cellv (i := 0) rfl
  have a1 := HA1.out.cellv (i := 1) rfl
  have g0 := HG1.out.cellv (i := 0) rfl
  have g1 := HG1.out.cellv (i := 1) rfl
  go_wp2_with (fail)
  refine (HM1.out w1).mono ?_
  rintro e w2 ⟨rfl, hb2⟩
  have HA2 := Lib.hid (HA1.out.below hb2)
  have HG2 := Lib.hid (HG1.out.below hb2)
  have HB2 := Lib.hid (below_of HB1.out hb2 HB1.out.size)
  clear hb2 a0 a1 g0 g1
  go_upto_region 4 with (fail)
  generalize hge : World.alloc _ _ = w3
  have HX3 := Lib.hid (show Blk w3 w2.heap.size 43 #[.int .i64 x, .int .i64 y] by subst hge; exact Blk.new w2 _ _)
  have hb3 : Below w2.heap.size w2 w3 := by subst hge; exact (Below.refl _ _).alloc (Nat.le_refl _) _
  have HA3 := Lib.hid (HA2.out.below hb3)
  have HG3 := Lib.hid (HG2.out.below hb3)
  have HB3 := Lib.hid (below_of HB2.out hb3 HB2.out.size)
  clear hge hb3
  obtain ⟨X, hX⟩ : ∃ X, w2.heap.size = X := ⟨_, rfl⟩
  rw [hX] at HX3 ⊢
  clear hX
  have a0 := HA3.out.cellv (i := 0) rfl
  have a1 := HA3.out.cellv (i := 1) rfl
  have g0 := HG3.out.cellv (i := 0) rfl
  have g1 := HG3.out.cellv (i := 1) rfl
  go_wp2_with (fail)
  refine (HM2.out w3).mono ?_
  rintro e w4 ⟨rfl, hb4⟩
  have HX4 := Lib.hid (HX3.out.below hb4)
  have HA4 := Lib.hid (HA3.out.below hb4)
  have HG4 := Lib.hid (HG3.out.below hb4)
  have HB4 := Lib.hid (below_of HB3.out hb4 HB3.out.size)
  clear hb4 a0 a1 g0 g1
  go_upto_region 5 with (fail)
  generalize hge : World.alloc _ _ = w5
  have HY5 := Lib.hid (show Blk w5 w4.heap.size 43 #[.int .i64 x, .int .i64 y] by subst hge; exact Blk.new w4 _ _)
  have hb5 : Below w4.heap.size w4 w5 := by subst hge; exact (Below.refl _ _).alloc (Nat.le_refl _) _
  have HX5 := Lib.hid (HX4.out.below hb5)
  have HA5 := Lib.hid (HA4.out.below hb5)
  have HG5 := Lib.hid (HG4.out.below hb5)
  have HB5 := Lib.hid (below_of HB4.out hb5 HB4.out.size)
  clear hge hb5
  obtain ⟨Y, hY⟩ : ∃ X, w4.heap.size = X := ⟨_, rfl⟩
  rw [hY] at HY5 ⊢
  clear hY
  have a0 := HA5.out.cellv (i := 0) rfl
  have a1 := HA5.out.cellv (i := 1) rfl
  have x0 := HX5.out.cellv (i := 0) rfl
  have x1 := HX5.out.cellv (i := 1) rfl
  have y0 := HY5.out.cellv (i := 0) rfl
  have y1 := HY5.out.cellv (i := 1) rfl
  have hE := fun W => run_eqI x y x y W
  rw [show decide ((x, y) = (x, y)) = true by simp] at hE
  go_wp2_with (fail)
  clear hE x0 x1 y0 y1 a0 a1
  refine (HK1.out w5).mono ?_
  rintro e w6 ⟨rfl, hw6⟩
  have hb6 : Below w5.heap.size w5 w6 := by rw [hw6]; exact (Below.refl _ _).alloc (Nat.le_refl _) _
  have HX6 := Lib.hid (HX5.out.below hb6)
  have HA6 := Lib.hid (HA5.out.below hb6)
  have HG6 := Lib.hid (HG5.out.below hb6)
  have HB6 := Lib.hid (below_of HB5.out hb6 HB5.out.size)
  clear hw6 hb6
  have g0 := HG6.out.cellv (i := 0) rfl
  have g1 := HG6.out.cellv (i := 1) rfl
  go_wp2_with (fail)
  clear g0 g1
  refine (HK2.out w6).mono ?_
  rintro e w7 ⟨rfl, hw7⟩
  have hb7 : Below w6.heap.size w6 w7 := by rw [hw7]; exact (Below.refl _ _).alloc (Nat.le_refl _) _
  have HX7 := Lib.hid (HX6.out.below hb7)
  have HA7 := Lib.hid (HA6.out.below hb7)
  have HG7 := Lib.hid (HG6.out.below hb7)
  have HB7 := Lib.hid (below_of HB6.out hb7 HB6.out.size)
  clear hw7 hb7
  have a0 := HA7.out.cellv (i := 0) rfl
  have a1 := HA7.out.cellv (i := 1) rfl
  go_wp2_with (fail)
  generalize hge : World.alloc _ _ = w8
  have HT8 := Lib.hid (show Blk w8 w7.heap.size 43 #[.int .i64 ax, .int .i64 ay] by subst hge; exact Blk.new w7 _ _)
  have hb8 : Below w7.heap.size w7 w8 := by subst hge; exact (Below.refl _ _).alloc (Nat.le_refl _) _
  have HX8 := Lib.hid (HX7.out.below hb8)
  have HG8 := Lib.hid (HG7.out.below hb8)
  have HB8 := Lib.hid (below_of HB7.out hb8 HB7.out.size)
  clear hge hb8 a0 a1
  refine (HIa.out _ w8 HT8.out).mono ?_
  rintro e w9 ⟨rfl, hb9⟩
  have HX9 := Lib.hid (HX8.out.below hb9)
  have HG9 := Lib.hid (HG8.out.below hb9)
  have HB9 := Lib.hid (below_of HB8.out hb9 HB8.out.size)
  clear hb9
  have a0 := HG9.out.cellv (i := 0) rfl
  have a1 := HG9.out.cellv (i := 1) rfl
  go_wp2_with (fail)
  generalize hge : World.alloc _ _ = w10
  have HT10 := Lib.hid (show Blk w10 w9.heap.size 43 #[.int .i64 bx, .int .i64 by_] by subst hge; exact Blk.new w9 _ _)
  have hb10 : Below w9.heap.size w9 w10 := by subst hge; exact (Below.refl _ _).alloc (Nat.le_refl _) _
  have HX10 := Lib.hid (HX9.out.below hb10)
  have HG10 := Lib.hid (HG9.out.below hb10)
  have HB10 := Lib.hid (below_of HB9.out hb10 HB9.out.size)
  clear hge hb10 a0 a1
  refine (HIb.out _ w10 HT10.out).mono ?_
  rintro e w11 ⟨rfl, hb11⟩
  have HX11 := Lib.hid (HX10.out.below hb11)
  have HG11 := Lib.hid (HG10.out.below hb11)
  have HB11 := Lib.hid (below_of HB10.out hb11 HB10.out.size)
  clear hb11
  have HKx := Lib.hid (fun W => check_of x y W true (by have := Hmi.out.1; rwa [Hxy.out] at this))
  have HIx := Lib.hid (fun g W h => in_one n x y g W h false (by have := Hmi.out.2; rwa [Hxy.out] at this))
  have x0 := HX11.out.cellv (i := 0) rfl
  have x1 := HX11.out.cellv (i := 1) rfl
  go_wp2_with (fail)
  refine (HKx.out w11).mono ?_
  rintro e w20 ⟨rfl, hw20⟩
  have hb20 : Below w11.heap.size w11 w20 := by rw [hw20]; exact (Below.refl _ _).alloc (Nat.le_refl _) _
  have HX20 := Lib.hid (HX11.out.below hb20)
  have HG20 := Lib.hid (HG11.out.below hb20)
  have HB20 := Lib.hid (below_of HB11.out hb20 HB11.out.size)
  clear hw20 hb20 x0 x1
  have a0 := HX20.out.cellv (i := 0) rfl
  have a1 := HX20.out.cellv (i := 1) rfl
  go_wp2_with (fail)
  generalize hge : World.alloc _ _ = w21
  have HT21 := Lib.hid (show Blk w21 w20.heap.size 43 #[.int .i64 x, .int .i64 y] by subst hge; exact Blk.new w20 _ _)
  have hb21 : Below w20.heap.size w20 w21 := by subst hge; exact (Below.refl _ _).alloc (Nat.le_refl _) _
  have HX21 := Lib.hid (HX20.out.below hb21)
  have HG21 := Lib.hid (HG20.out.below hb21)
  have HB21 := Lib.hid (below_of HB20.out hb21 HB20.out.size)
  clear hge hb21 a0 a1
  refine (HIx.out _ w21 HT21.out).mono ?_
  rintro e w22 ⟨rfl, hb22⟩
  have HX22 := Lib.hid (HX21.out.below hb22)
  have HG22 := Lib.hid (HG21.out.below hb22)
  have HB22 := Lib.hid (below_of HB21.out hb22 HB21.out.size)
  clear hb22
  go_wp2_with (fail)
  go_ret
  exact ⟨rfl, HB22.out⟩
set_option maxRecDepth 100000 in
set_option maxHeartbeats 8000000 in
theorem meets_tt_y (w : World) (hL : Lens w) (ax ay bx by_ n : Int) (h1 : Iv.okI (ax, ay) = true) (h2 : Iv.okI (bx, by_) = true) (hmo : meetOk (ax, ay) (bx, by_) = true) (hia : Iv.inI n (ax, ay) = true) (hib : Iv.inI n (bx, by_) = true) :
    Calls Tryd.prog 9 #[.agg #[.int .i64 ax, .int .i64 ay], .agg #[.int .i64 bx, .int .i64 by_], .int .i64 n] w (Fine w) := by
  have HL := Lib.hid hL
  clear hL
  have HK1 := Lib.hid (fun W => check_of ax ay W _ h1)
  have HK2 := Lib.hid (fun W => check_of bx by_ W _ h2)
  have HIa := Lib.hid (fun g W h => in_one n ax ay g W h _ hia)
  have HIb := Lib.hid (fun g W h => in_one n bx by_ g W h _ hib)
  have hmi := meet_in hmo n
  rw [show (Iv.inI n (ax, ay) && Iv.inI n (bx, by_)) = true by rw [hia, hib]; rfl] at hmi
  have Hmi := Lib.hid hmi
  clear hmi
  clear h1 h2 hia hib
  have HM1 := Lib.hid (fun W => Meet_any ax ay bx by_ W)
  have HM2 := Lib.hid (fun W => Meet_any bx by_ ax ay W)
  unfold MeetPost at HM1 HM2
  rw [meetV_comm, meetOk_comm, hmo] at HM2
  rw [hmo] at HM1
  obtain ⟨⟨x, y⟩, hxy⟩ : ∃ v, meetV (ax, ay) (bx, by_) = v := ⟨_, rfl⟩
  rw [hxy] at HM1 HM2
  simp only [] at HM1 HM2
  have Hxy := Lib.hid hxy
  have Hmo := Lib.hid hmo
  clear hxy hmo
  go_enter Tryd.func9, Tryd.ntmps9
  go_wp2_with (fail)
  generalize hge : World.alloc _ _ = w0
  have HA0 := Lib.hid (show Blk w0 w.heap.size 43 #[.int .i64 ax, .int .i64 ay] by subst hge; exact (Blk.new w _ _).alloc _)
  have HG0 := Lib.hid (show Blk w0 (w.heap.size + 1) 43 #[.int .i64 bx, .int .i64 by_] by subst hge; exact blk_at1 w _ _ _ _)
  have HB0 := Lib.hid (show Below w.heap.size w w0 by subst hge; exact ((Below.refl _ _).alloc (Nat.le_refl _) _).alloc (by simp) _)
  clear hge
  refine (csane_any w0 (HL.out.below HB0.out)).mono ?_
  rintro e w1 ⟨rfl, hb1⟩
  have HA1 := Lib.hid (HA0.out.below hb1)
  have HG1 := Lib.hid (HG0.out.below hb1)
  have HB1 := Lib.hid (below_of HB0.out hb1 HB0.out.size)
  clear hb1
  have a0 := HA1.out.cellv (i := 0) rfl
  have a1 := HA1.out.cellv (i := 1) rfl
  have g0 := HG1.out.cellv (i := 0) rfl
  have g1 := HG1.out.cellv (i := 1) rfl
  go_wp2_with (fail)
  refine (HM1.out w1).mono ?_
  rintro e w2 ⟨rfl, hb2⟩
  have HA2 := Lib.hid (HA1.out.below hb2)
  have HG2 := Lib.hid (HG1.out.below hb2)
  have HB2 := Lib.hid (below_of HB1.out hb2 HB1.out.size)
  clear hb2 a0 a1 g0 g1
  go_upto_region 4 with (fail)
  generalize hge : World.alloc _ _ = w3
  have HX3 := Lib.hid (show Blk w3 w2.heap.size 43 #[.int .i64 x, .int .i64 y] by subst hge; exact Blk.new w2 _ _)
  have hb3 : Below w2.heap.size w2 w3 := by subst hge; exact (Below.refl _ _).alloc (Nat.le_refl _) _
  have HA3 := Lib.hid (HA2.out.below hb3)
  have HG3 := Lib.hid (HG2.out.below hb3)
  have HB3 := Lib.hid (below_of HB2.out hb3 HB2.out.size)
  clear hge hb3
  obtain ⟨X, hX⟩ : ∃ X, w2.heap.size = X := ⟨_, rfl⟩
  rw [hX] at HX3 ⊢
  clear hX
  have a0 := HA3.out.cellv (i := 0) rfl
  have a1 := HA3.out.cellv (i := 1) rfl
  have g0 := HG3.out.cellv (i := 0) rfl
  have g1 := HG3.out.cellv (i := 1) rfl
  go_wp2_with (fail)
  refine (HM2.out w3).mono ?_
  rintro e w4 ⟨rfl, hb4⟩
  have HX4 := Lib.hid (HX3.out.below hb4)
  have HA4 := Lib.hid (HA3.out.below hb4)
  have HG4 := Lib.hid (HG3.out.below hb4)
  have HB4 := Lib.hid (below_of HB3.out hb4 HB3.out.size)
  clear hb4 a0 a1 g0 g1
  go_upto_region 5 with (fail)
  generalize hge : World.alloc _ _ = w5
  have HY5 := Lib.hid (show Blk w5 w4.heap.size 43 #[.int .i64 x, .int .i64 y] by subst hge; exact Blk.new w4 _ _)
  have hb5 : Below w4.heap.size w4 w5 := by subst hge; exact (Below.refl _ _).alloc (Nat.le_refl _) _
  have HX5 := Lib.hid (HX4.out.below hb5)
  have HA5 := Lib.hid (HA4.out.below hb5)
  have HG5 := Lib.hid (HG4.out.below hb5)
  have HB5 := Lib.hid (below_of HB4.out hb5 HB4.out.size)
  clear hge hb5
  obtain ⟨Y, hY⟩ : ∃ X, w4.heap.size = X := ⟨_, rfl⟩
  rw [hY] at HY5 ⊢
  clear hY
  have a0 := HA5.out.cellv (i := 0) rfl
  have a1 := HA5.out.cellv (i := 1) rfl
  have x0 := HX5.out.cellv (i := 0) rfl
  have x1 := HX5.out.cellv (i := 1) rfl
  have y0 := HY5.out.cellv (i := 0) rfl
  have y1 := HY5.out.cellv (i := 1) rfl
  have hE := fun W => run_eqI x y x y W
  rw [show decide ((x, y) = (x, y)) = true by simp] at hE
  go_wp2_with (fail)
  clear hE x0 x1 y0 y1 a0 a1
  refine (HK1.out w5).mono ?_
  rintro e w6 ⟨rfl, hw6⟩
  have hb6 : Below w5.heap.size w5 w6 := by rw [hw6]; exact (Below.refl _ _).alloc (Nat.le_refl _) _
  have HX6 := Lib.hid (HX5.out.below hb6)
  have HA6 := Lib.hid (HA5.out.below hb6)
  have HG6 := Lib.hid (HG5.out.below hb6)
  have HB6 := Lib.hid (below_of HB5.out hb6 HB5.out.size)
  clear hw6 hb6
  have g0 := HG6.out.cellv (i := 0) rfl
  have g1 := HG6.out.cellv (i := 1) rfl
  go_wp2_with (fail)
  clear g0 g1
  refine (HK2.out w6).mono ?_
  rintro e w7 ⟨rfl, hw7⟩
  have hb7 : Below w6.heap.size w6 w7 := by rw [hw7]; exact (Below.refl _ _).alloc (Nat.le_refl _) _
  have HX7 := Lib.hid (HX6.out.below hb7)
  have HA7 := Lib.hid (HA6.out.below hb7)
  have HG7 := Lib.hid (HG6.out.below hb7)
  have HB7 := Lib.hid (below_of HB6.out hb7 HB6.out.size)
  clear hw7 hb7
  have a0 := HA7.out.cellv (i := 0) rfl
  have a1 := HA7.out.cellv (i := 1) rfl
  go_wp2_with (fail)
  generalize hge : World.alloc _ _ = w8
  have HT8 := Lib.hid (show Blk w8 w7.heap.size 43 #[.int .i64 ax, .int .i64 ay] by subst hge; exact Blk.new w7 _ _)
  have hb8 : Below w7.heap.size w7 w8 := by subst hge; exact (Below.refl _ _).alloc (Nat.le_refl _) _
  have HX8 := Lib.hid (HX7.out.below hb8)
  have HG8 := Lib.hid (HG7.out.below hb8)
  have HB8 := Lib.hid (below_of HB7.out hb8 HB7.out.size)
  clear hge hb8 a0 a1
  refine (HIa.out _ w8 HT8.out).mono ?_
  rintro e w9 ⟨rfl, hb9⟩
  have HX9 := Lib.hid (HX8.out.below hb9)
  have HG9 := Lib.hid (HG8.out.below hb9)
  have HB9 := Lib.hid (below_of HB8.out hb9 HB8.out.size)
  clear hb9
  have a0 := HG9.out.cellv (i := 0) rfl
  have a1 := HG9.out.cellv (i := 1) rfl
  go_wp2_with (fail)
  generalize hge : World.alloc _ _ = w10
  have HT10 := Lib.hid (show Blk w10 w9.heap.size 43 #[.int .i64 bx, .int .i64 by_] by subst hge; exact Blk.new w9 _ _)
  have hb10 : Below w9.heap.size w9 w10 := by subst hge; exact (Below.refl _ _).alloc (Nat.le_refl _) _
  have HX10 := Lib.hid (HX9.out.below hb10)
  have HG10 := Lib.hid (HG9.out.below hb10)
  have HB10 := Lib.hid (below_of HB9.out hb10 HB9.out.size)
  clear hge hb10 a0 a1
  refine (HIb.out _ w10 HT10.out).mono ?_
  rintro e w11 ⟨rfl, hb11⟩
  have HX11 := Lib.hid (HX10.out.below hb11)
  have HG11 := Lib.hid (HG10.out.below hb11)
  have HB11 := Lib.hid (below_of HB10.out hb11 HB10.out.size)
  clear hb11
  have HKx := Lib.hid (fun W => check_of x y W true (by have := Hmi.out.1; rwa [Hxy.out] at this))
  have HIx := Lib.hid (fun g W h => in_one n x y g W h true (by have := Hmi.out.2; rwa [Hxy.out] at this))
  have x0 := HX11.out.cellv (i := 0) rfl
  have x1 := HX11.out.cellv (i := 1) rfl
  go_wp2_with (fail)
  refine (HKx.out w11).mono ?_
  rintro e w20 ⟨rfl, hw20⟩
  have hb20 : Below w11.heap.size w11 w20 := by rw [hw20]; exact (Below.refl _ _).alloc (Nat.le_refl _) _
  have HX20 := Lib.hid (HX11.out.below hb20)
  have HG20 := Lib.hid (HG11.out.below hb20)
  have HB20 := Lib.hid (below_of HB11.out hb20 HB11.out.size)
  clear hw20 hb20 x0 x1
  have a0 := HX20.out.cellv (i := 0) rfl
  have a1 := HX20.out.cellv (i := 1) rfl
  go_wp2_with (fail)
  generalize hge : World.alloc _ _ = w21
  have HT21 := Lib.hid (show Blk w21 w20.heap.size 43 #[.int .i64 x, .int .i64 y] by subst hge; exact Blk.new w20 _ _)
  have hb21 : Below w20.heap.size w20 w21 := by subst hge; exact (Below.refl _ _).alloc (Nat.le_refl _) _
  have HX21 := Lib.hid (HX20.out.below hb21)
  have HG21 := Lib.hid (HG20.out.below hb21)
  have HB21 := Lib.hid (below_of HB20.out hb21 HB20.out.size)
  clear hge hb21 a0 a1
  refine (HIx.out _ w21 HT21.out).mono ?_
  rintro e w22 ⟨rfl, hb22⟩
  have HX22 := Lib.hid (HX21.out.below hb22)
  have HG22 := Lib.hid (HG21.out.below hb22)
  have HB22 := Lib.hid (below_of HB21.out hb22 HB21.out.size)
  clear hb22
  go_wp2_with (fail)
  go_ret
  exact ⟨rfl, HB22.out⟩
theorem CalendarMeets_walk (w : World) (hL : Lens w) (ax ay : Int) (wax : (Lit.int .i64 ax).wf = true) (way : (Lit.int .i64 ay).wf = true) (bx by_ : Int) (wbx : (Lit.int .i64 bx).wf = true) (wby : (Lit.int .i64 by_).wf = true) (n : Int) (wn : (Lit.int .i64 n).wf = true) :
    Calls Tryd.prog 9 #[.agg #[.int .i64 ax, .int .i64 ay], .agg #[.int .i64 bx, .int .i64 by_], .int .i64 n] w (Fine w) := by
  cases h1 : Iv.okI (ax, ay) with
  | false => exact meets_a w hL ax ay bx by_ n h1
  | true =>
    cases h2 : Iv.okI (bx, by_) with
    | false => exact meets_b w hL ax ay bx by_ n h1 h2
    | true =>
      cases hmo : meetOk (ax, ay) (bx, by_) <;> cases hia : Iv.inI n (ax, ay) <;> cases hib : Iv.inI n (bx, by_)
      · exact meets_ff_n w hL ax ay bx by_ n h1 h2 hmo hia
      · exact meets_ff_n w hL ax ay bx by_ n h1 h2 hmo hia
      · exact meets_tf_n w hL ax ay bx by_ n h1 h2 hmo hia hib
      · have := (meet_out hmo h1 h2 n).1
        rw [hia, hib] at this
        cases this
      · exact meets_ff_y w hL ax ay bx by_ n h1 h2 hmo hia
      · exact meets_ff_y w hL ax ay bx by_ n h1 h2 hmo hia
      · exact meets_tf_y w hL ax ay bx by_ n h1 h2 hmo hia hib
      · exact meets_tt_y w hL ax ay bx by_ n h1 h2 hmo hia hib
-- the row
theorem calendarMeets_own : ownKnob Tryd.prog.godebug = none := by kernel_rfl
theorem calendarMeets_laidOut : laidOutB Tryd.prog = true := by kernel_rfl
theorem calendarMeets_readable : (Tryd.f9.params.toList.all fun t => Tryd.prog.readableRec t && decide (t < Tryd.prog.types.size)) = true := by kernel_rfl
set_option maxRecDepth 100000 in
theorem calendarMeets_lifted (os : Os) (started : os.Started) (H : Type) (enc : TypeId × Value → H) :
    ReturnsInHanded {} Tryd.checked os 9 .any (fun w args => (Rows.calendarMeetsSpec.pre enc Tryd.prog Tryd.f9 [] false w args ∧ laidMetH Tryd.prog laidL w) ∧ sizedMet enc Tryd.prog Tryd.f9 (OpenSpec.ofChange Rows.calendarMeetsSpec) false w args) (Rows.calendarMeetsSpec.post enc Tryd.prog Tryd.f9 false true false false) := by
  refine returnsInHanded_of_change_and (C := Tryd.checked) (X := fun w _ => laidMetH Tryd.prog laidL w) (fun _ _ _ hh h => h.of_heap hh) calendarMeets_own started (by kernel_rfl) Tryd.func9
    (ChangeSpec.witness_shaped (enc := enc) (C := Tryd.checked) (os := os) (X := fun w _ => laidMetH Tryd.prog laidL w) false (World.doorLaid Tryd.prog 400 os) #[.agg #[.int .i64 0, .int .i64 0], .agg #[.int .i64 0, .int .i64 0], .int .i64 0] 8 rfl (World.shaped_of_RefB (by kernel_rfl) (by kernel_rfl)) (by kernel_rfl) (by kernel_rfl) (by kernel_rfl) (door_met os _)) ?_
  intro W base args ds gs before hval0 hW _ _ hL _
  have hval : ∀ (j : Nat) t v, Tryd.f9.params[j]? = some t → args[j]? = some v → Value.okWide Tryd.prog W .any base t v := hval0
  have hW' := hW
  obtain ⟨p, q, hA0, hV, rfl, hfz, hnd⟩ := hW
  have hA : DataW.TrodAll enc Tryd.prog W 0 (fun _ => true) true Tryd.f9.params.toList args.toList ds p := hA0
  rw [Tryd.params9] at hA hval
  obtain ⟨v0, vs0, d0, ds0, p0, q0, hargs, rfl, rfl, h0, r0⟩ := trodAll_cons hA
  obtain ⟨v1, vs1, d1, ds1, p1, q1, rfl, rfl, rfl, h1, r1⟩ := trodAll_cons r0
  obtain ⟨v2, vs2, d2, ds2, p2, q2, rfl, rfl, rfl, h2, r2⟩ := trodAll_cons r1
  obtain ⟨rfl, rfl, rfl⟩ := trodAll_nil r2
  obtain rfl : args = #[v0, v1, v2] := by cases args; simp_all
  obtain ⟨rfl, rfl⟩ := trodVars_none hV
  obtain ⟨x0, y0, rfl, wx0, wy0⟩ := open_iv (hval 0 43 v0 rfl rfl) h0
  obtain ⟨x1, y1, rfl, wx1, wy1⟩ := open_iv (hval 1 43 v1 rfl rfl) h1
  obtain ⟨a2, rfl, rfl, rfl, w2⟩ := open_int Tryd.underlying3 (hval 2 3 v2 rfl rfl) h2
  refine (CalendarMeets_walk W (lens_of_laid hL) x0 y0 wx0 wy0 x1 y1 wx1 wy1 a2 w2).mono fun e W' ⟨he, hb⟩ => ?_
  subst he
  simp only [List.append_nil] at hW'
  refine ⟨_, rfl, law_post calendarMeets_laidOut ?_ (by kernel_rfl) Tryd.underlying4 rfl hW' rfl rfl rfl hb⟩
  intro t ht
  have hr := List.all_eq_true.1 calendarMeets_readable t ht
  rw [Bool.and_eq_true] at hr
  exact ⟨hr.1, of_decide_eq_true hr.2⟩
theorem calendarMeets_over : Rows.calendarMeetsRow.holds Tryd.pinned (OpenSpec.ofChange Rows.calendarMeetsSpec) :=
  OpenClaim.holds_of_wide 9 Tryd.f9 rfl rfl rfl rfl rfl rfl rfl ⟨rfl, rfl, rfl, rfl, rfl⟩ rfl rfl rfl rfl rfl (by kernel_rfl) Tryd.func9 (by kernel_rfl)
    (of_decide_eq_true (by kernel_rfl)) (by unfold Func.isWrapper; rw [if_neg (of_decide_eq_false (by kernel_rfl))]; exact ⟨rfl, rfl⟩)
    (fun os started H enc _ => calendarMeets_lifted os started H enc)
theorem calendarMeets_proved : Rows.CalendarMeetsCardSaid :=
  Claim7.holds_tied_plain_at .later [] [.data] true (true, "ecf52cd2f0e00eeb5a9e4ad7f568b0262762c417b538ca74502acb76cf8551ff") false
    calendarMeets_over (fun _ h => by cases h) (by kernel_rfl) (fun _ h => by cases h) calendarMeets_row_tie rfl ⟨rfl, rfl⟩ (by kernel_rfl) rfl
    (fun f fn hf hfn => by
      obtain rfl : f = 9 := Option.some.inj ((show Tryd.prog.funcNamed Rows.calendarMeetsRow.func = some 9 by kernel_rfl).symm.trans hf) |>.symm
      obtain rfl : fn = Tryd.f9 := (Option.some.inj (Tryd.func9.symm.trans hfn)).symm
      exact ⟨by kernel_rfl, fun j t ht => by
        rw [Tryd.params9] at ht
        have hm : t ∈ [43, 43, 3] := by simpa using Array.mem_of_getElem? ht
        have hall : ([43, 43, 3].all fun u => !Tryd.prog.wantsStandIn u) = true := by kernel_rfl
        exact (show Tryd.prog.wantsStandIn t = false by simpa using List.all_eq_true.1 hall t hm)⟩)
    (by kernel_rfl)
#print axioms calendarMeets_proved
end Go.Proofs.YtlijdbgknbeefaaDoor
