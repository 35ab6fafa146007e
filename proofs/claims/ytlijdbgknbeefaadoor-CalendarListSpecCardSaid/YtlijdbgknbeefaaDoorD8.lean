/- The statement CalendarListSpecCardSaid: Check, Meet, Union and In agree with the reference; no condition beside the row's own (the table of the months' lengths, tied by the given card). -/
import Derived.Test.YtlijdbgknbeefaaDoorCalX
import Derived.Test.YtlijdbgknbeefaaDoorIvM
import Derived.Deep.RegionHeld3
namespace Go.Proofs.YtlijdbgknbeefaaDoor
open Go.RowKit Go.WideShapes Go.ChangeShapes Go.ChangeAt
theorem cellk {W W' : World} {a : Addr} {v : Value} (hb : Below W.heap.size W W') (h : W.cell? a = some v) : W'.cell? a = some v := (hb.cell (World.block_lt_of_cell? W a h)).trans h
def UnionIs (l u : List (Int × Int)) (er : Int) : Prop := (allI l = true ∧ er = 0 ∧ Iv.IsUnion l u) ∨ (allI l = false ∧ er = 10 ∧ u = [])
theorem unionIs_one {l u v : List (Int × Int)} {a b : Int} (h : UnionIs l u a) (h' : UnionIs l v b) : u = v ∧ a = b := by
  rcases h with ⟨h1, h2, h3⟩ | ⟨h1, h2, h3⟩ <;> rcases h' with ⟨g1, g2, g3⟩ | ⟨g1, g2, g3⟩
  · exact ⟨Iv.union_one h3 g3, by rw [h2, g2]⟩
  · rw [h1] at g1; cases g1
  · rw [h1] at g1; cases g1
  · exact ⟨by rw [h3, g3], by rw [h2, g2]⟩
theorem unionIs_len {l u : List (Int × Int)} {a : Int} (h : UnionIs l u a) : u.length ≤ l.length := by
  rcases h with ⟨_, _, h⟩ | ⟨_, _, h⟩
  · exact h.2.2.2.1
  · rw [h]; exact Nat.zero_le _
theorem union_form {l : List (Int × Int)} {w w' : World} {e : Ending} (h : UnionPost l w e w') : ∃ A c u er, e = .returned (.tuple #[.slice A u.length c, .int .i64 er]) ∧ UnionIs l u er ∧ IvC w' A u ∧ Below w.heap.size w w' := by
  rcases h with ⟨h1, A, c, u, h2, h3, _, _, h4, h5⟩ | ⟨h1, h2, h3⟩
  · exact ⟨A, c, u, 0, h2, .inl ⟨h1, rfl, h3⟩, h4, h5⟩
  · exact ⟨none, 0, [], 10, h2, .inr ⟨h1, rfl, rfl⟩, IvC.nil_ _ _, h3⟩
set_option linter.unusedVariables false
set_option linter.unusedSimpArgs false
set_option maxRecDepth 100000 in
set_option maxHeartbeats 16000000 in
theorem CalendarListSpec_walk (w : World) (hL : Lens w) (ax ay : Int) (wax : (Lit.int .i64 ax).wf = true) (way : (Lit.int .i64 ay).wf = true) (bx by_ : Int) (wbx : (Lit.int .i64 bx).wf = true) (wby : (Lit.int .i64 by_).wf = true)
    (A : Option Addr) (len c : Nat) (l : List (Int × Int)) (hl : l.length = len) (hlc : len ≤ c) (hcm : c ≤ maxLen) (hC : IvC w A l) (hwf : ∀ i ∈ l, (Lit.int .i64 i.1).wf = true ∧ (Lit.int .i64 i.2).wf = true) (n : Int) (wn : (Lit.int .i64 n).wf = true) :
    Calls Tryd.prog 8 #[.agg #[.int .i64 ax, .int .i64 ay], .agg #[.int .i64 bx, .int .i64 by_], .slice A len c, .int .i64 n] w (Fine w) := by
  have HL := Lib.hid hL
  have HC := Lib.hid hC
  have Hl := Lib.hid hl
  clear hL hC hl hwf wax way wbx wby wn hcm
  unfold maxLen at *
  by_cases hbig : 60 < len
  · have q1 : decide ((60 : Int) < (len : Int)) = true := by simp; omega
    have q2 : decide (60 < len) = true := by simpa using hbig
    go_enter Tryd.func8, Tryd.ntmps8
    go_wp2_with (fail)
    generalize hge : World.alloc _ _ = w0
    have HA0 := Lib.hid (show Blk w0 w.heap.size 43 #[.int .i64 ax, .int .i64 ay] by subst hge; exact (Blk.new w _ _).alloc _)
    have HG0 := Lib.hid (show Blk w0 (w.heap.size + 1) 43 #[.int .i64 bx, .int .i64 by_] by subst hge; exact blk_at1 w _ _ _ _)
    have HB0 := Lib.hid (show Below w.heap.size w w0 by subst hge; exact ((Below.refl _ _).alloc (Nat.le_refl _) _).alloc (by simp) _)
    clear hge
    refine (csane_any w0 (HL.out.below HB0.out)).mono ?_
    rintro e w1 ⟨rfl, hb1⟩
    have HA1 := Lib.hid (HA0.out.below hb1)
    have HG1 := Lib.hid (HG0.out.below hb1)
    have HB1 := Lib.hid (below_of HB0.out hb1 HB0.out.size)
    clear hb1
    go_wp2_with (fail)
    go_ret
    exact ⟨rfl, HB1.out⟩
  · have q1 : decide ((60 : Int) < (len : Int)) = false := by simp; omega
    have q2 : decide (60 < len) = false := by simpa using hbig
    have hlen : len ≤ 60 := by omega
    have Hlen := Lib.hid hlen
    have HM1 := Lib.hid (fun W => Meet_any ax ay bx by_ W)
    have HM2 := Lib.hid (fun W => rMeet_any ax ay bx by_ W)
    unfold MeetPost at HM1 HM2
    obtain ⟨mo, hmo⟩ : ∃ v, meetOk (ax, ay) (bx, by_) = v := ⟨_, rfl⟩
    obtain ⟨⟨x, y⟩, hxy⟩ : ∃ v, meetV (ax, ay) (bx, by_) = v := ⟨_, rfl⟩
    rw [hxy, hmo] at HM1 HM2
    simp only [] at HM1 HM2
    clear hxy hmo
    have HK1 := Lib.hid (fun W => (Check_any ax ay W).mono (R' := fun e w' => e = .returned (.int .i64 (chkE (ax, ay))) ∧ Below W.heap.size W w') fun e w' ⟨h1, h2⟩ => ⟨h1, by rw [h2]; exact (Below.refl _ _).alloc (Nat.le_refl _) _⟩)
    have HK2 := Lib.hid (fun W => (rCheck_any ax ay W).mono (R' := fun e w' => e = .returned (.int .i64 (chkE (ax, ay))) ∧ Below W.heap.size W w') fun e w' ⟨h1, h2⟩ => ⟨h1, by rw [h2]; exact (Below.refl _ _).alloc (Nat.le_refl _) _⟩)
    obtain ⟨ce, hce⟩ : ∃ v, chkE (ax, ay) = v := ⟨_, rfl⟩
    rw [hce] at HK1 HK2
    clear hce
    have HI1 := Lib.hid (fun W (h : IvC W A l) => In_any n A len c l W Hl.out (by omega) h)
    have HI2 := Lib.hid (fun W (h : IvC W A l) => (rIn_any n A len c l W Hl.out (by omega) h).mono (R' := fun e w' => e = .returned (.bool (Iv.inU n l)) ∧ Below W.heap.size W w') fun e w' ⟨h1, h2⟩ => ⟨h1, by rw [← h2]; exact Below.refl _ _⟩)
    obtain ⟨ib, hib⟩ : ∃ v, Iv.inU n l = v := ⟨_, rfl⟩
    rw [hib] at HI1 HI2
    clear hib hlen
    go_enter Tryd.func8, Tryd.ntmps8
    go_wp2_with (fail)
    generalize hge : World.alloc _ _ = w0
    have HA0 := Lib.hid (show Blk w0 w.heap.size 43 #[.int .i64 ax, .int .i64 ay] by subst hge; exact (Blk.new w _ _).alloc _)
    have HG0 := Lib.hid (show Blk w0 (w.heap.size + 1) 43 #[.int .i64 bx, .int .i64 by_] by subst hge; exact blk_at1 w _ _ _ _)
    have HB0 := Lib.hid (show Below w.heap.size w w0 by subst hge; exact ((Below.refl _ _).alloc (Nat.le_refl _) _).alloc (by simp) _)
    clear hge
    refine (csane_any w0 (HL.out.below HB0.out)).mono ?_
    rintro e w1 ⟨rfl, hb1⟩
    have HA1 := Lib.hid (HA0.out.below hb1)
    have HG1 := Lib.hid (HG0.out.below hb1)
    have HB1 := Lib.hid (below_of HB0.out hb1 HB0.out.size)
    clear hb1
    have a0 := HA1.out.cellv (i := 0) rfl
    have a1 := HA1.out.cellv (i := 1) rfl
    have g0 := HG1.out.cellv (i := 0) rfl
    have g1 := HG1.out.cellv (i := 1) rfl
    go_wp2_with (fail)
    refine (HM1.out w1).mono ?_
    rintro e w2 ⟨rfl, hb2⟩
    have HA2 := Lib.hid (HA1.out.below hb2)
    have HG2 := Lib.hid (HG1.out.below hb2)
    have HB2 := Lib.hid (below_of HB1.out hb2 HB1.out.size)
    clear hb2 a0 a1 g0 g1
    go_upto_region 6 with (fail)
    generalize hge : World.alloc _ _ = w3
    have HX3 := Lib.hid (show Blk w3 w2.heap.size 43 #[.int .i64 x, .int .i64 y] by subst hge; exact Blk.new w2 _ _)
    have hb3 : Below w2.heap.size w2 w3 := by subst hge; exact (Below.refl _ _).alloc (Nat.le_refl _) _
    have HA3 := Lib.hid (HA2.out.below hb3)
    have HG3 := Lib.hid (HG2.out.below hb3)
    have HB3 := Lib.hid (below_of HB2.out hb3 HB2.out.size)
    clear hge hb3
    obtain ⟨X, hX⟩ : ∃ X, w2.heap.size = X := ⟨_, rfl⟩
    rw [hX] at HX3 ⊢
    clear hX
    have a0 := HA3.out.cellv (i := 0) rfl
    have a1 := HA3.out.cellv (i := 1) rfl
    have g0 := HG3.out.cellv (i := 0) rfl
    have g1 := HG3.out.cellv (i := 1) rfl
    go_wp2_with (fail)
    refine (HM2.out w3).mono ?_
    rintro e w4 ⟨rfl, hb4⟩
    have HX4 := Lib.hid (HX3.out.below hb4)
    have HA4 := Lib.hid (HA3.out.below hb4)
    have HB4 := Lib.hid (below_of HB3.out hb4 HB3.out.size)
    clear hb4 a0 a1 g0 g1
    go_upto_region 7 with (fail)
    generalize hge : World.alloc _ _ = w5
    have HY5 := Lib.hid (show Blk w5 w4.heap.size 43 #[.int .i64 x, .int .i64 y] by subst hge; exact Blk.new w4 _ _)
    have hb5 : Below w4.heap.size w4 w5 := by subst hge; exact (Below.refl _ _).alloc (Nat.le_refl _) _
    have HX5 := Lib.hid (HX4.out.below hb5)
    have HA5 := Lib.hid (HA4.out.below hb5)
    have HB5 := Lib.hid (below_of HB4.out hb5 HB4.out.size)
    clear hge hb5
    obtain ⟨Y, hY⟩ : ∃ X, w4.heap.size = X := ⟨_, rfl⟩
    rw [hY] at HY5 ⊢
    clear hY
    go_wp2_with (fail)
    refine (Union_any A len c l w5 Hl.out (by have := Hlen.out; omega) (HC.out.below HB5.out)).mono ?_
    intro e w6 hu
    obtain ⟨A1, c1, u1, er1, rfl, hu1, hC6, hb6⟩ := union_form hu
    have Hu1 := Lib.hid hu1
    have HC6 := Lib.hid hC6
    have HX6 := Lib.hid (HX5.out.below hb6)
    have HY6 := Lib.hid (HY5.out.below hb6)
    have HA6 := Lib.hid (HA5.out.below hb6)
    have HB6 := Lib.hid (below_of HB5.out hb6 HB5.out.size)
    have hlu := Nat.le_trans (unionIs_len hu1) (Nat.le_of_eq Hl.out)
    clear hu hu1 hC6 hb6
    obtain ⟨m1, hm1⟩ : ∃ m, u1.length = m := ⟨_, rfl⟩
    have Hm1 := Lib.hid hm1
    rw [hm1] at hlu ⊢
    clear hm1
    go_wp2_with (fail)
    refine (rUnion_any A len c l w6 Hl.out (by have := Hlen.out; omega) (HC.out.below HB6.out)).mono ?_
    intro e w9 hu
    obtain ⟨A2, c2, u2, er2, rfl, hu2, hC9, hb9⟩ := union_form hu
    obtain ⟨rfl, rfl⟩ := unionIs_one Hu1.out hu2
    rw [Hm1.out]
    have HC9 := Lib.hid hC9
    have HD9 := Lib.hid (HC6.out.below hb9)
    have HX9 := Lib.hid (HX6.out.below hb9)
    have HY9 := Lib.hid (HY6.out.below hb9)
    have HA9 := Lib.hid (HA6.out.below hb9)
    have HB9 := Lib.hid (below_of HB6.out hb9 HB6.out.size)
    clear hu hu2 hC9 hb9
    have HS := Lib.hid (fun W (h : IvC W A1 u1) (h' : IvC W A2 u1) => Same_any A1 m1 c1 u1 A2 m1 c2 u1 W Hm1.out Hm1.out (by have := Hlen.out; omega) (by have := Hlen.out; omega) h h')
    rw [show decide (u1 = u1) = true by simp] at HS
    have a0 := HA9.out.cellv (i := 0) rfl
    have a1 := HA9.out.cellv (i := 1) rfl
    have x0 := HX9.out.cellv (i := 0) rfl
    have x1 := HX9.out.cellv (i := 1) rfl
    have y0 := HY9.out.cellv (i := 0) rfl
    have y1 := HY9.out.cellv (i := 1) rfl
    have hE := fun W => run_eqI x y x y W
    rw [show decide ((x, y) = (x, y)) = true by simp] at hE
    go_wp2_with (fail)
    go_region_held3 (fun W => W.cell? ⟨w.heap.size, 0, none⟩ = some (.int .i64 ax) ∧ W.cell? ⟨w.heap.size, 1, none⟩ = some (.int .i64 ay) ∧ W.cell? ⟨X, 0, none⟩ = some (.int .i64 x) ∧ W.cell? ⟨X, 1, none⟩ = some (.int .i64 y) ∧ W.cell? ⟨Y, 0, none⟩ = some (.int .i64 x) ∧ W.cell? ⟨Y, 1, none⟩ = some (.int .i64 y) ∧ Below w9.heap.size w9 W)
      (first
        | exact ⟨by assumption, by assumption, by assumption, by assumption, by assumption, by assumption, by assumption⟩
        | exact ⟨a0, a1, x0, x1, y0, y1, below_drewN (Below.refl _ _) 1⟩)
      (first
        | (go_at_call 22; go_split_ands; refine (HK1.out _).mono ?_; rintro e wa ⟨rfl, hbwa⟩; have k0 : wa.cell? ⟨w.heap.size, 0, none⟩ = some (.int .i64 ax) := cellk hbwa (by assumption); have k1 : wa.cell? ⟨w.heap.size, 1, none⟩ = some (.int .i64 ay) := cellk hbwa (by assumption); have k2 : wa.cell? ⟨X, 0, none⟩ = some (.int .i64 x) := cellk hbwa (by assumption); have k3 : wa.cell? ⟨X, 1, none⟩ = some (.int .i64 y) := cellk hbwa (by assumption); have k4 : wa.cell? ⟨Y, 0, none⟩ = some (.int .i64 x) := cellk hbwa (by assumption); have k5 : wa.cell? ⟨Y, 1, none⟩ = some (.int .i64 y) := cellk hbwa (by assumption); have kB : Below w9.heap.size w9 wa := below_of (by assumption) hbwa (Below.size (by assumption)))
        | (go_at_call 27; go_split_ands; refine (HK2.out _).mono ?_; rintro e wb ⟨rfl, hbwb⟩; have k0 : wb.cell? ⟨w.heap.size, 0, none⟩ = some (.int .i64 ax) := cellk hbwb (by assumption); have k1 : wb.cell? ⟨w.heap.size, 1, none⟩ = some (.int .i64 ay) := cellk hbwb (by assumption); have k2 : wb.cell? ⟨X, 0, none⟩ = some (.int .i64 x) := cellk hbwb (by assumption); have k3 : wb.cell? ⟨X, 1, none⟩ = some (.int .i64 y) := cellk hbwb (by assumption); have k4 : wb.cell? ⟨Y, 0, none⟩ = some (.int .i64 x) := cellk hbwb (by assumption); have k5 : wb.cell? ⟨Y, 1, none⟩ = some (.int .i64 y) := cellk hbwb (by assumption); have kB : Below w9.heap.size w9 wb := below_of (by assumption) hbwb (Below.size (by assumption)))
        | (go_at_call 23; go_split_ands; refine (HS.out _ (HD9.out.below (by assumption)) (HC9.out.below (by assumption))).mono ?_; rintro e wc ⟨rfl, hbwc⟩; have k0 : wc.cell? ⟨w.heap.size, 0, none⟩ = some (.int .i64 ax) := cellk hbwc (by assumption); have k1 : wc.cell? ⟨w.heap.size, 1, none⟩ = some (.int .i64 ay) := cellk hbwc (by assumption); have k2 : wc.cell? ⟨X, 0, none⟩ = some (.int .i64 x) := cellk hbwc (by assumption); have k3 : wc.cell? ⟨X, 1, none⟩ = some (.int .i64 y) := cellk hbwc (by assumption); have k4 : wc.cell? ⟨Y, 0, none⟩ = some (.int .i64 x) := cellk hbwc (by assumption); have k5 : wc.cell? ⟨Y, 1, none⟩ = some (.int .i64 y) := cellk hbwc (by assumption); have kB : Below w9.heap.size w9 wc := below_of (by assumption) hbwc (Below.size (by assumption)))
        | (go_at_call 21; go_split_ands; refine (HI1.out _ (HC.out.below (below_of HB9.out (by assumption) HB9.out.size))).mono ?_; rintro e wd ⟨rfl, hbwd⟩; have k0 : wd.cell? ⟨w.heap.size, 0, none⟩ = some (.int .i64 ax) := cellk hbwd (by assumption); have k1 : wd.cell? ⟨w.heap.size, 1, none⟩ = some (.int .i64 ay) := cellk hbwd (by assumption); have k2 : wd.cell? ⟨X, 0, none⟩ = some (.int .i64 x) := cellk hbwd (by assumption); have k3 : wd.cell? ⟨X, 1, none⟩ = some (.int .i64 y) := cellk hbwd (by assumption); have k4 : wd.cell? ⟨Y, 0, none⟩ = some (.int .i64 x) := cellk hbwd (by assumption); have k5 : wd.cell? ⟨Y, 1, none⟩ = some (.int .i64 y) := cellk hbwd (by assumption); have kB : Below w9.heap.size w9 wd := below_of (by assumption) hbwd (Below.size (by assumption)))
        | (go_at_call 28; go_split_ands; refine (HI2.out _ (HC.out.below (below_of HB9.out (by assumption) HB9.out.size))).mono ?_; rintro e we ⟨rfl, hbwe⟩; have k0 : we.cell? ⟨w.heap.size, 0, none⟩ = some (.int .i64 ax) := cellk hbwe (by assumption); have k1 : we.cell? ⟨w.heap.size, 1, none⟩ = some (.int .i64 ay) := cellk hbwe (by assumption); have k2 : we.cell? ⟨X, 0, none⟩ = some (.int .i64 x) := cellk hbwe (by assumption); have k3 : we.cell? ⟨X, 1, none⟩ = some (.int .i64 y) := cellk hbwe (by assumption); have k4 : we.cell? ⟨Y, 0, none⟩ = some (.int .i64 x) := cellk hbwe (by assumption); have k5 : we.cell? ⟨Y, 1, none⟩ = some (.int .i64 y) := cellk hbwe (by assumption); have kB : Below w9.heap.size w9 we := below_of (by assumption) hbwe (Below.size (by assumption)))
        | (fail))
    all_goals
      go_wp2_with (fail)
      go_ret
      exact ⟨rfl, below_of HB9.out (by assumption) HB9.out.size⟩
-- the row
theorem calendarListSpec_own : ownKnob Tryd.prog.godebug = none := by kernel_rfl
theorem calendarListSpec_laidOut : laidOutB Tryd.prog = true := by kernel_rfl
theorem calendarListSpec_readable : (Tryd.f8.params.toList.all fun t => Tryd.prog.readableRec t && decide (t < Tryd.prog.types.size)) = true := by kernel_rfl
set_option maxRecDepth 100000 in
theorem calendarListSpec_lifted (os : Os) (started : os.Started) (H : Type) (enc : TypeId × Value → H) :
    ReturnsInHanded {} Tryd.checked os 8 .any (fun w args => (Rows.calendarListSpecSpec.pre enc Tryd.prog Tryd.f8 [] false w args ∧ laidMetH Tryd.prog laidL w) ∧ sizedMet enc Tryd.prog Tryd.f8 (OpenSpec.ofChange Rows.calendarListSpecSpec) false w args) (Rows.calendarListSpecSpec.post enc Tryd.prog Tryd.f8 false true false false) := by
  refine returnsInHanded_of_change_and (C := Tryd.checked) (X := fun w _ => laidMetH Tryd.prog laidL w) (fun _ _ _ hh h => h.of_heap hh) calendarListSpec_own started (by kernel_rfl) Tryd.func8
    (ChangeSpec.witness_shaped (enc := enc) (C := Tryd.checked) (os := os) (X := fun w _ => laidMetH Tryd.prog laidL w) false (World.doorLaid Tryd.prog 400 os) #[.agg #[.int .i64 0, .int .i64 0], .agg #[.int .i64 0, .int .i64 0], .slice none 0 0, .int .i64 0] 8 rfl (World.shaped_of_RefB (by kernel_rfl) (by kernel_rfl)) (by kernel_rfl) (by kernel_rfl) (by kernel_rfl) (door_met os _)) ?_
  intro W base args ds gs before hval0 hW _ _ hL _
  have hval : ∀ (j : Nat) t v, Tryd.f8.params[j]? = some t → args[j]? = some v → Value.okWide Tryd.prog W .any base t v := hval0
  have hW' := hW
  obtain ⟨p, q, hA0, hV, rfl, hfz, hnd⟩ := hW
  have hA : DataW.TrodAll enc Tryd.prog W 0 (fun _ => true) true Tryd.f8.params.toList args.toList ds p := hA0
  rw [Tryd.params8] at hA hval
  obtain ⟨v0, vs0, d0, ds0, p0, q0, hargs, rfl, rfl, h0, r0⟩ := trodAll_cons hA
  obtain ⟨v1, vs1, d1, ds1, p1, q1, rfl, rfl, rfl, h1, r1⟩ := trodAll_cons r0
  obtain ⟨v2, vs2, d2, ds2, p2, q2, rfl, rfl, rfl, h2, r2⟩ := trodAll_cons r1
  obtain ⟨v3, vs3, d3, ds3, p3, q3, rfl, rfl, rfl, h3, r3⟩ := trodAll_cons r2
  obtain ⟨rfl, rfl, rfl⟩ := trodAll_nil r3
  obtain rfl : args = #[v0, v1, v2, v3] := by cases args; simp_all
  obtain ⟨rfl, rfl⟩ := trodVars_none hV
  obtain ⟨x0, y0, rfl, wx0, wy0⟩ := open_iv (hval 0 43 v0 rfl rfl) h0
  obtain ⟨x1, y1, rfl, wx1, wy1⟩ := open_iv (hval 1 43 v1 rfl rfl) h1
  obtain ⟨A2, n2, c2, l2, rfl, e2, nc2, cm2, g2, w2⟩ := open_ivs (hval 2 37 v2 rfl rfl) h2
  obtain ⟨a3, rfl, rfl, rfl, w3⟩ := open_int Tryd.underlying3 (hval 3 3 v3 rfl rfl) h3
  refine (CalendarListSpec_walk W (lens_of_laid hL) x0 y0 wx0 wy0 x1 y1 wx1 wy1 A2 n2 c2 l2 e2 nc2 cm2 g2 w2 a3 w3).mono fun e W' ⟨he, hb⟩ => ?_
  subst he
  simp only [List.append_nil] at hW'
  refine ⟨_, rfl, law_post calendarListSpec_laidOut ?_ (by kernel_rfl) Tryd.underlying4 rfl hW' rfl rfl rfl hb⟩
  intro t ht
  have hr := List.all_eq_true.1 calendarListSpec_readable t ht
  rw [Bool.and_eq_true] at hr
  exact ⟨hr.1, of_decide_eq_true hr.2⟩
theorem calendarListSpec_over : Rows.calendarListSpecRow.holds Tryd.pinned (OpenSpec.ofChange Rows.calendarListSpecSpec) :=
  OpenClaim.holds_of_wide 8 Tryd.f8 rfl rfl rfl rfl rfl rfl rfl ⟨rfl, rfl, rfl, rfl, rfl⟩ rfl rfl rfl rfl rfl (by kernel_rfl) Tryd.func8 (by kernel_rfl)
    (of_decide_eq_true (by kernel_rfl)) (by unfold Func.isWrapper; rw [if_neg (of_decide_eq_false (by kernel_rfl))]; exact ⟨rfl, rfl⟩)
    (fun os started H enc _ => calendarListSpec_lifted os started H enc)
theorem calendarListSpec_proved : Rows.CalendarListSpecCardSaid :=
  Claim7.holds_tied_plain_at .later [] [.data] true (true, "ecf52cd2f0e00eeb5a9e4ad7f568b0262762c417b538ca74502acb76cf8551ff") false
    calendarListSpec_over (fun _ h => by cases h) (by kernel_rfl) (fun _ h => by cases h) calendarListSpec_row_tie rfl ⟨rfl, rfl⟩ (by kernel_rfl) rfl
    (fun f fn hf hfn => by
      obtain rfl : f = 8 := Option.some.inj ((show Tryd.prog.funcNamed Rows.calendarListSpecRow.func = some 8 by kernel_rfl).symm.trans hf) |>.symm
      obtain rfl : fn = Tryd.f8 := (Option.some.inj (Tryd.func8.symm.trans hfn)).symm
      exact ⟨by kernel_rfl, fun j t ht => by
        rw [Tryd.params8] at ht
        have hm : t ∈ [43, 43, 37, 3] := by simpa using Array.mem_of_getElem? ht
        have hall : ([43, 43, 37, 3].all fun u => !Tryd.prog.wantsStandIn u) = true := by kernel_rfl
        exact (show Tryd.prog.wantsStandIn t = false by simpa using List.all_eq_true.1 hall t hm)⟩)
    (by kernel_rfl)
#print axioms calendarListSpec_proved
end Go.Proofs.YtlijdbgknbeefaaDoor
