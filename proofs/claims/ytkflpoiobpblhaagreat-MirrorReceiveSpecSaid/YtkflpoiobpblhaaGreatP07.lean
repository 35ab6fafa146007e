/- Walks and plain laws that the statement rests on: Ref3. -/
import Derived.StillTailTactics
import Derived.Test.YtkflpoiobpblhaaGreatP00
import Derived.Test.YtkflpoiobpblhaaGreatP06
namespace Go.Proofs.YtkflpoiobpblhaaGreat
open Go.RowKit
theorem at_turn (x y : Nat) (w : World) (hx : x < 5) (hy : y < 5) :
    Calls Tryz.prog 130 #[.int .i64 y, .int .i64 (2 * (x : Int) + 3 * (y : Int) - 5)] w fun e w' => e = .returned (.int .i64 (5 * ((2 * x + 3 * y) % 5) + y : Nat)) ∧ w' = w := by
 refine (at_any y (2 * (x : Int) + 3 * (y : Int) - 5) w (by omega) (by omega) (by omega) (by omega)).mono ?_
 rintro e w' ⟨rfl, rfl⟩
 refine ⟨ret_int ?_, rfl⟩
 rw [show 2 * (x : Int) + 3 * (y : Int) - 5 + 5 = ((2 * x + 3 * y : Nat) : Int) by omega]
 omega
theorem at_row1 (x y : Nat) (w : World) (hx : x < 5) (hy : y < 5) :
    Calls Tryz.prog 130 #[.int .i64 ((x : Int) + 1), .int .i64 y] w fun e w' => e = .returned (.int .i64 (5 * y + (x + 1) % 5 : Nat)) ∧ w' = w := by
 refine (at_any ((x : Int) + 1) y w (by omega) (by omega) (by omega) (by omega)).mono ?_
 rintro e w' ⟨rfl, rfl⟩
 exact ⟨ret_int (by omega), rfl⟩
theorem at_row2 (x y : Nat) (w : World) (hx : x < 5) (hy : y < 5) :
    Calls Tryz.prog 130 #[.int .i64 ((x : Int) + 2), .int .i64 y] w fun e w' => e = .returned (.int .i64 (5 * y + (x + 2) % 5 : Nat)) ∧ w' = w := by
 refine (at_any ((x : Int) + 2) y w (by omega) (by omega) (by omega) (by omega)).mono ?_
 rintro e w' ⟨rfl, rfl⟩
 exact ⟨ret_int (by omega), rfl⟩
theorem blk_four (w : World) (cs1 cs2 cs3 cs4 : Array Value) (t1 t2 t3 t4 : TypeId) :
    Blk ((((w.alloc (.cells cs1 t1)).alloc (.cells cs2 t2)).alloc (.cells cs3 t3)).alloc (.cells cs4 t4)) w.heap.size t1 cs1 ∧
    Blk ((((w.alloc (.cells cs1 t1)).alloc (.cells cs2 t2)).alloc (.cells cs3 t3)).alloc (.cells cs4 t4)) (w.heap.size + 1) t2 cs2 ∧
    Blk ((((w.alloc (.cells cs1 t1)).alloc (.cells cs2 t2)).alloc (.cells cs3 t3)).alloc (.cells cs4 t4)) (w.heap.size + 1 + 1) t3 cs3 ∧
    Blk ((((w.alloc (.cells cs1 t1)).alloc (.cells cs2 t2)).alloc (.cells cs3 t3)).alloc (.cells cs4 t4)) (w.heap.size + 1 + 1 + 1) t4 cs4 ∧
    Below w.heap.size w ((((w.alloc (.cells cs1 t1)).alloc (.cells cs2 t2)).alloc (.cells cs3 t3)).alloc (.cells cs4 t4)) := by
 refine ⟨(((Blk.new _ _ _).alloc _).alloc _).alloc _, ?_, ?_, ?_, ((((Below.refl _ _).alloc (Nat.le_refl _) _).alloc (by simp) _).alloc (by simp; omega) _).alloc (by simp; omega) _⟩
 · have := ((Blk.new (w.alloc (.cells cs1 t1)) t2 cs2).alloc (.cells cs3 t3)).alloc (.cells cs4 t4)
   rw [World.size_alloc] at this
   exact this
 · have := (Blk.new ((w.alloc (.cells cs1 t1)).alloc (.cells cs2 t2)) t3 cs3).alloc (.cells cs4 t4)
   rw [World.size_alloc, World.size_alloc] at this
   exact this
 · have := Blk.new (((w.alloc (.cells cs1 t1)).alloc (.cells cs2 t2)).alloc (.cells cs3 t3)) t4 cs4
   rw [World.size_alloc, World.size_alloc, World.size_alloc] at this
   exact this
set_option maxRecDepth 100000 in
set_option maxHeartbeats 4000000 in
theorem round_any (l : List Nat) (kc : Nat) (w : World) (hl : l.length = 25) (wl : AllW l) (wk : IsW kc) :
    Calls Tryz.prog 122 #[.agg (arrK .u64 l), .agg (arrK .i64 turnL), .int .u64 kc] w fun e w' => e = .returned (.agg (arrK .u64 (rnd placeL turnL kc l))) ∧ Below w.heap.size w w' := by
 have Ll := Lib.hid hl
 have Wl := Lib.hid wl
 clear hl wl
 go_enter Tryz.func122, Tryz.ntmps122
 go_wp2_with (fail)
 generalize hge : World.alloc _ _ = w1
 have hall : Blk w1 w.heap.size 152 (arrK .u64 l) ∧ Blk w1 (w.heap.size + 1) 143 (arrK .i64 turnL) ∧ Blk w1 (w.heap.size + 1 + 1) 152 (arrK .u64 (List.replicate 25 0)) ∧ Blk w1 (w.heap.size + 1 + 1 + 1) 163 (arrK .u64 (List.replicate 5 0)) ∧ Below w.heap.size w w1 := by
  subst hge
  exact blk_four w (arrK .u64 l) (arrK .i64 turnL) (arrK .u64 (List.replicate 25 0)) (arrK .u64 (List.replicate 5 0)) 152 143 152 163
 have H1 := Lib.hid hall.1; have H2 := Lib.hid hall.2.1; have H3 := Lib.hid hall.2.2.1; have H4 := Lib.hid hall.2.2.2.1; have hB := hall.2.2.2.2
 clear hge hall
 obtain ⟨s, hs⟩ : ∃ s, w.heap.size = s := ⟨_, rfl⟩
 have Hs := Lib.hid hs
 rw [hs] at H1 H2 H3 H4
 rw [hs]
 clear hs
 go_loopw [8] (fun i wr => ∃ x : Nat, x ≤ 5 ∧ i = .int .i64 x ∧ Hid (Blk wr (s + 1 + 1 + 1) 163 (arrK .u64 (rcOut l x))) ∧ w1.grownBy wr (some (s + 1 + 1 + 1))) (fun i _ => 5 - (intOf i).toNat)
 case atStart => exact ⟨0, by omega, rfl, by show Blk _ _ _ _; rw [rcOut_zero]; exact H4.out, World.grownBy.refl _ _⟩
 case round =>
  obtain ⟨x, hx, rfl, Hc, hg⟩ := hrel
  by_cases hlx : x < 5
  · have hdx : decide ((x : Int) < 5) = true := by simp; omega
    obtain ⟨P, hP⟩ : ∃ P, rcOut l x = P := ⟨_, rfl⟩
    have Hpl := Lib.hid (show P.length = 5 ∧ AllW P by rw [← hP]; exact ⟨rcOut_length _ _, rcOut_w Wl.out x⟩)
    have Hnx := Lib.hid (show rcOut l (x + 1) = rcIn l x P 5 by rw [rcOut_succ, hP])
    rw [hP] at Hc
    clear hP
    obtain ⟨w5, rfl⟩ : ∃ w5 : World, w5 = wr := ⟨_, rfl⟩
    go_wp2_with (fail)
    go_loopw [9] (fun i wr => ∃ j : Nat, j ≤ 5 ∧ i = .int .i64 j ∧ Hid (Blk wr (s + 1 + 1 + 1) 163 (arrK .u64 (rcIn l x P j))) ∧ w5.grownBy wr (some (s + 1 + 1 + 1))) (fun i _ => 5 - (intOf i).toNat)
    case atStart => exact ⟨0, by omega, rfl, by show Blk _ _ _ _; rw [rcIn_zero]; exact Hc.out, World.grownBy.refl _ _⟩
    case round =>
     obtain ⟨j, hj, rfl, Hj, hg2⟩ := hrel
     by_cases hlj : j < 5
     · have hdj : decide ((j : Int) < 5) = true := by simp; omega
       have e1 := Hj.out.word (i := x) (by rw [rcIn_length, Hpl.out.1]; exact hlx)
       have f1 := Hj.out.frozen x
       have e2 := ((H1.out.grown hg (by simp; omega)).grown hg2 (by simp; omega)).word (i := 5 * j + x) (by rw [Ll.out]; omega)
       have wz := rcIn_w Wl.out x Hpl.out.2 j x
       have wv := Wl.out (5 * j + x)
       have Hst := Lib.hid (show Blk (wr.drew.setCell ⟨s + 1 + 1 + 1, x, none⟩ (.int .u64 ((rcIn l x P j).getD x 0 ^^^ l.getD (5 * j + x) 0 : Nat))) (s + 1 + 1 + 1) 163 (arrK .u64 (rcIn l x P (j + 1))) by
        rw [rcIn_succ]; exact (Hj.out.drewN 1).put _ _)
       generalize (rcIn l x P j).getD x 0 = z at *
       generalize l.getD (5 * j + x) 0 = v at *
       have hxr := xor_w wz wv
       have hxI : (x : Int) < 5 := by omega
       have g6 : (5 * (j : Int) + (x : Int)).toNat = 5 * j + x := by omega
       have g7 : 5 * (j : Int) + (x : Int) < 25 := by omega
       have g10 : 0 ≤ 5 * (j : Int) + (x : Int) := by omega
       have hg7 := Lib.hid (show w5.grownBy wr.drew (some (s + 1 + 1 + 1)) from grown_trans hg2 (grown_of_below (((Drawn.refl wr).drewN 1).below _) _))
       go_wp2_with (fail)
       refine wp_region_still_tail 11 (by kernel_rfl) (by kernel_rfl) ?_
       simp only [List.take_succ_cons, List.take_zero, List.drop_succ_cons, List.drop_zero]
       repeat still_step
       still_call (at_xy x j _ hlx hlj)
       repeat still_step
       refine wpStill_nil ?_
       change wpList _ _ _ _ _ wr.drew
       go_wp2_with (fail)
       go_roundw
       case rel => exact ⟨j + 1, by omega, by go_num, Hst.out, grown_trans hg7.out (grown_setCell _ _ _)⟩
       case measure => simp [intOf]; omega
     · have hj5 : Hid (j = 5) := by show j = 5; omega
       have hdj : decide ((j : Int) < 5) = false := by simp; omega
       have Hj2 := Lib.hid (show Blk wr (s + 1 + 1 + 1) 163 (arrK .u64 (rcOut l (x + 1))) by have := Hj.out; rw [hj5.out, ← Hnx.out] at this; exact this)
       have hg8 := Lib.hid (grown_trans hg hg2)
       clear Hj
       go_wp2_with (fail)
       go_roundw
       case rel => exact ⟨x + 1, by omega, by go_num, Hj2.out, hg8.out⟩
       case measure => simp [intOf]; omega
  · have hx5 : Hid (x = 5) := by show x = 5; omega
    have hdx : decide ((x : Int) < 5) = false := by simp; omega
    obtain ⟨c, hc⟩ : ∃ c, rcOut l 5 = c := ⟨_, rfl⟩
    have Wc := Lib.hid (show AllW c by rw [← hc]; exact rcOut_w Wl.out 5)
    have Lc := Lib.hid (show c.length = 5 by rw [← hc, rcOut_length])
    have HC2 := Lib.hid (show Blk wr (s + 1 + 1 + 1) 163 (arrK .u64 c) by have := Hc.out; rw [hx5.out, hc] at this; exact this)
    have Hcc := Lib.hid hc
    have H1b := Lib.hid (H1.out.grown hg (by simp; omega))
    have H2b := Lib.hid (H2.out.grown hg (by simp))
    have H3b := Lib.hid (H3.out.grown hg (by simp))
    have hB2 := Lib.hid (below_grown hB hg hB.size (by have := Hs.out; simp; omega))
    have lC := Lib.hid HC2.out.lt
    clear hc Hc H1 H2 H3 H4 hB
    obtain ⟨w2, rfl⟩ : ∃ w2 : World, w2 = wr := ⟨_, rfl⟩
    go_wp2_with (
     (refine wpList_store_same rfl 152 (.tmp 10) (.tmp 37) rfl w2.heap.size (arrK .u64 (List.replicate 25 0)) rfl rfl 152 (Blk.new w2 152 (arrK .u64 (List.replicate 25 0))) (by kernel_rfl) (arrK_all _ _) ?_
      generalize hge : World.alloc _ _ = w3
      have HBb := Lib.hid (show Blk w3 w2.heap.size 152 (arrK .u64 (List.replicate 25 0)) by subst hge; exact Blk.new w2 _ _)
      have hnew := al1 hge
      have H1c := Lib.hid (H1b.out.below hnew); have H2c := Lib.hid (H2b.out.below hnew); have H3c := Lib.hid (H3b.out.below hnew); have HCc := Lib.hid (HC2.out.below hnew)
      have hB3 := Lib.hid (hB2.out.trans (hnew.mono hB2.out.size))
      clear hge hnew H1b H2b H3b hB2 HC2))
    obtain ⟨B, hBB⟩ : ∃ B, w2.heap.size = B := ⟨_, rfl⟩
    rw [hBB] at HBb lC
    rw [hBB]
    clear hBB hg
    go_loopw [11] (fun i wr => ∃ x : Nat, x ≤ 5 ∧ i = .int .i64 x ∧ Hid (Blk wr B 152 (arrK .u64 (rbOut (bVal l c turnL) x))) ∧ w3.grownBy wr (some B)) (fun i _ => 5 - (intOf i).toNat)
    case atStart => exact ⟨0, by omega, rfl, by show Blk _ _ _ _; rw [rbOut_zero]; exact HBb.out, World.grownBy.refl _ _⟩
    case round =>
     obtain ⟨x, hx, rfl, Hb, hg⟩ := hrel
     by_cases hlx : x < 5
     · have hdx : decide ((x : Int) < 5) = true := by simp; omega
       obtain ⟨P, hP⟩ : ∃ P, rbOut (bVal l c turnL) x = P := ⟨_, rfl⟩
       have Hpl := Lib.hid (show P.length = 25 by rw [← hP]; exact rbOut_length _ _)
       have Hnx := Lib.hid (show rbOut (bVal l c turnL) (x + 1) = rbIn (bVal l c turnL) x P 5 by rw [rbOut_succ, hP])
       rw [hP] at Hb
       clear hP
       obtain ⟨w5, rfl⟩ : ∃ w5 : World, w5 = wr := ⟨_, rfl⟩
       go_wp2_with (fail)
       go_loopw [12] (fun i wr => ∃ j : Nat, j ≤ 5 ∧ i = .int .i64 j ∧ Hid (Blk wr B 152 (arrK .u64 (rbIn (bVal l c turnL) x P j))) ∧ w5.grownBy wr (some B)) (fun i _ => 5 - (intOf i).toNat)
       case atStart => exact ⟨0, by omega, rfl, by show Blk _ _ _ _; rw [rbIn_zero]; exact Hb.out, World.grownBy.refl _ _⟩
       case round =>
        obtain ⟨j, hj, rfl, Hj, hg2⟩ := hrel
        by_cases hlj : j < 5
        · have hdj : decide ((j : Int) < 5) = true := by simp; omega
          obtain ⟨i2, hi2⟩ : ∃ i, 5 * j + x = i := ⟨_, rfl⟩
          obtain ⟨i, hi⟩ : ∃ i, 5 * ((2 * x + 3 * j) % 5) + j = i := ⟨_, rfl⟩
          have HAX := Lib.hid (fun W => at_xy x j W hlx hlj)
          have HAT := Lib.hid (fun W => at_turn x j W hlx hlj)
          have hbv := bVal_xy l c turnL j hlx
          obtain ⟨m4, hm4⟩ : ∃ m, (x + 4) % 5 = m := ⟨_, rfl⟩
          obtain ⟨m1, hm1⟩ : ∃ m, (x + 1) % 5 = m := ⟨_, rfl⟩
          rw [hm4, hm1] at hbv
          have Hst := Lib.hid (show ∀ W : World, Drawn wr W → Blk (W.setCell ⟨B, i, none⟩ (.int .u64 (bVal l c turnL (5 * j + x) : Nat))) B 152 (arrK .u64 (rbIn (bVal l c turnL) x P (j + 1))) from fun W hW => by
           rw [rbIn_succ, hi]; exact (Hj.out.below (hW.below _)).put _ _)
          rw [hi2] at HAX hbv Hst
          rw [hi] at HAT
          have hi25 : i < 25 := by omega
          have hi225 : i2 < 25 := by omega
          have g4 : ((x : Int) + 4).tmod 5 = (m4 : Int) := by rw [Int.tmod_eq_emod_of_nonneg (by omega)]; omega
          have g1 : ((x : Int) + 1).tmod 5 = (m1 : Int) := by rw [Int.tmod_eq_emod_of_nonneg (by omega)]; omega
          have g4' : ((x : Int) + 4) % 5 = (m4 : Int) := by omega
          have g1' : ((x : Int) + 1) % 5 = (m1 : Int) := by omega
          have h4 : m4 < 5 := by omega
          have h1 : m1 < 5 := by omega
          have w4 : IntKind.i64.wrap ((x : Int) + 4) = (x : Int) + 4 := IntWalk.i64_in _ (by omega)
          have w1' : IntKind.i64.wrap ((x : Int) + 1) = (x : Int) + 1 := IntWalk.i64_in _ (by omega)
          have w4m : IntKind.i64.wrap (m4 : Int) = (m4 : Int) := IntWalk.i64_in _ (by omega)
          have w1m : IntKind.i64.wrap (m1 : Int) = (m1 : Int) := IntWalk.i64_in _ (by omega)
          have wt : IntKind.i64.wrap (2 * (x : Int) + 3 * (j : Int) - 5) = 2 * (x : Int) + 3 * (j : Int) - 5 := IntWalk.i64_in _ (by omega)
          have hg12 : w3.grownBy wr (some B) := grown_trans hg hg2
          have e1 := (H1c.out.grown hg12 (by simp; have := lC.out; omega)).word (i := i2) (by rw [Ll.out]; exact hi225)
          have e4 := (HCc.out.grown hg12 (by simp; have := lC.out; omega)).word (i := m4) (by rw [Lc.out]; exact h4)
          have e5 := (HCc.out.grown hg12 (by simp; have := lC.out; omega)).word (i := m1) (by rw [Lc.out]; exact h1)
          have et := Lib.hid ((H2c.out.grown hg12 (by simp; have := lC.out; omega)).word (i := i2) (by rw [turnL_length]; exact hi225))
          have eb := Lib.hid (Hj.out.word (i := i) (by rw [rbIn_length, Hpl.out]; exact hi25))
          have fb := Lib.hid (Hj.out.frozen i)
          have wv := Wl.out i2
          have wc4 := Wc.out m4
          have wc1 := Wc.out m1
          have ht := turnL_small i2
          generalize bVal l c turnL i2 = bv at *
          generalize l.getD i2 0 = v at *
          generalize c.getD m4 0 = c4 at *
          generalize c.getD m1 0 = c1 at *
          generalize turnL.getD i2 0 = tv at *
          generalize (rbIn (bVal l c turnL) x P j).getD i 0 = z at *
          have Hbv := Lib.hid hbv
          clear hbv hm4 hm1 hi hi2
          have hx1 := xor_w wv wc4
          have hx2 := xor_w (wv.xor wc4) (wc1.rotl 1)
          have hiI : (i : Int) < 25 := by omega
          have hi2I : (i2 : Int) < 25 := by omega
          go_wp2_with (fail)
          go_quiet ((first | (go_at_call 130; exact Calls.quiet_of_same (HAX.out _)) | (go_at_call 131; exact Calls.quiet_of (rol_any c1 1 (by omega) wc1 _))))
          generalize hge : wr.drewN _ = wy
          have hdy : Drawn wr wy := ⟨_, hge.symm⟩
          clear hge e1 e4 e5
          have et2 : wy.cell? ⟨s + 1, i2, none⟩ = some (.int .i64 (tv : Nat)) := (hdy.cell _).trans et.out
          have eb2 : wy.cell? ⟨B, i, none⟩ = some (.int .u64 (z : Nat)) := (hdy.cell _).trans eb.out
          have fb2 : wy.frozen? ⟨B, i, none⟩ = false := (hdy.frozen _).trans fb.out
          go_wp2_with (fail)
          refine (HAT.out _).mono ?_
          rintro e w' ⟨rfl, rfl⟩
          go_wp2_with (fail)
          refine (HAX.out _).mono ?_
          rintro e w' ⟨rfl, rfl⟩
          go_wp2_with (fail)
          refine (rol_any ((v ^^^ c4) ^^^ rotl c1 1) tv ht ((wv.xor wc4).xor (wc1.rotl 1)) _).mono ?_
          rintro e w' ⟨rfl, md, rfl⟩
          go_wp2_with (fail)
          go_roundw
          case rel => exact ⟨j + 1, by omega, by go_num, by
           show Blk _ _ _ _
           rw [← Hbv.out]; exact Hst.out _ (hdy.drewN md), by
           exact grown_trans (grown_trans hg2 (grown_of_below ((hdy.drewN md).below _) _)) (grown_setCell _ _ _)⟩
          case measure => simp [intOf]; omega
        · have hj5 : Hid (j = 5) := by show j = 5; omega
          have hdj : decide ((j : Int) < 5) = false := by simp; omega
          have Hj2 := Lib.hid (show Blk wr B 152 (arrK .u64 (rbOut (bVal l c turnL) (x + 1))) by have := Hj.out; rw [hj5.out, ← Hnx.out] at this; exact this)
          have hg8 := Lib.hid (grown_trans hg hg2)
          clear Hj
          go_wp2_with (fail)
          go_roundw
          case rel => exact ⟨x + 1, by omega, by go_num, Hj2.out, hg8.out⟩
          case measure => simp [intOf]; omega
     · have hx5b : Hid (x = 5) := by show x = 5; omega
       have hdx2 : decide ((x : Int) < 5) = false := by simp; omega
       obtain ⟨b, hb⟩ : ∃ b, rbOut (bVal l c turnL) 5 = b := ⟨_, rfl⟩
       have Wb := Lib.hid (show AllW b by rw [← hb]; exact rbOut_w (fun n => bVal_w Wl.out Wc.out turnL n) 5)
       have Lb := Lib.hid (show b.length = 25 by rw [← hb, rbOut_length])
       have HB2 := Lib.hid (show Blk wr B 152 (arrK .u64 b) by have := Hb.out; rw [hx5b.out, hb] at this; exact this)
       have Hbe := Lib.hid hb
       have H3d := Lib.hid (H3c.out.grown hg (by simp; have := lC.out; omega))
       have hB4 := Lib.hid (below_grown hB3.out hg hB3.out.size (by simp; have := Hs.out; have := lC.out; omega))
       have lB := Lib.hid HB2.out.lt
       clear hb Hb H1c H2c H3c HCc hB3 hg
       obtain ⟨w4, rfl⟩ : ∃ w4 : World, w4 = wr := ⟨_, rfl⟩
       go_wp2_with (
        (refine wpList_store_same rfl 152 (.tmp 14) (.tmp 80) rfl w4.heap.size (arrK .u64 (List.replicate 25 0)) rfl rfl 152 (Blk.new w4 152 (arrK .u64 (List.replicate 25 0))) (by kernel_rfl) (arrK_all _ _) ?_
         generalize hge : World.alloc _ _ = w6
         have HOb := Lib.hid (show Blk w6 w4.heap.size 152 (arrK .u64 (List.replicate 25 0)) by subst hge; exact Blk.new w4 _ _)
         have hnew := al1 hge
         have HB6 := Lib.hid (HB2.out.below hnew); have H36 := Lib.hid (H3d.out.below hnew)
         have hB6 := Lib.hid (hB4.out.trans (hnew.mono hB4.out.size))
         clear hge hnew HB2 H3d hB4))
       obtain ⟨O, hOO⟩ : ∃ O, w4.heap.size = O := ⟨_, rfl⟩
       rw [hOO] at HOb lB
       rw [hOO]
       clear hOO
       go_loopw [15] (fun i wr => ∃ x : Nat, x ≤ 5 ∧ i = .int .i64 x ∧ Hid (Blk wr O 152 (arrK .u64 (roOut (xVal b) x))) ∧ w6.grownBy wr (some O)) (fun i _ => 5 - (intOf i).toNat)
       case atStart => exact ⟨0, by omega, rfl, by show Blk _ _ _ _; rw [roOut_zero]; exact HOb.out, World.grownBy.refl _ _⟩
       case round =>
        obtain ⟨x, hx, rfl, Ho, hg⟩ := hrel
        by_cases hlx : x < 5
        · have hdx : decide ((x : Int) < 5) = true := by simp; omega
          obtain ⟨P, hP⟩ : ∃ P, roOut (xVal b) x = P := ⟨_, rfl⟩
          have Hpl := Lib.hid (show P.length = 25 by rw [← hP]; exact roOut_length _ _)
          have Hnx := Lib.hid (show roOut (xVal b) (x + 1) = roIn (xVal b) x P 5 by rw [roOut_succ, hP])
          rw [hP] at Ho
          clear hP
          obtain ⟨w7, rfl⟩ : ∃ w7 : World, w7 = wr := ⟨_, rfl⟩
          go_wp2_with (fail)
          go_loopw [16] (fun i wr => ∃ j : Nat, j ≤ 5 ∧ i = .int .i64 j ∧ Hid (Blk wr O 152 (arrK .u64 (roIn (xVal b) x P j))) ∧ w7.grownBy wr (some O)) (fun i _ => 5 - (intOf i).toNat)
          case atStart => exact ⟨0, by omega, rfl, by show Blk _ _ _ _; rw [roIn_zero]; exact Ho.out, World.grownBy.refl _ _⟩
          case round =>
           obtain ⟨j, hj, rfl, Hj, hg2⟩ := hrel
           by_cases hlj : j < 5
           · have hdj : decide ((j : Int) < 5) = true := by simp; omega
             obtain ⟨i0, hi0⟩ : ∃ i, 5 * j + x = i := ⟨_, rfl⟩
             obtain ⟨i1, hi1⟩ : ∃ i, 5 * j + (x + 1) % 5 = i := ⟨_, rfl⟩
             obtain ⟨i2, hi2⟩ : ∃ i, 5 * j + (x + 2) % 5 = i := ⟨_, rfl⟩
             have HA0 := Lib.hid (fun W => at_xy x j W hlx hlj)
             have HA1 := Lib.hid (fun W => at_row1 x j W hlx hlj)
             have HA2 := Lib.hid (fun W => at_row2 x j W hlx hlj)
             have hxv := xVal_xy b j hlx
             rw [hi0] at HA0
             rw [hi1] at HA1
             rw [hi2] at HA2
             have Hst := Lib.hid (show Blk (wr.drew.setCell ⟨O, i0, none⟩ (.int .u64 (xVal b i0 : Nat))) O 152 (arrK .u64 (roIn (xVal b) x P (j + 1))) by
              rw [roIn_succ, hi0]; exact (Hj.out.drewN 1).put _ _)
             rw [hi0, hi1, hi2] at hxv
             have b0 : i0 < 25 := by omega
             have b1 : i1 < 25 := by omega
             have b2 : i2 < 25 := by omega
             clear hi0 hi1 hi2
             have hg12 : w6.grownBy wr (some O) := grown_trans hg hg2
             have HBr := HB6.out.grown hg12 (by simp; have := lB.out; omega)
             have e0 := HBr.word (i := i0) (by rw [Lb.out]; exact b0)
             have e1 := HBr.word (i := i1) (by rw [Lb.out]; exact b1)
             have e2 := HBr.word (i := i2) (by rw [Lb.out]; exact b2)
             have eo := Hj.out.word (i := i0) (by rw [roIn_length, Hpl.out]; exact b0)
             have fo := Hj.out.frozen i0
             have v0 := Wb.out i0
             have v1 := Wb.out i1
             have v2 := Wb.out i2
             clear HBr
             generalize xVal b i0 = xv at *
             generalize (roIn (xVal b) x P j).getD i0 0 = z at *
             generalize b.getD i0 0 = a0 at *
             generalize b.getD i1 0 = a1 at *
             generalize b.getD i2 0 = a2 at *
             have Hxv := Lib.hid hxv
             clear hxv
             have hn1 := not_w' v1
             have hn3 := and_w (IsW.not a1) v2
             have hn4 := xor_w v0 ((IsW.not a1).and (b := a2))
             have b0I : (i0 : Int) < 25 := by omega
             have b1I : (i1 : Int) < 25 := by omega
             have b2I : (i2 : Int) < 25 := by omega
             have wx1 : IntKind.i64.wrap ((x : Int) + 1) = (x : Int) + 1 := IntWalk.i64_in _ (by omega)
             have wx2 : IntKind.i64.wrap ((x : Int) + 2) = (x : Int) + 2 := IntWalk.i64_in _ (by omega)
             have hg7 := Lib.hid (show w7.grownBy wr.drew (some O) from grown_trans hg2 (grown_of_below (((Drawn.refl wr).drewN 1).below _) _))
             go_wp2_with (fail)
             refine wp_region_still_tail 24 (by kernel_rfl) (by kernel_rfl) ?_
             simp only [List.take_succ_cons, List.take_zero, List.drop_succ_cons, List.drop_zero]
             repeat still_step
             still_call (HA0.out _)
             repeat still_step
             still_call (HA0.out _)
             repeat still_step
             still_call (HA1.out _)
             repeat still_step
             still_call (HA2.out _)
             repeat still_step
             refine wpStill_nil ?_
             change wpList _ _ _ _ _ wr.drew
             go_wp2_with (fail)
             go_roundw
             case rel => exact ⟨j + 1, by omega, by go_num, by
              show Blk _ _ _ _
              rw [← Hxv.out]; exact Hst.out, grown_trans hg7.out (grown_setCell _ _ _)⟩
             case measure => simp [intOf]; omega
           · have hj5 : Hid (j = 5) := by show j = 5; omega
             have hdj : decide ((j : Int) < 5) = false := by simp; omega
             have Hj2 := Lib.hid (show Blk wr O 152 (arrK .u64 (roOut (xVal b) (x + 1))) by have := Hj.out; rw [hj5.out, ← Hnx.out] at this; exact this)
             have hg8 := Lib.hid (grown_trans hg hg2)
             clear Hj
             go_wp2_with (fail)
             go_roundw
             case rel => exact ⟨x + 1, by omega, by go_num, Hj2.out, hg8.out⟩
             case measure => simp [intOf]; omega
        · have hx5c : Hid (x = 5) := by show x = 5; omega
          have hdx3 : decide ((x : Int) < 5) = false := by simp; omega
          obtain ⟨q, hq⟩ : ∃ q, roOut (xVal b) 5 = q := ⟨_, rfl⟩
          have Wq := Lib.hid (show AllW q by rw [← hq]; exact roOut_w (fun n => xVal_w Wb.out n) 5)
          have Lq := Lib.hid (show q.length = 25 by rw [← hq, roOut_length])
          have HQ := Lib.hid (show Blk wr O 152 (arrK .u64 q) by have := Ho.out; rw [hx5c.out, hq] at this; exact this)
          have Hqe := Lib.hid (show iot kc q = rnd placeL turnL kc l by rw [rnd_ref l kc Ll.out, Hcc.out, Hbe.out, hq])
          have f1 := HQ.out.word (i := 0) (by rw [Lq.out]; omega)
          have f3 := HQ.out.frozen 0
          have hxr := xor_w (Wq.out 0) wk
          have HQ2 := Lib.hid (show Blk (wr.setCell ⟨O, 0, none⟩ (.int .u64 (q.getD 0 0 ^^^ kc : Nat))) O 152 (arrK .u64 (rnd placeL turnL kc l)) by rw [← Hqe.out, iot_eq]; exact HQ.out.put 0 _)
          have H38 := Lib.hid (show Blk (wr.setCell ⟨O, 0, none⟩ (.int .u64 (q.getD 0 0 ^^^ kc : Nat))) (s + 1 + 1) 152 (arrK .u64 (List.replicate 25 0)) from (H36.out.grown hg (by simp; have := lB.out; have := lC.out; omega)).far (by simp; have := lB.out; have := lC.out; omega) _)
          have hB8 := Lib.hid (show Below w.heap.size w (wr.setCell ⟨O, 0, none⟩ (.int .u64 (q.getD 0 0 ^^^ kc : Nat))) from (below_grown hB6.out hg hB6.out.size (by simp; have := Hs.out; have := lB.out; have := lC.out; omega)).setCell (by have := Hs.out; have := lB.out; have := lC.out; simp; omega) _)
          clear hq Ho
          generalize q.getD 0 0 = q0 at *
          go_wp2_with (first
           | (refine wpList_load_blk rfl 152 (.tmp 14) rfl O rfl 152 (arrK .u64 (rnd placeL turnL kc l)) (.array 25 129) HQ2.out (by kernel_rfl) rfl (by rw [arrK_size, rnd_length, Ll.out]; kernel_rfl) ?_)
           | (refine wpList_put_blk rfl 152 (.tmp 6) (.tmp 118) rfl (s + 1 + 1) (arrK .u64 (rnd placeL turnL kc l)) rfl rfl 152 (arrK .u64 (List.replicate 25 0)) H38.out (by rw [arrK_size, rnd_length, Ll.out]; kernel_rfl) (by rw [arrK_size, arrK_size, rnd_length, Ll.out]; rfl) (arrK_all _ _) ?_
              intro w9 H9 hg9 hz9
              have HR9 := Lib.hid H9
              have hB9 := below_grown hB8.out hg9 hB8.out.size (by simp; have := Hs.out; omega)
              clear H9 hz9))
          exact ret_row rfl (s + 1 + 1) 152 (arrK .u64 (rnd placeL turnL kc l)) (.array 25 129) rfl HR9.out (by kernel_rfl) rfl (by rw [arrK_size, rnd_length, Ll.out]; kernel_rfl) rfl ⟨rfl, hB9⟩
end Go.Proofs.YtkflpoiobpblhaaGreat
