/- The walk of Grew's first inner function: one digest off the front of what is left. -/
import Derived.Test.YtcijhakofoklcaaWGrow2
namespace Go.Proofs.Ytcijhakofoklcaa
open Go.RowKit
/-- All blocks but two are as they were. -/
def Fr2 (rc oc : Nat) (w w' : World) : Prop := w.heap.size ≤ w'.heap.size ∧ ∀ g, g < w.heap.size → g ≠ rc → g ≠ oc → w'.heap[g]? = w.heap[g]?
theorem Fr2.refl (rc oc : Nat) (w : World) : Fr2 rc oc w w := ⟨Nat.le_refl _, fun _ _ _ _ => rfl⟩
theorem Fr2.trans {rc oc : Nat} {a b c : World} (h : Fr2 rc oc a b) (h' : Fr2 rc oc b c) : Fr2 rc oc a c :=
  ⟨Nat.le_trans h.1 h'.1, fun g hg h1 h2 => (h'.2 g (Nat.lt_of_lt_of_le hg h.1) h1 h2).trans (h.2 g hg h1 h2)⟩
theorem Fr2.of_below {rc oc : Nat} {w w' : World} (h : Below w.heap.size w w') : Fr2 rc oc w w' := ⟨h.size, fun g hg _ _ => h.block g hg⟩
theorem Fr2.grown {rc oc k : Nat} {w w' : World} (h : w.grownBy w' (some k)) (hk : k = rc ∨ k = oc) : Fr2 rc oc w w' :=
  ⟨h.size, fun g hg h1 h2 => h.block g hg (fun e => by cases e; exact hk.elim h1 h2)⟩
/-- A block that the call made itself may be written. -/
theorem Fr2.own {rc oc k : Nat} {w w1 w' : World} (h : Fr2 rc oc w w1) (hg : w1.grownBy w' (some k)) (hk : w.heap.size ≤ k) : Fr2 rc oc w w' :=
  ⟨Nat.le_trans h.1 hg.size, fun g hl h1 h2 => (hg.block g (Nat.lt_of_lt_of_le hl h.1) (fun e => by cases e; omega)).trans (h.2 g hl h1 h2)⟩
theorem Blk.fr2 {rc oc g : Nat} {t : TypeId} {cs : Array Value} {w w' : World} (hb : Blk w g t cs) (h : Fr2 rc oc w w') (h1 : g ≠ rc) (h2 : g ≠ oc) : Blk w' g t cs := (h.2 g hb.lt h1 h2).trans hb
/-- What is left of the growth, and the sign. -/
def RestAt (w0 : World) (rc oc : Nat) (s : List (List Nat) × Bool) (w : World) : Prop :=
  ∃ A q c, Blk w rc 28 #[.slice A q c] ∧ s.1.length = q ∧ q ≤ c ∧ Cells w0 A (bytesV s.1.flatten) ∧ Blk w oc 4 #[.bool s.2]
theorem RestAt.fr {w0 : World} {rc oc : Nat} {s : List (List Nat) × Bool} {w w' : World} (h : RestAt w0 rc oc s w) (hb : Below w.heap.size w w') : RestAt w0 rc oc s w' := by
  obtain ⟨A, q, c, h1, h2, h3, h4, h5⟩ := h
  exact ⟨A, q, c, h1.below hb, h2, h3, h4, h5.below hb⟩
theorem RestAt.grown {w0 : World} {rc oc k : Nat} {s : List (List Nat) × Bool} {w w' : World} (h : RestAt w0 rc oc s w) (hg : w.grownBy w' (some k)) (h1 : k ≠ rc) (h2 : k ≠ oc) : RestAt w0 rc oc s w' := by
  obtain ⟨A, q, c, g1, g2, g3, g4, g5⟩ := h
  exact ⟨A, q, c, g1.grown hg (fun e => h1 (Option.some.inj e).symm), g2, g3, g4, g5.grown hg (fun e => h2 (Option.some.inj e).symm)⟩
set_option linter.unusedVariables false in
set_option linter.unusedSimpArgs false in
set_option maxRecDepth 100000 in
set_option maxHeartbeats 8000000 in
theorem take_any (w0 w : World) (rc oc : Nat) (rest : List (List Nat)) (ok : Bool) (hR : IsL rest) (hB : Below w0.heap.size w0 w) (hrc : w0.heap.size ≤ rc) (hoc : w0.heap.size ≤ oc) (hne : rc ≠ oc) (hS : RestAt w0 rc oc (rest, ok) w) :
    Calls Try.prog 67 #[.pointer (some ⟨rc, 0, none⟩), .pointer (some ⟨oc, 0, none⟩)] w fun e w' => e = .returned (.agg (arrK .u8 (takeS (rest, ok)).1)) ∧ RestAt w0 rc oc (takeS (rest, ok)).2 w' ∧ Below w0.heap.size w0 w' ∧ Fr2 rc oc w w' := by
  obtain ⟨A, q, c, g1, g2, g3, g4, g5⟩ := hS
  have lz := Lib.hid z32_length
  have hz := hB.size
  have HB := Lib.hid hB
  have r1 := g1.lt
  have r2 := g5.lt
  simp only [] at g2 g4 g5
  cases rest with
  | nil =>
    rw [takeS_nil]
    obtain rfl : q = 0 := by simpa using g2.symm
    clear hR hB g2 g4
    go_enter Try.func67, Try.ntmps67
    go_upto_region 1 with (fail)
    generalize hge : World.alloc _ _ = w1
    have HX := Lib.hid (show Blk w1 w.heap.size 37 (arrK .u8 z32) by subst hge; exact Blk.new w 37 (arrK .u8 z32))
    have hb1 : Below w.heap.size w w1 := by subst hge; exact (Below.refl _ _).alloc (Nat.le_refl _) _
    clear hge
    have G1 := Lib.hid (g1.below hb1)
    have G5 := Lib.hid (g5.below hb1)
    have HB1 := Lib.hid (HB.out.trans (hb1.mono hz))
    have Hb1 := Lib.hid hb1
    have c1 := cellv1 G1.out
    have c5 := cellv1 G5.out
    have f5 := G5.out.frozen 0
    clear g1 g5 hb1
    go_upto_region 3 with (fail)
    generalize hge : World.setCell _ _ _ = w2
    have G5' := Lib.hid (show Blk w2 oc 4 #[.bool false] by subst hge; exact G5.out.set_ 0 (.bool false))
    have hg : w1.grownBy w2 (some oc) := by subst hge; exact grown_setOne _
    clear hge c1 c5 f5
    have G1' := Lib.hid (G1.out.grown hg (fun e => hne (Option.some.inj e)))
    have HX' := Lib.hid (HX.out.grown hg (fun e => by cases e; omega))
    have HB2 := Lib.hid (show Below w0.heap.size w0 w2 from below_grown HB1.out hg HB1.out.size (fun k hk => by cases hk; exact hoc))
    have HF := Lib.hid ((Fr2.of_below Hb1.out).trans (Fr2.grown (rc := rc) hg (.inr rfl)))
    clear hg
    go_wp2_with (first
      | (refine wpList_load_blk rfl 37 (.tmp 2) rfl w.heap.size rfl 37 (arrK .u8 z32) (.array 32 5) HX'.out (by kernel_rfl) rfl (info32 lz.out) ?_)
      | (refine wpList_store_same rfl 37 (.tmp 2) (.tmp 6) rfl w.heap.size (arrK .u8 z32) rfl rfl 37 HX'.out (info32 lz.out) (arrK_all _ _) ?_))
    exact ret_row rfl w.heap.size 37 (arrK .u8 z32) (.array 32 5) rfl HX'.out (by kernel_rfl) rfl (info32 lz.out) rfl ⟨rfl, ⟨A, 0, c, G1'.out, rfl, Nat.zero_le _, .inl (by show bytesV ([] : List (List Nat)).flatten = []; unfold bytesV; rfl), G5'.out⟩, HB2.out, HF.out⟩
  | cons d p =>
    rw [takeS_cons]
    obtain ⟨j, rfl⟩ : ∃ j, q = j + 1 := ⟨p.length, by simpa using g2.symm⟩
    have hj : p.length = j := by simpa using g2
    have Dd := Lib.hid (hR d (by simp))
    have Hp := Lib.hid (show IsL p from fun x hx => hR x (by simp [hx]))
    obtain ⟨b, off, rfl, hb, -⟩ := Cells.addr g4 (by rw [bytesV_length, hR.flat_length]; simp)
    have C1 := Lib.hid (show Cells w0 (some ⟨b, off, none⟩) (bytesV d) by
      have := Cells.take_ g4 32
      rwa [List.flatten_cons, bytesV_append, List.take_append_of_le_length (by rw [bytesV_length, Dd.out.1]; exact Nat.le_refl _), List.take_of_length_le (by rw [bytesV_length, Dd.out.1]; exact Nat.le_refl _)] at this)
    have C2 := Lib.hid (show Cells w0 (some ⟨b, off + 32, none⟩) (bytesV p.flatten) by
      have := Cells.drop_ g4 32
      rwa [List.flatten_cons, bytesV_append, List.drop_append_of_le_length (by rw [bytesV_length, Dd.out.1]; exact Nat.le_refl _), List.drop_of_length_le (by rw [bytesV_length, Dd.out.1]; exact Nat.le_refl _), List.nil_append] at this)
    have Hj := Lib.hid hj
    obtain ⟨q, hq⟩ : ∃ q, j + 1 = q := ⟨_, rfl⟩
    rw [hq] at g1 g3
    have z1 : ((q : Int) == 0) = false := by simp; omega
    have z2 : (q == 0) = false := by simp; omega
    have z3 : (0 : Int) < (q : Int) := by omega
    have z4 : (1 : Int) ≤ (q : Int) := by omega
    have z5 : (1 : Int) ≤ (c : Int) := by omega
    have z6 : (q : Int) ≤ (c : Int) := by omega
    have z9 : 0 < q := by omega
    have z10 : 1 ≤ q := by omega
    have Hq := Lib.hid hq
    have hc01 : 1 ≤ c := by omega
    clear g2 g4 hR hB hj hq
    rcases Nat.lt_or_eq_of_le hc01 with hc1 | rfl
    · have z7 : ¬ c = 1 := by omega
      have z8 : (c == 1) = false := by simp; omega
      have g3 := Lib.hid g3
      go_enter Try.func67, Try.ntmps67
      go_upto_region 1 with (fail)
      generalize hge : World.alloc _ _ = w1
      have HX := Lib.hid (show Blk w1 w.heap.size 37 (arrK .u8 z32) by subst hge; exact Blk.new w 37 (arrK .u8 z32))
      have hb1 : Below w.heap.size w w1 := by subst hge; exact (Below.refl _ _).alloc (Nat.le_refl _) _
      clear hge
      have G1 := Lib.hid (g1.below hb1)
      have G5 := Lib.hid (g5.below hb1)
      have HB1 := Lib.hid (HB.out.trans (hb1.mono hz))
      have Hb1 := Lib.hid hb1
      have c1 := cellv1 G1.out
      clear g1 g5 hb1
      go_upto_region 4 with (fail)
      clear c1
      refine wp_region_held_drew (S := fun W => Below w0.heap.size w0 W) (by kernel_rfl) (below_drewN HB1.out 1) (fun Hd => ?_)
      have Hd : Below w0.heap.size w0 w1.drew := below_drewN HB1.out 1
      have Zd : w0.heap.size ≤ w1.drew.heap.size := HB1.out.size
      have fR : Blk w1.drew rc 28 #[.slice (some ⟨b, off, none⟩) q c] := G1.out
      have fO : Blk w1.drew oc 4 #[.bool ok] := G5.out
      have fX : Blk w1.drew w.heap.size 37 (arrK .u8 z32) := HX.out
      have fF : Fr2 rc oc w w1.drew := Fr2.of_below (below_drewN Hb1.out 1)
      generalize World.drew w1 = wd at *
      refine wpAnyH_ready (rs := [0, 3]) (by kernel_rfl) (by simp) (AllReadyH.cons rfl (fun K hK => ?_) (AllReadyH.cons rfl (fun K hK => ?_) AllReadyH.nil))
      · have qR := cellv1 fR
        go_simp
        first | with_reducible rfl | skip
        refine hK.out _ _ Hd fun _ => ?_
        clear hK K
        try simp only [List.getElem_toArray, List.getElem_cons_zero, List.getElem_cons_succ, Act.put, List.setIfInBounds_toArray, List.set_cons_zero, List.set_cons_succ]
        refine wpAnyH_take (i := 1) (v := ?_) rfl (by kernel_rfl) (by kernel_rfl) (by kernel_rfl) (fun _ _ _ h => h) (Or.inl ⟨by rfl, ?_⟩) Hd ?_
        rotate_left
        · intro wS hSw
          go_simp
          try with_reducible rfl
        try simp only [List.getElem_toArray, List.getElem_cons_zero, List.getElem_cons_succ, Act.put, List.setIfInBounds_toArray, List.set_cons_zero, List.set_cons_succ]
        refine wpAnyH_take (i := 2) (v := .agg (arrK .u8 (d))) rfl (by kernel_rfl) (by kernel_rfl) (by kernel_rfl) (fun _ _ _ h => h) (yieldsIf_load_mid (by rfl) _ _ rfl _ _ rfl ((d).map fun (n : Nat) => Value.int .u8 (n : Int)) (.array 32 5) (fun W hW => range_cells (C1.out.below hW)) (by kernel_rfl) rfl (dV_info Dd.out.1)) Hd ?_
        try simp only [List.getElem_toArray, List.getElem_cons_zero, List.getElem_cons_succ, Act.put, List.setIfInBounds_toArray, List.set_cons_zero, List.set_cons_succ]
        refine wpAnyH_ready (rs := [3, 5]) (by kernel_rfl) (by simp) (AllReadyH.cons rfl (fun K hK => ?_) (AllReadyH.cons rfl (fun K hK => ?_) AllReadyH.nil))
        · have qR := cellv1 fR
          go_simp
          first | with_reducible rfl | skip
          refine hK.out _ _ Hd fun _ => ?_
          clear hK K
          try simp only [List.getElem_toArray, List.getElem_cons_zero, List.getElem_cons_succ, Act.put, List.setIfInBounds_toArray, List.set_cons_zero, List.set_cons_succ]
          refine wpAnyH_take (i := 4) (v := ?_) rfl (by kernel_rfl) (by kernel_rfl) (by kernel_rfl) (fun _ _ _ h => h) (Or.inl ⟨by rfl, ?_⟩) Hd ?_
          rotate_left
          · intro wS hSw
            go_simp
            try with_reducible rfl
          try simp only [List.getElem_toArray, List.getElem_cons_zero, List.getElem_cons_succ, Act.put, List.setIfInBounds_toArray, List.set_cons_zero, List.set_cons_succ]
          refine wpAnyH_ready (rs := [5]) (by kernel_rfl) (by simp) (AllReadyH.cons rfl (fun K hK => ?_) AllReadyH.nil)
          refine step_put_blk (by rfl) _ _ _ (by rfl) (w.heap.size) (arrK .u8 d) (by rfl) (by rfl) _ _ fX (info32 Dd.out.1) (by rw [len32 Dd.out.1, len32 lz.out]) (arrK_all _ _) ?_
          intro w1_ fX1 hg1 hz1
          have fR1 := fR.grown hg1 (fun e => by cases e; omega)
          have fO1 := fO.grown hg1 (fun e => by cases e; omega)
          have fF1 : Fr2 rc oc w w1_ := fF.own hg1 (Nat.le_refl _)
          have Hb1 : Below w0.heap.size w0 w1_ := below_grown Hd hg1 Hd.size (fun k hk => by cases hk; exact hz)
          have Zb1 : w0.heap.size ≤ w1_.heap.size := Hb1.size
          refine hK.out _ _ Hb1 fun _ => ?_
          clear hK K
          try simp only [List.getElem_toArray, List.getElem_cons_zero, List.getElem_cons_succ, Act.put, List.setIfInBounds_toArray, List.set_cons_zero, List.set_cons_succ]
          refine wpAnyH_ready (rs := [6]) (by kernel_rfl) (by simp) (AllReadyH.cons rfl (fun K hK => ?_) AllReadyH.nil)
          refine step_put_one (by rfl) 28 _ _ (by rfl) rc (.slice (some ⟨b, off + 32, none⟩) (q - 1) (c - 1)) (by rfl) (by rfl) _ _ fR1 (by kernel_rfl) (by rfl) ?_
          intro w2_ fR2 hg2 hz2
          have fO2 := fO1.grown hg2 (fun e => hne (Option.some.inj e).symm)
          have fX2 := fX1.grown hg2 (fun e => by cases e; omega)
          have fF2 : Fr2 rc oc w w2_ := fF1.trans (Fr2.grown hg2 (.inl rfl))
          have Hb2 : Below w0.heap.size w0 w2_ := below_grown Hb1 hg2 Hb1.size (fun k hk => by cases hk; exact hrc)
          have Zb2 : w0.heap.size ≤ w2_.heap.size := Hb2.size
          refine hK.out _ _ Hb2 fun _ => ?_
          clear hK K
          try simp only [List.getElem_toArray, List.getElem_cons_zero, List.getElem_cons_succ, Act.put, List.setIfInBounds_toArray, List.set_cons_zero, List.set_cons_succ]
          refine wpAnyH_done (by kernel_rfl) ?_ _
          have HX9 := Lib.hid fX2
          have HR9 := Lib.hid fR2
          have HO9 := Lib.hid fO2
          have HF9 := Lib.hid fF2
          have HB9 := Lib.hid Hb2
          go_wp2_with (first
            | (refine wpList_load_blk rfl 37 (.tmp 2) rfl w.heap.size rfl 37 (arrK .u8 d) (.array 32 5) HX9.out (by kernel_rfl) rfl (info32 Dd.out.1) ?_)
            | (refine wpList_store_same rfl 37 (.tmp 2) (.tmp 12) rfl w.heap.size (arrK .u8 d) rfl rfl 37 HX9.out (info32 Dd.out.1) (arrK_all _ _) ?_))
          exact ret_row rfl w.heap.size 37 (arrK .u8 d) (.array 32 5) rfl HX9.out (by kernel_rfl) rfl (info32 Dd.out.1) rfl ⟨rfl, ⟨_, _, _, HR9.out, by show p.length = _; have := Hj.out; have := Hq.out; omega, by have := g3.out; omega, C2.out, HO9.out⟩, HB9.out, HF9.out⟩
        · refine step_put_blk (by rfl) _ _ _ (by rfl) (w.heap.size) (arrK .u8 d) (by rfl) (by rfl) _ _ fX (info32 Dd.out.1) (by rw [len32 Dd.out.1, len32 lz.out]) (arrK_all _ _) ?_
          intro w1_ fX1 hg1 hz1
          have fR1 := fR.grown hg1 (fun e => by cases e; omega)
          have fO1 := fO.grown hg1 (fun e => by cases e; omega)
          have fF1 : Fr2 rc oc w w1_ := fF.own hg1 (Nat.le_refl _)
          have Hb1 : Below w0.heap.size w0 w1_ := below_grown Hd hg1 Hd.size (fun k hk => by cases hk; exact hz)
          have Zb1 : w0.heap.size ≤ w1_.heap.size := Hb1.size
          refine hK.out _ _ Hb1 fun _ => ?_
          clear hK K
          try simp only [List.getElem_toArray, List.getElem_cons_zero, List.getElem_cons_succ, Act.put, List.setIfInBounds_toArray, List.set_cons_zero, List.set_cons_succ]
          refine wpAnyH_ready (rs := [3]) (by kernel_rfl) (by simp) (AllReadyH.cons rfl (fun K hK => ?_) AllReadyH.nil)
          have qR := cellv1 fR1
          go_simp
          first | with_reducible rfl | skip
          refine hK.out _ _ Hb1 fun _ => ?_
          clear hK K
          try simp only [List.getElem_toArray, List.getElem_cons_zero, List.getElem_cons_succ, Act.put, List.setIfInBounds_toArray, List.set_cons_zero, List.set_cons_succ]
          refine wpAnyH_take (i := 4) (v := ?_) rfl (by kernel_rfl) (by kernel_rfl) (by kernel_rfl) (fun _ _ _ h => h) (Or.inl ⟨by rfl, ?_⟩) Hb1 ?_
          rotate_left
          · intro wS hSw
            go_simp
            try with_reducible rfl
          try simp only [List.getElem_toArray, List.getElem_cons_zero, List.getElem_cons_succ, Act.put, List.setIfInBounds_toArray, List.set_cons_zero, List.set_cons_succ]
          refine wpAnyH_ready (rs := [6]) (by kernel_rfl) (by simp) (AllReadyH.cons rfl (fun K hK => ?_) AllReadyH.nil)
          refine step_put_one (by rfl) 28 _ _ (by rfl) rc (.slice (some ⟨b, off + 32, none⟩) (q - 1) (c - 1)) (by rfl) (by rfl) _ _ fR1 (by kernel_rfl) (by rfl) ?_
          intro w2_ fR2 hg2 hz2
          have fO2 := fO1.grown hg2 (fun e => hne (Option.some.inj e).symm)
          have fX2 := fX1.grown hg2 (fun e => by cases e; omega)
          have fF2 : Fr2 rc oc w w2_ := fF1.trans (Fr2.grown hg2 (.inl rfl))
          have Hb2 : Below w0.heap.size w0 w2_ := below_grown Hb1 hg2 Hb1.size (fun k hk => by cases hk; exact hrc)
          have Zb2 : w0.heap.size ≤ w2_.heap.size := Hb2.size
          refine hK.out _ _ Hb2 fun _ => ?_
          clear hK K
          try simp only [List.getElem_toArray, List.getElem_cons_zero, List.getElem_cons_succ, Act.put, List.setIfInBounds_toArray, List.set_cons_zero, List.set_cons_succ]
          refine wpAnyH_done (by kernel_rfl) ?_ _
          have HX9 := Lib.hid fX2
          have HR9 := Lib.hid fR2
          have HO9 := Lib.hid fO2
          have HF9 := Lib.hid fF2
          have HB9 := Lib.hid Hb2
          go_wp2_with (first
            | (refine wpList_load_blk rfl 37 (.tmp 2) rfl w.heap.size rfl 37 (arrK .u8 d) (.array 32 5) HX9.out (by kernel_rfl) rfl (info32 Dd.out.1) ?_)
            | (refine wpList_store_same rfl 37 (.tmp 2) (.tmp 12) rfl w.heap.size (arrK .u8 d) rfl rfl 37 HX9.out (info32 Dd.out.1) (arrK_all _ _) ?_))
          exact ret_row rfl w.heap.size 37 (arrK .u8 d) (.array 32 5) rfl HX9.out (by kernel_rfl) rfl (info32 Dd.out.1) rfl ⟨rfl, ⟨_, _, _, HR9.out, by show p.length = _; have := Hj.out; have := Hq.out; omega, by have := g3.out; omega, C2.out, HO9.out⟩, HB9.out, HF9.out⟩
      · have qR := cellv1 fR
        go_simp
        first | with_reducible rfl | skip
        refine hK.out _ _ Hd fun _ => ?_
        clear hK K
        try simp only [List.getElem_toArray, List.getElem_cons_zero, List.getElem_cons_succ, Act.put, List.setIfInBounds_toArray, List.set_cons_zero, List.set_cons_succ]
        refine wpAnyH_take (i := 4) (v := ?_) rfl (by kernel_rfl) (by kernel_rfl) (by kernel_rfl) (fun _ _ _ h => h) (Or.inl ⟨by rfl, ?_⟩) Hd ?_
        rotate_left
        · intro wS hSw
          go_simp
          try with_reducible rfl
        try simp only [List.getElem_toArray, List.getElem_cons_zero, List.getElem_cons_succ, Act.put, List.setIfInBounds_toArray, List.set_cons_zero, List.set_cons_succ]
        refine wpAnyH_ready (rs := [0]) (by kernel_rfl) (by simp) (AllReadyH.cons rfl (fun K hK => ?_) AllReadyH.nil)
        have qR := cellv1 fR
        go_simp
        first | with_reducible rfl | skip
        refine hK.out _ _ Hd fun _ => ?_
        clear hK K
        try simp only [List.getElem_toArray, List.getElem_cons_zero, List.getElem_cons_succ, Act.put, List.setIfInBounds_toArray, List.set_cons_zero, List.set_cons_succ]
        refine wpAnyH_take (i := 1) (v := ?_) rfl (by kernel_rfl) (by kernel_rfl) (by kernel_rfl) (fun _ _ _ h => h) (Or.inl ⟨by rfl, ?_⟩) Hd ?_
        rotate_left
        · intro wS hSw
          go_simp
          try with_reducible rfl
        try simp only [List.getElem_toArray, List.getElem_cons_zero, List.getElem_cons_succ, Act.put, List.setIfInBounds_toArray, List.set_cons_zero, List.set_cons_succ]
        refine wpAnyH_take (i := 2) (v := .agg (arrK .u8 (d))) rfl (by kernel_rfl) (by kernel_rfl) (by kernel_rfl) (fun _ _ _ h => h) (yieldsIf_load_mid (by rfl) _ _ rfl _ _ rfl ((d).map fun (n : Nat) => Value.int .u8 (n : Int)) (.array 32 5) (fun W hW => range_cells (C1.out.below hW)) (by kernel_rfl) rfl (dV_info Dd.out.1)) Hd ?_
        try simp only [List.getElem_toArray, List.getElem_cons_zero, List.getElem_cons_succ, Act.put, List.setIfInBounds_toArray, List.set_cons_zero, List.set_cons_succ]
        refine wpAnyH_ready (rs := [5]) (by kernel_rfl) (by simp) (AllReadyH.cons rfl (fun K hK => ?_) AllReadyH.nil)
        refine step_put_blk (by rfl) _ _ _ (by rfl) (w.heap.size) (arrK .u8 d) (by rfl) (by rfl) _ _ fX (info32 Dd.out.1) (by rw [len32 Dd.out.1, len32 lz.out]) (arrK_all _ _) ?_
        intro w1_ fX1 hg1 hz1
        have fR1 := fR.grown hg1 (fun e => by cases e; omega)
        have fO1 := fO.grown hg1 (fun e => by cases e; omega)
        have fF1 : Fr2 rc oc w w1_ := fF.own hg1 (Nat.le_refl _)
        have Hb1 : Below w0.heap.size w0 w1_ := below_grown Hd hg1 Hd.size (fun k hk => by cases hk; exact hz)
        have Zb1 : w0.heap.size ≤ w1_.heap.size := Hb1.size
        refine hK.out _ _ Hb1 fun _ => ?_
        clear hK K
        try simp only [List.getElem_toArray, List.getElem_cons_zero, List.getElem_cons_succ, Act.put, List.setIfInBounds_toArray, List.set_cons_zero, List.set_cons_succ]
        refine wpAnyH_ready (rs := [6]) (by kernel_rfl) (by simp) (AllReadyH.cons rfl (fun K hK => ?_) AllReadyH.nil)
        refine step_put_one (by rfl) 28 _ _ (by rfl) rc (.slice (some ⟨b, off + 32, none⟩) (q - 1) (c - 1)) (by rfl) (by rfl) _ _ fR1 (by kernel_rfl) (by rfl) ?_
        intro w2_ fR2 hg2 hz2
        have fO2 := fO1.grown hg2 (fun e => hne (Option.some.inj e).symm)
        have fX2 := fX1.grown hg2 (fun e => by cases e; omega)
        have fF2 : Fr2 rc oc w w2_ := fF1.trans (Fr2.grown hg2 (.inl rfl))
        have Hb2 : Below w0.heap.size w0 w2_ := below_grown Hb1 hg2 Hb1.size (fun k hk => by cases hk; exact hrc)
        have Zb2 : w0.heap.size ≤ w2_.heap.size := Hb2.size
        refine hK.out _ _ Hb2 fun _ => ?_
        clear hK K
        try simp only [List.getElem_toArray, List.getElem_cons_zero, List.getElem_cons_succ, Act.put, List.setIfInBounds_toArray, List.set_cons_zero, List.set_cons_succ]
        refine wpAnyH_done (by kernel_rfl) ?_ _
        have HX9 := Lib.hid fX2
        have HR9 := Lib.hid fR2
        have HO9 := Lib.hid fO2
        have HF9 := Lib.hid fF2
        have HB9 := Lib.hid Hb2
        go_wp2_with (first
          | (refine wpList_load_blk rfl 37 (.tmp 2) rfl w.heap.size rfl 37 (arrK .u8 d) (.array 32 5) HX9.out (by kernel_rfl) rfl (info32 Dd.out.1) ?_)
          | (refine wpList_store_same rfl 37 (.tmp 2) (.tmp 12) rfl w.heap.size (arrK .u8 d) rfl rfl 37 HX9.out (info32 Dd.out.1) (arrK_all _ _) ?_))
        exact ret_row rfl w.heap.size 37 (arrK .u8 d) (.array 32 5) rfl HX9.out (by kernel_rfl) rfl (info32 Dd.out.1) rfl ⟨rfl, ⟨_, _, _, HR9.out, by show p.length = _; have := Hj.out; have := Hq.out; omega, by have := g3.out; omega, C2.out, HO9.out⟩, HB9.out, HF9.out⟩
    · have z8 : ((1 : Nat) == 1) = true := rfl
      obtain rfl : j = 0 := by have := Hq.out; omega
      have g3 := Lib.hid g3
      go_enter Try.func67, Try.ntmps67
      go_upto_region 1 with (fail)
      generalize hge : World.alloc _ _ = w1
      have HX := Lib.hid (show Blk w1 w.heap.size 37 (arrK .u8 z32) by subst hge; exact Blk.new w 37 (arrK .u8 z32))
      have hb1 : Below w.heap.size w w1 := by subst hge; exact (Below.refl _ _).alloc (Nat.le_refl _) _
      clear hge
      have G1 := Lib.hid (g1.below hb1)
      have G5 := Lib.hid (g5.below hb1)
      have HB1 := Lib.hid (HB.out.trans (hb1.mono hz))
      have Hb1 := Lib.hid hb1
      have c1 := cellv1 G1.out
      clear g1 g5 hb1
      go_upto_region 4 with (fail)
      clear c1
      refine wp_region_held_drew (S := fun W => Below w0.heap.size w0 W) (by kernel_rfl) (below_drewN HB1.out 1) (fun Hd => ?_)
      have Hd : Below w0.heap.size w0 w1.drew := below_drewN HB1.out 1
      have Zd : w0.heap.size ≤ w1.drew.heap.size := HB1.out.size
      have fR : Blk w1.drew rc 28 #[.slice (some ⟨b, off, none⟩) q 1] := G1.out
      have fO : Blk w1.drew oc 4 #[.bool ok] := G5.out
      have fX : Blk w1.drew w.heap.size 37 (arrK .u8 z32) := HX.out
      have fF : Fr2 rc oc w w1.drew := Fr2.of_below (below_drewN Hb1.out 1)
      generalize World.drew w1 = wd at *
      refine wpAnyH_ready (rs := [0, 3]) (by kernel_rfl) (by simp) (AllReadyH.cons rfl (fun K hK => ?_) (AllReadyH.cons rfl (fun K hK => ?_) AllReadyH.nil))
      · have qR := cellv1 fR
        go_simp
        first | with_reducible rfl | skip
        refine hK.out _ _ Hd fun _ => ?_
        clear hK K
        try simp only [List.getElem_toArray, List.getElem_cons_zero, List.getElem_cons_succ, Act.put, List.setIfInBounds_toArray, List.set_cons_zero, List.set_cons_succ]
        refine wpAnyH_take (i := 1) (v := ?_) rfl (by kernel_rfl) (by kernel_rfl) (by kernel_rfl) (fun _ _ _ h => h) (Or.inl ⟨by rfl, ?_⟩) Hd ?_
        rotate_left
        · intro wS hSw
          go_simp
          try with_reducible rfl
        try simp only [List.getElem_toArray, List.getElem_cons_zero, List.getElem_cons_succ, Act.put, List.setIfInBounds_toArray, List.set_cons_zero, List.set_cons_succ]
        refine wpAnyH_take (i := 2) (v := .agg (arrK .u8 (d))) rfl (by kernel_rfl) (by kernel_rfl) (by kernel_rfl) (fun _ _ _ h => h) (yieldsIf_load_mid (by rfl) _ _ rfl _ _ rfl ((d).map fun (n : Nat) => Value.int .u8 (n : Int)) (.array 32 5) (fun W hW => range_cells (C1.out.below hW)) (by kernel_rfl) rfl (dV_info Dd.out.1)) Hd ?_
        try simp only [List.getElem_toArray, List.getElem_cons_zero, List.getElem_cons_succ, Act.put, List.setIfInBounds_toArray, List.set_cons_zero, List.set_cons_succ]
        refine wpAnyH_ready (rs := [3, 5]) (by kernel_rfl) (by simp) (AllReadyH.cons rfl (fun K hK => ?_) (AllReadyH.cons rfl (fun K hK => ?_) AllReadyH.nil))
        · have qR := cellv1 fR
          go_simp
          first | with_reducible rfl | skip
          refine hK.out _ _ Hd fun _ => ?_
          clear hK K
          try simp only [List.getElem_toArray, List.getElem_cons_zero, List.getElem_cons_succ, Act.put, List.setIfInBounds_toArray, List.set_cons_zero, List.set_cons_succ]
          refine wpAnyH_take (i := 4) (v := ?_) rfl (by kernel_rfl) (by kernel_rfl) (by kernel_rfl) (fun _ _ _ h => h) (Or.inl ⟨by rfl, ?_⟩) Hd ?_
          rotate_left
          · intro wS hSw
            go_simp
            try with_reducible rfl
          try simp only [List.getElem_toArray, List.getElem_cons_zero, List.getElem_cons_succ, Act.put, List.setIfInBounds_toArray, List.set_cons_zero, List.set_cons_succ]
          refine wpAnyH_ready (rs := [5]) (by kernel_rfl) (by simp) (AllReadyH.cons rfl (fun K hK => ?_) AllReadyH.nil)
          refine step_put_blk (by rfl) _ _ _ (by rfl) (w.heap.size) (arrK .u8 d) (by rfl) (by rfl) _ _ fX (info32 Dd.out.1) (by rw [len32 Dd.out.1, len32 lz.out]) (arrK_all _ _) ?_
          intro w1_ fX1 hg1 hz1
          have fR1 := fR.grown hg1 (fun e => by cases e; omega)
          have fO1 := fO.grown hg1 (fun e => by cases e; omega)
          have fF1 : Fr2 rc oc w w1_ := fF.own hg1 (Nat.le_refl _)
          have Hb1 : Below w0.heap.size w0 w1_ := below_grown Hd hg1 Hd.size (fun k hk => by cases hk; exact hz)
          have Zb1 : w0.heap.size ≤ w1_.heap.size := Hb1.size
          refine hK.out _ _ Hb1 fun _ => ?_
          clear hK K
          try simp only [List.getElem_toArray, List.getElem_cons_zero, List.getElem_cons_succ, Act.put, List.setIfInBounds_toArray, List.set_cons_zero, List.set_cons_succ]
          refine wpAnyH_ready (rs := [6]) (by kernel_rfl) (by simp) (AllReadyH.cons rfl (fun K hK => ?_) AllReadyH.nil)
          refine step_put_one (by rfl) 28 _ _ (by rfl) rc (.slice (some ⟨b, off, none⟩) (0) (0)) (by rfl) (by rfl) _ _ fR1 (by kernel_rfl) (by rfl) ?_
          intro w2_ fR2 hg2 hz2
          have fO2 := fO1.grown hg2 (fun e => hne (Option.some.inj e).symm)
          have fX2 := fX1.grown hg2 (fun e => by cases e; omega)
          have fF2 : Fr2 rc oc w w2_ := fF1.trans (Fr2.grown hg2 (.inl rfl))
          have Hb2 : Below w0.heap.size w0 w2_ := below_grown Hb1 hg2 Hb1.size (fun k hk => by cases hk; exact hrc)
          have Zb2 : w0.heap.size ≤ w2_.heap.size := Hb2.size
          refine hK.out _ _ Hb2 fun _ => ?_
          clear hK K
          try simp only [List.getElem_toArray, List.getElem_cons_zero, List.getElem_cons_succ, Act.put, List.setIfInBounds_toArray, List.set_cons_zero, List.set_cons_succ]
          refine wpAnyH_done (by kernel_rfl) ?_ _
          have HX9 := Lib.hid fX2
          have HR9 := Lib.hid fR2
          have HO9 := Lib.hid fO2
          have HF9 := Lib.hid fF2
          have HB9 := Lib.hid Hb2
          go_wp2_with (first
            | (refine wpList_load_blk rfl 37 (.tmp 2) rfl w.heap.size rfl 37 (arrK .u8 d) (.array 32 5) HX9.out (by kernel_rfl) rfl (info32 Dd.out.1) ?_)
            | (refine wpList_store_same rfl 37 (.tmp 2) (.tmp 12) rfl w.heap.size (arrK .u8 d) rfl rfl 37 HX9.out (info32 Dd.out.1) (arrK_all _ _) ?_))
          exact ret_row rfl w.heap.size 37 (arrK .u8 d) (.array 32 5) rfl HX9.out (by kernel_rfl) rfl (info32 Dd.out.1) rfl ⟨rfl, ⟨_, _, _, HR9.out, by show p.length = _; have := Hj.out; have := Hq.out; omega, by have := g3.out; omega, by rw [List.eq_nil_of_length_eq_zero Hj.out]; exact .inl (by show bytesV ([] : List (List Nat)).flatten = []; unfold bytesV; rfl), HO9.out⟩, HB9.out, HF9.out⟩
        · refine step_put_blk (by rfl) _ _ _ (by rfl) (w.heap.size) (arrK .u8 d) (by rfl) (by rfl) _ _ fX (info32 Dd.out.1) (by rw [len32 Dd.out.1, len32 lz.out]) (arrK_all _ _) ?_
          intro w1_ fX1 hg1 hz1
          have fR1 := fR.grown hg1 (fun e => by cases e; omega)
          have fO1 := fO.grown hg1 (fun e => by cases e; omega)
          have fF1 : Fr2 rc oc w w1_ := fF.own hg1 (Nat.le_refl _)
          have Hb1 : Below w0.heap.size w0 w1_ := below_grown Hd hg1 Hd.size (fun k hk => by cases hk; exact hz)
          have Zb1 : w0.heap.size ≤ w1_.heap.size := Hb1.size
          refine hK.out _ _ Hb1 fun _ => ?_
          clear hK K
          try simp only [List.getElem_toArray, List.getElem_cons_zero, List.getElem_cons_succ, Act.put, List.setIfInBounds_toArray, List.set_cons_zero, List.set_cons_succ]
          refine wpAnyH_ready (rs := [3]) (by kernel_rfl) (by simp) (AllReadyH.cons rfl (fun K hK => ?_) AllReadyH.nil)
          have qR := cellv1 fR1
          go_simp
          first | with_reducible rfl | skip
          refine hK.out _ _ Hb1 fun _ => ?_
          clear hK K
          try simp only [List.getElem_toArray, List.getElem_cons_zero, List.getElem_cons_succ, Act.put, List.setIfInBounds_toArray, List.set_cons_zero, List.set_cons_succ]
          refine wpAnyH_take (i := 4) (v := ?_) rfl (by kernel_rfl) (by kernel_rfl) (by kernel_rfl) (fun _ _ _ h => h) (Or.inl ⟨by rfl, ?_⟩) Hb1 ?_
          rotate_left
          · intro wS hSw
            go_simp
            try with_reducible rfl
          try simp only [List.getElem_toArray, List.getElem_cons_zero, List.getElem_cons_succ, Act.put, List.setIfInBounds_toArray, List.set_cons_zero, List.set_cons_succ]
          refine wpAnyH_ready (rs := [6]) (by kernel_rfl) (by simp) (AllReadyH.cons rfl (fun K hK => ?_) AllReadyH.nil)
          refine step_put_one (by rfl) 28 _ _ (by rfl) rc (.slice (some ⟨b, off, none⟩) (0) (0)) (by rfl) (by rfl) _ _ fR1 (by kernel_rfl) (by rfl) ?_
          intro w2_ fR2 hg2 hz2
          have fO2 := fO1.grown hg2 (fun e => hne (Option.some.inj e).symm)
          have fX2 := fX1.grown hg2 (fun e => by cases e; omega)
          have fF2 : Fr2 rc oc w w2_ := fF1.trans (Fr2.grown hg2 (.inl rfl))
          have Hb2 : Below w0.heap.size w0 w2_ := below_grown Hb1 hg2 Hb1.size (fun k hk => by cases hk; exact hrc)
          have Zb2 : w0.heap.size ≤ w2_.heap.size := Hb2.size
          refine hK.out _ _ Hb2 fun _ => ?_
          clear hK K
          try simp only [List.getElem_toArray, List.getElem_cons_zero, List.getElem_cons_succ, Act.put, List.setIfInBounds_toArray, List.set_cons_zero, List.set_cons_succ]
          refine wpAnyH_done (by kernel_rfl) ?_ _
          have HX9 := Lib.hid fX2
          have HR9 := Lib.hid fR2
          have HO9 := Lib.hid fO2
          have HF9 := Lib.hid fF2
          have HB9 := Lib.hid Hb2
          go_wp2_with (first
            | (refine wpList_load_blk rfl 37 (.tmp 2) rfl w.heap.size rfl 37 (arrK .u8 d) (.array 32 5) HX9.out (by kernel_rfl) rfl (info32 Dd.out.1) ?_)
            | (refine wpList_store_same rfl 37 (.tmp 2) (.tmp 12) rfl w.heap.size (arrK .u8 d) rfl rfl 37 HX9.out (info32 Dd.out.1) (arrK_all _ _) ?_))
          exact ret_row rfl w.heap.size 37 (arrK .u8 d) (.array 32 5) rfl HX9.out (by kernel_rfl) rfl (info32 Dd.out.1) rfl ⟨rfl, ⟨_, _, _, HR9.out, by show p.length = _; have := Hj.out; have := Hq.out; omega, by have := g3.out; omega, by rw [List.eq_nil_of_length_eq_zero Hj.out]; exact .inl (by show bytesV ([] : List (List Nat)).flatten = []; unfold bytesV; rfl), HO9.out⟩, HB9.out, HF9.out⟩
      · have qR := cellv1 fR
        go_simp
        first | with_reducible rfl | skip
        refine hK.out _ _ Hd fun _ => ?_
        clear hK K
        try simp only [List.getElem_toArray, List.getElem_cons_zero, List.getElem_cons_succ, Act.put, List.setIfInBounds_toArray, List.set_cons_zero, List.set_cons_succ]
        refine wpAnyH_take (i := 4) (v := ?_) rfl (by kernel_rfl) (by kernel_rfl) (by kernel_rfl) (fun _ _ _ h => h) (Or.inl ⟨by rfl, ?_⟩) Hd ?_
        rotate_left
        · intro wS hSw
          go_simp
          try with_reducible rfl
        try simp only [List.getElem_toArray, List.getElem_cons_zero, List.getElem_cons_succ, Act.put, List.setIfInBounds_toArray, List.set_cons_zero, List.set_cons_succ]
        refine wpAnyH_ready (rs := [0]) (by kernel_rfl) (by simp) (AllReadyH.cons rfl (fun K hK => ?_) AllReadyH.nil)
        have qR := cellv1 fR
        go_simp
        first | with_reducible rfl | skip
        refine hK.out _ _ Hd fun _ => ?_
        clear hK K
        try simp only [List.getElem_toArray, List.getElem_cons_zero, List.getElem_cons_succ, Act.put, List.setIfInBounds_toArray, List.set_cons_zero, List.set_cons_succ]
        refine wpAnyH_take (i := 1) (v := ?_) rfl (by kernel_rfl) (by kernel_rfl) (by kernel_rfl) (fun _ _ _ h => h) (Or.inl ⟨by rfl, ?_⟩) Hd ?_
        rotate_left
        · intro wS hSw
          go_simp
          try with_reducible rfl
        try simp only [List.getElem_toArray, List.getElem_cons_zero, List.getElem_cons_succ, Act.put, List.setIfInBounds_toArray, List.set_cons_zero, List.set_cons_succ]
        refine wpAnyH_take (i := 2) (v := .agg (arrK .u8 (d))) rfl (by kernel_rfl) (by kernel_rfl) (by kernel_rfl) (fun _ _ _ h => h) (yieldsIf_load_mid (by rfl) _ _ rfl _ _ rfl ((d).map fun (n : Nat) => Value.int .u8 (n : Int)) (.array 32 5) (fun W hW => range_cells (C1.out.below hW)) (by kernel_rfl) rfl (dV_info Dd.out.1)) Hd ?_
        try simp only [List.getElem_toArray, List.getElem_cons_zero, List.getElem_cons_succ, Act.put, List.setIfInBounds_toArray, List.set_cons_zero, List.set_cons_succ]
        refine wpAnyH_ready (rs := [5]) (by kernel_rfl) (by simp) (AllReadyH.cons rfl (fun K hK => ?_) AllReadyH.nil)
        refine step_put_blk (by rfl) _ _ _ (by rfl) (w.heap.size) (arrK .u8 d) (by rfl) (by rfl) _ _ fX (info32 Dd.out.1) (by rw [len32 Dd.out.1, len32 lz.out]) (arrK_all _ _) ?_
        intro w1_ fX1 hg1 hz1
        have fR1 := fR.grown hg1 (fun e => by cases e; omega)
        have fO1 := fO.grown hg1 (fun e => by cases e; omega)
        have fF1 : Fr2 rc oc w w1_ := fF.own hg1 (Nat.le_refl _)
        have Hb1 : Below w0.heap.size w0 w1_ := below_grown Hd hg1 Hd.size (fun k hk => by cases hk; exact hz)
        have Zb1 : w0.heap.size ≤ w1_.heap.size := Hb1.size
        refine hK.out _ _ Hb1 fun _ => ?_
        clear hK K
        try simp only [List.getElem_toArray, List.getElem_cons_zero, List.getElem_cons_succ, Act.put, List.setIfInBounds_toArray, List.set_cons_zero, List.set_cons_succ]
        refine wpAnyH_ready (rs := [6]) (by kernel_rfl) (by simp) (AllReadyH.cons rfl (fun K hK => ?_) AllReadyH.nil)
        refine step_put_one (by rfl) 28 _ _ (by rfl) rc (.slice (some ⟨b, off, none⟩) (0) (0)) (by rfl) (by rfl) _ _ fR1 (by kernel_rfl) (by rfl) ?_
        intro w2_ fR2 hg2 hz2
        have fO2 := fO1.grown hg2 (fun e => hne (Option.some.inj e).symm)
        have fX2 := fX1.grown hg2 (fun e => by cases e; omega)
        have fF2 : Fr2 rc oc w w2_ := fF1.trans (Fr2.grown hg2 (.inl rfl))
        have Hb2 : Below w0.heap.size w0 w2_ := below_grown Hb1 hg2 Hb1.size (fun k hk => by cases hk; exact hrc)
        have Zb2 : w0.heap.size ≤ w2_.heap.size := Hb2.size
        refine hK.out _ _ Hb2 fun _ => ?_
        clear hK K
        try simp only [List.getElem_toArray, List.getElem_cons_zero, List.getElem_cons_succ, Act.put, List.setIfInBounds_toArray, List.set_cons_zero, List.set_cons_succ]
        refine wpAnyH_done (by kernel_rfl) ?_ _
        have HX9 := Lib.hid fX2
        have HR9 := Lib.hid fR2
        have HO9 := Lib.hid fO2
        have HF9 := Lib.hid fF2
        have HB9 := Lib.hid Hb2
        go_wp2_with (first
          | (refine wpList_load_blk rfl 37 (.tmp 2) rfl w.heap.size rfl 37 (arrK .u8 d) (.array 32 5) HX9.out (by kernel_rfl) rfl (info32 Dd.out.1) ?_)
          | (refine wpList_store_same rfl 37 (.tmp 2) (.tmp 12) rfl w.heap.size (arrK .u8 d) rfl rfl 37 HX9.out (info32 Dd.out.1) (arrK_all _ _) ?_))
        exact ret_row rfl w.heap.size 37 (arrK .u8 d) (.array 32 5) rfl HX9.out (by kernel_rfl) rfl (info32 Dd.out.1) rfl ⟨rfl, ⟨_, _, _, HR9.out, by show p.length = _; have := Hj.out; have := Hq.out; omega, by have := g3.out; omega, by rw [List.eq_nil_of_length_eq_zero Hj.out]; exact .inl (by show bytesV ([] : List (List Nat)).flatten = []; unfold bytesV; rfl), HO9.out⟩, HB9.out, HF9.out⟩
end Go.Proofs.Ytcijhakofoklcaa
