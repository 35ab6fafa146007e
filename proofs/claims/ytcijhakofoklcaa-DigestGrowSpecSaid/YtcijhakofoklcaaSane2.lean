/- The walk of the chapter's sane. -/
import Derived.Test.YtcijhakofoklcaaSane
import Derived.Lib.SlBytesConst
namespace Go.Proofs.Ytcijhakofoklcaa
open Go.RowKit
def oneD : List Nat := 1 :: List.replicate 31 0
theorem oneD_isD : IsD oneD := ⟨rfl, fun j => by
  unfold oneD
  rw [List.getD_eq_getElem?_getD]
  cases j with
  | zero => decide
  | succ j =>
    rw [List.getElem?_cons_succ, List.getElem?_replicate]
    split <;> decide⟩
theorem half_two : halfN 2 = 1 := (half_unique (a := 0) (by decide) (by decide) (by decide)).symm
theorem climb_02 : climbR z32 0 2 [] = z32 ∧ errArg (okClimb 0 2 0) = 1 := by
  have h : okClimb 0 2 0 = false := by
    unfold okClimb
    have : dirsS (0 : Int).toNat (2 : Int).toNat = [true] := by
      show dirsS 0 2 = [true]
      rw [dirsS_lo (by decide) (by rw [half_two]; decide), half_two, dirsS_one _ _ (by decide)]
    rw [this]; rfl
  refine ⟨?_, by rw [h]; unfold errArg; rfl⟩
  unfold climbR
  rw [show ([] : List (List Nat)).length = 0 from rfl, h]
  rfl
theorem climb_01 (d : List Nat) : climbR d 0 1 [] = leafS d ∧ errArg (okClimb 0 1 0) = 0 := by
  have h : okClimb 0 1 0 = true := by
    unfold okClimb
    have : dirsS (0 : Int).toNat (1 : Int).toNat = [] := dirsS_one _ _ (by decide)
    rw [this]; rfl
  refine ⟨?_, by rw [h]; unfold errArg; rfl⟩
  unfold climbR
  rw [show ([] : List (List Nat)).length = 0 from rfl, h]
  exact climbS_one _ _ _
theorem nilBytes (w : World) (A : Option Addr) : Cells w A (bytesV ([] : List (List Nat)).flatten) := .inl (by unfold bytesV; rfl)
theorem nilBytes' (w : World) (A : Option Addr) : Cells w A (bytesV []) := .inl (by unfold bytesV; rfl)
theorem bytes_lit {w : World} {g : Nat} {t : TypeId} (l : List Nat) (h : Blk w g t (arrK .u8 l)) : Cells w (some ⟨g, 0, none⟩) (bytesV l) := by
  have := cells_blk h
  rwa [arrK_bytesV] at this
theorem bytes_row {w : World} {g : Nat} {t : TypeId} {fr : Nat × Nat} (l : List Nat) (h : w.heap[g]? = some (.cells (arrK .u8 l) t fr)) : Cells w (some ⟨g, 0, none⟩) (bytesV l) := by
  refine .inr ⟨g, 0, rfl, (Array.getElem?_eq_some_iff.1 h).1, fun j u hu => ?_⟩
  rw [Nat.zero_add, cell_of_row w g j _ t fr h]
  rw [← arrK_bytesV] at hu
  simpa using hu
def SaneS (B1 B9 : Nat) (a b lf : List Nat) (w9 W : World) : Prop := Blk W B1 37 (arrK .u8 a) ∧ Blk W (B1 + 1) 37 (arrK .u8 b) ∧ Blk W B9 37 (arrK .u8 lf) ∧ Below w9.heap.size w9 W
theorem SaneS.below {B1 B9 : Nat} {a b lf : List Nat} {w9 W W' : World} (h : SaneS B1 B9 a b lf w9 W) (hb : Below W.heap.size W W') : SaneS B1 B9 a b lf w9 W' :=
  ⟨h.1.below hb, h.2.1.below hb, h.2.2.1.below hb, h.2.2.2.trans (hb.mono h.2.2.2.size)⟩
set_option linter.unusedSimpArgs false in
set_option maxRecDepth 100000 in
set_option maxHeartbeats 4000000 in
theorem sane_any (w : World) : Calls Try.prog 32 #[] w fun e w' => e = .returned (.bool true) ∧ Below w.heap.size w w' := by
  have hS1 := fun W => sum_any (some ⟨w.heap.size, 0, none⟩) 3 3 [97, 98, 99] W
  obtain ⟨a, ha⟩ : ∃ a, sha [97, 98, 99] = a := ⟨_, rfl⟩
  obtain ⟨b, hb⟩ : ∃ b, sha [] = b := ⟨_, rfl⟩
  have Da := Lib.hid (show IsD a by rw [← ha]; exact sha_isD _)
  have Db := Lib.hid (show IsD b by rw [← hb]; exact sha_isD _)
  have Ga := Lib.hid sha_abc.2
  have Gb := Lib.hid sha_nil
  have HSa := Lib.hid (fun (g : Nat) W h => sum_any (some ⟨g, 0, none⟩) 3 3 [97, 98, 99] W h rfl (by omega) (by intro i; match i with | 0 => decide | 1 => decide | 2 => decide | _ + 3 => simp))
  have HSb := Lib.hid (fun W => sum_any none 0 0 [] W (nilBytes' W none) rfl (by omega) (fun _ => by simp))
  rw [ha] at Ga HSa
  rw [hb] at Gb HSb
  clear ha hb hS1
  have HC2 := Lib.hid (fun W => climb_any z32 0 2 none 0 0 [] W z32_isD rfl (by intro d hd; simp at hd) (by omega) (by decide) (nilBytes W none))
  have HC1 := Lib.hid (fun W => climb_any oneD 0 1 none 0 0 [] W oneD_isD rfl (by intro d hd; simp at hd) (by omega) (by decide) (nilBytes W none))
  rw [climb_02.1, climb_02.2] at HC2
  rw [(climb_01 oneD).1, (climb_01 oneD).2] at HC1
  have ll := Lib.hid (leafS_isD oneD)
  generalize hlf : leafS oneD = lf at *
  have Hlf := Lib.hid hlf
  clear hlf
  have kc := fun (W : World) (C : Array Value) (n c : Nat) => Lib.run_convert_bytes_const (P := Try.prog) W 22 5 C n c (by kernel_rfl) (by kernel_rfl)
  go_enter Try.func32, Try.ntmps32
  go_wp2_with (fail)
  generalize hge : World.alloc _ _ = w0
  have HC0 : Cells w0 (some ⟨w.heap.size, 0, none⟩) (bytesV [97, 98, 99]) := by subst hge; exact bytes_row [97, 98, 99] (heap_alloc_new w _)
  have HB0 : Below w.heap.size w w0 := by subst hge; exact (Below.refl _ _).alloc (Nat.le_refl _) _
  clear hge kc
  refine (HSa.out _ _ HC0).mono ?_
  rintro e w1 ⟨rfl, hb1⟩
  have HB1 := Lib.hid (HB0.trans (hb1.mono HB0.size))
  clear hb1 HC0 HB0
  go_wp2_with (fail)
  refine (HSb.out _).mono ?_
  rintro e w2 ⟨rfl, hb2⟩
  have HB2 := Lib.hid (HB1.out.trans (hb2.mono HB1.out.size))
  clear hb2
  go_wp2_with (first
    | (refine wpList_put_blk rfl 37 (.tmp 1) (.tmp 14) rfl w2.heap.size (arrK .u8 a) rfl rfl 37 (arrK .u8 z32) (blk_two w2 (arrK .u8 z32) (arrK .u8 z32) 37 37).1 (info32 Da.out.1) (by rw [len32 Da.out.1, len32 z32_length]) (arrK_all _ _) ?_
       intro w3 HX hg3 hz3
       have HX3 := Lib.hid HX
       have HY3 := Lib.hid ((blk_two w2 (arrK .u8 z32) (arrK .u8 z32) 37 37).2.grown hg3 (by simp))
       have hb3 := Lib.hid (show Below w2.heap.size w2 w3 from below_grown (((Below.refl w2.heap.size w2).alloc (Nat.le_refl _) (.cells (arrK .u8 z32) 37)).alloc (by simp) (.cells (arrK .u8 z32) 37)) hg3 (by simp; omega) (by simp))
       clear hg3 hz3 HX)
    | (refine wpList_put_blk rfl 37 (.tmp 2) (.tmp 15) rfl (w2.heap.size + 1) (arrK .u8 b) rfl rfl 37 (arrK .u8 z32) HY3.out (info32 Db.out.1) (by rw [len32 Db.out.1, len32 z32_length]) (arrK_all _ _) ?_
       intro w4 HY hg4 hz4
       have HX4 := Lib.hid (HX3.out.grown hg4 (by simp))
       have HY4 := Lib.hid HY
       have hb4 := below_grown hb3.out hg4 hb3.out.size (by simp)
       have HB4 := Lib.hid (HB2.out.trans (hb4.mono HB2.out.size))
       clear hg4 hz4 HY hb4))
  refine (path_none 0 none 0 0 _ (Or.inr (by omega))).mono ?_
  rintro e w' ⟨rfl, rfl⟩
  obtain ⟨B1, hB1⟩ : ∃ B, w2.heap.size = B := ⟨_, rfl⟩
  rw [hB1] at HX4 HY4
  rw [hB1]
  clear hB1
  go_wp2_with (fail)
  refine (HC2.out _).mono ?_
  rintro e w5 ⟨rfl, hb5⟩
  have HX5 := Lib.hid (HX4.out.below hb5)
  have HY5 := Lib.hid (HY4.out.below hb5)
  have HB5 := Lib.hid (HB4.out.trans (hb5.mono HB4.out.size))
  clear hb5
  go_wp2_with (
    (refine wpList_put_blk rfl 37 (.tmp 5) (.tmp 23) rfl w5.heap.size (arrK .u8 z32) rfl rfl 37 (arrK .u8 z32) (Blk.new w5 37 (arrK .u8 z32)) (info32 z32_length) rfl (arrK_all _ _) ?_
     intro w6 HZ hg6 hz6
     have hb6 : Below w5.heap.size w5 w6 := below_grown ((Below.refl w5.heap.size w5).alloc (Nat.le_refl _) (.cells (arrK .u8 z32) 37)) hg6 (by simp) (by simp)
     have HX6 := Lib.hid (HX5.out.below hb6)
     have HY6 := Lib.hid (HY5.out.below hb6)
     have HB6 := Lib.hid (HB5.out.trans (hb6.mono HB5.out.size))
     clear hg6 hz6 hb6 HZ))
  refine (grow_none 0 _ _ _ _ (Or.inl (by omega))).mono ?_
  rintro e w7 ⟨rfl, hb7⟩
  have hb67 : Below w6.heap.size w6 w7 := ((Below.refl _ _).alloc (Nat.le_refl _) _).trans (hb7.mono (by simp))
  have HX7 := Lib.hid (HX6.out.below hb67)
  have HY7 := Lib.hid (HY6.out.below hb67)
  have HB7 := Lib.hid (HB6.out.trans (hb67.mono HB6.out.size))
  clear hb7 hb67
  go_wp2_with (fail)
  refine (HC1.out _).mono ?_
  rintro e w8 ⟨rfl, hb8⟩
  have HX8 := Lib.hid (HX7.out.below hb8)
  have HY8 := Lib.hid (HY7.out.below hb8)
  have HB8 := Lib.hid (HB7.out.trans (hb8.mono HB7.out.size))
  clear hb8
  have lB := Lib.hid HY8.out.lt
  go_wp2_with (
    (refine wpList_put_blk rfl 37 (.tmp 9) (.tmp 34) rfl w8.heap.size (arrK .u8 lf) rfl rfl 37 (arrK .u8 z32) (Blk.new w8 37 (arrK .u8 z32)) (info32 ll.out.1) (by rw [len32 ll.out.1, len32 z32_length]) (arrK_all _ _) ?_
     intro w9 HZ hg9 hz9
     have hb9 : Below w8.heap.size w8 w9 := below_grown ((Below.refl w8.heap.size w8).alloc (Nat.le_refl _) (.cells (arrK .u8 z32) 37)) hg9 (by simp) (by simp)
     have HX9 := Lib.hid (HX8.out.below hb9)
     have HY9 := Lib.hid (HY8.out.below hb9)
     have HZ9 := Lib.hid HZ
     have HB9 := Lib.hid (HB8.out.trans (hb9.mono HB8.out.size))
     have x0 := HX9.out.word (i := 0) (by rw [Da.out.1]; omega); have x1 := HX9.out.word (i := 1) (by rw [Da.out.1]; omega); have x2 := HX9.out.word (i := 2) (by rw [Da.out.1]; omega); have x3 := HX9.out.word (i := 3) (by rw [Da.out.1]; omega)
     have y0 := HY9.out.word (i := 0) (by rw [Db.out.1]; omega); have y1 := HY9.out.word (i := 1) (by rw [Db.out.1]; omega); have y2 := HY9.out.word (i := 2) (by rw [Db.out.1]; omega); have y3 := HY9.out.word (i := 3) (by rw [Db.out.1]; omega)
     rw [Ga.out.1] at x0; rw [Ga.out.2.1] at x1; rw [Ga.out.2.2.1] at x2; rw [Ga.out.2.2.2] at x3
     rw [Gb.out.1] at y0; rw [Gb.out.2.1] at y1; rw [Gb.out.2.2.1] at y2; rw [Gb.out.2.2.2] at y3
     clear hg9 hz9 hb9 HZ))
  clear x0 x1 x2 x3 y0 y1 y2 y3
  obtain ⟨B9, hB9⟩ : ∃ B, w8.heap.size = B := ⟨_, rfl⟩
  rw [hB9] at HZ9
  rw [hB9]
  clear hB9
  have HT := Lib.hid (fun W g (h : Cells W (some ⟨g, 0, none⟩) (bytesV oneD)) => tree_any 1 [oneD] (some ⟨g, 0, none⟩) 1 W rfl (by intro d hd; simp at hd; subst hd; exact oneD_isD) (by omega) (by omega) (by simpa using h))
  rw [treeS_one, Hlf.out] at HT
  have hEl : ∀ W, (Op.equalIn 10000 37 (.agg (arrK .u8 lf)) (.agg (arrK .u8 lf))).run Try.prog W = .ok true W := fun W => by
    have := run_eqD ll.out ll.out W
    simpa using this
  have hab : decide (a = b) = false := by
    have h1 := Ga.out.1
    have h2 := Gb.out.1
    apply decide_eq_false
    intro h
    rw [h, h2] at h1
    exact absurd h1 (by decide)
  have HG1 := Lib.hid (fun W => grew_one a a W Da.out Da.out)
  have HG2 := Lib.hid (fun W => grew_one a b W Da.out Db.out)
  rw [hab] at HG2
  rw [decide_eq_true rfl] at HG1
  clear hab
  have hS0 : SaneS B1 B9 a b lf w9 w9.drew := ⟨HX9.out.drewN 1, HY9.out.drewN 1, HZ9.out.drewN 1, below_drewN (Below.refl _ _) 1⟩
  refine wp_region_held (S := SaneS B1 B9 a b lf w9) (by kernel_rfl) ?_
  refine wpAnyH_take (i := 0) (v := ?_) rfl (by kernel_rfl) (by kernel_rfl) (by kernel_rfl) (fun _ _ _ h => h) (Or.inl ⟨by rfl, ?_⟩) hS0 ?_
  rotate_left
  · intro w hSw; go_simp; try with_reducible rfl
  simp only [List.getElem_toArray, List.getElem_cons_zero, List.getElem_cons_succ, Act.put, List.setIfInBounds_toArray, List.set_cons_zero, List.set_cons_succ]
  refine wpAnyH_take (i := 1) (v := ?_) rfl (by kernel_rfl) (by kernel_rfl) (by kernel_rfl) (fun _ _ _ h => h) (Or.inl ⟨by rfl, ?_⟩) hS0 ?_
  rotate_left
  · intro w hSw; go_simp; try with_reducible rfl
  simp only [List.getElem_toArray, List.getElem_cons_zero, List.getElem_cons_succ, Act.put, List.setIfInBounds_toArray, List.set_cons_zero, List.set_cons_succ]
  refine wpAnyH_take (i := 2) (v := ?_) rfl (by kernel_rfl) (by kernel_rfl) (by kernel_rfl) (fun _ _ _ h => h) (Or.inl ⟨by rfl, ?_⟩) hS0 ?_
  rotate_left
  · intro w hSw; go_simp; try with_reducible rfl
  simp only [List.getElem_toArray, List.getElem_cons_zero, List.getElem_cons_succ, Act.put, List.setIfInBounds_toArray, List.set_cons_zero, List.set_cons_succ]
  refine wpAnyH_take (i := 3) (v := ?_) rfl (by kernel_rfl) (by kernel_rfl) (by kernel_rfl) (fun _ _ _ h => h) (Or.inl ⟨by rfl, ?_⟩) hS0 ?_
  rotate_left
  · intro w hSw; go_simp; try with_reducible rfl
  simp only [List.getElem_toArray, List.getElem_cons_zero, List.getElem_cons_succ, Act.put, List.setIfInBounds_toArray, List.set_cons_zero, List.set_cons_succ]
  refine wpAnyH_take (i := 4) (v := ?_) rfl (by kernel_rfl) (by kernel_rfl) (by kernel_rfl) (fun _ _ _ h => h) (Or.inl ⟨by rfl, ?_⟩) hS0 ?_
  rotate_left
  · intro w hSw; go_simp; try with_reducible rfl
  simp only [List.getElem_toArray, List.getElem_cons_zero, List.getElem_cons_succ, Act.put, List.setIfInBounds_toArray, List.set_cons_zero, List.set_cons_succ]
  refine wpAnyH_take (i := 5) (v := ?_) rfl (by kernel_rfl) (by kernel_rfl) (by kernel_rfl) (fun _ _ _ h => h) (Or.inl ⟨by rfl, ?_⟩) hS0 ?_
  rotate_left
  · intro w hSw; go_simp; try with_reducible rfl
  simp only [List.getElem_toArray, List.getElem_cons_zero, List.getElem_cons_succ, Act.put, List.setIfInBounds_toArray, List.set_cons_zero, List.set_cons_succ]
  refine wpAnyH_take (i := 6) (v := ?_) rfl (by kernel_rfl) (by kernel_rfl) (by kernel_rfl) (fun _ _ _ h => h) (Or.inl ⟨by rfl, ?_⟩) hS0 ?_
  rotate_left
  · intro w hSw; go_simp; try with_reducible rfl
  simp only [List.getElem_toArray, List.getElem_cons_zero, List.getElem_cons_succ, Act.put, List.setIfInBounds_toArray, List.set_cons_zero, List.set_cons_succ]
  refine wpAnyH_take (i := 7) (v := ?_) rfl (by kernel_rfl) (by kernel_rfl) (by kernel_rfl) (fun _ _ _ h => h) (Or.inl ⟨by rfl, ?_⟩) hS0 ?_
  rotate_left
  · intro w hSw; go_simp; try with_reducible rfl
  simp only [List.getElem_toArray, List.getElem_cons_zero, List.getElem_cons_succ, Act.put, List.setIfInBounds_toArray, List.set_cons_zero, List.set_cons_succ]
  refine wpAnyH_take (i := 8) (v := ?_) rfl (by kernel_rfl) (by kernel_rfl) (by kernel_rfl) (fun _ _ _ h => h) (Or.inl ⟨by rfl, ?_⟩) hS0 ?_
  rotate_left
  · intro w hSw; go_simp; try with_reducible rfl
  simp only [List.getElem_toArray, List.getElem_cons_zero, List.getElem_cons_succ, Act.put, List.setIfInBounds_toArray, List.set_cons_zero, List.set_cons_succ]
  refine wpAnyH_take (i := 9) (v := ?_) rfl (by kernel_rfl) (by kernel_rfl) (by kernel_rfl) (fun _ _ _ h => h) (Or.inl ⟨by rfl, ?_⟩) hS0 ?_
  rotate_left
  · intro w hSw; go_simp; try with_reducible rfl
  simp only [List.getElem_toArray, List.getElem_cons_zero, List.getElem_cons_succ, Act.put, List.setIfInBounds_toArray, List.set_cons_zero, List.set_cons_succ]
  refine wpAnyH_take (i := 10) (v := ?_) rfl (by kernel_rfl) (by kernel_rfl) (by kernel_rfl) (fun _ _ _ h => h) (Or.inl ⟨by rfl, ?_⟩) hS0 ?_
  rotate_left
  · intro w hSw; go_simp; try with_reducible rfl
  simp only [List.getElem_toArray, List.getElem_cons_zero, List.getElem_cons_succ, Act.put, List.setIfInBounds_toArray, List.set_cons_zero, List.set_cons_succ]
  refine wpAnyH_take (i := 11) (v := ?_) rfl (by kernel_rfl) (by kernel_rfl) (by kernel_rfl) (fun _ _ _ h => h) (Or.inl ⟨by rfl, ?_⟩) hS0 ?_
  rotate_left
  · intro w hSw; go_simp; try with_reducible rfl
  simp only [List.getElem_toArray, List.getElem_cons_zero, List.getElem_cons_succ, Act.put, List.setIfInBounds_toArray, List.set_cons_zero, List.set_cons_succ]
  refine wpAnyH_take (i := 12) (v := ?_) rfl (by kernel_rfl) (by kernel_rfl) (by kernel_rfl) (fun _ _ _ h => h) (Or.inl ⟨by rfl, ?_⟩) hS0 ?_
  rotate_left
  · intro w hSw; go_simp; try with_reducible rfl
  simp only [List.getElem_toArray, List.getElem_cons_zero, List.getElem_cons_succ, Act.put, List.setIfInBounds_toArray, List.set_cons_zero, List.set_cons_succ]
  refine wpAnyH_take (i := 13) (v := ?_) rfl (by kernel_rfl) (by kernel_rfl) (by kernel_rfl) (fun _ _ _ h => h) (Or.inl ⟨by rfl, ?_⟩) hS0 ?_
  rotate_left
  · intro w hSw; go_simp; try with_reducible rfl
  simp only [List.getElem_toArray, List.getElem_cons_zero, List.getElem_cons_succ, Act.put, List.setIfInBounds_toArray, List.set_cons_zero, List.set_cons_succ]
  refine wpAnyH_take (i := 14) (v := ?_) rfl (by kernel_rfl) (by kernel_rfl) (by kernel_rfl) (fun _ _ _ h => h) (Or.inl ⟨by rfl, ?_⟩) hS0 ?_
  rotate_left
  · intro w hSw; go_simp; try with_reducible rfl
  simp only [List.getElem_toArray, List.getElem_cons_zero, List.getElem_cons_succ, Act.put, List.setIfInBounds_toArray, List.set_cons_zero, List.set_cons_succ]
  refine wpAnyH_take (i := 15) (v := ?_) rfl (by kernel_rfl) (by kernel_rfl) (by kernel_rfl) (fun _ _ _ h => h) (Or.inl ⟨by rfl, ?_⟩) hS0 ?_
  rotate_left
  · intro w hSw; go_simp; try with_reducible rfl
  simp only [List.getElem_toArray, List.getElem_cons_zero, List.getElem_cons_succ, Act.put, List.setIfInBounds_toArray, List.set_cons_zero, List.set_cons_succ]
  refine wpAnyH_take (i := 16) (v := ?_) rfl (by kernel_rfl) (by kernel_rfl) (by kernel_rfl) (fun _ _ _ h => h) (Or.inl ⟨by rfl, ?_⟩) hS0 ?_
  rotate_left
  · intro w hSw; go_simp; try with_reducible rfl
  simp only [List.getElem_toArray, List.getElem_cons_zero, List.getElem_cons_succ, Act.put, List.setIfInBounds_toArray, List.set_cons_zero, List.set_cons_succ]
  refine wpAnyH_take (i := 17) (v := ?_) rfl (by kernel_rfl) (by kernel_rfl) (by kernel_rfl) (fun _ _ _ h => h) (Or.inl ⟨by rfl, ?_⟩) hS0 ?_
  rotate_left
  · intro w hSw; go_simp; try with_reducible rfl
  simp only [List.getElem_toArray, List.getElem_cons_zero, List.getElem_cons_succ, Act.put, List.setIfInBounds_toArray, List.set_cons_zero, List.set_cons_succ]
  refine wpAnyH_take (i := 18) (v := .agg (arrK .u8 lf)) rfl (by kernel_rfl) (by kernel_rfl) (by kernel_rfl) (fun _ _ _ h => h) (yieldsIf_load_mid (by rfl) _ _ rfl _ _ rfl (lf.map fun (n : Nat) => Value.int .u8 (n : Int)) (.array 32 5) (fun W hW => range_blk hW.2.2.1) (by kernel_rfl) rfl (dV_info ll.out.1)) hS0 ?_
  simp only [List.getElem_toArray, List.getElem_cons_zero, List.getElem_cons_succ, Act.put, List.setIfInBounds_toArray, List.set_cons_zero, List.set_cons_succ]
  refine wpAnyH_take (i := 19) (v := ?_) rfl (by kernel_rfl) (by kernel_rfl) (by kernel_rfl) (fun _ _ _ h => h) (Or.inl ⟨by rfl, ?_⟩) hS0 ?_
  rotate_left
  · intro w hSw; go_simp; try with_reducible rfl
  simp only [List.getElem_toArray, List.getElem_cons_zero, List.getElem_cons_succ, Act.put, List.setIfInBounds_toArray, List.set_cons_zero, List.set_cons_succ]
  refine wpAnyH_ready (rs := [20]) (by kernel_rfl) (by simp) (AllReadyH.cons rfl (fun K hK => ?_) AllReadyH.nil)
  go_simp
  generalize hge : World.drew (World.alloc _ _) = w10
  have hS1 : SaneS B1 B9 a b lf w9 w10 := by subst hge; exact SaneS.below (SaneS.below ⟨HX9.out, HY9.out, HZ9.out, Below.refl _ _⟩ ((Below.refl _ _).alloc (Nat.le_refl _) _)) (((Drawn.refl _).drewN 1).below _)
  have HC10 : Cells w10 (some ⟨w9.heap.size, 0, none⟩) (bytesV oneD) := by subst hge; exact bytes_lit oneD ((Blk.new w9 37 (arrK .u8 oneD)).drewN 1)
  clear hge
  refine hK.out _ _ hS1 fun _ => ?_
  clear hK K
  try simp only [List.getElem_toArray, List.getElem_cons_zero, List.getElem_cons_succ, Act.put, List.setIfInBounds_toArray, List.set_cons_zero, List.set_cons_succ]
  refine wpAnyH_ready (rs := [21]) (by kernel_rfl) (by simp) (AllReadyH.cons rfl (fun K hK => ?_) AllReadyH.nil)
  go_simp
  refine (HT.out _ _ HC10).mono ?_
  rintro e w11 ⟨rfl, hb11⟩
  have hS2 := hS1.below hb11
  go_wp2_with (fail)
  refine hK.out _ _ hS2 fun _ => ?_
  clear hK K
  try simp only [List.getElem_toArray, List.getElem_cons_zero, List.getElem_cons_succ, Act.put, List.setIfInBounds_toArray, List.set_cons_zero, List.set_cons_succ]
  refine wpAnyH_take (i := 22) (v := ?_) rfl (by kernel_rfl) (by kernel_rfl) (by kernel_rfl) (fun _ _ _ h => h) (Or.inl ⟨by rfl, ?_⟩) hS2 ?_
  rotate_left
  · intro w hSw; go_simp; try with_reducible rfl
  simp only [List.getElem_toArray, List.getElem_cons_zero, List.getElem_cons_succ, Act.put, List.setIfInBounds_toArray, List.set_cons_zero, List.set_cons_succ]
  refine wpAnyH_take (i := 23) (v := ?_) rfl (by kernel_rfl) (by kernel_rfl) (by kernel_rfl) (fun _ _ _ h => h) (Or.inl ⟨by rfl, ?_⟩) hS2 ?_
  rotate_left
  · intro w hSw; go_simp; try with_reducible rfl
  simp only [List.getElem_toArray, List.getElem_cons_zero, List.getElem_cons_succ, Act.put, List.setIfInBounds_toArray, List.set_cons_zero, List.set_cons_succ]
  refine wpAnyH_take (i := 24) (v := ?_) rfl (by kernel_rfl) (by kernel_rfl) (by kernel_rfl) (fun _ _ _ h => h) (Or.inl ⟨by rfl, ?_⟩) hS2 ?_
  rotate_left
  · intro w hSw; go_simp; try with_reducible rfl
  simp only [List.getElem_toArray, List.getElem_cons_zero, List.getElem_cons_succ, Act.put, List.setIfInBounds_toArray, List.set_cons_zero, List.set_cons_succ]
  refine wpAnyH_take (i := 25) (v := .agg (arrK .u8 a)) rfl (by kernel_rfl) (by kernel_rfl) (by kernel_rfl) (fun _ _ _ h => h) (yieldsIf_load_mid (by rfl) _ _ rfl _ _ rfl (a.map fun (n : Nat) => Value.int .u8 (n : Int)) (.array 32 5) (fun W hW => range_blk hW.1) (by kernel_rfl) rfl (dV_info Da.out.1)) hS2 ?_
  simp only [List.getElem_toArray, List.getElem_cons_zero, List.getElem_cons_succ, Act.put, List.setIfInBounds_toArray, List.set_cons_zero, List.set_cons_succ]
  refine wpAnyH_take (i := 26) (v := .agg (arrK .u8 a)) rfl (by kernel_rfl) (by kernel_rfl) (by kernel_rfl) (fun _ _ _ h => h) (yieldsIf_load_mid (by rfl) _ _ rfl _ _ rfl (a.map fun (n : Nat) => Value.int .u8 (n : Int)) (.array 32 5) (fun W hW => range_blk hW.1) (by kernel_rfl) rfl (dV_info Da.out.1)) hS2 ?_
  simp only [List.getElem_toArray, List.getElem_cons_zero, List.getElem_cons_succ, Act.put, List.setIfInBounds_toArray, List.set_cons_zero, List.set_cons_succ]
  refine wpAnyH_ready (rs := [27]) (by kernel_rfl) (by simp) (AllReadyH.cons rfl (fun K hK => ?_) AllReadyH.nil)
  go_simp
  refine (HG1.out _).mono ?_
  rintro e w12 ⟨rfl, hb12⟩
  have hS3 := hS2.below hb12
  go_wp2_with (fail)
  refine hK.out _ _ hS3 fun _ => ?_
  clear hK K
  try simp only [List.getElem_toArray, List.getElem_cons_zero, List.getElem_cons_succ, Act.put, List.setIfInBounds_toArray, List.set_cons_zero, List.set_cons_succ]
  refine wpAnyH_take (i := 28) (v := ?_) rfl (by kernel_rfl) (by kernel_rfl) (by kernel_rfl) (fun _ _ _ h => h) (Or.inl ⟨by rfl, ?_⟩) hS3 ?_
  rotate_left
  · intro w hSw; go_simp; try with_reducible rfl
  simp only [List.getElem_toArray, List.getElem_cons_zero, List.getElem_cons_succ, Act.put, List.setIfInBounds_toArray, List.set_cons_zero, List.set_cons_succ]
  refine wpAnyH_take (i := 29) (v := ?_) rfl (by kernel_rfl) (by kernel_rfl) (by kernel_rfl) (fun _ _ _ h => h) (Or.inl ⟨by rfl, ?_⟩) hS3 ?_
  rotate_left
  · intro w hSw; go_simp; try with_reducible rfl
  simp only [List.getElem_toArray, List.getElem_cons_zero, List.getElem_cons_succ, Act.put, List.setIfInBounds_toArray, List.set_cons_zero, List.set_cons_succ]
  refine wpAnyH_take (i := 30) (v := .agg (arrK .u8 a)) rfl (by kernel_rfl) (by kernel_rfl) (by kernel_rfl) (fun _ _ _ h => h) (yieldsIf_load_mid (by rfl) _ _ rfl _ _ rfl (a.map fun (n : Nat) => Value.int .u8 (n : Int)) (.array 32 5) (fun W hW => range_blk hW.1) (by kernel_rfl) rfl (dV_info Da.out.1)) hS3 ?_
  simp only [List.getElem_toArray, List.getElem_cons_zero, List.getElem_cons_succ, Act.put, List.setIfInBounds_toArray, List.set_cons_zero, List.set_cons_succ]
  refine wpAnyH_take (i := 31) (v := .agg (arrK .u8 b)) rfl (by kernel_rfl) (by kernel_rfl) (by kernel_rfl) (fun _ _ _ h => h) (yieldsIf_load_mid (by rfl) _ _ rfl _ _ rfl (b.map fun (n : Nat) => Value.int .u8 (n : Int)) (.array 32 5) (fun W hW => range_blk hW.2.1) (by kernel_rfl) rfl (dV_info Db.out.1)) hS3 ?_
  simp only [List.getElem_toArray, List.getElem_cons_zero, List.getElem_cons_succ, Act.put, List.setIfInBounds_toArray, List.set_cons_zero, List.set_cons_succ]
  refine wpAnyH_ready (rs := [32]) (by kernel_rfl) (by simp) (AllReadyH.cons rfl (fun K hK => ?_) AllReadyH.nil)
  go_simp
  refine (HG2.out _).mono ?_
  rintro e w13 ⟨rfl, hb13⟩
  have hS4 := hS3.below hb13
  go_wp2_with (fail)
  refine hK.out _ _ hS4 fun _ => ?_
  clear hK K
  try simp only [List.getElem_toArray, List.getElem_cons_zero, List.getElem_cons_succ, Act.put, List.setIfInBounds_toArray, List.set_cons_zero, List.set_cons_succ]
  refine wpAnyH_take (i := 33) (v := ?_) rfl (by kernel_rfl) (by kernel_rfl) (by kernel_rfl) (fun _ _ _ h => h) (Or.inl ⟨by rfl, ?_⟩) hS4 ?_
  rotate_left
  · intro w hSw; go_simp; try with_reducible rfl
  simp only [List.getElem_toArray, List.getElem_cons_zero, List.getElem_cons_succ, Act.put, List.setIfInBounds_toArray, List.set_cons_zero, List.set_cons_succ]
  refine wpAnyH_take (i := 34) (v := ?_) rfl (by kernel_rfl) (by kernel_rfl) (by kernel_rfl) (fun _ _ _ h => h) (Or.inl ⟨by rfl, ?_⟩) hS4 ?_
  rotate_left
  · intro w hSw; go_simp; try with_reducible rfl
  simp only [List.getElem_toArray, List.getElem_cons_zero, List.getElem_cons_succ, Act.put, List.setIfInBounds_toArray, List.set_cons_zero, List.set_cons_succ]
  refine wpAnyH_take (i := 35) (v := ?_) rfl (by kernel_rfl) (by kernel_rfl) (by kernel_rfl) (fun _ _ _ h => h) (Or.inl ⟨by rfl, ?_⟩) hS4 ?_
  rotate_left
  · intro w hSw; go_simp; try with_reducible rfl
  simp only [List.getElem_toArray, List.getElem_cons_zero, List.getElem_cons_succ, Act.put, List.setIfInBounds_toArray, List.set_cons_zero, List.set_cons_succ]
  refine wpAnyH_done (by kernel_rfl) ?_ _
  go_wp2_with (fail)
  go_ret
  exact ⟨rfl, HB9.out.trans (hS4.2.2.2.mono HB9.out.size)⟩
end Go.Proofs.Ytcijhakofoklcaa
