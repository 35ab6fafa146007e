/- Equal lists of digests and equal signatures (the reference's SameDigests and Same). -/
import Derived.Test.YtcijhakofoklcaaSigR4
import Derived.BigGuardPart
namespace Go.Proofs.Ytcijhakofoklcaa
open Go.RowKit
set_option linter.unusedSimpArgs false in
set_option maxRecDepth 100000 in
set_option maxHeartbeats 4000000 in
theorem samed_any (l : List (List Nat)) (m : Nat) (A B : Option Addr) (c c2 : Nat) (w : World) (hl : l.length = m) (hL : IsL l) (hm : m ≤ 1000000) (hA : Cells w A (bytesV l.flatten)) (hB : Cells w B (bytesV l.flatten)) :
    Calls Try.prog 30 #[.slice A m c, .slice B m c2] w fun e w' => e = .returned (.bool true) ∧ Below w.heap.size w w' := by
  have Hl := Lib.hid hl
  have HL := Lib.hid hL
  have HA := Lib.hid hA
  have HB := Lib.hid hB
  clear hl hL hA hB
  have g1 : ((m : Int) != (m : Int)) = false := by simp
  have g2 : (m != m) = false := by simp
  go_enter Try.func30, Try.ntmps30
  go_wp2_with (fail)
  go_loopw [5] (fun i wr => ∃ k : Nat, k ≤ m ∧ i = .int .i64 k ∧ Hid (Below w.heap.size w wr)) (fun i _ => m - (intOf i).toNat)
  case atStart => exact ⟨0, by omega, rfl, Below.refl _ _⟩
  case round =>
    obtain ⟨k, hk, rfl, Hbr⟩ := hrel
    by_cases hkm : k < m
    · have hdk : decide ((k : Int) < (m : Int)) = true := by simp; omega
      have hdk2 : decide (k < m) = true := by simp; omega
      have hkI : (k : Int) < (m : Int) := by omega
      obtain ⟨d, hd⟩ := getElem?_lt (l := l) (k := k) (by rw [Hl.out]; exact hkm)
      have Dd := Lib.hid (HL.out d (List.mem_of_getElem? hd))
      obtain ⟨pb, po, rfl, -, -⟩ := Cells.addr HA.out (by rw [bytesV_length, HL.out.flat_length, Hl.out]; omega)
      obtain ⟨qb, qo, rfl, -, -⟩ := Cells.addr HB.out (by rw [bytesV_length, HL.out.flat_length, Hl.out]; omega)
      have R1 := Lib.hid (fun W (h : Below w.heap.size w W) => range_at HL.out (HA.out.below h) hd)
      have R2 := Lib.hid (fun W (h : Below w.heap.size w W) => range_at HL.out (HB.out.below h) hd)
      have hEq : ∀ W, (Op.equalIn 10000 37 (.agg (arrK .u8 d)) (.agg (arrK .u8 d))).run Try.prog W = .ok true W := fun W => by
        have := run_eqD Dd.out Dd.out W
        simpa using this
      clear hd
      go_wp2_with (fail)
      refine wp_region_held_drew (S := fun W => Below w.heap.size w W) (by kernel_rfl) (Hbr.out.trans (below_drewN (Below.refl _ _) 1)) (fun Hd => ?_)
      replace Hd : Below w.heap.size w wr.drew := Hd
      generalize World.drew wr = wd at *
      refine wpAnyH_take (i := 0) (v := ?_) rfl (by kernel_rfl) (by kernel_rfl) (by kernel_rfl) (fun _ _ _ h => h) (Or.inl ⟨by rfl, ?_⟩) Hd ?_
      rotate_left
      · intro w hSw; go_simp; try with_reducible rfl
      simp only [List.getElem_toArray, List.getElem_cons_zero, List.getElem_cons_succ, Act.put, List.setIfInBounds_toArray, List.set_cons_zero, List.set_cons_succ]
      refine wpAnyH_take (i := 1) (v := ?_) rfl (by kernel_rfl) (by kernel_rfl) (by kernel_rfl) (fun _ _ _ h => h) (Or.inl ⟨by rfl, ?_⟩) Hd ?_
      rotate_left
      · intro w hSw; go_simp; try with_reducible rfl
      simp only [List.getElem_toArray, List.getElem_cons_zero, List.getElem_cons_succ, Act.put, List.setIfInBounds_toArray, List.set_cons_zero, List.set_cons_succ]
      refine wpAnyH_take (i := 2) (v := ?_) rfl (by kernel_rfl) (by kernel_rfl) (by kernel_rfl) (fun _ _ _ h => h) (Or.inl ⟨by rfl, ?_⟩) Hd ?_
      rotate_left
      · intro w hSw; go_simp; try with_reducible rfl
      simp only [List.getElem_toArray, List.getElem_cons_zero, List.getElem_cons_succ, Act.put, List.setIfInBounds_toArray, List.set_cons_zero, List.set_cons_succ]
      refine wpAnyH_take (i := 3) (v := .agg (arrK .u8 d)) rfl (by kernel_rfl) (by kernel_rfl) (by kernel_rfl) (fun _ _ _ h => h) (yieldsIf_load_mid (by rfl) _ _ rfl _ _ rfl (d.map fun (n : Nat) => Value.int .u8 (n : Int)) (.array 32 5) (fun W hW => R1.out W hW) (by kernel_rfl) rfl (dV_info Dd.out.1)) Hd ?_
      simp only [List.getElem_toArray, List.getElem_cons_zero, List.getElem_cons_succ, Act.put, List.setIfInBounds_toArray, List.set_cons_zero, List.set_cons_succ]
      refine wpAnyH_take (i := 4) (v := ?_) rfl (by kernel_rfl) (by kernel_rfl) (by kernel_rfl) (fun _ _ _ h => h) (Or.inl ⟨by rfl, ?_⟩) Hd ?_
      rotate_left
      · intro w hSw; go_simp; try with_reducible rfl
      simp only [List.getElem_toArray, List.getElem_cons_zero, List.getElem_cons_succ, Act.put, List.setIfInBounds_toArray, List.set_cons_zero, List.set_cons_succ]
      refine wpAnyH_take (i := 5) (v := ?_) rfl (by kernel_rfl) (by kernel_rfl) (by kernel_rfl) (fun _ _ _ h => h) (Or.inl ⟨by rfl, ?_⟩) Hd ?_
      rotate_left
      · intro w hSw; go_simp; try with_reducible rfl
      simp only [List.getElem_toArray, List.getElem_cons_zero, List.getElem_cons_succ, Act.put, List.setIfInBounds_toArray, List.set_cons_zero, List.set_cons_succ]
      refine wpAnyH_take (i := 6) (v := ?_) rfl (by kernel_rfl) (by kernel_rfl) (by kernel_rfl) (fun _ _ _ h => h) (Or.inl ⟨by rfl, ?_⟩) Hd ?_
      rotate_left
      · intro w hSw; go_simp; try with_reducible rfl
      simp only [List.getElem_toArray, List.getElem_cons_zero, List.getElem_cons_succ, Act.put, List.setIfInBounds_toArray, List.set_cons_zero, List.set_cons_succ]
      refine wpAnyH_take (i := 7) (v := .agg (arrK .u8 d)) rfl (by kernel_rfl) (by kernel_rfl) (by kernel_rfl) (fun _ _ _ h => h) (yieldsIf_load_mid (by rfl) _ _ rfl _ _ rfl (d.map fun (n : Nat) => Value.int .u8 (n : Int)) (.array 32 5) (fun W hW => R2.out W hW) (by kernel_rfl) rfl (dV_info Dd.out.1)) Hd ?_
      simp only [List.getElem_toArray, List.getElem_cons_zero, List.getElem_cons_succ, Act.put, List.setIfInBounds_toArray, List.set_cons_zero, List.set_cons_succ]
      refine wpAnyH_take (i := 8) (v := ?_) rfl (by kernel_rfl) (by kernel_rfl) (by kernel_rfl) (fun _ _ _ h => h) (Or.inl ⟨by rfl, ?_⟩) Hd ?_
      rotate_left
      · intro w hSw; go_simp; try with_reducible rfl
      simp only [List.getElem_toArray, List.getElem_cons_zero, List.getElem_cons_succ, Act.put, List.setIfInBounds_toArray, List.set_cons_zero, List.set_cons_succ]
      refine wpAnyH_done (by kernel_rfl) ?_ _
      go_wp2_with (fail)
      go_roundw
      case rel => exact ⟨k + 1, by omega, by go_num, Hd⟩
      case measure => simp [intOf]; omega
    · have hdk : decide ((k : Int) < (m : Int)) = false := by simp; omega
      have hdk2 : decide (k < m) = false := by simp; omega
      go_wp2_with (fail)
      go_ret
      exact ⟨rfl, Hbr.out⟩
set_option linter.unusedSimpArgs false in
set_option maxRecDepth 100000 in
set_option maxHeartbeats 4000000 in
theorem samesig_any (u : Int) (A A2 B B2 C C2 : Option Addr) (n1 n2 n3 c c2 d d2 e e2 : Nat) (l1 l2 l3 : List (List Nat)) (w : World) (h1 : l1.length = n1) (h2 : l2.length = n2) (h3 : l3.length = n3) (L1 : IsL l1) (L2 : IsL l2) (L3 : IsL l3) (m1 : n1 ≤ 1000000) (m2 : n2 ≤ 1000000) (m3 : n3 ≤ 1000000)
    (hA : Cells w A (bytesV l1.flatten)) (hA2 : Cells w A2 (bytesV l1.flatten)) (hB : Cells w B (bytesV l2.flatten)) (hB2 : Cells w B2 (bytesV l2.flatten)) (hC : Cells w C (bytesV l3.flatten)) (hC2 : Cells w C2 (bytesV l3.flatten)) :
    Calls Try.prog 19 #[.agg #[.int .i64 u, .slice A n1 c, .slice B n2 d, .slice C n3 e], .agg #[.int .i64 u, .slice A2 n1 c2, .slice B2 n2 d2, .slice C2 n3 e2]] w fun e w' => e = .returned (.bool true) ∧ Below w.heap.size w w' := by
  have HA := Lib.hid hA; have HA2 := Lib.hid hA2; have HB := Lib.hid hB; have HB2 := Lib.hid hB2; have HC := Lib.hid hC; have HC2 := Lib.hid hC2
  have H1 := Lib.hid h1; have H2 := Lib.hid h2; have H3 := Lib.hid h3; have HL1 := Lib.hid L1; have HL2 := Lib.hid L2; have HL3 := Lib.hid L3
  have g1 : (u == u) = true := by simp
  clear hA hA2 hB hB2 hC hC2 h1 h2 h3 L1 L2 L3
  go_enter Try.func19, Try.ntmps19
  go_upto_region 1 with (fail)
  generalize hge : World.alloc _ _ = w0
  have HX0 := Lib.hid (show Blk w0 w.heap.size 30 #[.int .i64 u, .slice A n1 c, .slice B n2 d, .slice C n3 e] by subst hge; exact (blk_two w _ _ 30 30).1)
  have HY0 := Lib.hid (show Blk w0 (w.heap.size + 1) 30 #[.int .i64 u, .slice A2 n1 c2, .slice B2 n2 d2, .slice C2 n3 e2] by subst hge; exact (blk_two w _ _ 30 30).2)
  have Z0 := Lib.hid (show Below w.heap.size w w0 by subst hge; exact below_two (Below.refl _ _) (Nat.le_refl _) _ _)
  clear hge
  have x0 := HX0.out.cellv (i := 0) rfl
  have y0 := HY0.out.cellv (i := 0) rfl
  have x1 := HX0.out.cellv (i := 1) rfl
  have y1 := HY0.out.cellv (i := 1) rfl
  have x2 := HX0.out.cellv (i := 2) rfl
  have y2 := HY0.out.cellv (i := 2) rfl
  have x3 := HX0.out.cellv (i := 3) rfl
  have y3 := HY0.out.cellv (i := 3) rfl
  go_wp2_with (fail)
  refine (samed_any l1 n1 _ _ _ _ w0 H1.out HL1.out m1 (HA.out.below Z0.out) (HA2.out.below Z0.out)).mono ?_
  rintro e_ w1 ⟨rfl, hb⟩
  have HX1 := Lib.hid (HX0.out.below hb)
  have HY1 := Lib.hid (HY0.out.below hb)
  have Z1 := Lib.hid (below_of Z0.out hb Z0.out.size)
  clear hb x0 x1 x2 x3 y0 y1 y2 y3
  have x0 := HX1.out.cellv (i := 0) rfl
  have y0 := HY1.out.cellv (i := 0) rfl
  have x1 := HX1.out.cellv (i := 1) rfl
  have y1 := HY1.out.cellv (i := 1) rfl
  have x2 := HX1.out.cellv (i := 2) rfl
  have y2 := HY1.out.cellv (i := 2) rfl
  have x3 := HX1.out.cellv (i := 3) rfl
  have y3 := HY1.out.cellv (i := 3) rfl
  go_wp2_with (fail)
  refine (samed_any l2 n2 _ _ _ _ w1 H2.out HL2.out m2 (HB.out.below Z1.out) (HB2.out.below Z1.out)).mono ?_
  rintro e_ w2 ⟨rfl, hb⟩
  have HX2 := Lib.hid (HX1.out.below hb)
  have HY2 := Lib.hid (HY1.out.below hb)
  have Z2 := Lib.hid (below_of Z1.out hb Z1.out.size)
  clear hb x0 x1 x2 x3 y0 y1 y2 y3
  have x0 := HX2.out.cellv (i := 0) rfl
  have y0 := HY2.out.cellv (i := 0) rfl
  have x1 := HX2.out.cellv (i := 1) rfl
  have y1 := HY2.out.cellv (i := 1) rfl
  have x2 := HX2.out.cellv (i := 2) rfl
  have y2 := HY2.out.cellv (i := 2) rfl
  have x3 := HX2.out.cellv (i := 3) rfl
  have y3 := HY2.out.cellv (i := 3) rfl
  go_wp2_with (fail)
  refine (samed_any l3 n3 _ _ _ _ w2 H3.out HL3.out m3 (HC.out.below Z2.out) (HC2.out.below Z2.out)).mono ?_
  rintro e_ w3 ⟨rfl, hb⟩
  have HX3 := Lib.hid (HX2.out.below hb)
  have HY3 := Lib.hid (HY2.out.below hb)
  have Z3 := Lib.hid (below_of Z2.out hb Z2.out.size)
  clear hb x0 x1 x2 x3 y0 y1 y2 y3
  go_wp2_with (fail)
  go_ret
  exact ⟨rfl, Z3.out⟩
end Go.Proofs.Ytcijhakofoklcaa
