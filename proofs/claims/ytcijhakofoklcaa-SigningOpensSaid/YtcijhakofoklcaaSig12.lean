/- SameDigests of equal lists (signing). -/
import Derived.Test.YtcijhakofoklcaaSig10
namespace Go.Proofs.Ytcijhakofoklcaa
open Go.RowKit
set_option linter.unusedSimpArgs false in
set_option maxRecDepth 100000 in
set_option maxHeartbeats 4000000 in
theorem sameD_any (l : List (List Nat)) (m : Nat) (A B : Option Addr) (c c2 : Nat) (w : World) (hl : l.length = m) (hL : IsL l) (hm : m ≤ 1000000) (hA : Cells w A (bytesV l.flatten)) (hB : Cells w B (bytesV l.flatten)) :
    Calls Try.prog 30 #[.slice A m c, .slice B m c2] w fun e w' => e = .returned (.bool true) ∧ Below w.heap.size w w' := by
  have Hl := Lib.hid hl
  have HL := Lib.hid hL
  have HA := Lib.hid hA
  have HB := Lib.hid hB
  clear hl hL hA hB
  have g1 : ((m : Int) != (m : Int)) = false := by simp
  have g2 : (m != m) = false := by simp
  go_enter Try.func30, Try.ntmps30
  go_wp2_with (fail)
  go_loopw [5] (fun i wr => ∃ k : Nat, k ≤ m ∧ i = .int .i64 k ∧ Hid (Below w.heap.size w wr)) (fun i _ => m - (intOf i).toNat)
  case atStart => exact ⟨0, by omega, rfl, Below.refl _ _⟩
  case round =>
    obtain ⟨k, hk, rfl, Hbr⟩ := hrel
    by_cases hkm : k < m
    · have hdk : decide ((k : Int) < (m : Int)) = true := by simp; omega
      have hdk2 : decide (k < m) = true := by simp; omega
      have hkI : (k : Int) < (m : Int) := by omega
      obtain ⟨d, hd⟩ := getElem?_lt (l := l) (k := k) (by rw [Hl.out]; exact hkm)
      have Dd := Lib.hid (HL.out d (List.mem_of_getElem? hd))
      obtain ⟨pb, po, rfl, -, -⟩ := Cells.addr HA.out (by rw [bytesV_length, HL.out.flat_length, Hl.out]; omega)
      obtain ⟨qb, qo, rfl, -, -⟩ := Cells.addr HB.out (by rw [bytesV_length, HL.out.flat_length, Hl.out]; omega)
      have R1 := Lib.hid (fun W (h : Below w.heap.size w W) => range_at HL.out (HA.out.below h) hd)
      have R2 := Lib.hid (fun W (h : Below w.heap.size w W) => range_at HL.out (HB.out.below h) hd)
      have hEq : ∀ W, (Op.equalIn 10000 37 (.agg (arrK .u8 d)) (.agg (arrK .u8 d))).run Try.prog W = .ok true W := fun W => by
        have := run_eqD Dd.out Dd.out W
        simpa using this
      clear hd
      go_wp2_with (fail)
      refine wp_region_held_drew (S := fun W => Below w.heap.size w W) (by kernel_rfl) (Hbr.out.trans (below_drewN (Below.refl _ _) 1)) (fun Hd => ?_)
      replace Hd : Below w.heap.size w wr.drew := Hd
      generalize World.drew wr = wd at *
      refine wpAnyH_take (i := 0) (v := ?_) rfl (by kernel_rfl) (by kernel_rfl) (by kernel_rfl) (fun _ _ _ h => h) (Or.inl ⟨by rfl, ?_⟩) Hd ?_
      rotate_left
      · intro w hSw; go_simp; try with_reducible rfl
      simp only [List.getElem_toArray, List.getElem_cons_zero, List.getElem_cons_succ, Act.put, List.setIfInBounds_toArray, List.set_cons_zero, List.set_cons_succ]
      refine wpAnyH_take (i := 1) (v := ?_) rfl (by kernel_rfl) (by kernel_rfl) (by kernel_rfl) (fun _ _ _ h => h) (Or.inl ⟨by rfl, ?_⟩) Hd ?_
      rotate_left
      · intro w hSw; go_simp; try with_reducible rfl
      simp only [List.getElem_toArray, List.getElem_cons_zero, List.getElem_cons_succ, Act.put, List.setIfInBounds_toArray, List.set_cons_zero, List.set_cons_succ]
      refine wpAnyH_take (i := 2) (v := ?_) rfl (by kernel_rfl) (by kernel_rfl) (by kernel_rfl) (fun _ _ _ h => h) (Or.inl ⟨by rfl, ?_⟩) Hd ?_
      rotate_left
      · intro w hSw; go_simp; try with_reducible rfl
      simp only [List.getElem_toArray, List.getElem_cons_zero, List.getElem_cons_succ, Act.put, List.setIfInBounds_toArray, List.set_cons_zero, List.set_cons_succ]
      refine wpAnyH_take (i := 3) (v := .agg (arrK .u8 d)) rfl (by kernel_rfl) (by kernel_rfl) (by kernel_rfl) (fun _ _ _ h => h) (yieldsIf_load_mid (by rfl) _ _ rfl _ _ rfl (d.map fun (n : Nat) => Value.int .u8 (n : Int)) (.array 32 5) (fun W hW => R1.out W hW) (by kernel_rfl) rfl (dV_info Dd.out.1)) Hd ?_
      simp only [List.getElem_toArray, List.getElem_cons_zero, List.getElem_cons_succ, Act.put, List.setIfInBounds_toArray, List.set_cons_zero, List.set_cons_succ]
      refine wpAnyH_take (i := 4) (v := ?_) rfl (by kernel_rfl) (by kernel_rfl) (by kernel_rfl) (fun _ _ _ h => h) (Or.inl ⟨by rfl, ?_⟩) Hd ?_
      rotate_left
      · intro w hSw; go_simp; try with_reducible rfl
      simp only [List.getElem_toArray, List.getElem_cons_zero, List.getElem_cons_succ, Act.put, List.setIfInBounds_toArray, List.set_cons_zero, List.set_cons_succ]
      refine wpAnyH_take (i := 5) (v := ?_) rfl (by kernel_rfl) (by kernel_rfl) (by kernel_rfl) (fun _ _ _ h => h) (Or.inl ⟨by rfl, ?_⟩) Hd ?_
      rotate_left
      · intro w hSw; go_simp; try with_reducible rfl
      simp only [List.getElem_toArray, List.getElem_cons_zero, List.getElem_cons_succ, Act.put, List.setIfInBounds_toArray, List.set_cons_zero, List.set_cons_succ]
      refine wpAnyH_take (i := 6) (v := ?_) rfl (by kernel_rfl) (by kernel_rfl) (by kernel_rfl) (fun _ _ _ h => h) (Or.inl ⟨by rfl, ?_⟩) Hd ?_
      rotate_left
      · intro w hSw; go_simp; try with_reducible rfl
      simp only [List.getElem_toArray, List.getElem_cons_zero, List.getElem_cons_succ, Act.put, List.setIfInBounds_toArray, List.set_cons_zero, List.set_cons_succ]
      refine wpAnyH_take (i := 7) (v := .agg (arrK .u8 d)) rfl (by kernel_rfl) (by kernel_rfl) (by kernel_rfl) (fun _ _ _ h => h) (yieldsIf_load_mid (by rfl) _ _ rfl _ _ rfl (d.map fun (n : Nat) => Value.int .u8 (n : Int)) (.array 32 5) (fun W hW => R2.out W hW) (by kernel_rfl) rfl (dV_info Dd.out.1)) Hd ?_
      simp only [List.getElem_toArray, List.getElem_cons_zero, List.getElem_cons_succ, Act.put, List.setIfInBounds_toArray, List.set_cons_zero, List.set_cons_succ]
      refine wpAnyH_take (i := 8) (v := ?_) rfl (by kernel_rfl) (by kernel_rfl) (by kernel_rfl) (fun _ _ _ h => h) (Or.inl ⟨by rfl, ?_⟩) Hd ?_
      rotate_left
      · intro w hSw; go_simp; try with_reducible rfl
      simp only [List.getElem_toArray, List.getElem_cons_zero, List.getElem_cons_succ, Act.put, List.setIfInBounds_toArray, List.set_cons_zero, List.set_cons_succ]
      refine wpAnyH_done (by kernel_rfl) ?_ _
      go_wp2_with (fail)
      go_roundw
      case rel => exact ⟨k + 1, by omega, by go_num, Hd⟩
      case measure => simp [intOf]; omega
    · have hdk : decide ((k : Int) < (m : Int)) = false := by simp; omega
      have hdk2 : decide (k < m) = false := by simp; omega
      go_wp2_with (fail)
      go_ret
      exact ⟨rfl, Hbr.out⟩
end Go.Proofs.Ytcijhakofoklcaa
