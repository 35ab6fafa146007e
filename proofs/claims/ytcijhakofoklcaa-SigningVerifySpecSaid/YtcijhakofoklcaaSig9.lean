/- The chapter's sane (signing). -/
import Derived.Test.YtcijhakofoklcaaSig7
import Derived.Test.YtcijhakofoklcaaSig8
namespace Go.Proofs.Ytcijhakofoklcaa
open Go.RowKit
theorem cells_new1 (W : World) (a : Nat) : Cells (W.alloc (.cells #[.int .u8 (a : Int)] 5)) (some ⟨W.heap.size, 0, none⟩) (bytesV [a]) := by
  have := cells_blk (Blk.new W 5 #[.int .u8 (a : Int)])
  rwa [show (#[Value.int .u8 (a : Int)]).toList = bytesV [a] by unfold bytesV; rfl] at this
theorem cells_new2 (W : World) (a b : Nat) : Cells (W.alloc (.cells #[.int .u8 (a : Int), .int .u8 (b : Int)] 5)) (some ⟨W.heap.size, 0, none⟩) (bytesV [a, b]) := by
  have := cells_blk (Blk.new W 5 #[.int .u8 (a : Int), .int .u8 (b : Int)])
  rwa [show (#[Value.int .u8 (a : Int), Value.int .u8 (b : Int)]).toList = bytesV [a, b] by unfold bytesV; rfl] at this
theorem below_two {w0 w : World} {B : Nat} (h : Below B w0 w) (hB : B ≤ w.heap.size) (o o2 : Obj) : Below B w0 ((w.alloc o).alloc o2) := (h.alloc hB o).alloc (by simp; omega) o2
set_option linter.unusedSimpArgs false in
set_option maxRecDepth 100000 in
set_option maxHeartbeats 4000000 in
theorem ssane_any (w : World) :
    Calls Try.prog 13 #[] w fun e w' => e = .returned (.bool true) ∧ Below w.heap.size w w' := by
  obtain ⟨mk, hm1, hm2, hm3, hm4⟩ := make_letter (P := Try.prog) 22 5 (.int .u8 0) 1 (by kernel_rfl) (by kernel_rfl) rfl 65 (by omega) (by omega)
  have hm1' : ∀ W, Sem.run Try.prog (Instr.makeSlice 22 (.int .i64 65) (.int .i64 65)) W = .ok (.slice (some ⟨W.heap.size, 0, none⟩) 65 65) (mk W) := hm1
  have C65 := Lib.hid (show ∀ W : World, Cells (mk W) (some ⟨W.heap.size, 0, none⟩) (bytesV (List.replicate 65 0)) from fun W => by
    have := cells_blk (hm2 W)
    rwa [show (List.replicate 65 (Value.int .u8 0)).toArray = arrK .u8 (List.replicate 65 0) by unfold arrK; rfl, arrK_bytesV] at this)
  have M3 := Lib.hid hm3
  clear hm1 hm2 hm3 hm4
  go_enter Try.func13, Try.ntmps13
  go_wp2_with (fail)
  refine (New_bad none 0 0 1 [] w (.inl (by unfold bytesV; rfl)) rfl (by omega) (Nat.le_refl _) (by unfold maxLen; omega) (by decide)).mono ?_
  rintro e w1 ⟨rfl, hb1⟩
  go_wp2_with (fail)
  generalize hge : mk (World.alloc _ _) = w2
  have HB2 := Lib.hid (show Below w.heap.size w w2 by subst hge; exact below_of (hb1.alloc hb1.size _) (M3.out _) (Nat.le_trans hb1.size (by simp)))
  have C2 := Lib.hid (show Cells w2 (some ⟨w1.heap.size + 1, 0, none⟩) (bytesV (List.replicate 65 0)) by subst hge; have := C65.out (w1.alloc (.cells ZK 24)); rw [World.size_alloc] at this; exact this)
  clear hge hb1 hm1'
  refine (New_bad (some ⟨w1.heap.size + 1, 0, none⟩) 65 65 1 (List.replicate 65 0) w2 C2.out (by simp) (by omega) (Nat.le_refl _) (by unfold maxLen; omega) (by decide)).mono ?_
  rintro e w3 ⟨rfl, hb3⟩
  have HB3 := Lib.hid (below_of HB2.out hb3 HB2.out.size)
  clear hb3
  go_wp2_with (fail)
  refine (New_bad _ 1 1 4097 [1] _ (by have := cells_new1 (w3.alloc (.cells ZK 24)) 1; rw [World.size_alloc] at this; exact this) rfl (by omega) (Nat.le_refl _) (by unfold maxLen; omega) (by decide)).mono ?_
  rintro e w4 ⟨rfl, hb4⟩
  have HB4 := Lib.hid (below_of (below_two HB3.out HB3.out.size _ _) hb4 (below_two HB3.out HB3.out.size _ _).size)
  clear hb4
  go_wp2_with (fail)
  refine (New_good _ 2 2 2 [1, 2] _ (by have := cells_new2 (w4.alloc (.cells ZK 24)) 1 2; rw [World.size_alloc] at this; exact this) rfl (by omega) (Nat.le_refl _) (by unfold maxLen; omega) (by decide)).mono ?_
  rintro e w5 ⟨A5, c5, rfl, -, -, -, hb5⟩
  have HB5 := Lib.hid (below_of (below_two HB4.out HB4.out.size _ _) hb5 (below_two HB4.out HB4.out.size _ _).size)
  clear hb5
  go_wp2_with (fail)
  generalize hge : World.alloc _ _ = w6
  have HK6 := Lib.hid (show Blk w6 w5.heap.size 24 #[.slice A5 2 c5, .int .i64 2, .int .i64 0] by subst hge; exact (Blk.new w5 24 _).alloc _)
  have HB6 := Lib.hid (show Below w.heap.size w w6 by subst hge; exact below_two HB5.out HB5.out.size _ _)
  clear hge
  refine (Sign_bad _ 1 1 1 1 none 0 0 w6 (.inr ⟨by decide, by omega, rfl⟩)).mono ?_
  rintro e w7 ⟨rfl, hb7⟩
  have HK7 := Lib.hid (HK6.out.below hb7)
  have HB7 := Lib.hid (below_of HB6.out hb7 HB6.out.size)
  clear hb7
  have q1 := HK7.out.cellv (i := 1) rfl
  have q2 := HK7.out.cellv (i := 2) rfl
  have lk := HK7.out.lt
  go_wp2_with (fail)
  generalize hge : World.alloc _ _ = w8
  have HB8 := Lib.hid (show Below w.heap.size w w8 by subst hge; exact below_two HB7.out HB7.out.size _ _)
  have HK8 := Lib.hid (show Blk w8 w5.heap.size 24 #[.slice A5 2 c5, .int .i64 2, .int .i64 0] by subst hge; exact (HK7.out.alloc _).alloc _)
  clear hge q1 q2
  refine (Bits_bad z32 (-1) none 0 0 w8 (.inl (by omega))).mono ?_
  rintro e w9 ⟨rfl, hb9⟩
  have HB9 := Lib.hid (below_of HB8.out hb9 HB8.out.size)
  clear hb9
  go_wp2_with (fail)
  refine (Bits_good z32 0 [] none 0 0 w9 z32_isD (by omega) (.inl (by unfold bytesV; rfl)) rfl (by omega) (fun j => by simp)).mono ?_
  rintro e w10 ⟨B10, rfl, -, hb10⟩
  have HB10 := Lib.hid (below_of HB9.out hb10 HB9.out.size)
  clear hb10
  go_wp2_with (fail)
  refine (Verify_bad z32 0 0 none 0 0 none none none 0 0 0 0 0 0 w10 (by omega)).mono ?_
  rintro e w11 ⟨rfl, hb11⟩
  have HB11 := Lib.hid (below_of HB10.out hb11 HB10.out.size)
  clear hb11
  go_wp2_with (fail)
  refine (Verify_bad z32 1 0 none 0 0 none none none 0 0 0 0 0 0 w11 (by omega)).mono ?_
  rintro e w12 ⟨rfl, hb12⟩
  have HB12 := Lib.hid (below_of HB11.out hb12 HB11.out.size)
  clear hb12
  go_wp2_with (fail)
  go_ret
  exact ⟨rfl, HB12.out⟩
end Go.Proofs.Ytcijhakofoklcaa
