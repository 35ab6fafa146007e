import Derived.Test.YtbccdjaeopfalaaW14
namespace Go.Proofs.Ytbccdjaeopfalaa
open Go.RowKit

theorem ex_unrank : unrankL 3 3 = [1, 2, 0] := by decide +kernel
theorem ex_ok3 : okN 3 3 = true := by decide +kernel
theorem ex_bad : okN 3 6 = false := by decide +kernel
theorem ex_isperm : isPerm [1, 2, 0] = true := by decide +kernel
theorem ex_isperm2 : isPerm [0, 1, 2] = true := by decide +kernel
theorem ex_rank : rankN [1, 2, 0] = 3 := by decide +kernel
theorem ex_okO : okOrder [7, 3, 9] 3 = true := by decide +kernel
theorem ex_order : orderL [7, 3, 9] 3 = [3, 9, 7] := by decide +kernel
theorem ex_okC : okComp [1, 2, 0] [0, 1, 2] = true := by decide +kernel
theorem ex_comp : composeL [1, 2, 0] [0, 1, 2] = [1, 2, 0] := by decide +kernel

def Fine (w : World) (e : Ending) (w' : World) : Prop := e = .returned (.bool true) ∧ Below w.heap.size w w'

theorem ex_fact : factN 18 = 6402373705728000 := by decide +kernel
theorem same_self (xs : List Int) : sameB xs xs = true := by simp [sameB]

set_option maxRecDepth 100000 in
set_option maxHeartbeats 4000000 in
theorem sane_any (w : World) : Calls Try.prog 10 #[] w (Fine w) := by
  have hml : (3 : Nat) ≤ maxLen := by unfold maxLen; omega
  have HF := Lib.hid (fun (W : World) => Factorial_any 18 W)
  rw [ex_fact] at HF
  have HU := Lib.hid (fun (W : World) => Unrank_any 3 3 W)
  rw [ex_unrank, ex_ok3] at HU
  have HU6 := Lib.hid (fun (W : World) => Unrank_any 3 6 W)
  rw [ex_bad, show errOf false = 220 from rfl] at HU6
  have HR := Lib.hid (fun (W : World) => Rank_any (some ⟨W.heap.size, 0, none⟩) 3 3 [1, 2, 0] _ rfl (by omega) hml (Ints.lit W 3 [1, 2, 0]))
  rw [ex_rank, ex_isperm] at HR
  have HO := Lib.hid (fun (W : World) => Order_res (some ⟨W.heap.size, 0, none⟩) 3 3 [7, 3, 9] 3 _ rfl (by omega) hml (Ints.lit W 3 [7, 3, 9]))
  rw [ex_order, ex_okO] at HO
  have HC := Lib.hid (fun (W : World) (A : Option Addr) (c : Nat) (hA : Ints W A [1, 2, 0]) => Compose_any A (some ⟨W.heap.size, 0, none⟩) 3 3 c 3 [1, 2, 0] [0, 1, 2] _ rfl rfl hml hml (Cells.alloc hA _) (Ints.lit W 3 [0, 1, 2]))
  rw [ex_comp, ex_okC] at HC
  have HS1 := Lib.hid (fun (W : World) (A : Option Addr) (c : Nat) (hA : Ints W A [1, 2, 0]) => Same_all A (some ⟨W.heap.size, 0, none⟩) 3 3 c 3 [1, 2, 0] [1, 2, 0] _ rfl rfl hml (Cells.alloc hA _) (Ints.lit W 3 [1, 2, 0]))
  rw [same_self] at HS1
  have HS2 := Lib.hid (fun (W : World) (A : Option Addr) (c : Nat) (hA : Ints W A [3, 9, 7]) => Same_all A (some ⟨W.heap.size, 0, none⟩) 3 3 c 3 [3, 9, 7] [3, 9, 7] _ rfl rfl hml (Cells.alloc hA _) (Ints.lit W 3 [3, 9, 7]))
  rw [same_self] at HS2
  go_enter Try.func10, Try.ntmps10
  go_wp2_with (fail)
  refine (HF.out _).mono ?_
  rintro e w' ⟨rfl, rfl⟩
  go_wp2_with (fail)
  refine (HU.out _).mono ?_
  rintro e w1 ⟨A1, m1, c1, rfl, hl1, hm1, hc1, hI1, hb1⟩
  obtain rfl : m1 = 3 := hl1.symm
  go_wp2_with (fail)
  refine (HR.out _).mono ?_
  rintro e w2 ⟨rfl, hb2⟩
  have hb2' : Below w1.heap.size w1 w2 := below_of ((Below.refl _ _).alloc (Nat.le_refl _) _) hb2 (by simp)
  clear hb2
  go_wp2_with (fail)
  refine (HO.out _).mono ?_
  rintro e w3 ⟨A3, m3, c3, rfl, hl3, hm3, hc3, hI3, hb3⟩
  obtain rfl : m3 = 3 := hl3.symm
  have hb3' : Below w2.heap.size w2 w3 := below_of ((Below.refl _ _).alloc (Nat.le_refl _) _) hb3 (by simp)
  clear hb3
  have hI13 : Ints w3 A1 [1, 2, 0] := (hI1.below hb2').below hb3'
  go_wp2_with (fail)
  refine (HC.out _ _ _ hI13).mono ?_
  rintro e w4 ⟨A4, m4, c4, rfl, hl4, hm4, hc4, hI4, hb4⟩
  obtain rfl : m4 = 3 := hl4.symm
  have hb4' : Below w3.heap.size w3 w4 := below_of ((Below.refl _ _).alloc (Nat.le_refl _) _) hb4 (by simp)
  clear hb4
  go_wp2_with (fail)
  refine (HU6.out _).mono ?_
  rintro e w5 ⟨A5, m5, c5, rfl, hl5, hm5, hc5, hI5, hb5⟩
  have hI15 : Ints w5 A1 [1, 2, 0] := (hI13.below hb4').below hb5
  go_wp2_with (fail)
  refine (HS1.out _ _ _ hI15).mono ?_
  rintro e w6 ⟨rfl, hd6⟩
  have hb6' : Below w5.heap.size w5 w6 := below_of ((Below.refl _ _).alloc (Nat.le_refl _) _) (hd6.below _) (by simp)
  clear hd6
  have hI36 : Ints w6 A3 [3, 9, 7] := ((hI3.below hb4').below hb5).below hb6'
  go_wp2_with (fail)
  refine (HS2.out _ _ _ hI36).mono ?_
  rintro e w7 ⟨rfl, hd7⟩
  have hb7' : Below w6.heap.size w6 w7 := below_of ((Below.refl _ _).alloc (Nat.le_refl _) _) (hd7.below _) (by simp)
  clear hd7
  have hI17 : Ints w7 A1 [1, 2, 0] := (hI15.below hb6').below hb7'
  have hI47 : Ints w7 A4 [1, 2, 0] := ((hI4.below hb5).below hb6').below hb7'
  have HS3 := Lib.hid (Same_all A4 A1 3 3 c4 c1 [1, 2, 0] [1, 2, 0] w7 rfl rfl hml hI47 hI17)
  rw [same_self] at HS3
  go_wp2_with (fail)
  refine (HS3.out).mono ?_
  rintro e w8 ⟨rfl, hd8⟩
  have hb8 : Below w7.heap.size w7 w8 := hd8.below _
  have H2 : Below w.heap.size w w2 := below_of hb1 hb2' hb1.size
  have H3 := below_of H2 hb3' H2.size
  have H4 := below_of H3 hb4' H3.size
  have H5 := below_of H4 hb5 H4.size
  have H6 := below_of H5 hb6' H5.size
  have H7 := below_of H6 hb7' H6.size
  have H8 := below_of H7 hb8 H7.size
  go_wp2_with (fail)
  go_ret
  exact ⟨rfl, H8⟩
end Go.Proofs.Ytbccdjaeopfalaa
