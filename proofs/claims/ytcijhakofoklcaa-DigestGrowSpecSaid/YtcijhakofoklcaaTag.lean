/- The walks of Tagged (both), leaf, node, half (both). -/
import Derived.Test.YtcijhakofoklcaaRef5
import Derived.Lib.ConvBytes
import Derived.Deep.RegionHeld3
namespace Go.Proofs.Ytcijhakofoklcaa
open Go.RowKit
/-- The hash of the tag's hash and the bytes. -/
def tagS (t b : List Nat) : List Nat := sha (sha t ++ b)
theorem tagS_eq (t b : List Nat) : tagS t b = sha (sha t ++ b) := rfl
theorem tagS_length (t b : List Nat) : (tagS t b).length = 32 := sha_length _
/-- The string's bytes. -/
def strL (s : ByteArray) : List Nat := s.data.toList.map UInt8.toNat
theorem strL_length (s : ByteArray) : (strL s).length = s.size := by simp [strL]
theorem strL_byte (s : ByteArray) : ByteL (strL s) := by
  intro i
  unfold strL
  rw [List.getD_eq_getElem?_getD, List.getElem?_map]
  cases s.data.toList[i]? with
  | none => decide
  | some x => exact x.toNat_lt
theorem outVal_byte (l : List Nat) (i : Nat) : outVal l i < 256 := by rw [outVal_eq]; exact Nat.mod_lt _ (by decide)
theorem outAcc_byte (l : List Nat) : ∀ k, ByteL (outAcc l k)
  | 0 => by
    rw [outAcc_zero]
    intro j
    rw [List.getD_eq_getElem?_getD, List.getElem?_replicate]
    split <;> decide
  | k + 1 => by rw [outAcc_succ]; exact (outAcc_byte l k).set _ _ (outVal_byte _ _)
theorem sha_byte (b : List Nat) : ByteL (sha b) := by rw [sha_eq]; exact outAcc_byte _ _
theorem tagS_byte (t b : List Nat) : ByteL (tagS t b) := sha_byte _
attribute [irreducible] tagS strL
theorem arrK_bytesV (l : List Nat) : (arrK .u8 l).toList = bytesV l := by
  rw [arrK_toList]
  unfold bytesV
  rfl
/-- '[]byte(s)': the new world as a letter. -/
theorem conv_letter {P : Program} (src dst e : TypeId) (s : ByteArray) (hs : P.underlying src = some .string) (hd : P.underlying dst = some (.slice e)) (he : P.underlying e = some (.int .u8)) :
    ∃ (cv : World → World) (cp : World → Nat), (∀ W, (convert src dst (.string s)).run P W = .ok (.slice (some ⟨W.heap.size, 0, none⟩) s.size (cp W)) (cv W)) ∧
      (∀ W, Cells (cv W) (some ⟨W.heap.size, 0, none⟩) (bytesV (strL s))) ∧ (∀ W, Below W.heap.size W (cv W)) ∧ (∀ W, (cv W).heap.size = W.heap.size + 1) := by
  refine ⟨fun W => Lib.bytesWorld W e s, fun W => grownCap W s.size 0 e, fun W => Lib.run_convert_string_bytes W src dst e s hs hd he, fun W => ?_, fun W => ?_, fun W => Lib.bytesWorld_size W e s⟩
  · refine .inr ⟨W.heap.size, 0, rfl, by rw [Lib.bytesWorld_size]; omega, fun j u hu => ?_⟩
    have hj : j < (strL s).length := by
      have := (List.getElem?_eq_some_iff.1 hu).1
      rwa [bytesV_length] at this
    rw [bytesV_get hj] at hu
    injection hu with hu
    subst hu
    rw [Nat.zero_add, Lib.bytesWorld_cell W e s j (by rwa [strL_length] at hj)]
    congr 2
    unfold strL
    rw [List.getD_eq_getElem?_getD, List.getD_eq_getElem?_getD, List.getElem?_map]
    cases s.data.toList[j]? <;> rfl
  · refine ⟨rfl, ?_, rfl, by rw [Lib.bytesWorld_size]; omega, fun k hk => Lib.bytesWorld_at_old W e s k hk⟩
    rfl
theorem len32 {l : List Nat} (h : l.length = 32) : (arrK .u8 l).size = 32 := by rw [arrK_size, h]
theorem info32 {l : List Nat} (h : l.length = 32) : (Try.prog.info? 37).map (·.size) = some (arrK .u8 l).size := by rw [len32 h]; kernel_rfl
def z32 : List Nat := List.replicate 32 0
theorem z32_length : z32.length = 32 := rfl
set_option maxRecDepth 100000 in
set_option maxHeartbeats 4000000 in
theorem tagged_any (s : ByteArray) (A : Option Addr) (n c : Nat) (b : List Nat) (w : World) (hA : Cells w A (bytesV b)) (hn : b.length = n) (hbig : n ≤ 1000000) (h8 : ByteL b) (hs : s.size ≤ 1000000) :
    Calls Try.prog 31 #[.string s, .slice A n c] w fun e w' => e = .returned (.agg (arrK .u8 (tagS (strL s) b))) ∧ Below w.heap.size w w' := by
  have HA := Lib.hid hA
  have Hn := Lib.hid hn
  have H8 := Lib.hid h8
  clear hA hn h8
  obtain ⟨cv, cp, hcv, hcv1, hcv2, hcv3⟩ := conv_letter (P := Try.prog) 9 22 5 s (by kernel_rfl) (by kernel_rfl) (by kernel_rfl)
  have Hcv1 := Lib.hid hcv1
  have Hcv2 := Lib.hid hcv2
  clear hcv1 hcv2
  go_enter Try.func31, Try.ntmps31
  go_wp2_with (fail)
  generalize hge : World.alloc _ _ = w0
  have HR0 := Lib.hid (show Blk w0 w.heap.size 37 (arrK .u8 z32) by subst hge; exact Blk.new w 37 (arrK .u8 z32))
  have HB0 := Lib.hid (show Below w.heap.size w w0 by subst hge; exact (Below.refl _ _).alloc (Nat.le_refl _) _)
  have hz0 : w.heap.size + 1 = w0.heap.size := by subst hge; simp
  rw [hz0]
  clear hge hz0
  refine (sum_any _ _ _ (strL s) _ (Hcv1.out w0) (strL_length s) (by omega) (strL_byte s)).mono ?_
  rintro e w1 ⟨rfl, hb1⟩
  have hb01 := (Hcv2.out w0).trans (hb1.mono (Hcv2.out w0).size)
  have HR1 := Lib.hid (HR0.out.below hb01)
  have HB1 := Lib.hid (HB0.out.trans (hb01.mono HB0.out.size))
  have ls := sha_length (strL s)
  clear hb1 hb01 HR0
  generalize hsh : sha (strL s) = sh at *
  have Hsh := Lib.hid hsh
  have Ls := Lib.hid ls
  clear hsh ls hcv hcv3
  go_wp2_with (
    (refine wpList_put_blk rfl 37 (.tmp 5) (.tmp 8) rfl w1.heap.size (arrK .u8 sh) rfl rfl 37 (arrK .u8 z32) (Blk.new w1 37 (arrK .u8 z32)) (info32 Ls.out) (by rw [len32 Ls.out, len32 z32_length]) (arrK_all _ _) ?_
     intro w2 HD2 hg2 hz2
     have hb2 : Below w1.heap.size w1 w2 := below_grown ((Below.refl w1.heap.size w1).alloc (Nat.le_refl _) (.cells (arrK .u8 z32) 37)) hg2 (by simp) (by simp)
     have HD2 := Lib.hid HD2
     have HR2 := Lib.hid (HR1.out.below hb2)
     have HB2 := Lib.hid (HB1.out.trans (hb2.mono HB1.out.size))
     clear hg2 hz2 hb2))
  generalize hge : World.alloc _ _ = w3
  have HS3 : Blk w3 w2.heap.size 22 #[.slice (some ⟨w1.heap.size, 0, none⟩) 32 32, .slice A n c] := by subst hge; exact Blk.new w2 _ _
  have hb3 : Below w2.heap.size w2 w3 := by subst hge; exact (Below.refl _ _).alloc (Nat.le_refl _) _
  have HD3 := HD2.out.below hb3
  have HR3 := Lib.hid (HR2.out.below hb3)
  have HB3 := Lib.hid (HB2.out.trans (hb3.mono HB2.out.size))
  have C1 : Cells w3 (some ⟨w1.heap.size, 0, none⟩) (bytesV sh) := by have := cells_blk HD3; rwa [arrK_bytesV] at this
  have C2 : Cells w3 A (bytesV b) := HA.out.below HB3.out
  clear hge hb3 HD3
  refine (concat2 w2.heap.size 32 32 n c (some ⟨w1.heap.size, 0, none⟩) A (bytesV sh) (bytesV b) w3 (HS3.cell 0) (HS3.cell 1) C1 C2 (by rw [bytesV_length, Ls.out]) (by rw [bytesV_length, Hn.out]) (bytesV_one _) (bytesV_one _) (by omega) (by omega) HS3.lt).mono ?_
  rintro e w4 ⟨A4, c4, rfl, hown4, hb4⟩
  have HR4 := Lib.hid (HR3.out.below hb4)
  have HB4 := Lib.hid (HB3.out.trans (hb4.mono HB3.out.size))
  rw [← bytesV_append] at hown4
  have C4 := Lib.hid (Cells.own hown4)
  clear hown4 hb4 C1 C2 HS3
  go_wp2_with (fail)
  refine (sum_any _ _ _ (sh ++ b) _ C4.out (by rw [List.length_append, Ls.out, Hn.out]) (by omega) ((by rw [← Hsh.out]; exact sha_byte _ : ByteL sh).append H8.out)).mono ?_
  rintro e w5 ⟨rfl, hb5⟩
  have HR5 := Lib.hid (HR4.out.below hb5)
  have HB5 := Lib.hid (HB4.out.trans (hb5.mono HB4.out.size))
  have et : sha (sh ++ b) = tagS (strL s) b := by rw [tagS_eq, Hsh.out]
  rw [et]
  have lt := Lib.hid (tagS_length (strL s) b)
  clear et hb5
  go_wp2_with (
    (refine wpList_put_blk rfl 37 (.tmp 4) (.tmp 13) rfl w.heap.size (arrK .u8 (tagS (strL s) b)) rfl rfl 37 (arrK .u8 z32) HR5.out (info32 lt.out) (by rw [len32 lt.out, len32 z32_length]) (arrK_all _ _) ?_
     intro w6 HD6 hg6 hz6
     have HD6 := Lib.hid HD6
     have HB6 := below_grown HB5.out hg6 HB5.out.size (by simp)
     clear hg6 hz6))
  exact ret_row rfl w.heap.size 37 (arrK .u8 (tagS (strL s) b)) (.array 32 5) rfl HD6.out (by kernel_rfl) rfl (info32 lt.out) rfl ⟨rfl, HB6⟩
end Go.Proofs.Ytcijhakofoklcaa
