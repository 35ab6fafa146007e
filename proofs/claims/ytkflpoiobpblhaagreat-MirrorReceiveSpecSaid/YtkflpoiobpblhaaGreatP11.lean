/- Walks and plain laws that the statement rests on: Tag, Tag2. -/
import Derived.Deep.RegionHeld3
import Derived.Lib.ConvBytes
import Derived.Test.YtkflpoiobpblhaaGreatP00
import Derived.Test.YtkflpoiobpblhaaGreatP10
namespace Go.Proofs.YtkflpoiobpblhaaGreat
open Go.RowKit
def tagS (t b : List Nat) : List Nat := sha (sha t ++ b)
theorem tagS_eq (t b : List Nat) : tagS t b = sha (sha t ++ b) := rfl
theorem tagS_length (t b : List Nat) : (tagS t b).length = 32 := sha_length _
def strL (s : ByteArray) : List Nat := s.data.toList.map UInt8.toNat
theorem strL_length (s : ByteArray) : (strL s).length = s.size := by simp [strL]
theorem strL_byte (s : ByteArray) : ByteL (strL s) := by
 intro i
 unfold strL
 rw [List.getD_eq_getElem?_getD, List.getElem?_map]
 cases s.data.toList[i]? with
 | none => decide
 | some x => exact x.toNat_lt
theorem outVal_byte (l : List Nat) (i : Nat) : outVal l i < 256 := by rw [outVal_eq]; exact Nat.mod_lt _ (by decide)
theorem outAcc_byte (l : List Nat) : ∀ k, ByteL (outAcc l k)
 | 0 => by
   rw [outAcc_zero]
   intro j
   rw [List.getD_eq_getElem?_getD, List.getElem?_replicate]
   split <;> decide
 | k + 1 => by rw [outAcc_succ]; exact (outAcc_byte l k).set _ _ (outVal_byte _ _)
theorem sha_byte (b : List Nat) : ByteL (sha b) := by rw [sha_eq]; exact outAcc_byte _ _
theorem tagS_byte (t b : List Nat) : ByteL (tagS t b) := sha_byte _
attribute [irreducible] tagS strL
theorem arrK_bytesV (l : List Nat) : (arrK .u8 l).toList = bytesV l := by
 rw [arrK_toList]
 unfold bytesV
 rfl
theorem conv_letter {P : Program} (src dst e : TypeId) (s : ByteArray) (hs : P.underlying src = some .string) (hd : P.underlying dst = some (.slice e)) (he : P.underlying e = some (.int .u8)) :
    ∃ (cv : World → World) (cp : World → Nat), (∀ W, (convert src dst (.string s)).run P W = .ok (.slice (some ⟨W.heap.size, 0, none⟩) s.size (cp W)) (cv W)) ∧
     (∀ W, Cells (cv W) (some ⟨W.heap.size, 0, none⟩) (bytesV (strL s))) ∧ (∀ W, Below W.heap.size W (cv W)) ∧ (∀ W, (cv W).heap.size = W.heap.size + 1) := by
 refine ⟨fun W => Lib.bytesWorld W e s, fun W => grownCap W s.size 0 e, fun W => Lib.run_convert_string_bytes W src dst e s hs hd he, fun W => ?_, fun W => ?_, fun W => Lib.bytesWorld_size W e s⟩
 · refine .inr ⟨W.heap.size, 0, rfl, by rw [Lib.bytesWorld_size]; omega, fun j u hu => ?_⟩
   have hj : j < (strL s).length := by
    have := (List.getElem?_eq_some_iff.1 hu).1
    rwa [bytesV_length] at this
   rw [bytesV_get hj] at hu
   injection hu with hu
   subst hu
   rw [Nat.zero_add, Lib.bytesWorld_cell W e s j (by rwa [strL_length] at hj)]
   congr 2
   unfold strL
   rw [List.getD_eq_getElem?_getD, List.getD_eq_getElem?_getD, List.getElem?_map]
   cases s.data.toList[j]? <;> rfl
 · refine ⟨rfl, ?_, rfl, by rw [Lib.bytesWorld_size]; omega, fun k hk => Lib.bytesWorld_at_old W e s k hk⟩
   rfl
theorem len32 {l : List Nat} (h : l.length = 32) : (arrK .u8 l).size = 32 := by rw [arrK_size, h]
theorem info32 {l : List Nat} (h : l.length = 32) : (Tryz.prog.info? 29).map (·.size) = some (arrK .u8 l).size := by rw [len32 h]; kernel_rfl
def z32 : List Nat := List.replicate 32 0
theorem z32_length : z32.length = 32 := rfl
set_option maxRecDepth 100000 in
set_option maxHeartbeats 4000000 in
theorem tagged_any (s : ByteArray) (A : Option Addr) (n c : Nat) (b : List Nat) (w : World) (hA : Cells w A (bytesV b)) (hn : b.length = n) (hbig : n ≤ 1000000) (h8 : ByteL b) (hs : s.size ≤ 1000000) :
    Calls Tryz.prog 56 #[.string s, .slice A n c] w fun e w' => e = .returned (.agg (arrK .u8 (tagS (strL s) b))) ∧ Below w.heap.size w w' := by
 have HA := Lib.hid hA
 have Hn := Lib.hid hn
 have H8 := Lib.hid h8
 clear hA hn h8
 obtain ⟨cv, cp, hcv, hcv1, hcv2, hcv3⟩ := conv_letter (P := Tryz.prog) 9 22 5 s (by kernel_rfl) (by kernel_rfl) (by kernel_rfl)
 have Hcv1 := Lib.hid hcv1
 have Hcv2 := Lib.hid hcv2
 clear hcv1 hcv2
 go_enter Tryz.func56, Tryz.ntmps56
 go_wp2_with (fail)
 generalize hge : World.alloc _ _ = w0
 have HR0 := Lib.hid (show Blk w0 w.heap.size 29 (arrK .u8 z32) by subst hge; exact Blk.new w 29 (arrK .u8 z32))
 have HB0 := Lib.hid (al1 hge)
 have hz0 : w.heap.size + 1 = w0.heap.size := by subst hge; simp
 rw [hz0]
 clear hge hz0
 refine (sum_any _ _ _ (strL s) _ (Hcv1.out w0) (strL_length s) (by omega) (strL_byte s)).mono ?_
 rintro e w1 ⟨rfl, hb1⟩
 have hb01 := (Hcv2.out w0).trans (hb1.mono (Hcv2.out w0).size)
 have HR1 := Lib.hid (HR0.out.below hb01)
 have HB1 := Lib.hid (HB0.out.trans (hb01.mono HB0.out.size))
 have ls := sha_length (strL s)
 clear hb1 hb01 HR0
 generalize hsh : sha (strL s) = sh at *
 have Hsh := Lib.hid hsh
 have Ls := Lib.hid ls
 clear hsh ls hcv hcv3
 go_wp2_with (
  (refine wpList_put_blk rfl 29 (.tmp 5) (.tmp 8) rfl w1.heap.size (arrK .u8 sh) rfl rfl 29 (arrK .u8 z32) (Blk.new w1 29 (arrK .u8 z32)) (info32 Ls.out) (by rw [len32 Ls.out, len32 z32_length]) (arrK_all _ _) ?_
   intro w2 HD2 hg2 hz2
   have hb2 : Below w1.heap.size w1 w2 := below_grown ((Below.refl w1.heap.size w1).alloc (Nat.le_refl _) (.cells (arrK .u8 z32) 29)) hg2 (by simp) (by simp)
   have HD2 := Lib.hid HD2
   have HR2 := Lib.hid (HR1.out.below hb2)
   have HB2 := Lib.hid (HB1.out.trans (hb2.mono HB1.out.size))
   clear hg2 hz2 hb2))
 generalize hge : World.alloc _ _ = w3
 have HS3 : Blk w3 w2.heap.size 22 #[.slice (some ⟨w1.heap.size, 0, none⟩) 32 32, .slice A n c] := by subst hge; exact Blk.new w2 _ _
 have hb3 := al1 hge
 have HD3 := HD2.out.below hb3
 have HR3 := Lib.hid (HR2.out.below hb3)
 have HB3 := Lib.hid (HB2.out.trans (hb3.mono HB2.out.size))
 have C1 : Cells w3 (some ⟨w1.heap.size, 0, none⟩) (bytesV sh) := by have := cells_blk HD3; rwa [arrK_bytesV] at this
 have C2 : Cells w3 A (bytesV b) := HA.out.below HB3.out
 clear hge hb3 HD3
 refine (concat2 w2.heap.size 32 32 n c (some ⟨w1.heap.size, 0, none⟩) A (bytesV sh) (bytesV b) w3 (HS3.cell 0) (HS3.cell 1) C1 C2 (by rw [bytesV_length, Ls.out]) (by rw [bytesV_length, Hn.out]) (bytesV_one _) (bytesV_one _) (by omega) (by omega) HS3.lt).mono ?_
 rintro e w4 ⟨A4, c4, rfl, hown4, hb4⟩
 have HR4 := Lib.hid (HR3.out.below hb4)
 have HB4 := Lib.hid (HB3.out.trans (hb4.mono HB3.out.size))
 rw [← bytesV_append] at hown4
 have C4 := Lib.hid (Cells.own hown4)
 clear hown4 hb4 C1 C2 HS3
 go_wp2_with (fail)
 refine (sum_any _ _ _ (sh ++ b) _ C4.out (by rw [List.length_append, Ls.out, Hn.out]) (by omega) ((by rw [← Hsh.out]; exact sha_byte _ : ByteL sh).append H8.out)).mono ?_
 rintro e w5 ⟨rfl, hb5⟩
 have HR5 := Lib.hid (HR4.out.below hb5)
 have HB5 := Lib.hid (HB4.out.trans (hb5.mono HB4.out.size))
 have et : sha (sh ++ b) = tagS (strL s) b := by rw [tagS_eq, Hsh.out]
 rw [et]
 have lt := Lib.hid (tagS_length (strL s) b)
 clear et hb5
 go_wp2_with (
  (refine wpList_put_blk rfl 29 (.tmp 4) (.tmp 13) rfl w.heap.size (arrK .u8 (tagS (strL s) b)) rfl rfl 29 (arrK .u8 z32) HR5.out (info32 lt.out) (by rw [len32 lt.out, len32 z32_length]) (arrK_all _ _) ?_
   intro w6 HD6 hg6 hz6
   have HD6 := Lib.hid HD6
   have HB6 := below_grown HB5.out hg6 HB5.out.size (by simp)
   clear hg6 hz6))
 exact ret_row rfl w.heap.size 29 (arrK .u8 (tagS (strL s) b)) (.array 32 5) rfl HD6.out (by kernel_rfl) rfl (info32 lt.out) rfl ⟨rfl, HB6⟩
end Go.Proofs.YtkflpoiobpblhaaGreat
namespace Go.Proofs.YtkflpoiobpblhaaGreat
open Go.RowKit
def IsD (d : List Nat) : Prop := d.length = 32 ∧ ByteL d
theorem tagS_isD (t b : List Nat) : IsD (tagS t b) := ⟨tagS_length _ _, tagS_byte _ _⟩
def leafT : List Nat := strL ⟨#[108, 101, 97, 102]⟩
def nodeT : List Nat := strL ⟨#[110, 111, 100, 101]⟩
def emptyT : List Nat := strL ⟨#[101, 109, 112, 116, 121]⟩
def leafS (d : List Nat) : List Nat := tagS leafT d
def nodeS (a b : List Nat) : List Nat := tagS nodeT (a ++ b)
theorem leafS_isD (d : List Nat) : IsD (leafS d) := tagS_isD _ _
theorem nodeS_isD (a b : List Nat) : IsD (nodeS a b) := tagS_isD _ _
theorem z32_isD : IsD z32 := ⟨rfl, fun j => by
 unfold z32
 rw [List.getD_eq_getElem?_getD, List.getElem?_replicate]
 split <;> decide⟩
set_option maxRecDepth 100000 in
set_option maxHeartbeats 4000000 in
theorem rtagged_any (s : ByteArray) (A : Option Addr) (n c : Nat) (b : List Nat) (w : World) (hA : Cells w A (bytesV b)) (hn : b.length = n) (hbig : n ≤ 1000000) (h8 : ByteL b) (hs : s.size ≤ 1000000) :
    Calls Tryz.prog 67 #[.string s, .slice A n c] w fun e w' => e = .returned (.agg (arrK .u8 (tagS (strL s) b))) ∧ Below w.heap.size w w' := by
 have HA := Lib.hid hA
 have Hn := Lib.hid hn
 have H8 := Lib.hid h8
 clear hA hn h8
 obtain ⟨cv, cp, hcv, hcv1, hcv2, hcv3⟩ := conv_letter (P := Tryz.prog) 9 22 5 s (by kernel_rfl) (by kernel_rfl) (by kernel_rfl)
 have Hcv1 := Lib.hid hcv1
 have Hcv2 := Lib.hid hcv2
 clear hcv1 hcv2
 go_enter Tryz.func67, Tryz.ntmps67
 go_wp2_with (fail)
 generalize hge : World.alloc _ _ = w0
 have HR0 := Lib.hid (show Blk w0 w.heap.size 29 (arrK .u8 z32) by subst hge; exact Blk.new w 29 (arrK .u8 z32))
 have HB0 := Lib.hid (al1 hge)
 have hz0 : w.heap.size + 1 = w0.heap.size := by subst hge; simp
 rw [hz0]
 clear hge hz0
 refine (rsum_any _ _ _ (strL s) _ (Hcv1.out w0) (strL_length s) (by omega) (strL_byte s)).mono ?_
 rintro e w1 ⟨rfl, hb1⟩
 have hb01 := (Hcv2.out w0).trans (hb1.mono (Hcv2.out w0).size)
 have HR1 := Lib.hid (HR0.out.below hb01)
 have HB1 := Lib.hid (HB0.out.trans (hb01.mono HB0.out.size))
 have ls := sha_length (strL s)
 clear hb1 hb01 HR0
 generalize hsh : sha (strL s) = sh at *
 have Hsh := Lib.hid hsh
 have Ls := Lib.hid ls
 clear hsh ls hcv hcv3
 go_wp2_with (first
  | (at_builtin
     refine wpList_append_cells rfl (.tmp 11) (.tmp 12) 22 rfl w2.heap.size 5 (.int .u8 0) 1 1 (by kernel_rfl) (by kernel_rfl) rfl (by omega) v3 (0 + 32) ([] ++ bytesV sh) Hown3.out rfl A n c (bytesV b) rfl (by rw [bytesV_length, Hn.out, Nat.mul_one]) (HA.out.below HB3.out) (bytesV_one _) (by unfold maxLen; omega) (by omega) hb3.out.size ?_
     intro v4 w4 hown4 hg4 _
     have hb4 := Lib.hid (below_grown hb3.out hg4 hb3.out.size (own_base Hown3.out))
     have Hown4 := Lib.hid hown4
     clear hown4 hg4)
  | (at_builtin
     refine wpList_append_cells rfl (.tmp 9) (.tmp 10) 22 rfl w2.heap.size 5 (.int .u8 0) 1 1 (by kernel_rfl) (by kernel_rfl) rfl (by omega) (.slice (some ⟨w2.heap.size, 0, none⟩) 0 0) 0 [] (World.ownsRow_lit (size := 1) w2 #[] 0 (Nat.le_refl _) (Nat.zero_le _) rfl) rfl (some ⟨w1.heap.size, 0, none⟩) 32 32 (bytesV sh) rfl (by rw [bytesV_length, Ls.out]) (C2.out.alloc _) (bytesV_one _) (by unfold maxLen; omega) (by omega) (by simp) ?_
     intro v3 w3 hown3 hg3 _
     have hb3 := Lib.hid (below_grown ((Below.refl w2.heap.size w2).alloc (Nat.le_refl _) (.cells #[] 5)) hg3 (by simp) (by intro k hk; simp [Value.ownBlock] at hk; omega))
     have HB3 := Lib.hid (HB2.out.trans (hb3.out.mono HB2.out.size))
     have Hown3 := Lib.hid hown3
     clear hown3 hg3)
  | (refine wpList_put_blk rfl 29 (.tmp 5) (.tmp 8) rfl w1.heap.size (arrK .u8 sh) rfl rfl 29 (arrK .u8 z32) (Blk.new w1 29 (arrK .u8 z32)) (info32 Ls.out) (by rw [len32 Ls.out, len32 z32_length]) (arrK_all _ _) ?_
     intro w2 HD2 hg2 hz2
     have hb2 : Below w1.heap.size w1 w2 := below_grown ((Below.refl w1.heap.size w1).alloc (Nat.le_refl _) (.cells (arrK .u8 z32) 29)) hg2 (by simp) (by simp)
     have HR2 := Lib.hid (HR1.out.below hb2)
     have HB2 := Lib.hid (HB1.out.trans (hb2.mono HB1.out.size))
     have C2 := Lib.hid (show Cells w2 (some ⟨w1.heap.size, 0, none⟩) (bytesV sh) by have := cells_blk HD2; rwa [arrK_bytesV] at this)
     clear hg2 hz2 hb2 HD2))
 have HR4 := Lib.hid (HR2.out.below hb4.out)
 have HB4 := Lib.hid (HB2.out.trans (hb4.out.mono HB2.out.size))
 obtain ⟨A4, c4, hv4, -, -, -⟩ := own_form Hown4.out
 subst hv4
 have C4 := Lib.hid (show Cells w4 A4 (bytesV (sh ++ b)) by
  have := Cells.own Hown4.out
  rwa [List.nil_append, ← bytesV_append] at this)
 refine (rsum_any _ _ _ (sh ++ b) _ C4.out (by rw [List.length_append, Ls.out, Hn.out]) (by omega) ((by rw [← Hsh.out]; exact sha_byte _ : ByteL sh).append H8.out)).mono ?_
 rintro e w5 ⟨rfl, hb5⟩
 have HR5 := Lib.hid (HR4.out.below hb5)
 have HB5 := Lib.hid (HB4.out.trans (hb5.mono HB4.out.size))
 have et : sha (sh ++ b) = tagS (strL s) b := by rw [tagS_eq, Hsh.out]
 rw [et]
 have lt := Lib.hid (tagS_length (strL s) b)
 clear et hb5
 go_wp2_with (
  (refine wpList_put_blk rfl 29 (.tmp 4) (.tmp 14) rfl w.heap.size (arrK .u8 (tagS (strL s) b)) rfl rfl 29 (arrK .u8 z32) HR5.out (info32 lt.out) (by rw [len32 lt.out, len32 z32_length]) (arrK_all _ _) ?_
   intro w6 HD6 hg6 hz6
   have HD6 := Lib.hid HD6
   have HB6 := below_grown HB5.out hg6 HB5.out.size (by simp)
   clear hg6 hz6))
 exact ret_row rfl w.heap.size 29 (arrK .u8 (tagS (strL s) b)) (.array 32 5) rfl HD6.out (by kernel_rfl) rfl (info32 lt.out) rfl ⟨rfl, HB6⟩
set_option maxRecDepth 100000 in
set_option maxHeartbeats 4000000 in
theorem leaf_any (d : List Nat) (w : World) (hd : IsD d) :
    Calls Tryz.prog 91 #[.agg (arrK .u8 d)] w fun e w' => e = .returned (.agg (arrK .u8 (leafS d))) ∧ Below w.heap.size w w' := by
 have Hd := Lib.hid hd
 clear hd
 go_enter Tryz.func91, Tryz.ntmps91
 go_wp2_with (fail)
 generalize hge : World.alloc _ _ = w1
 have H1 := (show Blk w1 w.heap.size 29 (arrK .u8 d) by subst hge; exact (blk_two w (arrK .u8 d) (arrK .u8 z32) 29 29).1)
 have HR := Lib.hid (show Blk w1 (w.heap.size + 1) 29 (arrK .u8 z32) by subst hge; exact (blk_two w (arrK .u8 d) (arrK .u8 z32) 29 29).2)
 have HB := Lib.hid (al2 hge)
 have C1 : Cells w1 (some ⟨w.heap.size, 0, none⟩) (bytesV d) := by have := cells_blk H1; rwa [arrK_bytesV] at this
 clear hge H1
 refine (tagged_any _ _ _ _ d _ C1 Hd.out.1 (by omega) Hd.out.2 (by decide)).mono ?_
 rintro e w5 ⟨rfl, hb5⟩
 have HR5 := Lib.hid (HR.out.below hb5)
 have HB5 := Lib.hid (HB.out.trans (hb5.mono HB.out.size))
 have et : tagS (strL ⟨#[108, 101, 97, 102]⟩) d = leafS d := rfl
 rw [et]
 have lt := Lib.hid (leafS_isD d).1
 clear et hb5 C1
 go_wp2_with (
  (refine wpList_put_blk rfl 29 (.tmp 2) (.tmp 4) rfl (w.heap.size + 1) (arrK .u8 (leafS d)) rfl rfl 29 (arrK .u8 z32) HR5.out (info32 lt.out) (by rw [len32 lt.out, len32 z32_length]) (arrK_all _ _) ?_
   intro w6 HD6 hg6 hz6
   have HD6 := Lib.hid HD6
   have HB6 := below_grown HB5.out hg6 HB5.out.size (by simp)
   clear hg6 hz6))
 exact ret_row rfl (w.heap.size + 1) 29 (arrK .u8 (leafS d)) (.array 32 5) rfl HD6.out (by kernel_rfl) rfl (info32 lt.out) rfl ⟨rfl, HB6⟩
set_option maxRecDepth 100000 in
set_option maxHeartbeats 4000000 in
theorem node_any (a b : List Nat) (w : World) (ha : IsD a) (hb : IsD b) :
    Calls Tryz.prog 93 #[.agg (arrK .u8 a), .agg (arrK .u8 b)] w fun e w' => e = .returned (.agg (arrK .u8 (nodeS a b))) ∧ Below w.heap.size w w' := by
 have Ha := Lib.hid ha
 have Hb := Lib.hid hb
 clear ha hb
 go_enter Tryz.func93, Tryz.ntmps93
 go_wp2_with (fail)
 generalize hge : World.alloc _ _ = w1
 have hall : Blk w1 w.heap.size 29 (arrK .u8 a) ∧ Blk w1 (w.heap.size + 1) 29 (arrK .u8 b) ∧ Blk w1 (w.heap.size + 1 + 1) 29 (arrK .u8 z32) ∧ Below w.heap.size w w1 := by
  subst hge
  exact blk_three w (arrK .u8 a) (arrK .u8 b) (arrK .u8 z32) 29 29 29
 have H1 := Lib.hid hall.1; have H2 := Lib.hid hall.2.1; have HR := Lib.hid hall.2.2.1; have HB := Lib.hid hall.2.2.2
 clear hge hall
 refine wp_region_still_tail 2 (by kernel_rfl) (by kernel_rfl) ?_
 simp only [List.take_succ_cons, List.take_zero, List.drop_succ_cons, List.drop_zero]
 repeat still_step
 refine wpStill_nil ?_
 change wpList _ _ _ _ _ w1.drew
 go_wp2_with (fail)
 generalize hge : World.drew _ = w3
 have HS3 : Blk w3 w1.heap.size 22 #[.slice (some ⟨w.heap.size, 0, none⟩) 32 32, .slice (some ⟨w.heap.size + 1, 0, none⟩) 32 32] := by subst hge; exact (Blk.new w1 _ _).drewN 1
 have hb3 : Below w1.heap.size w1 w3 := by subst hge; exact below_drewN ((Below.refl _ _).alloc (Nat.le_refl _) _) 1
 have C1 : Cells w3 (some ⟨w.heap.size, 0, none⟩) (bytesV a) := by have := cells_blk (H1.out.below hb3); rwa [arrK_bytesV] at this
 have C2 : Cells w3 (some ⟨w.heap.size + 1, 0, none⟩) (bytesV b) := by have := cells_blk (H2.out.below hb3); rwa [arrK_bytesV] at this
 have HR3 := Lib.hid (HR.out.below hb3)
 have HB3 := Lib.hid (HB.out.trans (hb3.mono HB.out.size))
 clear hge hb3
 refine (concat2 w1.heap.size 32 32 32 32 _ _ (bytesV a) (bytesV b) w3 (HS3.cell 0) (HS3.cell 1) C1 C2 (by rw [bytesV_length, Ha.out.1]) (by rw [bytesV_length, Hb.out.1]) (bytesV_one _) (bytesV_one _) (by omega) (by omega) HS3.lt).mono ?_
 rintro e w4 ⟨A4, c4, rfl, hown4, hb4⟩
 have HR4 := Lib.hid (HR3.out.below hb4)
 have HB4 := Lib.hid (HB3.out.trans (hb4.mono HB3.out.size))
 rw [← bytesV_append] at hown4
 have C4 := Lib.hid (Cells.own hown4)
 clear hown4 hb4 C1 C2 HS3
 go_wp2_with (fail)
 refine (tagged_any _ _ _ _ (a ++ b) _ C4.out (by rw [List.length_append, Ha.out.1, Hb.out.1]) (by omega) (Ha.out.2.append Hb.out.2) (by decide)).mono ?_
 rintro e w5 ⟨rfl, hb5⟩
 have HR5 := Lib.hid (HR4.out.below hb5)
 have HB5 := Lib.hid (HB4.out.trans (hb5.mono HB4.out.size))
 have et : tagS (strL ⟨#[110, 111, 100, 101]⟩) (a ++ b) = nodeS a b := rfl
 rw [et]
 have lt := Lib.hid (nodeS_isD a b).1
 clear et hb5
 go_wp2_with (
  (refine wpList_put_blk rfl 29 (.tmp 4) (.tmp 9) rfl (w.heap.size + 1 + 1) (arrK .u8 (nodeS a b)) rfl rfl 29 (arrK .u8 z32) HR5.out (info32 lt.out) (by rw [len32 lt.out, len32 z32_length]) (arrK_all _ _) ?_
   intro w6 HD6 hg6 hz6
   have HD6 := Lib.hid HD6
   have HB6 := below_grown HB5.out hg6 HB5.out.size (by simp; omega)
   clear hg6 hz6))
 exact ret_row rfl (w.heap.size + 1 + 1) 29 (arrK .u8 (nodeS a b)) (.array 32 5) rfl HD6.out (by kernel_rfl) rfl (info32 lt.out) rfl ⟨rfl, HB6⟩
def SR (w1 : World) (R : Nat) (W : World) : Prop := Below R w1 W ∧ Blk W R 29 ((W.heap[R]?.bind fun o => match o with | .cells cs _ _ => some cs | _ => none).getD #[]) ∧ ((W.heap[R]?.bind fun o => match o with | .cells cs _ _ => some cs | _ => none).getD #[]).size = 32
theorem SR.mk {w1 W : World} {R : Nat} {cs : Array Value} (hb : Below R w1 W) (h : Blk W R 29 cs) (hs : cs.size = 32) : SR w1 R W := by
 have e : ((W.heap[R]?.bind fun o => match o with | .cells cs _ _ => some cs | _ => none).getD #[]) = cs := by
  unfold Blk at h
  rw [h]; rfl
 unfold SR
 rw [e]
 exact ⟨hb, h, hs⟩
theorem SR.start {w1 : World} {R : Nat} {cs : Array Value} (h : Blk w1 R 29 cs) (hs : cs.size = 32) : SR w1 R w1 := SR.mk (Below.refl _ _) h hs
theorem SR.row {w1 W : World} {R : Nat} (h : SR w1 R W) : Blk W R 29 ((W.heap[R]?.bind fun o => match o with | .cells cs _ _ => some cs | _ => none).getD #[]) ∧ ((W.heap[R]?.bind fun o => match o with | .cells cs _ _ => some cs | _ => none).getD #[]).size = 32 := h.2
theorem SR.below {w1 W W' : World} {R : Nat} (h : SR w1 R W) (hb : Below W.heap.size W W') : SR w1 R W' :=
 SR.mk (h.1.trans (hb.mono (Nat.le_of_lt h.2.1.lt))) (h.2.1.below hb) h.2.2
theorem SR.drew {w1 W : World} {R : Nat} (h : SR w1 R W) : SR w1 R W.drew := h.below (((Drawn.refl W).drewN 1).below _)
theorem SR.alloc {w1 W : World} {R : Nat} (h : SR w1 R W) (o : Obj) : SR w1 R (W.alloc o) := h.below ((Below.refl _ _).alloc (Nat.le_refl _) _)
theorem SR.grown {w1 W W' : World} {R : Nat} {row : Option Nat} (h : SR w1 R W) (hg : W.grownBy W' row) (hr : ∀ k, row = some k → R < k) : SR w1 R W' :=
 SR.mk (below_grown h.1 hg (Nat.le_of_lt h.2.1.lt) (fun k hk => Nat.le_of_lt (hr k hk))) (h.2.1.grown hg (fun e => by have := hr R e.symm; omega)) h.2.2
theorem SR.put {w1 W W' : World} {R : Nat} {cs : Array Value} (h : SR w1 R W) (hd : Blk W' R 29 cs) (hs : cs.size = 32) (hg : W.grownBy W' (some R)) : SR w1 R W' :=
 SR.mk (below_grown h.1 hg (Nat.le_of_lt h.2.1.lt) (by simp)) hd hs
theorem SR.cells {w1 W : World} {R : Nat} (h : SR w1 R W) {b off : Nat} {cs : List Value} (hc : Cells w1 (some ⟨b, off, none⟩) cs) (hb : b < R) : Cells W (some ⟨b, off, none⟩) cs := by
 rcases hc with rfl | ⟨b', off', he, hlt, hcell⟩
 · exact .inl rfl
 · injection he with he
   injection he with h1 h2
   subst h1; subst h2
   exact .inr ⟨b, off, rfl, Nat.lt_of_lt_of_le hlt h.1.size, fun j u hu => (h.1.cell (p := ⟨b, off + j, none⟩) hb).trans (hcell j u hu)⟩
theorem SR.base {w1 W : World} {R : Nat} (h : SR w1 R W) : Below R w1 W := h.1
section
variable {w : World} {ops : Array Oper} {o : Oper} {a : Act} {Q : Exit → Act → World → Prop} {K : Act → World → Prop}
end
theorem dV_length {d : List Nat} (h : d.length = 32) : (d.map fun (n : Nat) => Value.int .u8 (n : Int)).length = 32 := by rw [List.length_map, h]
theorem dV_info {d : List Nat} (h : d.length = 32) : (Tryz.prog.info? 29).map (·.size) = some (d.map fun (n : Nat) => Value.int .u8 (n : Int)).length := by rw [dV_length h]; kernel_rfl
theorem dV_one (d : List Nat) : ∀ v ∈ (d.map fun (n : Nat) => Value.int .u8 (n : Int)), v.oneCell' = true := by
 intro v hv
 rw [List.mem_map] at hv
 obtain ⟨x, _, rfl⟩ := hv
 rfl
theorem blk_setCells {g : Nat} {t : TypeId} : ∀ (l pre old : List Value) (w : World), old.length = l.length → Blk w g t (pre ++ old).toArray → Blk (w.setCells g pre.length l) g t (pre ++ l).toArray
 | [], pre, [], w, _, h => h
 | v :: l, pre, u :: old, w, hl, h => by
   have h1 := h.set_ pre.length v
   have e : (pre ++ u :: old).toArray.setIfInBounds pre.length v = ((pre ++ [v]) ++ old).toArray := by simp
   rw [e] at h1
   have := blk_setCells l (pre ++ [v]) old _ (by simpa using hl) h1
   simpa [World.setCells] using this
theorem blk_setCells0 {w : World} {g : Nat} {t : TypeId} {cs : Array Value} (h : Blk w g t cs) (l : List Value) (hl : cs.size = l.length) : Blk (w.setCells g 0 l) g t l.toArray := by
 have := blk_setCells l [] cs.toList w (by simpa using hl) (by simpa using h)
 simpa using this
theorem below_setCells {B g : Nat} {a : World} (hg : B ≤ g) : ∀ (l : List Value) (o : Nat) (w : World), Below B a w → Below B a (w.setCells g o l)
 | [], _, _, h => h
 | v :: l, o, w, h => below_setCells hg l (o + 1) _ (h.setCell (by simpa using hg) v)
theorem there_blk {w : World} {g : Nat} {t : TypeId} {cs : Array Value} (h : Blk w g t cs) : w.there g 0 cs.size := fun j hj => by
 rw [Nat.zero_add]
 exact ⟨by rw [h.cell j]; simp [hj], h.frozen j⟩
theorem SR.there {w1 W : World} {R : Nat} (h : SR w1 R W) : W.there R 0 32 := by
 have := there_blk h.2.1
 rwa [h.2.2] at this
theorem SR.setCells {w1 W : World} {R : Nat} (h : SR w1 R W) (l : List Value) (hl : l.length = 32) : SR w1 R (W.setCells R 0 l) :=
 SR.mk (below_setCells (Nat.le_refl _) l 0 W h.1) (blk_setCells0 h.2.1 l (by rw [h.2.2, hl])) (by simpa using hl)
theorem SR.digest {w1 W : World} {R : Nat} (h : SR w1 R W) (d : List Nat) (hd : d.length = 32) : Blk (W.setCells R 0 (d.map fun (n : Nat) => Value.int .u8 (n : Int))) R 29 (arrK .u8 d) :=
 blk_setCells0 h.2.1 _ (by rw [h.2.2, List.length_map, hd])
theorem SR.size {w1 W : World} {R : Nat} (h : SR w1 R W) (_ : R < w1.heap.size) : w1.heap.size ≤ W.heap.size := h.1.size
set_option maxRecDepth 100000 in
set_option maxHeartbeats 4000000 in
theorem rnode_any (a b : List Nat) (w : World) (ha : IsD a) (hb : IsD b) :
    Calls Tryz.prog 100 #[.agg (arrK .u8 a), .agg (arrK .u8 b)] w fun e w' => e = .returned (.agg (arrK .u8 (nodeS a b))) ∧ Below w.heap.size w w' := by
 have Ha := Lib.hid ha
 have Hb := Lib.hid hb
 clear ha hb
 go_enter Tryz.func100, Tryz.ntmps100
 go_wp2_with (fail)
 generalize hge : World.alloc _ _ = w1
 have hall : Blk w1 w.heap.size 29 (arrK .u8 a) ∧ Blk w1 (w.heap.size + 1) 29 (arrK .u8 b) ∧ Blk w1 (w.heap.size + 1 + 1) 29 (arrK .u8 z32) ∧ Below w.heap.size w w1 := by
  subst hge
  exact blk_three w (arrK .u8 a) (arrK .u8 b) (arrK .u8 z32) 29 29 29
 have H1 := Lib.hid hall.1; have H2 := Lib.hid hall.2.1; have HR := Lib.hid hall.2.2.1; have HB := Lib.hid hall.2.2.2
 clear hge hall
 have C1 := Lib.hid (show Cells w1 (some ⟨w.heap.size, 0, none⟩) (bytesV a) by have := cells_blk H1.out; rwa [arrK_bytesV] at this)
 have C2 := Lib.hid (show Cells w1 (some ⟨w.heap.size + 1, 0, none⟩) (bytesV b) by have := cells_blk H2.out; rwa [arrK_bytesV] at this)
 have lt := Lib.hid (nodeS_isD a b).1
 have hR1 : w.heap.size + 1 + 1 < w1.heap.size := HR.out.lt
 have hln := dV_length lt.out
 have hin := dV_info lt.out
 have hon := dV_one (nodeS a b)
 have HS1 : SR w1 (w.heap.size + 1 + 1) w1 := SR.start HR.out (len32 z32_length)
 go_region_held3 (fun W => SR w1 (w.heap.size + 1 + 1) W) (first | assumption | exact SR.drew (by assumption) | exact SR.alloc (by assumption) _ | exact SR.setCells (by assumption) _ hln)
  (first
    | ((refine step_append_cells (by rfl) (.tmp 7) (.tmp 8) 22 (by rfl) w1.heap.size 5 (.int .u8 0) 1 1 (by kernel_rfl) (by kernel_rfl) rfl (by omega) v3 (0 + 32) ([] ++ bytesV a) Hown3.out (by rfl) (some ⟨w.heap.size + 1, 0, none⟩) 32 32 (bytesV b) (by rfl) (by rw [bytesV_length, Hb.out.1]) (by exact SR.cells (by assumption) C2.out (by omega)) (bytesV_one _) (by unfold maxLen; omega) (by omega) (by exact (SR.size (by assumption) hR1)) ?_; intro v4 w4 hown4 hg4 _; obtain ⟨A4, c4, rfl, -, -, -⟩ := own_form hown4; have hb4 : SR w1 (w.heap.size + 1 + 1) w4 := SR.grown (by assumption) hg4 (fun k hk => Nat.lt_of_lt_of_le hR1 (own_base Hown3.out k hk)); have Hown4 := Lib.hid hown4; clear hown4))
    | ((refine step_append_cells (by rfl) (.tmp 5) (.tmp 6) 22 (by rfl) w1.heap.size 5 (.int .u8 0) 1 1 (by kernel_rfl) (by kernel_rfl) rfl (by omega) (.slice (some ⟨w1.heap.size, 0, none⟩) 0 0) 0 [] (by exact World.ownsRow_lit (size := 1) _ #[] 0 (Nat.le_refl _) (Nat.zero_le _) rfl) (by rfl) (some ⟨w.heap.size, 0, none⟩) 32 32 (bytesV a) (by rfl) (by rw [bytesV_length, Ha.out.1]) (by exact SR.cells (by assumption) C1.out (by omega)) (bytesV_one _) (by unfold maxLen; omega) (by omega) (by exact (SR.size (by assumption) hR1)) ?_; intro v3 w3 hown3 hg3 _; have hb3 : SR w1 (w.heap.size + 1 + 1) w3 := SR.grown (by assumption) hg3 (by intro k hk; simp [Value.ownBlock] at hk; omega); have Hown3 := Lib.hid hown3; clear hown3))
    | (go_at_call 67; refine (rtagged_any _ _ _ _ (a ++ b) _ (by exact (by have := Cells.own Hown4.out; rwa [List.nil_append, ← bytesV_append] at this)) (by simp [Ha.out.1, Hb.out.1]) (by omega) (Ha.out.2.append Hb.out.2) (by decide)).mono ?_; rintro e w5 ⟨he, hb5⟩; have he : e = .returned (.agg (arrK .u8 (nodeS a b))) := he; subst he; have hb5' : SR w1 (w.heap.size + 1 + 1) w5 := SR.below (by assumption) hb5; have ht5 := SR.there hb5')
    | (fail))
 go_wp2_with (fail)
 have HBf := HB.out.trans ((SR.base (by assumption : SR w1 (w.heap.size + 1 + 1) (w5.setCells (w.heap.size + 1 + 1) 0 _))).mono (by omega))
 exact ret_row rfl (w.heap.size + 1 + 1) 29 (arrK .u8 (nodeS a b)) (.array 32 5) rfl (SR.digest hb5' _ lt.out) (by kernel_rfl) rfl (info32 lt.out) rfl ⟨rfl, HBf⟩
attribute [irreducible] leafS nodeS leafT nodeT emptyT
end Go.Proofs.YtkflpoiobpblhaaGreat
