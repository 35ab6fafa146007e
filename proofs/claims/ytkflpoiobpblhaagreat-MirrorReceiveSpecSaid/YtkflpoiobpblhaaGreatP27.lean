/- Walks and plain laws that the statement rests on: MMes, MSta. -/
import Derived.Test.YtkflpoiobpblhaaGreatP00
import Derived.Test.YtkflpoiobpblhaaGreatP25
import Derived.Test.YtkflpoiobpblhaaGreatP26
import Derived.Test.YtkflpoiobpblhaaGreatPS
namespace Go.Proofs.YtkflpoiobpblhaaGreat
open Go.RowKit
set_option linter.unusedVariables false
set_option linter.unusedSimpArgs false
namespace Mir
theorem bytesI_eq (d : List Nat) : bytesI d = bytesV d := by unfold bytesV bytesI; rfl
def verA (no : Int) (st : List Nat) (C s0 s1 s2 s3 : Value) : Array Value := #[.int .i64 no] ++ arrK .u8 st ++ #[C, s0, s1, s2, s3]
theorem verA_size {st : List Nat} (h : st.length = 32) (no : Int) (C s0 s1 s2 s3 : Value) : (verA no st C s0 s1 s2 s3).size = 38 := by
 unfold verA; rw [Array.size_append, Array.size_append, len32 h]; rfl
theorem verA_0 (no : Int) (st : List Nat) (C s0 s1 s2 s3 : Value) : (verA no st C s0 s1 s2 s3)[0]? = some (.int .i64 no) := by
 unfold verA
 rw [Array.append_assoc, Array.getElem?_append_left (by simp)]; rfl
theorem verA_hi {st : List Nat} (h : st.length = 32) (no : Int) (C s0 s1 s2 s3 : Value) (i : Nat) : (verA no st C s0 s1 s2 s3)[33 + i]? = (#[C, s0, s1, s2, s3] : Array Value)[i]? := by
 unfold verA
 rw [Array.getElem?_append_right (by rw [Array.size_append, len32 h]; simp), Array.size_append, len32 h]
 congr 1
 simp
theorem verA_mid {st : List Nat} (h : st.length = 32) (no : Int) (C s0 s1 s2 s3 : Value) {i : Nat} (hi : i < 32) : (verA no st C s0 s1 s2 s3)[1 + i]? = (arrK .u8 st)[i]? := by
 unfold verA
 rw [Array.getElem?_append_left (by rw [Array.size_append, len32 h]; simp; omega), Array.getElem?_append_right (by simp)]
 congr 1
 simp
def changeT : ByteArray := ⟨#[99, 104, 97, 110, 103, 101]⟩
def headS (x : Ch) : List Nat := [if x.2 then 1 else 0, x.1.1.size % 256]
def chLeaf (x : Ch) : List Nat := tagS (strL changeT) (headS x ++ strL x.1.1 ++ x.1.2)
def leavesK (l : List Ch) (k : Nat) : List (List Nat) := (l.take k).map chLeaf
def mesS (no : Nat) (st : List Nat) (l : List Ch) : List Nat := numS no ++ st ++ treeS (l.map chLeaf)
theorem leavesK_zero (l : List Ch) : leavesK l 0 = [] := rfl
theorem leavesK_succ {l : List Ch} {k : Nat} {x : Ch} (h : l[k]? = some x) : leavesK l (k + 1) = leavesK l k ++ [chLeaf x] := by
 unfold leavesK
 rw [List.take_add_one, h, List.map_append]; rfl
theorem leavesK_all (l : List Ch) : leavesK l l.length = l.map chLeaf := by unfold leavesK; rw [List.take_length]
end Mir
theorem byteL_of {l : List Nat} (h : ∀ b ∈ l, b < 256) : ByteL l := fun i => by
 rw [List.getD_eq_getElem?_getD]
 rcases Nat.lt_or_ge i l.length with hi | hi
 · rw [List.getElem?_eq_getElem hi]; exact h _ (List.getElem_mem _)
 · rw [List.getElem?_eq_none hi]; decide
set_option maxRecDepth 100000 in
set_option maxHeartbeats 8000000 in
theorem message_any (no : Nat) (st : List Nat) (A : Option Addr) (n c : Nat) (l : List Mir.Ch) (s0 s1 s2 s3 : Value) (w : World) (hst : IsD st) (hl : l.length = n) (hn : n ≤ 70000) (hno : no < 9223372036854775808) (hC : ChangesC w A l)
    (hs : ∀ x ∈ l, x.1.1.size ≤ 64 ∧ x.1.2.length ≤ 900000) :
    Calls Tryz.prog 31 #[.agg (Mir.verA no st (.slice A n c) s0 s1 s2 s3)] w fun e w' => ∃ A' c', e = .returned (.slice A' 72 c') ∧ 72 ≤ c' ∧ c' ≤ maxLen ∧ Cells w' A' (bytesV (Mir.mesS no st l)) ∧ Below w.heap.size w w' := by
 have h0 := Mir.verA_0 no st (.slice A n c) s0 s1 s2 s3
 have h33 : (Mir.verA no st (.slice A n c) s0 s1 s2 s3)[33]? = some (.slice A n c) := Mir.verA_hi hst.1 no (.slice A n c) s0 s1 s2 s3 0
 have hmid := Lib.hid (fun i (hi : i < 32) => Mir.verA_mid hst.1 no (.slice A n c) s0 s1 s2 s3 hi)
 have HC := Lib.hid hC
 have Hl := Lib.hid hl
 have Hs := Lib.hid hs
 have Hst := Lib.hid hst
 generalize Mir.verA no st (.slice A n c) s0 s1 s2 s3 = V at *
 clear hC hl hs hst
 go_enter Tryz.func31, Tryz.ntmps31
 go_upto_region 2 with (fail)
 generalize hge : World.alloc _ _ = w1
 have hBV := (show Blk w1 w.heap.size 34 V by subst hge; exact Blk.new w _ _)
 have HV := Lib.hid hBV
 have HB := Lib.hid (al1 hge)
 have oB : w.heap.size + 1 ≤ w1.heap.size := HV.out.lt
 have x33 : w1.cell? ⟨w.heap.size, 33, none⟩ = some (.slice A n c) := (HV.out.cell 33).trans h33
 clear hge hBV
 go_wp2_with (fail)
 clear x33
 go_loopw [3, 11] (fun v i wr => ∃ (k : Nat) (A' : Option Addr) (c' : Nat), k ≤ n ∧ i = .int .i64 k ∧ v = .slice A' k c' ∧ Hid (wr.ownsRow (w.heap.size + 1) 29 32 (.slice A' k c') k (bytesV (Mir.leavesK l k).flatten)) ∧ Hid (Blk wr w.heap.size 34 V) ∧ w.heap.size + 1 ≤ wr.heap.size ∧ Hid (Below w.heap.size w wr)) (fun _ i _ => n - (intOf i).toNat)
 case atStart => exact ⟨0, none, 0, by omega, rfl, rfl, ownD_nil _ _, HV.out, oB, HB.out⟩
 case round =>
  obtain ⟨wk, rfl⟩ : ∃ wk : World, wk = wr := ⟨_, rfl⟩
  obtain ⟨k, A', c', hkm, rfl, rfl, hown, hK, hz, hB⟩ := hrel
  by_cases hlt : k < n
  · obtain ⟨⟨⟨s, dat⟩, gon⟩, hx⟩ := getElem?_lt (l := l) (k := k) (by rw [Hl.out]; exact hlt)
    obtain ⟨b, off, rfl, hb, hcs⟩ := (HC.out.below hB.out).at_ (by rw [Hl.out]; omega)
    obtain ⟨D, cd, hc1, hc2, hc3, hcd, hcm, hcD, h8⟩ := hcs k _ hx
    have hsz := Hs.out _ (List.mem_of_getElem? hx)
    have HL := Lib.hid (Mir.leavesK_succ hx)
    simp only [] at hc1 hc2 hc3 hcd hcD h8 hsz
    obtain ⟨md, hmd⟩ : ∃ md, md = dat.length := ⟨_, rfl⟩
    rw [← hmd] at hc2 hcd hsz
    rw [Mir.bytesI_eq] at hcD
    have HD := Lib.hid hcD
    have H8 := Lib.hid h8
    have Hmd := Lib.hid hmd
    clear hmd hcD h8 hx
    clear hcs
    go_upto_region 5 with (fail)
    generalize hge : World.alloc _ _ = wx
    have bX : Blk wx wk.heap.size 66 #[.string s, .slice D md cd, .bool gon] := by subst hge; exact Blk.new wk _ _
    have hbX := al1 hge
    clear hge hc1 hc2 hc3
    obtain ⟨X, hX⟩ : ∃ X, wk.heap.size = X := ⟨_, rfl⟩
    have HX := Lib.hid (show Blk wx X 66 #[.string s, .slice D md cd, .bool gon] by rw [← hX]; exact bX)
    have hwX : w.heap.size + 1 ≤ X := by omega
    have HBX := Lib.hid (below_of hB.out hbX hB.out.size)
    have Hown := Lib.hid (own_below hown.out hbX)
    have HKX := Lib.hid (hK.out.below hbX)
    have HDX := Lib.hid (HD.out.below hbX)
    rw [hX]
    clear bX hbX hX hown hK hB HD hz
    have x0 : wx.cell? ⟨X, 0, none⟩ = some (.string s) := HX.out.cell 0
    have x1 : wx.cell? ⟨X, 1, none⟩ = some (.slice D md cd) := HX.out.cell 1
    have x2 : wx.cell? ⟨X, 2, none⟩ = some (.bool gon) := HX.out.cell 2
    have hw : IntKind.u8.wrap (s.size : Int) = ((s.size % 256 : Nat) : Int) := by rw [IntKind.wrap_u8]; omega
    obtain ⟨z, hz⟩ : ∃ z, s.size % 256 = z := ⟨_, rfl⟩
    rw [hz] at hw
    have Hz := Lib.hid hz
    clear hz
    have hX1 : X < wx.heap.size := HX.out.lt
    have hz256 : z < 256 := by have := Hz.out; omega
    obtain ⟨cv, cp, hcv, hcv1, hcv2, hcv3⟩ := conv_letter (P := Tryz.prog) 9 22 5 s (by kernel_rfl) (by kernel_rfl) (by kernel_rfl)
    have Hcv1 := Lib.hid hcv1
    have Hcv2 := Lib.hid hcv2
    clear hcv1 hcv2 hcv3
    cases gon with
    | false =>
      go_upto_region 8 with (fail)
      generalize hge : World.alloc _ _ = wy
      have bH := Lib.hid (show Blk wy wx.heap.size 5 (arrK .u8 [0, z]) by subst hge; exact Blk.new wx 5 #[.int .u8 0, .int .u8 (z : Int)])
      have hbH := al1 hge
      clear hge
      have y0 : wy.cell? ⟨X, 0, none⟩ = some (.string s) := cellkM hbH x0
      have y1 : wy.cell? ⟨X, 1, none⟩ = some (.slice D md cd) := cellkM hbH x1
      have z1 : (cv wy).cell? ⟨X, 1, none⟩ = some (.slice D md cd) := cellkM (Hcv2.out wy) y1
      clear x0 x1 x2
      go_wp2_with (fail)
      generalize hge : World.alloc (cv wy) _ = wz
      have hbV : Below wx.heap.size wx (cv wy) := below_of hbH (Hcv2.out wy) hbH.size
      have bZ : Blk wz (cv wy).heap.size 22 #[.slice (some ⟨wx.heap.size, 0, none⟩) 2 2, .slice (some ⟨wy.heap.size, 0, none⟩) s.size (cp wy), .slice D md cd] := by subst hge; exact Blk.new _ _ _
      have hbZ : Below (cv wy).heap.size (cv wy) wz := by subst hge; exact (Below.refl _ _).alloc (Nat.le_refl _) _
      clear hge
      have hbyz : Below wy.heap.size wy wz := below_of (Hcv2.out wy) hbZ (Hcv2.out wy).size
      have hbxz : Below wx.heap.size wx wz := below_of hbV hbZ hbV.size
      have F1 : Cells wz (some ⟨wx.heap.size, 0, none⟩) (bytesV [0, z]) := by have := cells_blk (bH.out.below hbyz); rwa [arrK_bytesV] at this
      have F2 : Cells wz (some ⟨wy.heap.size, 0, none⟩) (bytesV (strL s)) := (Hcv1.out wy).below hbZ
      have F3 : Cells wz D (bytesV dat) := HDX.out.below hbxz
      refine (joined3 _ 2 2 s.size (cp wy) md cd _ _ _ (bytesV [0, z]) (bytesV (strL s)) (bytesV dat) wz (bZ.cell 0) (bZ.cell 1) (bZ.cell 2) F1 F2 F3 (by rw [bytesV_length]; rfl) (by rw [bytesV_length, strL_length]) (by rw [bytesV_length, Hmd.out]) (bytesV_one _) (bytesV_one _) (bytesV_one _) (by omega) (by omega) (by omega) bZ.lt).mono ?_
      rintro e w5 ⟨A5, c5, rfl, ho5, hb5⟩
      rw [← bytesV_append, ← bytesV_append] at ho5
      have hb5x : Below wx.heap.size wx w5 := below_of hbxz hb5 hbxz.size
      have C5 := Lib.hid (Cells.own ho5)
      clear F1 F2 F3 bZ hbZ hbyz ho5 y0 y1 z1 hbV
      have hbl : ([0, z] ++ strL s ++ dat).length = 2 + s.size + md := by rw [List.length_append, List.length_append, strL_length, Hmd.out]; rfl
      have hb8 : ByteL ([0, z] ++ strL s ++ dat) := (ByteL.append (byteL_of (by intro b hb; simp at hb; rcases hb with rfl | rfl <;> omega)) (strL_byte s)).append (byteL_of H8.out)
      go_wp2_with (fail)
      refine (tagged_any Mir.changeT A5 (2 + s.size + md) c5 _ w5 C5.out hbl (by omega) hb8 (by decide)).mono ?_
      rintro e w6 ⟨rfl, hb6⟩
      have hlf : Mir.chLeaf ((s, dat), false) = tagS (strL Mir.changeT) ([0, z] ++ strL s ++ dat) := by
       unfold Mir.chLeaf Mir.headS
       simp only [Hz.out]
       rfl
      rw [← hlf]
      have dD := Lib.hid (show IsD (Mir.chLeaf ((s, dat), false)) by rw [hlf]; exact tagS_isD _ _)
      have hb6x : Below wx.heap.size wx w6 := below_of hb5x hb6 hb5x.size
      have Hown2 := Lib.hid (own_below Hown.out hb6x)
      have HK2 := Lib.hid (HKX.out.below hb6x)
      have HB2 := Lib.hid (below_of HBX.out hb6x HBX.out.size)
      have hz2 : w.heap.size + 1 ≤ w6.heap.size := by have := hb6x.size; omega
      have HL' := Lib.hid (show Mir.leavesK l (k + 1) = Mir.leavesK l k ++ [Mir.chLeaf ((s, dat), false)] from HL.out)
      generalize Mir.chLeaf ((s, dat), false) = lf at *
      clear hb6 hb5 hb6x hb5x hlf hb8 hbl hcv
      go_wp2_with (first
       | (at_builtin
          refine wpList_pushD rfl (.tmp 25) (.tmp 37) rfl (w.heap.size + 1) (.slice A' k c') k (Mir.leavesK l k) lf (own_below Hown2.out hb3.out) rfl w6.heap.size HD3.out dD.out rfl (by omega) (Nat.le_trans hz2 hb3.out.size) ?_
          intro v4 w4 hown4 hg4
          have HK4 := Lib.hid ((HK2.out.below hb3.out).grown hg4 (fun e => absurd (own_base Hown2.out _ e.symm) (by omega)))
          have HB4 := Lib.hid (below_grown (below_of HB2.out hb3.out HB2.out.size) hg4 (Nat.le_trans HB2.out.size hb3.out.size) (fun k hk => Nat.le_trans (Nat.le_succ _) (own_base Hown2.out k hk)))
          have hz4 : w.heap.size + 1 ≤ w4.heap.size := Nat.le_trans (Nat.le_trans hz2 hb3.out.size) hg4.size
          obtain ⟨A4, c4, rfl, -, -, -⟩ := own_form hown4
          have Hown4 := Lib.hid hown4
          clear hown4 hg4)
       | (refine wpList_oneD rfl (.tmp 36) rfl lf dD.out rfl ?_
          generalize hge3 : World.alloc _ _ = w3
          have HD3 := Lib.hid (show Blk w3 w6.heap.size 29 (arrK .u8 lf) by subst hge3; exact Blk.new _ _ _)
          have hb3 := Lib.hid (al1 hge3)
          clear hge3))
      go_roundw
      case rel => exact ⟨k + 1, A4, c4, by omega, by go_num, rfl, (show World.ownsRow _ _ _ _ _ _ _ by rw [HL'.out]; exact Hown4.out), HK4.out, hz4, HB4.out⟩
      case measure => simp [intOf]; omega
    | true =>
      go_upto_region 8 with (fail)
      generalize hge : World.alloc _ _ = wy
      have bH := Lib.hid (show Blk wy wx.heap.size 5 (arrK .u8 [1, z]) by subst hge; exact Blk.new wx 5 #[.int .u8 1, .int .u8 (z : Int)])
      have hbH := al1 hge
      clear hge
      have y0 : wy.cell? ⟨X, 0, none⟩ = some (.string s) := cellkM hbH x0
      have y1 : wy.cell? ⟨X, 1, none⟩ = some (.slice D md cd) := cellkM hbH x1
      have z1 : (cv wy).cell? ⟨X, 1, none⟩ = some (.slice D md cd) := cellkM (Hcv2.out wy) y1
      clear x0 x1 x2
      go_wp2_with (fail)
      generalize hge : World.alloc (cv wy) _ = wz
      have hbV : Below wx.heap.size wx (cv wy) := below_of hbH (Hcv2.out wy) hbH.size
      have bZ : Blk wz (cv wy).heap.size 22 #[.slice (some ⟨wx.heap.size, 0, none⟩) 2 2, .slice (some ⟨wy.heap.size, 0, none⟩) s.size (cp wy), .slice D md cd] := by subst hge; exact Blk.new _ _ _
      have hbZ : Below (cv wy).heap.size (cv wy) wz := by subst hge; exact (Below.refl _ _).alloc (Nat.le_refl _) _
      clear hge
      have hbyz : Below wy.heap.size wy wz := below_of (Hcv2.out wy) hbZ (Hcv2.out wy).size
      have hbxz : Below wx.heap.size wx wz := below_of hbV hbZ hbV.size
      have F1 : Cells wz (some ⟨wx.heap.size, 0, none⟩) (bytesV [1, z]) := by have := cells_blk (bH.out.below hbyz); rwa [arrK_bytesV] at this
      have F2 : Cells wz (some ⟨wy.heap.size, 0, none⟩) (bytesV (strL s)) := (Hcv1.out wy).below hbZ
      have F3 : Cells wz D (bytesV dat) := HDX.out.below hbxz
      refine (joined3 _ 2 2 s.size (cp wy) md cd _ _ _ (bytesV [1, z]) (bytesV (strL s)) (bytesV dat) wz (bZ.cell 0) (bZ.cell 1) (bZ.cell 2) F1 F2 F3 (by rw [bytesV_length]; rfl) (by rw [bytesV_length, strL_length]) (by rw [bytesV_length, Hmd.out]) (bytesV_one _) (bytesV_one _) (bytesV_one _) (by omega) (by omega) (by omega) bZ.lt).mono ?_
      rintro e w5 ⟨A5, c5, rfl, ho5, hb5⟩
      rw [← bytesV_append, ← bytesV_append] at ho5
      have hb5x : Below wx.heap.size wx w5 := below_of hbxz hb5 hbxz.size
      have C5 := Lib.hid (Cells.own ho5)
      clear F1 F2 F3 bZ hbZ hbyz ho5 y0 y1 z1 hbV
      have hbl : ([1, z] ++ strL s ++ dat).length = 2 + s.size + md := by rw [List.length_append, List.length_append, strL_length, Hmd.out]; rfl
      have hb8 : ByteL ([1, z] ++ strL s ++ dat) := (ByteL.append (byteL_of (by intro b hb; simp at hb; rcases hb with rfl | rfl <;> omega)) (strL_byte s)).append (byteL_of H8.out)
      go_wp2_with (fail)
      refine (tagged_any Mir.changeT A5 (2 + s.size + md) c5 _ w5 C5.out hbl (by omega) hb8 (by decide)).mono ?_
      rintro e w6 ⟨rfl, hb6⟩
      have hlf : Mir.chLeaf ((s, dat), true) = tagS (strL Mir.changeT) ([1, z] ++ strL s ++ dat) := by
       unfold Mir.chLeaf Mir.headS
       simp only [Hz.out]
       rfl
      rw [← hlf]
      have dD := Lib.hid (show IsD (Mir.chLeaf ((s, dat), true)) by rw [hlf]; exact tagS_isD _ _)
      have hb6x : Below wx.heap.size wx w6 := below_of hb5x hb6 hb5x.size
      have Hown2 := Lib.hid (own_below Hown.out hb6x)
      have HK2 := Lib.hid (HKX.out.below hb6x)
      have HB2 := Lib.hid (below_of HBX.out hb6x HBX.out.size)
      have hz2 : w.heap.size + 1 ≤ w6.heap.size := by have := hb6x.size; omega
      have HL' := Lib.hid (show Mir.leavesK l (k + 1) = Mir.leavesK l k ++ [Mir.chLeaf ((s, dat), true)] from HL.out)
      generalize Mir.chLeaf ((s, dat), true) = lf at *
      clear hb6 hb5 hb6x hb5x hlf hb8 hbl hcv
      go_wp2_with (first
       | (at_builtin
          refine wpList_pushD rfl (.tmp 25) (.tmp 37) rfl (w.heap.size + 1) (.slice A' k c') k (Mir.leavesK l k) lf (own_below Hown2.out hb3.out) rfl w6.heap.size HD3.out dD.out rfl (by omega) (Nat.le_trans hz2 hb3.out.size) ?_
          intro v4 w4 hown4 hg4
          have HK4 := Lib.hid ((HK2.out.below hb3.out).grown hg4 (fun e => absurd (own_base Hown2.out _ e.symm) (by omega)))
          have HB4 := Lib.hid (below_grown (below_of HB2.out hb3.out HB2.out.size) hg4 (Nat.le_trans HB2.out.size hb3.out.size) (fun k hk => Nat.le_trans (Nat.le_succ _) (own_base Hown2.out k hk)))
          have hz4 : w.heap.size + 1 ≤ w4.heap.size := Nat.le_trans (Nat.le_trans hz2 hb3.out.size) hg4.size
          obtain ⟨A4, c4, rfl, -, -, -⟩ := own_form hown4
          have Hown4 := Lib.hid hown4
          clear hown4 hg4)
       | (refine wpList_oneD rfl (.tmp 36) rfl lf dD.out rfl ?_
          generalize hge3 : World.alloc _ _ = w3
          have HD3 := Lib.hid (show Blk w3 w6.heap.size 29 (arrK .u8 lf) by subst hge3; exact Blk.new _ _ _)
          have hb3 := Lib.hid (al1 hge3)
          clear hge3))
      go_roundw
      case rel => exact ⟨k + 1, A4, c4, by omega, by go_num, rfl, (show World.ownsRow _ _ _ _ _ _ _ by rw [HL'.out]; exact Hown4.out), HK4.out, hz4, HB4.out⟩
      case measure => simp [intOf]; omega
  · obtain rfl : k = n := by omega
    have eL : Mir.leavesK l k = l.map Mir.chLeaf := by rw [← Hl.out]; exact Mir.leavesK_all l
    rw [eL] at hown
    obtain ⟨A2, c2, hv, hkc, hkm2, -⟩ := own_form hown.out
    cases hv
    have CL := Lib.hid (Cells.own hown.out)
    have iL : IsL (l.map Mir.chLeaf) := fun d hd => by
     obtain ⟨x, -, rfl⟩ := List.mem_map.1 hd
     exact tagS_isD _ _
    have lL : (l.map Mir.chLeaf).length = k := by rw [List.length_map, Hl.out]
    have TR := Lib.hid (tree_any k (l.map Mir.chLeaf) A' c' wk lL iL hkc (by omega) CL.out)
    have Dt := Lib.hid (treeS_isD (l.map Mir.chLeaf))
    have HM := Lib.hid (show Mir.mesS no st l = Mir.numS no ++ st ++ treeS (l.map Mir.chLeaf) from rfl)
    clear eL hown iL lL CL
    generalize treeS (l.map Mir.chLeaf) = T at *
    go_wp2_with (fail)
    refine TR.out.mono ?_
    rintro e w2 ⟨rfl, hb2⟩
    have HK2 := Lib.hid (hK.out.below hb2)
    have HB2 := Lib.hid (below_of hB.out hb2 hB.out.size)
    have hz2 : w.heap.size + 1 ≤ w2.heap.size := Nat.le_trans hz hb2.size
    clear hb2 TR
    go_upto_region 11 with (
     (refine wpList_put_blk rfl 29 (.tmp 7) (.tmp 41) rfl w2.heap.size (arrK .u8 T) rfl rfl 29 (arrK .u8 z32) (Blk.new w2 29 (arrK .u8 z32)) (info32 Dt.out.1) (by rw [len32 Dt.out.1, len32 z32_length]) (arrK_all _ _) ?_
      intro w3 HD3 hg3 hz3
      have hb3 : Below w2.heap.size w2 w3 := below_grown ((Below.refl w2.heap.size w2).alloc (Nat.le_refl _) (.cells (arrK .u8 z32) 29)) hg3 (by simp) (by simp)
      have HD3 := Lib.hid HD3
      have HK3 := Lib.hid (HK2.out.below hb3)
      have HB3 := Lib.hid (below_of HB2.out hb3 HB2.out.size)
      have hz3' : w.heap.size + 1 ≤ w3.heap.size := Nat.le_trans hz2 hb3.size
      clear hg3 hz3 hb3))
    have HNum := Lib.hid (fun W => number_any no W hno)
    have x0 : w3.cell? ⟨w.heap.size, 0, none⟩ = some (.int .i64 no) := (HK3.out.cell 0).trans h0
    have ltV : w.heap.size < w3.heap.size := HK3.out.lt
    have CS3 := Lib.hid (show Cells w3 (some ⟨w.heap.size, 1, none⟩) (bytesV st) from .inr ⟨w.heap.size, 1, rfl, ltV, fun j u hu => by
     have hj : j < 32 := by have := (List.getElem?_eq_some_iff.1 hu).1; rwa [bytesV_length, Hst.out.1] at this
     rw [HK3.out.cell (1 + j), hmid.out j hj]
     rw [← arrK_bytesV, Array.getElem?_toList] at hu
     exact hu⟩)
    have CT3 := Lib.hid (show Cells w3 (some ⟨w2.heap.size, 0, none⟩) (bytesV T) by have := cells_blk HD3.out; rwa [arrK_bytesV] at this)
    try simp only [Act.put]
    refine wp_region_held_drew (S := fun W => Below w3.heap.size w3 W) (by kernel_rfl) (below_drewN (Below.refl _ _) 1) (fun Hd => ?_)
    have Hd : Below w3.heap.size w3 w3.drew := below_drewN (Below.refl _ _) 1
    have Zd : w3.heap.size ≤ w3.drew.heap.size := Nat.le_refl _
    generalize World.drew w3 = wd at *
    refine tq 0 rfl Hd ?_
    refine ts 1 rfl Hd (fun wS hSw => by
     have c1 := (hSw.cell (p := ⟨w.heap.size, 0, none⟩) ltV).trans x0
     go_simp
     try with_reducible rfl) ?_
    try simp only [la, Act.put]
    refine tq 3 rfl Hd ?_
    refine tq 4 rfl Hd ?_
    try simp only [la, Act.put]
    refine tq 5 rfl Hd ?_
    try simp only [la, Act.put]
    refine ty 2 rfl (fun K hK => ?_)
    go_simp
    refine (HNum.out _).mono ?_
    rintro e w1_ ⟨gN, rfl, hcN, hgN, hb1⟩
    clear hgN
    have Hb1 := below_of Hd hb1 Hd.size
    have Zb1 := Nat.le_trans Zd hb1.size
    go_wp2_with (fail)
    refine hK.out _ _ Hb1 fun _ => ?_
    clear hK K
    try simp only [la, Act.put]
    refine ty 6 rfl (fun K hK => ?_)
    go_simp
    generalize hge : World.alloc _ _ = w2_
    have fp2 : Blk w2_ w1_.heap.size 22 (#[.slice (some ⟨gN, 0, none⟩) 8 8, .slice (some ⟨w.heap.size, 1, none⟩) 32 32, .slice (some ⟨w2.heap.size, 0, none⟩) 32 32]) := by subst hge; exact Blk.new _ _ _
    have hb2 := al1 hge
    clear hge
    have fn2 := hcN.below hb2
    have lop2 : w3.heap.size ≤ w1_.heap.size := Zb1
    have Hb2 := below_of Hb1 hb2 Hb1.size
    have Zb2 := Nat.le_trans Zb1 hb2.size
    refine hK.out _ _ Hb2 fun _ => ?_
    clear hK K
    try simp only [la, Act.put]
    refine ty 7 rfl (fun K hK => ?_)
    go_simp
    refine (joined3 _ 8 8 32 32 32 32 _ _ _ (bytesV (Mir.numS no)) (bytesV st) (bytesV T) _ (fp2.cell 0) (fp2.cell 1) (fp2.cell 2) fn2 (CS3.out.below Hb2) (CT3.out.below Hb2) (by rw [bytesV_length]; rfl) (by rw [bytesV_length, Hst.out.1]) (by rw [bytesV_length, Dt.out.1]) (bytesV_one _) (bytesV_one _) (bytesV_one _) (by omega) (by omega) (by omega) fp2.lt).mono ?_
    rintro e w3_ ⟨A9, c9, rfl, ho9, hb3⟩
    have fn3 := fn2.below hb3
    have fp3 := fp2.below hb3
    have Hb3 := below_of Hb2 hb3 Hb2.size
    have Zb3 := Nat.le_trans Zb2 hb3.size
    go_wp2_with (fail)
    refine hK.out _ _ Hb3 fun _ => ?_
    clear hK K
    try simp only [la, Act.put]
    refine tq 8 rfl Hb3 ?_
    try simp only [la, Act.put]
    refine td ?_ _
    go_wp2_with (fail)
    go_ret
    rw [← bytesV_append, ← bytesV_append] at ho9
    obtain ⟨A8, c8, hv8, hk8, hm8, -⟩ := own_form ho9
    cases hv8
    exact ⟨A9, c9, rfl, hk8, hm8, by rw [HM.out]; exact Cells.own ho9, below_of HB3.out Hb3 HB3.out.size⟩
end Go.Proofs.YtkflpoiobpblhaaGreat
namespace Go.Proofs.YtkflpoiobpblhaaGreat
open Go.RowKit
set_option linter.unusedVariables false
set_option linter.unusedSimpArgs false
namespace Mir
def itemT : ByteArray := ⟨#[105, 116, 101, 109]⟩
def itLeaf (x : It) : List Nat := tagS (strL itemT) ([x.1.size % 256] ++ strL x.1 ++ x.2)
def itLeavesK (l : List It) (k : Nat) : List (List Nat) := (l.take k).map itLeaf
def stS (l : List It) : List Nat := if itE l = 0 then treeS (l.map itLeaf) else z32
theorem itLeavesK_zero (l : List It) : itLeavesK l 0 = [] := rfl
theorem itLeavesK_succ {l : List It} {k : Nat} {x : It} (h : l[k]? = some x) : itLeavesK l (k + 1) = itLeavesK l k ++ [itLeaf x] := by
 unfold itLeavesK
 rw [List.take_add_one, h, List.map_append]; rfl
theorem itLeavesK_all (l : List It) : itLeavesK l l.length = l.map itLeaf := by unfold itLeavesK; rw [List.take_length]
theorem itE_zero {l : List It} (h : itE l = 0) : l.length ≤ 65536 ∧ incS (l.map Prod.fst) = true := by
 unfold itE at h
 by_cases h1 : l.length ≤ 65536
 · rw [if_pos h1] at h
   by_cases h2 : incS (l.map Prod.fst) = true
   · exact ⟨h1, h2⟩
   · rw [if_neg h2] at h; omega
 · rw [if_neg h1] at h; omega
theorem incS_name {ns : List ByteArray} (h : incS ns = true) {s : ByteArray} (hs : s ∈ ns) : 0 < s.size ∧ s.size ≤ 64 := by
 obtain ⟨i, hi, rfl⟩ := List.getElem_of_mem hs
 have := List.all_eq_true.1 h i (List.mem_range.2 hi)
 unfold incAt nameB at this
 rw [List.getD_eq_getElem?_getD, List.getElem?_eq_getElem hi] at this
 simp only [Bool.and_eq_true, decide_eq_true_eq, Option.getD_some] at this
 omega
end Mir
set_option maxRecDepth 100000 in
set_option maxHeartbeats 8000000 in
theorem State_any (A : Option Addr) (n c : Nat) (l : List Mir.It) (w : World) (hl : l.length = n) (hn : n ≤ 1000000) (hC : ItemsC w A l) (hs : ∀ x ∈ l, x.2.length ≤ 900000) :
    Calls Tryz.prog 28 #[.slice A n c] w fun e w' => e = .returned (.tuple #[.agg (arrK .u8 (Mir.stS l)), .int .i64 (Mir.itE l)]) ∧ Below w.heap.size w w' := by
 have HC := Lib.hid hC
 have Hl := Lib.hid hl
 have Hs := Lib.hid hs
 have HP := Lib.hid (fun W h => pcheck_any A n c l W hl hn h)
 have lz := z32_isD
 by_cases he : Mir.itE l = 0
 · have e1 : Mir.stS l = treeS (l.map Mir.itLeaf) := by unfold Mir.stS; rw [if_pos he]
   obtain ⟨hle, hinc⟩ := Mir.itE_zero he
   have Hinc := Lib.hid hinc
   rw [e1, he]
   rw [he] at HP
   clear hC hl hs hinc e1 he
   have Dt := Lib.hid (treeS_isD (l.map Mir.itLeaf))
   go_enter Tryz.func28, Tryz.ntmps28
   go_wp2_with (fail)
   generalize hge : World.alloc _ _ = w1
   have HV := Lib.hid (show Blk w1 w.heap.size 29 (arrK .u8 z32) by subst hge; exact Blk.new w 29 (arrK .u8 z32))
   have HB := Lib.hid (al1 hge)
   clear hge
   refine (HP.out w1 (HC.out.below HB.out)).mono ?_
   rintro e w2 ⟨rfl, hb2⟩
   have HV2 := Lib.hid (HV.out.below hb2)
   have HB2 := Lib.hid (below_of HB.out hb2 HB.out.size)
   have oB : w.heap.size + 1 ≤ w2.heap.size := HV2.out.lt
   clear hb2
   go_wp2_with (fail)
   go_loopw [5, 16] (fun v i wr => ∃ (k : Nat) (A' : Option Addr) (c' : Nat), k ≤ n ∧ i = .int .i64 k ∧ v = .slice A' k c' ∧ Hid (wr.ownsRow (w.heap.size + 1) 29 32 (.slice A' k c') k (bytesV (Mir.itLeavesK l k).flatten)) ∧ Hid (Blk wr w.heap.size 29 (arrK .u8 z32)) ∧ w.heap.size + 1 ≤ wr.heap.size ∧ Hid (Below w.heap.size w wr)) (fun _ i _ => n - (intOf i).toNat)
   case atStart => exact ⟨0, none, 0, by omega, rfl, rfl, ownD_nil _ _, HV2.out, oB, HB2.out⟩
   case round =>
    obtain ⟨wk, rfl⟩ : ∃ wk : World, wk = wr := ⟨_, rfl⟩
    obtain ⟨k, A', c', hkm, rfl, rfl, hown, hK, hz, hB⟩ := hrel
    by_cases hlt : k < n
    · obtain ⟨⟨s, dat⟩, hx⟩ := getElem?_lt (l := l) (k := k) (by rw [Hl.out]; exact hlt)
      obtain ⟨b, off, rfl, hb, hcs⟩ := (HC.out.below hB.out).at_ (by rw [Hl.out]; omega)
      obtain ⟨D, cd, hc1, hc2, hcd, hcm, hcD, h8⟩ := hcs k _ hx
      have hsd := Hs.out _ (List.mem_of_getElem? hx)
      have hsz := Mir.incS_name Hinc.out (s := s) (List.mem_map.2 ⟨_, List.mem_of_getElem? hx, rfl⟩)
      have HL := Lib.hid (Mir.itLeavesK_succ hx)
      simp only [] at hc1 hc2 hcd hcD h8 hsd
      obtain ⟨md, hmd⟩ : ∃ md, md = dat.length := ⟨_, rfl⟩
      rw [← hmd] at hc2 hcd hsd
      rw [Mir.bytesI_eq] at hcD
      have HD := Lib.hid hcD
      have H8 := Lib.hid h8
      have Hmd := Lib.hid hmd
      clear hmd hcD h8 hx hcs
      go_upto_region 8 with (fail)
      generalize hge : World.alloc _ _ = wx
      have bX : Blk wx wk.heap.size 61 #[.string s, .slice D md cd] := by subst hge; exact Blk.new wk _ _
      have hbX := al1 hge
      clear hge hc1 hc2
      obtain ⟨X, hX⟩ : ∃ X, wk.heap.size = X := ⟨_, rfl⟩
      have HX := Lib.hid (show Blk wx X 61 #[.string s, .slice D md cd] by rw [← hX]; exact bX)
      have hwX : w.heap.size + 1 ≤ X := by omega
      have HBX := Lib.hid (below_of hB.out hbX hB.out.size)
      have Hown := Lib.hid (own_below hown.out hbX)
      have HKX := Lib.hid (hK.out.below hbX)
      have HDX := Lib.hid (HD.out.below hbX)
      rw [hX]
      clear bX hbX hX hown hK hB HD hz
      have x0 : wx.cell? ⟨X, 0, none⟩ = some (.string s) := HX.out.cell 0
      have x1 : wx.cell? ⟨X, 1, none⟩ = some (.slice D md cd) := HX.out.cell 1
      have hw : IntKind.u8.wrap (s.size : Int) = ((s.size % 256 : Nat) : Int) := by rw [IntKind.wrap_u8]; omega
      obtain ⟨z, hz⟩ : ∃ z, s.size % 256 = z := ⟨_, rfl⟩
      rw [hz] at hw
      have Hz := Lib.hid hz
      clear hz
      have hX1 : X < wx.heap.size := HX.out.lt
      have hz256 : z < 256 := by have := Hz.out; omega
      obtain ⟨cv, cp, hcv, hcv1, hcv2, hcv3⟩ := conv_letter (P := Tryz.prog) 9 22 5 s (by kernel_rfl) (by kernel_rfl) (by kernel_rfl)
      have Hcv1 := Lib.hid hcv1
      have Hcv2 := Lib.hid hcv2
      clear hcv1 hcv2 hcv3
      obtain ⟨wy, hwy⟩ : ∃ wy, wx.alloc (.cells #[.int .u8 (z : Int)] 5) = wy := ⟨_, rfl⟩
      have bH := Lib.hid (show Blk wy wx.heap.size 5 (arrK .u8 [z]) by subst hwy; exact Blk.new wx 5 #[.int .u8 (z : Int)])
      have hbH := al1 hwy
      have hsy : wx.heap.size + 1 = wy.heap.size := by subst hwy; simp
      have y0 : wy.cell? ⟨X, 0, none⟩ = some (.string s) := cellkM hbH x0
      have y1 : wy.cell? ⟨X, 1, none⟩ = some (.slice D md cd) := cellkM hbH x1
      have z1 : (cv wy).cell? ⟨X, 1, none⟩ = some (.slice D md cd) := cellkM (Hcv2.out wy) y1
      have y0' := y0
      rw [← hwy] at y0'
      have z1' := z1
      rw [← hwy] at z1'
      go_wp2_with (fail)
      clear x0 x1 y0' z1' hwy
      generalize hge : World.alloc (cv wy) _ = wz
      have hbV : Below wx.heap.size wx (cv wy) := below_of hbH (Hcv2.out wy) hbH.size
      have bZ : Blk wz (cv wy).heap.size 22 #[.slice (some ⟨wx.heap.size, 0, none⟩) 1 1, .slice (some ⟨wy.heap.size, 0, none⟩) s.size (cp wy), .slice D md cd] := by subst hge; first | exact Blk.new _ _ _ | (rw [← hsy]; exact Blk.new _ _ _)
      have hbZ : Below (cv wy).heap.size (cv wy) wz := by subst hge; exact (Below.refl _ _).alloc (Nat.le_refl _) _
      clear hge
      have hbyz : Below wy.heap.size wy wz := below_of (Hcv2.out wy) hbZ (Hcv2.out wy).size
      have hbxz : Below wx.heap.size wx wz := below_of hbV hbZ hbV.size
      have F1 : Cells wz (some ⟨wx.heap.size, 0, none⟩) (bytesV [z]) := by have := cells_blk (bH.out.below hbyz); rwa [arrK_bytesV] at this
      have F2 : Cells wz (some ⟨wy.heap.size, 0, none⟩) (bytesV (strL s)) := (Hcv1.out wy).below hbZ
      have F3 : Cells wz D (bytesV dat) := HDX.out.below hbxz
      refine (concat3 _ 1 1 s.size (cp wy) md cd _ _ _ (bytesV [z]) (bytesV (strL s)) (bytesV dat) wz (bZ.cell 0) (bZ.cell 1) (bZ.cell 2) F1 F2 F3 (by rw [bytesV_length]; rfl) (by rw [bytesV_length, strL_length]) (by rw [bytesV_length, Hmd.out]) (bytesV_one _) (bytesV_one _) (bytesV_one _) (by omega) (by omega) (by omega) bZ.lt).mono ?_
      rintro e w5 ⟨A5, c5, rfl, ho5, hb5⟩
      rw [← bytesV_append, ← bytesV_append] at ho5
      have hb5x : Below wx.heap.size wx w5 := below_of hbxz hb5 hbxz.size
      have C5 := Lib.hid (Cells.own ho5)
      clear F1 F2 F3 bZ hbZ hbyz ho5 y0 y1 z1 hbV hsy
      have hbl : ([z] ++ strL s ++ dat).length = 1 + s.size + md := by rw [List.length_append, List.length_append, strL_length, Hmd.out]; rfl
      have hb8 : ByteL ([z] ++ strL s ++ dat) := (ByteL.append (byteL_of (by intro b hb; simp at hb; subst hb; exact hz256)) (strL_byte s)).append (byteL_of H8.out)
      go_wp2_with (fail)
      refine (tagged_any Mir.itemT A5 (1 + s.size + md) c5 _ w5 C5.out hbl (by omega) hb8 (by decide)).mono ?_
      rintro e w6 ⟨rfl, hb6⟩
      have hlf : Mir.itLeaf (s, dat) = tagS (strL Mir.itemT) ([z] ++ strL s ++ dat) := by
       unfold Mir.itLeaf
       simp only [Hz.out]
      rw [← hlf]
      have dD := Lib.hid (show IsD (Mir.itLeaf (s, dat)) by rw [hlf]; exact tagS_isD _ _)
      have hb6x : Below wx.heap.size wx w6 := below_of hb5x hb6 hb5x.size
      have Hown2 := Lib.hid (own_below Hown.out hb6x)
      have HK2 := Lib.hid (HKX.out.below hb6x)
      have HB2 := Lib.hid (below_of HBX.out hb6x HBX.out.size)
      have hz2 : w.heap.size + 1 ≤ w6.heap.size := by have := hb6x.size; omega
      have HL' := Lib.hid (show Mir.itLeavesK l (k + 1) = Mir.itLeavesK l k ++ [Mir.itLeaf (s, dat)] from HL.out)
      generalize Mir.itLeaf (s, dat) = lf at *
      clear hb6 hb5 hb6x hb5x hlf hb8 hbl hcv
      go_wp2_with (first
       | (at_builtin
          refine wpList_pushD rfl (.tmp 20) (.tmp 34) rfl (w.heap.size + 1) (.slice A' k c') k (Mir.itLeavesK l k) lf (own_below Hown2.out hb3.out) rfl w6.heap.size HD3.out dD.out rfl (by omega) (Nat.le_trans hz2 hb3.out.size) ?_
          intro v4 w4 hown4 hg4
          have HK4 := Lib.hid ((HK2.out.below hb3.out).grown hg4 (fun e => absurd (own_base Hown2.out _ e.symm) (by omega)))
          have HB4 := Lib.hid (below_grown (below_of HB2.out hb3.out HB2.out.size) hg4 (Nat.le_trans HB2.out.size hb3.out.size) (fun k hk => Nat.le_trans (Nat.le_succ _) (own_base Hown2.out k hk)))
          have hz4 : w.heap.size + 1 ≤ w4.heap.size := Nat.le_trans (Nat.le_trans hz2 hb3.out.size) hg4.size
          obtain ⟨A4, c4, rfl, -, -, -⟩ := own_form hown4
          have Hown4 := Lib.hid hown4
          clear hown4 hg4)
       | (refine wpList_oneD rfl (.tmp 33) rfl lf dD.out rfl ?_
          generalize hge3 : World.alloc _ _ = w3
          have HD3 := Lib.hid (show Blk w3 w6.heap.size 29 (arrK .u8 lf) by subst hge3; exact Blk.new _ _ _)
          have hb3 := Lib.hid (al1 hge3)
          clear hge3))
      go_roundw
      case rel => exact ⟨k + 1, A4, c4, by omega, by go_num, rfl, (show World.ownsRow _ _ _ _ _ _ _ by rw [HL'.out]; exact Hown4.out), HK4.out, hz4, HB4.out⟩
      case measure => simp [intOf]; omega
    · obtain rfl : k = n := by omega
      have eL : Mir.itLeavesK l k = l.map Mir.itLeaf := by rw [← Hl.out]; exact Mir.itLeavesK_all l
      rw [eL] at hown
      obtain ⟨A2, c2, hv, hkc, hkm2, -⟩ := own_form hown.out
      cases hv
      have CL := Lib.hid (Cells.own hown.out)
      have iL : IsL (l.map Mir.itLeaf) := fun d hd => by
       obtain ⟨x, -, rfl⟩ := List.mem_map.1 hd
       exact tagS_isD _ _
      have lL : (l.map Mir.itLeaf).length = k := by rw [List.length_map, Hl.out]
      have TR := Lib.hid (tree_any k (l.map Mir.itLeaf) A' c' wk lL iL hkc (by omega) CL.out)
      clear eL hown iL lL CL
      obtain ⟨T, hT⟩ : ∃ T, treeS (l.map Mir.itLeaf) = T := ⟨_, rfl⟩
      rw [hT] at TR Dt
      have HTq := Lib.hid hT
      clear hT
      go_wp2_with (fail)
      refine TR.out.mono ?_
      rintro e w2 ⟨rfl, hb2⟩
      have HK2 := Lib.hid (hK.out.below hb2)
      have HB2 := Lib.hid (below_of hB.out hb2 hB.out.size)
      clear hb2 TR
      go_wp2_with (
       (refine wpList_put_blk rfl 29 (.tmp 2) (.tmp 38) rfl w.heap.size (arrK .u8 T) rfl rfl 29 (arrK .u8 z32) HK2.out (info32 Dt.out.1) (by rw [len32 Dt.out.1, len32 z32_length]) (arrK_all _ _) ?_
        intro w3 HD3 hg3 hz3
        have HD3 := Lib.hid HD3
        have HB3 := Lib.hid (below_grown HB2.out hg3 HB2.out.size (by simp))
        clear hg3 hz3))
      exact ret_row2 (u := .int .i64 0) rfl w.heap.size 29 (arrK .u8 T) (.array 32 5) rfl rfl HD3.out (by kernel_rfl) rfl (info32 Dt.out.1) rfl ⟨by rw [HTq.out], HB3.out⟩
 · have e1 : Mir.stS l = z32 := by unfold Mir.stS; rw [if_neg he]
   have he0 : decide (Mir.itE l = 0) = false := by simpa using he
   have he1 : Mir.itE l ≠ 0 := he
   rw [e1]
   clear hC hl hs e1
   generalize Mir.itE l = E at *
   go_enter Tryz.func28, Tryz.ntmps28
   go_wp2_with (fail)
   generalize hge : World.alloc _ _ = w1
   have HR := Lib.hid (show Blk w1 w.heap.size 29 (arrK .u8 z32) by subst hge; exact Blk.new w 29 (arrK .u8 z32))
   have HB := Lib.hid (al1 hge)
   clear hge
   refine (HP.out w1 (HC.out.below HB.out)).mono ?_
   rintro e w2 ⟨rfl, hb2⟩
   have HR2 := Lib.hid (HR.out.below hb2)
   have HB2 := Lib.hid (below_of HB.out hb2 HB.out.size)
   clear hb2
   go_wp2_with (first
    | (refine wpList_load_blk rfl 29 (.tmp 2) rfl w.heap.size rfl 29 (arrK .u8 z32) (.array 32 5) HR2.out (by kernel_rfl) rfl (by kernel_rfl) ?_)
    | (refine wpList_store_same rfl 29 (.tmp 2) (.tmp 12) rfl w.heap.size (arrK .u8 z32) rfl rfl 29 HR2.out (by kernel_rfl) (arrK_all _ _) ?_))
   exact ret_row2 rfl w.heap.size 29 (arrK .u8 z32) (.array 32 5) rfl rfl HR2.out (by kernel_rfl) rfl (by kernel_rfl) rfl ⟨rfl, HB2.out⟩
end Go.Proofs.YtkflpoiobpblhaaGreat
