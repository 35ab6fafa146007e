/- Walks and plain laws that the statement rests on: Sig4. -/
import Derived.Test.YtkflpoiobpblhaaGreatP00
import Derived.Test.YtkflpoiobpblhaaGreatP24
namespace Go.Proofs.YtkflpoiobpblhaaGreat
open Go.RowKit
set_option linter.unusedSimpArgs false in
set_option maxRecDepth 100000 in
set_option maxHeartbeats 4000000 in
theorem publics_any (A : Option Addr) (n c m : Nat) (u : Int) (s : List Nat) (w : World) (hA : Cells w A (bytesV s)) (hs : s.length = n) (hn : n ≤ 1000) (h8 : ByteL s) (hm : m ≤ 4096) :
    Calls Tryz.prog 54 #[.agg #[.slice A n c, .int .i64 m, .int .i64 u]] w fun e w' => ∃ A' c', e = .returned (.slice A' m c') ∧ m ≤ c' ∧ c' ≤ maxLen ∧ Cells w' A' (bytesV (pubL s m).flatten) ∧ Below w.heap.size w w' := by
 have HA := Lib.hid hA
 have Hs := Lib.hid hs
 have Hs8 := Lib.hid h8
 clear hA hs h8
 go_enter Tryz.func54, Tryz.ntmps54
 go_wp2_with (fail)
 generalize hge : World.alloc _ _ = w1
 have H1 := Lib.hid (show Blk w1 w.heap.size 24 #[.slice A n c, .int .i64 m, .int .i64 u] by subst hge; exact Blk.new w _ _)
 have HB := Lib.hid (al1 hge)
 have oB : w.heap.size + 1 ≤ w1.heap.size := H1.out.lt
 clear hge
 go_loopw [2, 6] (fun v i wr => ∃ (k : Nat) (A' : Option Addr) (c' : Nat), k ≤ m ∧ i = .int .i64 k ∧ v = .slice A' k c' ∧ Hid (wr.ownsRow (w.heap.size + 1) 29 32 (.slice A' k c') k (bytesV (pubL s k).flatten)) ∧ Hid (Blk wr w.heap.size 24 #[.slice A n c, .int .i64 m, .int .i64 u]) ∧ w.heap.size + 1 ≤ wr.heap.size ∧ Hid (Below w.heap.size w wr)) (fun _ i _ => m - (intOf i).toNat)
 case atStart => exact ⟨0, none, 0, by omega, rfl, rfl, (show World.ownsRow _ _ _ _ _ _ _ by rw [pubL_zero]; exact ownD_nil _ _), H1.out, oB, HB.out⟩
 case round =>
  obtain ⟨k, A', c', hkm, rfl, rfl, hown, hK, hz, hB⟩ := hrel
  by_cases hk : k < m
  · have hdk : decide ((k : Int) < (m : Int)) = true := by simp; omega
    have hdk2 : decide (k < m) = true := by simp; omega
    have q0 := Blk.cellv hK.out (i := 0) rfl
    go_wp2_with (fail)
    refine (public_of 61 #[.agg #[.slice A n c, .int .i64 k]] #[] (keyF s k) wr (enters_of Tryz.func61 (by kernel_rfl) rfl) (fun W j b hW hj => hash_any A n c s k j b W (HA.out.below (below_of hB.out hW hB.out.size)) Hs.out hn Hs8.out (by omega) hj) (fun j b _ => keyF_isD s k j b)).mono ?_
    rintro e wa ⟨rfl, hba⟩
    have Hown2 := Lib.hid (own_below hown.out hba)
    have HK2 := Lib.hid (hK.out.below hba)
    have HB2 := Lib.hid (below_of hB.out hba hB.out.size)
    have hz2 : w.heap.size + 1 ≤ wa.heap.size := Nat.le_trans hz hba.size
    have dD := Lib.hid (pubS_isD (keyF s k))
    clear hba q0
    go_wp2_with (first
     | (at_builtin
        refine wpList_pushD rfl (.tmp 9) (.tmp 16) rfl (w.heap.size + 1) (.slice A' k c') k (pubL s k) (pubS (keyF s k)) (own_below Hown2.out hb3.out) rfl wa.heap.size HD3.out dD.out rfl (by omega) (Nat.le_trans hz2 hb3.out.size) ?_
        intro v4 w4 hown4 hg4
        have HK4 := Lib.hid ((HK2.out.below hb3.out).grown hg4 (fun e => absurd (own_base Hown2.out _ e.symm) (by omega)))
        have HB4 := Lib.hid (below_grown (below_of HB2.out hb3.out HB2.out.size) hg4 (Nat.le_trans HB2.out.size hb3.out.size) (fun k hk => Nat.le_trans (Nat.le_succ _) (own_base Hown2.out k hk)))
        have hz4 : w.heap.size + 1 ≤ w4.heap.size := Nat.le_trans (Nat.le_trans hz2 hb3.out.size) hg4.size
        obtain ⟨A4, c4, rfl, -, -, -⟩ := own_form hown4
        have Hown4 := Lib.hid hown4
        clear hown4 hg4)
     | (refine wpList_oneD rfl (.tmp 15) rfl (pubS (keyF s k)) dD.out rfl ?_
        generalize hge3 : World.alloc _ _ = w3
        have HD3 := Lib.hid (show Blk w3 wa.heap.size 29 (arrK .u8 (pubS (keyF s k))) by subst hge3; exact Blk.new _ _ _)
        have hb3 := Lib.hid (al1 hge3)
        clear hge3))
    go_roundw
    case rel => exact ⟨k + 1, A4, c4, by omega, by go_num, rfl, (show World.ownsRow _ _ _ _ _ _ _ by rw [pubL_succ]; exact Hown4.out), HK4.out, hz4, HB4.out⟩
    case measure => simp [intOf]; omega
  · obtain rfl : k = m := by omega
    go_wp2_with (fail)
    go_ret
    obtain ⟨A2, c2, hv, h1, h2, -⟩ := own_form hown.out
    cases hv
    exact ⟨A', c', rfl, h1, h2, Cells.own hown.out, hB.out⟩
def pubR (n : Nat) (m u : Int) (s : List Nat) : List Nat := if okKey n m u then treeS (pubL s m.toNat) else z32
theorem pubR_isD (n : Nat) (m u : Int) (s : List Nat) : IsD (pubR n m u s) := by
 unfold pubR
 split
 · exact treeS_isD _
 · exact z32_isD
def errKey (b : Bool) : Int := if b then 0 else 40
theorem okKey_true {n : Nat} {m u : Int} (h : okKey n m u = true) : 1 ≤ n ∧ n ≤ 64 ∧ 1 ≤ m ∧ m ≤ 4096 ∧ 0 ≤ u ∧ u ≤ m := by unfold okKey at h; exact of_decide_eq_true h
set_option linter.unusedSimpArgs false in
set_option maxRecDepth 100000 in
set_option maxHeartbeats 4000000 in
theorem Public_any (A : Option Addr) (n c : Nat) (m u : Int) (s : List Nat) (w : World) (hA : Cells w A (bytesV s)) (hs : s.length = n) (h8 : ByteL s) :
    Calls Tryz.prog 25 #[.agg #[.slice A n c, .int .i64 m, .int .i64 u]] w fun e w' => e = .returned (.tuple #[.agg (arrK .u8 (pubR n m u s)), .int .i64 (errKey (okKey n m u))]) ∧ Below w.heap.size w w' := by
 have HA := Lib.hid hA
 have Hs := Lib.hid hs
 have Hs8 := Lib.hid h8
 clear hA hs h8
 cases hv : okKey n m u with
 | false =>
   have HV := Lib.hid (fun W => valid_any A n c m u W)
   rw [hv] at HV
   have er : pubR n m u s = z32 := by unfold pubR; rw [hv]; rfl
   have ee : errKey false = 40 := rfl
   rw [er, ee]
   clear er ee hv
   go_enter Tryz.func25, Tryz.ntmps25
   go_wp2_with (fail)
   generalize hge : World.alloc _ _ = w1
   have HR := Lib.hid (show Blk w1 (w.heap.size + 1) 29 (arrK .u8 z32) by subst hge; exact (blk_two w _ (arrK .u8 z32) 24 29).2)
   have HB := Lib.hid (al2 hge)
   clear hge
   refine (HV.out w1).mono ?_
   rintro e w2 ⟨rfl, hb2⟩
   have HR2 := Lib.hid (HR.out.below hb2)
   have HB2 := Lib.hid (below_of HB.out hb2 HB.out.size)
   clear hb2
   go_wp2_with (first
    | (refine wpList_load_blk rfl 29 (.tmp 2) rfl (w.heap.size + 1) rfl 29 (arrK .u8 z32) (.array 32 5) HR2.out (by kernel_rfl) rfl (by kernel_rfl) ?_)
    | (refine wpList_store_same rfl 29 (.tmp 2) (.tmp 7) rfl (w.heap.size + 1) (arrK .u8 z32) rfl rfl 29 HR2.out (by kernel_rfl) (arrK_all _ _) ?_))
   exact ret_row2 rfl (w.heap.size + 1) 29 (arrK .u8 z32) (.array 32 5) rfl rfl HR2.out (by kernel_rfl) rfl (by kernel_rfl) rfl ⟨rfl, HB2.out⟩
 | true =>
   obtain ⟨h1, h2, h3, h4, h5, h6⟩ := okKey_true hv
   obtain ⟨k, rfl⟩ := Int.eq_ofNat_of_zero_le (show 0 ≤ m by omega)
   have HV := Lib.hid (fun W => valid_any A n c k u W)
   rw [hv] at HV
   have er : pubR n k u s = treeS (pubL s k) := by unfold pubR; rw [hv]; rfl
   have ee : errKey true = 0 := rfl
   rw [er, ee]
   clear er ee hv
   have lt := Lib.hid (treeS_isD (pubL s k)).1
   go_enter Tryz.func25, Tryz.ntmps25
   go_wp2_with (fail)
   generalize hge : World.alloc _ _ = w1
   have H1 := Lib.hid (show Blk w1 w.heap.size 24 #[.slice A n c, .int .i64 k, .int .i64 u] by subst hge; exact (blk_two w _ (arrK .u8 z32) 24 29).1)
   have HR := Lib.hid (show Blk w1 (w.heap.size + 1) 29 (arrK .u8 z32) by subst hge; exact (blk_two w _ (arrK .u8 z32) 24 29).2)
   have HB := Lib.hid (al2 hge)
   clear hge
   refine (HV.out w1).mono ?_
   rintro e w2 ⟨rfl, hb2⟩
   have HK2 := Lib.hid (H1.out.below hb2)
   have HR2 := Lib.hid (HR.out.below hb2)
   have HB2 := Lib.hid (below_of HB.out hb2 HB.out.size)
   have q0 := Blk.cellv HK2.out (i := 0) rfl
   have q1 := Blk.cellv HK2.out (i := 1) rfl
   have q2 := Blk.cellv HK2.out (i := 2) rfl
   clear hb2
   go_wp2_with (fail)
   refine (publics_any A n c k u s w2 (HA.out.below HB2.out) Hs.out (by omega) Hs8.out (by omega)).mono ?_
   rintro e w3 ⟨A3, c3, rfl, hc3, hm3, hC3, hb3⟩
   have HR3 := Lib.hid (HR2.out.below hb3)
   have HB3 := Lib.hid (below_of HB2.out hb3 HB2.out.size)
   clear hb3 q0 q1 q2
   go_wp2_with (fail)
   refine (tree_any k (pubL s k) A3 c3 w3 (pubL_length s k) (pubL_isL s k) hc3 (by omega) hC3).mono ?_
   rintro e w4 ⟨rfl, hb4⟩
   have HR4 := Lib.hid (HR3.out.below hb4)
   have HB4 := Lib.hid (below_of HB3.out hb4 HB3.out.size)
   clear hb4 hC3
   go_wp2_with (
    (refine wpList_put_blk rfl 29 (.tmp 2) (.tmp 10) rfl (w.heap.size + 1) (arrK .u8 (treeS (pubL s k))) rfl rfl 29 (arrK .u8 z32) HR4.out (info32 lt.out) (by rw [len32 lt.out, len32 z32_length]) (arrK_all _ _) ?_
     intro w6 HD6 hg6 hz6
     have HD6 := Lib.hid HD6
     have HB6 := below_grown HB4.out hg6 HB4.out.size (by simp)
     clear hg6 hz6))
   exact ret_row2 rfl (w.heap.size + 1) 29 (arrK .u8 (treeS (pubL s k))) (.array 32 5) rfl rfl HD6.out (by kernel_rfl) rfl (info32 lt.out) rfl ⟨rfl, HB6⟩
end Go.Proofs.YtkflpoiobpblhaaGreat
