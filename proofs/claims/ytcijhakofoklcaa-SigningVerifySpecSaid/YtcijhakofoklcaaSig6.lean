/- The walks of Bits and New (signing). -/
import Derived.Test.YtcijhakofoklcaaSig5
namespace Go.Proofs.Ytcijhakofoklcaa
open Go.RowKit
theorem put3 {w : World} {g : Nat} {t : TypeId} {a b c : Value} (h : Blk w g t #[a, b, c]) (x y z : Value) :
    Blk (((w.setCell ⟨g, 0, none⟩ x).setCell ⟨g, 1, none⟩ y).setCell ⟨g, 2, none⟩ z) g t #[x, y, z] ∧ w.grownBy (((w.setCell ⟨g, 0, none⟩ x).setCell ⟨g, 1, none⟩ y).setCell ⟨g, 2, none⟩ z) (some g) :=
  ⟨((h.set_ 0 x).set_ 1 y).set_ 2 z, grown_trans (grown_trans (grown_setOne x) (grown_setOne y)) (grown_setOne z)⟩
theorem put4 {w : World} {g : Nat} {t : TypeId} {a b c d : Value} (h : Blk w g t #[a, b, c, d]) (x y z u : Value) :
    Blk ((((w.setCell ⟨g, 0, none⟩ x).setCell ⟨g, 1, none⟩ y).setCell ⟨g, 2, none⟩ z).setCell ⟨g, 3, none⟩ u) g t #[x, y, z, u] ∧ w.grownBy ((((w.setCell ⟨g, 0, none⟩ x).setCell ⟨g, 1, none⟩ y).setCell ⟨g, 2, none⟩ z).setCell ⟨g, 3, none⟩ u) (some g) :=
  ⟨(((h.set_ 0 x).set_ 1 y).set_ 2 z).set_ 3 u, grown_trans (grown_trans (grown_trans (grown_setOne x) (grown_setOne y)) (grown_setOne z)) (grown_setOne u)⟩
set_option linter.unusedSimpArgs false in
set_option maxRecDepth 100000 in
set_option maxHeartbeats 4000000 in
theorem Bits_bad (root : List Nat) (i : Int) (A : Option Addr) (n c : Nat) (w : World) (hi : i < 0 ∨ 4096 ≤ i) :
    Calls Try.prog 26 #[.agg (arrK .u8 root), .int .i64 i, .slice A n c] w fun e w' => e = .returned (.slice none 0 0) ∧ Below w.heap.size w w' := by
  have h : i < 0 ∨ (0 ≤ i ∧ 4096 ≤ i) := by omega
  clear hi
  rcases h with h | ⟨h1, h2⟩
  all_goals
    go_enter Try.func26, Try.ntmps26
    go_wp2_with (fail)
    go_ret
    exact ⟨rfl, (Below.refl _ _).alloc (Nat.le_refl _) _⟩
set_option linter.unusedSimpArgs false in
set_option maxRecDepth 100000 in
set_option maxHeartbeats 4000000 in
theorem Bits_good (root : List Nat) (i : Nat) (msg : List Nat) (A : Option Addr) (n c : Nat) (w : World) (hr : IsD root) (hi : i < 4096) (hA : Cells w A (bytesV msg)) (hm : msg.length = n) (hn : n ≤ 70000) (h8 : ByteL msg) :
    Calls Try.prog 26 #[.agg (arrK .u8 root), .int .i64 i, .slice A n c] w fun e w' => ∃ B, e = .returned (.slice (some ⟨B, 0, none⟩) 64 64) ∧ Blk w' B 66 (arrB (bitL (msgS root i msg) 64)) ∧ Below w.heap.size w w' := by
  have HA := Lib.hid hA
  have Hr := Lib.hid hr
  have Hm := Lib.hid hm
  have Hm8 := Lib.hid h8
  clear hA hr hm h8
  have hiI : (i : Int) < 4096 := by omega
  go_enter Try.func26, Try.ntmps26
  go_wp2_with (
    (refine wpList_load_blk rfl 37 (.tmp 3) rfl w.heap.size rfl 37 (arrK .u8 root) (.array 32 5) (Blk.new w 37 (arrK .u8 root)) (by kernel_rfl) rfl (info32 Hr.out.1) ?_))
  generalize hge : World.alloc _ _ = w1
  have HB := Lib.hid (show Below w.heap.size w w1 by subst hge; exact (Below.refl _ _).alloc (Nat.le_refl _) _)
  clear hge
  refine (signed_any root i msg A n c w1 Hr.out (by omega) (HA.out.below HB.out) Hm.out hn Hm8.out).mono ?_
  rintro e w2 ⟨rfl, hb2⟩
  have HB2 := Lib.hid (below_of HB.out hb2 HB.out.size)
  have lx := Lib.hid (bitL_length (msgS root i msg) 64)
  clear hb2
  go_wp2_with (
    (refine wpList_put_blk rfl 66 (.tmp 7) (.tmp 17) rfl w2.heap.size (arrB (bitL (msgS root i msg) 64)) rfl rfl 66 (arrB z64) (Blk.new w2 66 (arrB z64)) (infoB lx.out) (by rw [arrB_size, arrB_size, lx.out]; rfl) (arrB_all _) ?_
     intro w3 HD3 hg3 hz3
     have HD3 := Lib.hid HD3
     have HB3 := Lib.hid (below_grown (HB2.out.alloc HB2.out.size _) hg3 (by have := HB2.out.size; simp; omega) (by have := HB2.out.size; simp; omega))
     clear hg3 hz3))
  go_ret
  exact ⟨_, rfl, HD3.out, HB3.out⟩
set_option linter.unusedSimpArgs false in
set_option maxRecDepth 100000 in
set_option maxHeartbeats 4000000 in
theorem New_bad (A : Option Addr) (n c : Nat) (m : Int) (s : List Nat) (w : World) (hA : Cells w A (bytesV s)) (hs : s.length = n) (hn : n ≤ 200) (hnc : n ≤ c) (hcm : c ≤ maxLen) (hk : okKey n m 0 = false) :
    Calls Try.prog 23 #[.slice A n c, .int .i64 m] w fun e w' => e = .returned (.tuple #[.agg #[.slice none 0 0, .int .i64 0, .int .i64 0], .int .i64 40]) ∧ Below w.heap.size w w' := by
  have HA := Lib.hid hA
  have Hs := Lib.hid hs
  have Hcm := Lib.hid hcm
  have HV := Lib.hid (fun A c W => valid_any A n c m 0 W)
  rw [hk] at HV
  clear hA hs hcm hk
  go_enter Try.func23, Try.ntmps23
  go_wp2_with (fail)
  generalize hge : World.alloc _ _ = w1
  have HR := Lib.hid (show Blk w1 w.heap.size 24 #[.slice none 0 0, .int .i64 0, .int .i64 0] by subst hge; exact Blk.new w _ _)
  have HB := Lib.hid (show Below w.heap.size w w1 by subst hge; exact (Below.refl _ _).alloc (Nat.le_refl _) _)
  clear hge
  refine (clone_any A n c s w1 (HA.out.below HB.out) Hs.out (by omega) hnc Hcm.out).mono ?_
  rintro e w2 ⟨A2, c2, rfl, hc2, hm2, hC2, hne2, hb2⟩
  have HR2 := Lib.hid (HR.out.below hb2)
  have HB2 := Lib.hid (below_of HB.out hb2 HB.out.size)
  have C2 := Lib.hid hC2
  have Hm2 := Lib.hid hm2
  clear hb2 hC2 hm2
  go_wp2_with (fail)
  generalize hge : World.alloc _ _ = w3
  have HT3 := Lib.hid (show Blk w3 w2.heap.size 24 #[.slice A2 n c2, .int .i64 m, .int .i64 0] by subst hge; exact Blk.new w2 _ _)
  have hb3 : Below w2.heap.size w2 w3 := by subst hge; exact (Below.refl _ _).alloc (Nat.le_refl _) _
  have HR3 := Lib.hid (HR2.out.below hb3)
  have HB3 := Lib.hid (below_of HB2.out hb3 HB2.out.size)
  have C3 := Lib.hid (C2.out.below hb3)
  clear hge hb3
  refine (HV.out A2 c2 w3).mono ?_
  rintro e w4 ⟨rfl, hb4⟩
  have HT4 := Lib.hid (HT3.out.below hb4)
  have HR4 := Lib.hid (HR3.out.below hb4)
  have HB4 := Lib.hid (below_of HB3.out hb4 HB3.out.size)
  have C4 := Lib.hid (C3.out.below hb4)
  clear hb4
  have q0 := HR4.out.cellv (i := 0) rfl
  have q1 := HR4.out.cellv (i := 1) rfl
  have q2 := HR4.out.cellv (i := 2) rfl
  have g0 := HR4.out.frozen 0
  have g1 := HR4.out.frozen 1
  have g2 := HR4.out.frozen 2
  go_wp2_with (fail)
  have hp := put3 HR4.out (.slice none 0 0) (.int .i64 0) (.int .i64 0)
  exact ret_row2 rfl w.heap.size 24 #[.slice none 0 0, .int .i64 0, .int .i64 0] _ rfl rfl hp.1 Try.underlying24 rfl (by kernel_rfl) rfl ⟨rfl, below_grown HB4.out hp.2 HB4.out.size (by simp)⟩
set_option linter.unusedSimpArgs false in
set_option maxRecDepth 100000 in
set_option maxHeartbeats 4000000 in
theorem New_good (A : Option Addr) (n c : Nat) (m : Int) (s : List Nat) (w : World) (hA : Cells w A (bytesV s)) (hs : s.length = n) (hn : n ≤ 200) (hnc : n ≤ c) (hcm : c ≤ maxLen) (hk : okKey n m 0 = true) :
    Calls Try.prog 23 #[.slice A n c, .int .i64 m] w fun e w' => ∃ A2 c2, e = .returned (.tuple #[.agg #[.slice A2 n c2, .int .i64 m, .int .i64 0], .int .i64 0]) ∧ n ≤ c2 ∧ c2 ≤ maxLen ∧ Cells w' A2 (bytesV s) ∧ Below w.heap.size w w' := by
  have HA := Lib.hid hA
  have Hs := Lib.hid hs
  have Hcm := Lib.hid hcm
  have HV := Lib.hid (fun A c W => valid_any A n c m 0 W)
  rw [hk] at HV
  clear hA hs hcm hk
  go_enter Try.func23, Try.ntmps23
  go_wp2_with (fail)
  generalize hge : World.alloc _ _ = w1
  have HR := Lib.hid (show Blk w1 w.heap.size 24 #[.slice none 0 0, .int .i64 0, .int .i64 0] by subst hge; exact Blk.new w _ _)
  have HB := Lib.hid (show Below w.heap.size w w1 by subst hge; exact (Below.refl _ _).alloc (Nat.le_refl _) _)
  clear hge
  refine (clone_any A n c s w1 (HA.out.below HB.out) Hs.out (by omega) hnc Hcm.out).mono ?_
  rintro e w2 ⟨A2, c2, rfl, hc2, hm2, hC2, hne2, hb2⟩
  have HR2 := Lib.hid (HR.out.below hb2)
  have HB2 := Lib.hid (below_of HB.out hb2 HB.out.size)
  have C2 := Lib.hid hC2
  have Hm2 := Lib.hid hm2
  clear hb2 hC2 hm2
  go_wp2_with (fail)
  generalize hge : World.alloc _ _ = w3
  have HT3 := Lib.hid (show Blk w3 w2.heap.size 24 #[.slice A2 n c2, .int .i64 m, .int .i64 0] by subst hge; exact Blk.new w2 _ _)
  have hb3 : Below w2.heap.size w2 w3 := by subst hge; exact (Below.refl _ _).alloc (Nat.le_refl _) _
  have HR3 := Lib.hid (HR2.out.below hb3)
  have HB3 := Lib.hid (below_of HB2.out hb3 HB2.out.size)
  have C3 := Lib.hid (C2.out.below hb3)
  clear hge hb3
  refine (HV.out A2 c2 w3).mono ?_
  rintro e w4 ⟨rfl, hb4⟩
  have HT4 := Lib.hid (HT3.out.below hb4)
  have HR4 := Lib.hid (HR3.out.below hb4)
  have HB4 := Lib.hid (below_of HB3.out hb4 HB3.out.size)
  have C4 := Lib.hid (C3.out.below hb4)
  clear hb4
  have q0 := HR4.out.cellv (i := 0) rfl
  have q1 := HR4.out.cellv (i := 1) rfl
  have q2 := HR4.out.cellv (i := 2) rfl
  have g0 := HR4.out.frozen 0
  have g1 := HR4.out.frozen 1
  have g2 := HR4.out.frozen 2
  have p0 := HT4.out.cellv (i := 0) rfl
  have p1 := HT4.out.cellv (i := 1) rfl
  have p2 := HT4.out.cellv (i := 2) rfl
  go_wp2_with (fail)
  have hp := put3 HR4.out (.slice A2 n c2) (.int .i64 m) (.int .i64 0)
  exact ret_row2 rfl w.heap.size 24 #[.slice A2 n c2, .int .i64 m, .int .i64 0] _ rfl rfl hp.1 Try.underlying24 rfl (by kernel_rfl) rfl ⟨A2, c2, rfl, hc2, Hm2.out, C4.out.grown hp.2 (fun b off hA e => by have := hne2.out b off hA; have := HR.out.lt; injection e with e; omega), below_grown HB4.out hp.2 HB4.out.size (by simp)⟩
end Go.Proofs.Ytcijhakofoklcaa
