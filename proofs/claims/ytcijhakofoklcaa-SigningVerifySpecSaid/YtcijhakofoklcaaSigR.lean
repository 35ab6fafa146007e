/- The reference's Valid, two, secret, one (signing). -/
import Derived.Test.YtcijhakofoklcaaSig10
namespace Go.Proofs.Ytcijhakofoklcaa
open Go.RowKit
theorem elemC {w : World} {b off : Nat} {l : List (List Nat)} (hL : IsL l) (h : Cells w (some ⟨b, off, none⟩) (bytesV l.flatten)) {k : Nat} {d : List Nat} (hk : l[k]? = some d) : Cells w (some ⟨b, off + k * 32, none⟩) (bytesV d) := by
  have h1 := h.cut (k * 32) 32
  have e : ((bytesV l.flatten).drop (k * 32)).take 32 = bytesV d := by
    rw [← bytesV_drop, ← hL.flat_get hk]
    unfold bytesV
    rw [List.map_take]
  rwa [e] at h1
set_option maxHeartbeats 1000000 in
theorem rvalid_any (A : Option Addr) (n c : Nat) (m u : Int) (w : World) :
    Calls Try.prog 15 #[.agg #[.slice A n c, .int .i64 m, .int .i64 u]] w fun e w' => e = .returned (.bool (okKey n m u)) ∧ Below w.heap.size w w' := by
  go_enter Try.func15, Try.ntmps15
  go_wp2_with (fail)
  all_goals
    go_ret
    exact ⟨ret_bool (by unfold okKey; simp only [decide_eq_decide, false_eq_decide_iff]; omega), (Below.refl _ _).alloc (Nat.le_refl _) _⟩
set_option maxHeartbeats 1000000 in
theorem rtwo_any (i : Nat) (w : World) (hi : i < 65536) :
    Calls Try.prog 58 #[.int .i64 i] w fun e w' => e = .returned (.slice (some ⟨w.heap.size, 0, none⟩) 2 2) ∧ Blk w' w.heap.size 5 (arrK .u8 (twoL i)) ∧ Below w.heap.size w w' := by
  go_enter Try.func58, Try.ntmps58
  go_wp2_with (fail)
  go_ret
  refine ⟨rfl, ?_, (Below.refl _ _).alloc (Nat.le_refl _) _⟩
  rw [show arrK .u8 (twoL i) = #[.int .u8 ((i : Int) / 256), .int .u8 ((i : Int) % 256)] by
    have e1 : ((i / 256 % 256 : Nat) : Int) = (i : Int) / 256 := by omega
    have e2 : ((i % 256 : Nat) : Int) = (i : Int) % 256 := by omega
    simp only [arrK, twoL, List.map_cons, List.map_nil, e1, e2]]
  exact Blk.new w _ _
set_option linter.unusedSimpArgs false in
set_option maxRecDepth 100000 in
set_option maxHeartbeats 4000000 in
theorem rsecret_any (A : Option Addr) (n c : Nat) (m u : Int) (s : List Nat) (i j b : Nat) (w : World) (hA : Cells w A (bytesV s)) (hs : s.length = n) (hn : n ≤ 1000) (h8 : ByteL s) (hi : i < 65536) (hj : j < 64) (hb : b < 2) :
    Calls Try.prog 48 #[.agg #[.slice A n c, .int .i64 m, .int .i64 u], .int .i64 i, .int .i64 j, .int .i64 b] w fun e w' => e = .returned (.agg (arrK .u8 (secS s i j b))) ∧ Below w.heap.size w w' := by
  have HA := Lib.hid hA
  have Hs := Lib.hid hs
  have Hs8 := Lib.hid h8
  have HJ := Lib.hid (show ByteL [j, b] from fun k => by match k with | 0 => (show j < 256; omega) | 1 => (show b < 256; omega) | k + 2 => (show (0 : Nat) < 256; omega))
  have lt := Lib.hid (secS_isD s i j b).1
  have Hwj := Lib.hid (show IntKind.u8.wrap (j : Int) = (j : Int) by simp [IntKind.wrap, IntKind.bits, IntKind.signed]; omega)
  have Hwb := Lib.hid (show IntKind.u8.wrap (b : Int) = (b : Int) by simp [IntKind.wrap, IntKind.bits, IntKind.signed]; omega)
  have Ta3 := Lib.hid (show 0 + n ≤ maxLen by unfold maxLen; omega)
  have Tb3 := Lib.hid (show (0 + n) * 1 ≤ 140737488355328 by omega)
  have Ta5 := Lib.hid (show n + 2 ≤ maxLen by unfold maxLen; omega)
  have Tb5 := Lib.hid (show (n + 2) * 1 ≤ 140737488355328 by omega)
  have Ta6 := Lib.hid (show n + 2 + 2 ≤ maxLen by unfold maxLen; omega)
  have Tb6 := Lib.hid (show (n + 2 + 2) * 1 ≤ 140737488355328 by omega)
  have Tc := Lib.hid (show n + 2 + 2 ≤ 1000000 by omega)
  clear hA hs h8
  go_enter Try.func48, Try.ntmps48
  go_upto_region 1 with (fail)
  generalize hge : World.alloc _ _ = w1
  have HK1 := Lib.hid (show Blk w1 w.heap.size 24 #[.slice A n c, .int .i64 m, .int .i64 u] by subst hge; exact (blk_two w _ (arrK .u8 z32) 24 37).1)
  have HR1 := Lib.hid (show Blk w1 (w.heap.size + 1) 37 (arrK .u8 z32) by subst hge; exact (blk_two w _ (arrK .u8 z32) 24 37).2)
  have HB1 := Lib.hid (show Below w.heap.size w w1 by subst hge; exact ((Below.refl _ _).alloc (Nat.le_refl _) _).alloc (by simp) _)
  have hw1 : w.heap.size ≤ w1.heap.size := HB1.out.size
  have lK := HK1.out.lt
  have lR := HR1.out.lt
  have nK := Lib.hid (show ¬ w1.heap.size ≤ w.heap.size by omega)
  have nR := Lib.hid (show ¬ w1.heap.size ≤ w.heap.size + 1 by omega)
  clear hge
  have q0 : ∀ o : Obj, (w1.alloc o).cell? ⟨w.heap.size, 0, none⟩ = some (.slice A n c) := fun o => (HK1.out.alloc o).cellv (i := 0) rfl
  have Own0 := Lib.hid (show (w1.alloc (.cells #[] 5)).ownsRow w1.heap.size 5 1 (.slice (some ⟨w1.heap.size, 0, none⟩) 0 0) 0 (bytesV []) by rw [bytesV_nil]; exact World.ownsRow_lit (size := 1) w1 #[] 0 (Nat.le_refl _) (Nat.zero_le _) rfl)
  go_wp2_with (
    (at_builtin; refine wpList_append_cells rfl (.tmp 10) (.tmp 12) 22 rfl w1.heap.size 5 (.int .u8 0) 1 1 (by kernel_rfl) (by kernel_rfl) rfl (by decide) (.slice (some ⟨w1.heap.size, 0, none⟩) 0 0) 0 (bytesV ([])) Own0.out rfl A n c (bytesV (s)) rfl (by rw [bytesV_length, Hs.out, Nat.mul_one]) ((HA.out.below HB1.out).alloc _) (bytesV_one _) (Ta3.out) (Tb3.out) ((show w1.heap.size ≤ (w1.alloc (.cells #[] 5)).heap.size by simp)) ?_; intro v3 w3 hown3 hg3 _; have Z3 := Nat.le_trans ((show w1.heap.size ≤ (w1.alloc (.cells #[] 5)).heap.size by simp)) hg3.size; have HK3 := Lib.hid ((HK1.out.alloc _).grown hg3 (fun e => absurd (own_base Own0.out _ e.symm) nK.out)); have HR3 := Lib.hid ((HR1.out.alloc _).grown hg3 (fun e => absurd (own_base Own0.out _ e.symm) nR.out)); rw [Nat.zero_add] at hown3; have HB3 := Lib.hid (below_grown (HB1.out.alloc HB1.out.size _) hg3 (HB1.out.alloc HB1.out.size _).size (fun k hk => Nat.le_trans hw1 (own_base Own0.out k hk))); rw [← bytesV_append] at hown3; obtain ⟨A3, c3, rfl, -, -, -⟩ := own_form hown3; have Hown3 := Lib.hid hown3; clear hown3 hg3))
  clear q0
  refine (rtwo_any i w3 hi).mono ?_
  rintro e w4 ⟨rfl, ht4, hb4⟩
  have HK4 := Lib.hid (HK3.out.below hb4)
  have HR4 := Lib.hid (HR3.out.below hb4)
  have HB4 := Lib.hid (below_of HB3.out hb4 HB3.out.size)
  have Z4 := Nat.le_trans Z3 hb4.size
  have Hown4 := Lib.hid (own_below Hown3.out hb4)
  have Ht4 := Lib.hid (cells_dig ht4)
  clear ht4 hb4
  have hwj := Hwj.out
  have hwb := Hwb.out
  go_wp2_with (first
    | ((at_builtin; refine wpList_append_cells rfl (.tmp 17) (.tmp 22) 22 rfl w1.heap.size 5 (.int .u8 0) 1 1 (by kernel_rfl) (by kernel_rfl) rfl (by decide) (.slice A5 (n + 2) c5) (n + 2) (bytesV ([] ++ s ++ twoL i)) (own_below Hown5.out ((Below.refl w5.heap.size w5).alloc (Nat.le_refl _) (.cells #[.int .u8 (j : Int), .int .u8 (b : Int)] 5))) rfl (some ⟨w5.heap.size, 0, none⟩) 2 2 (bytesV ([j, b])) rfl (by rw [bytesV_length]; rfl) (cells_new2 w5 j b) (bytesV_one _) (Ta6.out) (Tb6.out) ((show w1.heap.size ≤ (w5.alloc (.cells #[.int .u8 (j : Int), .int .u8 (b : Int)] 5)).heap.size from Nat.le_trans Z5 (by simp))) ?_; intro v6 w6 hown6 hg6 _; have Z6 := Nat.le_trans ((show w1.heap.size ≤ (w5.alloc (.cells #[.int .u8 (j : Int), .int .u8 (b : Int)] 5)).heap.size from Nat.le_trans Z5 (by simp))) hg6.size; have HK6 := Lib.hid ((HK5.out.alloc (.cells #[.int .u8 (j : Int), .int .u8 (b : Int)] 5)).grown hg6 (fun e => absurd (own_base (own_below Hown5.out ((Below.refl w5.heap.size w5).alloc (Nat.le_refl _) (.cells #[.int .u8 (j : Int), .int .u8 (b : Int)] 5))) _ e.symm) nK.out)); have HR6 := Lib.hid ((HR5.out.alloc (.cells #[.int .u8 (j : Int), .int .u8 (b : Int)] 5)).grown hg6 (fun e => absurd (own_base (own_below Hown5.out ((Below.refl w5.heap.size w5).alloc (Nat.le_refl _) (.cells #[.int .u8 (j : Int), .int .u8 (b : Int)] 5))) _ e.symm) nR.out)); have HB6 := Lib.hid (below_grown (HB5.out.alloc HB5.out.size (.cells #[.int .u8 (j : Int), .int .u8 (b : Int)] 5)) hg6 (HB5.out.alloc HB5.out.size (.cells #[.int .u8 (j : Int), .int .u8 (b : Int)] 5)).size (fun k hk => Nat.le_trans hw1 (own_base (own_below Hown5.out ((Below.refl w5.heap.size w5).alloc (Nat.le_refl _) (.cells #[.int .u8 (j : Int), .int .u8 (b : Int)] 5))) k hk))); rw [← bytesV_append] at hown6; obtain ⟨A6, c6, rfl, -, -, -⟩ := own_form hown6; have Hown6 := Lib.hid hown6; clear hown6 hg6))
    | ((at_builtin; refine wpList_append_cells rfl (.tmp 13) (.tmp 15) 22 rfl w1.heap.size 5 (.int .u8 0) 1 1 (by kernel_rfl) (by kernel_rfl) rfl (by decide) (.slice A3 n c3) n (bytesV ([] ++ s)) Hown4.out rfl (some ⟨w3.heap.size, 0, none⟩) 2 2 (bytesV (twoL i)) rfl (by rw [bytesV_length]; rfl) (Ht4.out) (bytesV_one _) (Ta5.out) (Tb5.out) (Z4) ?_; intro v5 w5 hown5 hg5 _; have Z5 := Nat.le_trans (Z4) hg5.size; have HK5 := Lib.hid (HK4.out.grown hg5 (fun e => absurd (own_base Hown4.out _ e.symm) nK.out)); have HR5 := Lib.hid (HR4.out.grown hg5 (fun e => absurd (own_base Hown4.out _ e.symm) nR.out)); have HB5 := Lib.hid (below_grown HB4.out hg5 HB4.out.size (fun k hk => Nat.le_trans hw1 (own_base Hown4.out k hk))); rw [← bytesV_append] at hown5; obtain ⟨A5, c5, rfl, -, -, -⟩ := own_form hown5; have Hown5 := Lib.hid hown5; clear hown5 hg5)))
  clear hwj hwb
  have C6 := Lib.hid (Cells.own Hown6.out)
  refine (rtagged_any ⟨#[115, 101, 99, 114, 101, 116]⟩ _ _ _ (s ++ twoL i ++ [j, b]) w6 (by simpa using C6.out) (by simp [Hs.out, twoL_length]) (by have := Tc.out; omega) ((Hs8.out.append (twoL_byte i)).append HJ.out) (by decide)).mono ?_
  rintro e w7 ⟨he, hb7⟩
  have he : e = .returned (.agg (arrK .u8 (secS s i j b))) := by rw [secS_eq]; exact he
  subst he
  have HR7 := Lib.hid (HR6.out.below hb7)
  have HB7 := Lib.hid (below_of HB6.out hb7 HB6.out.size)
  clear hb7
  go_wp2_with (
    (refine wpList_put_blk rfl 37 (.tmp 8) (.tmp 24) rfl (w.heap.size + 1) (arrK .u8 (secS s i j b)) rfl rfl 37 (arrK .u8 z32) HR7.out (info32 lt.out) (by rw [len32 lt.out, len32 z32_length]) (arrK_all _ _) ?_
     intro w8 HD8 hg8 hz8
     have HD8 := Lib.hid HD8
     have HB8 := below_grown HB7.out hg8 HB7.out.size (by simp)
     clear hg8 hz8))
  exact ret_row rfl (w.heap.size + 1) 37 (arrK .u8 (secS s i j b)) (.array 32 5) rfl HD8.out (by kernel_rfl) rfl (info32 lt.out) rfl ⟨rfl, HB8⟩
end Go.Proofs.Ytcijhakofoklcaa
