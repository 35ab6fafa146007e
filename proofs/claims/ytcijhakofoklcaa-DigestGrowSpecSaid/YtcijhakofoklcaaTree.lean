/- The walks of half and Tree (both). -/
import Derived.Test.YtcijhakofoklcaaTreeP
import Derived.Test.YtcijhakofoklcaaShelf
import Derived.Deep.MidRow
namespace Go.Proofs.Ytcijhakofoklcaa
open Go.RowKit
set_option maxHeartbeats 400000 in
theorem half_any (n : Nat) (w : World) (h2 : 2 ≤ n) (hn : n ≤ 4000000000000) :
    Calls Try.prog 63 #[.int .i64 n] w fun e w' => e = .returned (.int .i64 (halfN n : Nat)) ∧ w = w' := by
  obtain ⟨hb, hb1⟩ := half_bits h2 (by omega)
  obtain ⟨m, hm⟩ : ∃ m, Lib.bitLen (n - 1) = m + 1 := ⟨Lib.bitLen (n - 1) - 1, by omega⟩
  rw [hm, Nat.add_sub_cancel] at hb
  have hlt := half_lt h2
  have hm62 : m ≤ 62 := by
    rcases Nat.lt_or_ge 62 m with h | h
    · have : 2 ^ 63 ≤ 2 ^ m := Nat.pow_le_pow_right (by omega) h
      rw [show (2 : Nat) ^ 63 = 9223372036854775808 from rfl] at this
      omega
    · exact h
  have HL := Lib.hid (show ∀ W : World, Calls Try.prog 82 #[.int .u64 ((n : Int) - 1)] W fun e w' => e = .returned (.int .i64 ((m : Int) + 1)) ∧ w' = W from fun W => by
    have := Try.bits_Len ((n : Int) - 1) W (by omega) (by omega)
    rw [show ((n : Int) - 1).toNat = n - 1 by omega, hm] at this
    exact this)
  have Hb := Lib.hid hb
  have hsh : IntKind.i64.wrap (2 ^ m) = ((2 ^ m : Nat) : Int) := by
    rw [show ((2 : Int) ^ m) = ((2 ^ m : Nat) : Int) by simp]
    exact IntWalk.i64_in _ (by rw [hb]; omega)
  have hw : IntKind.u64.wrap ((n : Int) - 1) = (n : Int) - 1 := by rw [IntKind.wrap_u64]; omega
  clear hb hm hb1
  go_enter Try.func63, Try.ntmps63
  go_wp2_with (fail)
  refine (HL.out _).mono ?_
  rintro e w' ⟨rfl, rfl⟩
  go_wp2_with (fail)
  go_ret
  exact ⟨ret_int (by rw [← Hb.out]; simp), rfl⟩
set_option maxHeartbeats 400000 in
theorem rhalf_any (n : Nat) (w : World) (h2 : 2 ≤ n) (hn : n ≤ 4000000000000) :
    Calls Try.prog 65 #[.int .i64 n] w fun e w' => e = .returned (.int .i64 (halfN n : Nat)) ∧ w = w' := by
  go_enter Try.func65, Try.ntmps65
  go_wp2_with (fail)
  go_loop [3] (fun v => ∃ k j : Nat, v = .int .i64 k ∧ Hid (k = 2 ^ j) ∧ k < n ∧ 1 ≤ k) (fun v => n - (intOf v).toNat)
  case atStart => exact ⟨1, 0, rfl, rfl, by omega, by omega⟩
  case round =>
    obtain ⟨k, j, rfl, hk, hkn, hk1⟩ := hrel
    by_cases hlt : 2 * k < n
    · have hd : decide (2 * (k : Int) < (n : Int)) = true := by simp; omega
      have hkI : (k : Int) ≤ 4000000000000 := by omega
      go_wp2_with (fail)
      go_round
      case rel => exact ⟨2 * k, j + 1, by go_num, by show _ = _; rw [Nat.pow_succ, hk.out]; omega, by omega, by omega⟩
      case measure => simp [intOf]; omega
    · have hd : decide (2 * (k : Int) < (n : Int)) = false := by simp; omega
      have hkI : (k : Int) ≤ 4000000000000 := by omega
      go_wp2_with (fail)
      go_ret
      exact ⟨ret_int (by rw [← half_unique h2 (a := j) (by rw [← hk.out]; exact hkn) (by rw [← hk.out]; omega), hk.out]), rfl⟩
theorem range_cells {w : World} {b off : Nat} {d : List Nat} (h : Cells w (some ⟨b, off, none⟩) (bytesV d)) : w.rangeAt b off (d.map fun (n : Nat) => Value.int .u8 (n : Int)) := fun j v hv => by
  have hv : (bytesV d)[j]? = some v := by unfold bytesV; exact hv
  rcases h with h | ⟨b', off', he, _, hc⟩
  · rw [h] at hv; cases hv
  · injection he with he
    injection he with h1 h2
    subst h1; subst h2
    exact hc j v hv
set_option maxRecDepth 100000 in
set_option maxHeartbeats 4000000 in
theorem tree_any : ∀ (m : Nat) (l : List (List Nat)) (A : Option Addr) (c : Nat) (w : World), l.length = m → IsL l → m ≤ c → m ≤ 1000000 → Cells w A (bytesV l.flatten) →
    Calls Try.prog 40 #[.slice A m c] w fun e w' => e = .returned (.agg (arrK .u8 (treeS l))) ∧ Below w.heap.size w w' := by
  intro m
  induction m using Nat.strongRecOn with
  | _ m ih =>
  intro l A c w hl hL hmc hm hA
  have IH := Lib.hid ih
  have Hl := Lib.hid hl
  have HL := Lib.hid hL
  have HA := Lib.hid hA
  have lt := Lib.hid (treeS_isD l).1
  clear ih hl hL hA
  have fin : ∀ (w5 : World), Below w.heap.size w w5 → ∀ (v : List Nat), True := fun _ _ _ => trivial
  clear fin
  by_cases h0 : m = 0
  · have H0 := Lib.hid h0
    have hq : ((m : Int) == 0) = true := by simp; omega
    have el := Lib.hid (show tagS emptyT [] = treeS l by rw [List.eq_nil_of_length_eq_zero (Hl.out.trans h0), treeS_nil])
    clear h0
    go_enter Try.func40, Try.ntmps40
    go_wp2_with (fail)
    generalize hge : World.alloc _ _ = w0
    have HR0 := Lib.hid (show Blk w0 w.heap.size 37 (arrK .u8 z32) by subst hge; exact Blk.new w 37 (arrK .u8 z32))
    have HB0 := Lib.hid (show Below w.heap.size w w0 by subst hge; exact (Below.refl _ _).alloc (Nat.le_refl _) _)
    clear hge
    refine (tagged_any ⟨#[101, 109, 112, 116, 121]⟩ none 0 0 [] w0 (.inl (by unfold bytesV; rfl)) rfl (by omega) (fun _ => by simp) (by decide)).mono ?_
    rintro e w5 ⟨he, hb5⟩
    have he : e = .returned (.agg (arrK .u8 (treeS l))) := by rw [← el.out, emptyT_eq]; exact he
    subst he
    have HR5 := Lib.hid (HR0.out.below hb5)
    have HB5 := Lib.hid (HB0.out.trans (hb5.mono HB0.out.size))
    clear hb5
    go_wp2_with (
      (refine wpList_put_blk rfl 37 (.tmp 2) (.tmp 8) rfl w.heap.size (arrK .u8 (treeS l)) rfl rfl 37 (arrK .u8 z32) HR5.out (info32 lt.out) (by rw [len32 lt.out, len32 z32_length]) (arrK_all _ _) ?_
       intro w6 HD6 hg6 hz6
       have HD6 := Lib.hid HD6
       have HB6 := below_grown HB5.out hg6 HB5.out.size (by simp)
       clear hg6 hz6))
    exact ret_row rfl w.heap.size 37 (arrK .u8 (treeS l)) (.array 32 5) rfl HD6.out (by kernel_rfl) rfl (info32 lt.out) rfl ⟨rfl, HB6⟩
  have hpos : 0 < m := by omega
  obtain ⟨b, off, rfl, hb, hcell⟩ := Cells.addr HA.out (by rw [bytesV_length, HL.out.flat_length, Hl.out]; omega)
  clear hcell
  by_cases h1 : m = 1
  · have H1 := Lib.hid h1
    have hq0 : ((m : Int) == 0) = false := by simp; omega
    have hq1 : ((m : Int) == 1) = true := by simp; omega
    have hmI : (0 : Int) < (m : Int) := by omega
    obtain ⟨d, hd⟩ : ∃ d, l = [d] := by
      match l, Hl.out.trans h1 with
      | [d], _ => exact ⟨d, rfl⟩
    have HD := Lib.hid (show IsD d from HL.out d (by rw [hd]; simp))
    have el := Lib.hid (show leafS d = treeS l by rw [hd, treeS_one])
    have HC := Lib.hid (show Cells w (some ⟨b, off, none⟩) (bytesV d) by
      have := HA.out
      rw [hd] at this
      simpa using this)
    clear h0 h1 hd HA
    go_enter Try.func40, Try.ntmps40
    go_wp2_with (
      (refine wpList_load_mid rfl 37 (.tmp 12) rfl b off rfl (d.map fun (n : Nat) => Value.int .u8 (n : Int)) (.array 32 5) (range_cells (HC.out.alloc _)) (by kernel_rfl) rfl (dV_info HD.out.1) ?_))
    generalize hge : World.alloc _ _ = w0
    have HR0 := Lib.hid (show Blk w0 w.heap.size 37 (arrK .u8 z32) by subst hge; exact Blk.new w 37 (arrK .u8 z32))
    have HB0 := Lib.hid (show Below w.heap.size w w0 by subst hge; exact (Below.refl _ _).alloc (Nat.le_refl _) _)
    clear hge
    refine (leaf_any d w0 HD.out).mono ?_
    rintro e w5 ⟨he, hb5⟩
    have he : e = .returned (.agg (arrK .u8 (treeS l))) := by rw [← el.out]; first | exact he | (rw [leafS_eq]; exact he)
    subst he
    have HR5 := Lib.hid (HR0.out.below hb5)
    have HB5 := Lib.hid (HB0.out.trans (hb5.mono HB0.out.size))
    clear hb5
    go_wp2_with (
      (refine wpList_put_blk rfl 37 (.tmp 2) (.tmp 14) rfl w.heap.size (arrK .u8 (treeS l)) rfl rfl 37 (arrK .u8 z32) HR5.out (info32 lt.out) (by rw [len32 lt.out, len32 z32_length]) (arrK_all _ _) ?_
       intro w6 HD6 hg6 hz6
       have HD6 := Lib.hid HD6
       have HB6 := below_grown HB5.out hg6 HB5.out.size (by simp)
       clear hg6 hz6))
    exact ret_row rfl w.heap.size 37 (arrK .u8 (treeS l)) (.array 32 5) rfl HD6.out (by kernel_rfl) rfl (info32 lt.out) rfl ⟨rfl, HB6⟩
  have h2 : 2 ≤ m := by omega
  have hq0 : ((m : Int) == 0) = false := by simp; omega
  have hq1 : ((m : Int) == 1) = false := by simp; omega
  have hk1 := half_lt h2
  have hk2 := half_pos m
  have HH := Lib.hid (fun W => half_any m W h2 (by omega))
  have hs := treeS_two (l := l) (by rw [Hl.out]; exact h2)
  rw [Hl.out] at hs
  generalize halfN m = k at *
  have Hs := Lib.hid hs
  clear hs h0 h1
  have T1 := Lib.hid (IH.out k hk1 (l.take k) (some ⟨b, off, none⟩) c)
  have T2 := Lib.hid (IH.out (m - k) (by omega) (l.drop k) (some ⟨b, off + k * 32, none⟩) (c - k))
  have C1 := Lib.hid (show Cells w (some ⟨b, off, none⟩) (bytesV (l.take k).flatten) by
    rw [HL.out.flat_take k]
    have := HA.out.take_ (k * 32)
    rwa [show (bytesV l.flatten).take (k * 32) = bytesV (l.flatten.take (k * 32)) by unfold bytesV; rw [List.map_take]] at this)
  have C2 := Lib.hid (show Cells w (some ⟨b, off + k * 32, none⟩) (bytesV (l.drop k).flatten) by
    rw [HL.out.flat_drop k, bytesV_drop]
    exact HA.out.drop_ (k * 32))
  have d1 := Lib.hid (treeS_isD (l.take k))
  have d2 := Lib.hid (treeS_isD (l.drop k))
  have hkm : (k : Int) ≤ (m : Int) := by omega
  have hkc : (k : Int) ≤ (c : Int) := by omega
  have hmc' : (m : Int) ≤ (c : Int) := by omega
  have hck : ¬ c = k := by omega
  have hck2 : (c == k) = false := by simp; omega
  clear HA
  go_enter Try.func40, Try.ntmps40
  go_wp2_with (fail)
  generalize hge : World.alloc _ _ = w1
  have HR := Lib.hid (show Blk w1 w.heap.size 37 (arrK .u8 z32) by subst hge; exact Blk.new w 37 (arrK .u8 z32))
  have HB := Lib.hid (show Below w.heap.size w w1 by subst hge; exact (Below.refl _ _).alloc (Nat.le_refl _) _)
  clear hge
  refine (HH.out _).mono ?_
  rintro e w' ⟨rfl, rfl⟩
  go_wp2_with (fail)
  have hR1 : w.heap.size < w1.heap.size := HR.out.lt
  have HS1 : SR w1 w.heap.size w1 := SR.start HR.out (len32 z32_length)
  have hln := dV_length lt.out
  have hin := dV_info lt.out
  have hon := dV_one (treeS l)
  have C1 := Lib.hid (C1.out.below HB.out)
  have C2 := Lib.hid (C2.out.below HB.out)
  go_region_held3 (fun W => SR w1 w.heap.size W) (first | assumption | exact SR.drew (by assumption) | exact SR.alloc (by assumption) _ | exact SR.setCells (by assumption) _ hln)
    (first
      | (go_at_call 69; refine (node_any (treeS (l.take k)) (treeS (l.drop k)) _ d1.out d2.out).mono ?_; rintro e w5 ⟨he, hb5⟩; have he : e = .returned (.agg (arrK .u8 (treeS l))) := by { rw [Hs.out]; exact he }; subst he; have hb5' : SR w1 w.heap.size w5 := SR.below (by assumption) hb5; have ht5 := SR.there hb5')
      | (go_at_call 40; refine (T1.out _ (by rw [List.length_take, Hl.out]; omega) (HL.out.take k) (by omega) (by omega) (SR.cells (by assumption) C1.out hb)).mono ?_; rintro e w3 ⟨rfl, hb3⟩; have hb3' : SR w1 w.heap.size w3 := SR.below (by assumption) hb3; clear T1)
      | (go_at_call 40; refine (T2.out _ (by rw [List.length_drop, Hl.out]) (HL.out.drop k) (by omega) (by omega) (SR.cells (by assumption) C2.out hb)).mono ?_; rintro e w4 ⟨rfl, hb4⟩; have hb4' : SR w1 w.heap.size w4 := SR.below (by assumption) hb4)
      | (fail))
  go_wp2_with (fail)
  have HBf := HB.out.trans (SR.base (by assumption : SR w1 w.heap.size (w5.setCells w.heap.size 0 _)))
  exact ret_row rfl w.heap.size 37 (arrK .u8 (treeS l)) (.array 32 5) rfl (SR.digest hb5' _ lt.out) (by kernel_rfl) rfl (info32 lt.out) rfl ⟨rfl, HBf⟩
set_option maxRecDepth 100000 in
set_option maxHeartbeats 4000000 in
theorem rtree_any : ∀ (m : Nat) (l : List (List Nat)) (A : Option Addr) (c : Nat) (w : World), l.length = m → IsL l → m ≤ c → m ≤ 1000000 → Cells w A (bytesV l.flatten) →
    Calls Try.prog 37 #[.slice A m c] w fun e w' => e = .returned (.agg (arrK .u8 (treeS l))) ∧ Below w.heap.size w w' := by
  intro m
  induction m using Nat.strongRecOn with
  | _ m ih =>
  intro l A c w hl hL hmc hm hA
  have IH := Lib.hid ih
  have Hl := Lib.hid hl
  have HL := Lib.hid hL
  have HA := Lib.hid hA
  have lt := Lib.hid (treeS_isD l).1
  clear ih hl hL hA
  have fin : ∀ (w5 : World), Below w.heap.size w w5 → ∀ (v : List Nat), True := fun _ _ _ => trivial
  clear fin
  by_cases h0 : m = 0
  · have H0 := Lib.hid h0
    have hq : ((m : Int) == 0) = true := by simp; omega
    have el := Lib.hid (show tagS emptyT [] = treeS l by rw [List.eq_nil_of_length_eq_zero (Hl.out.trans h0), treeS_nil])
    clear h0
    go_enter Try.func37, Try.ntmps37
    go_wp2_with (fail)
    generalize hge : World.alloc _ _ = w0
    have HR0 := Lib.hid (show Blk w0 w.heap.size 37 (arrK .u8 z32) by subst hge; exact Blk.new w 37 (arrK .u8 z32))
    have HB0 := Lib.hid (show Below w.heap.size w w0 by subst hge; exact (Below.refl _ _).alloc (Nat.le_refl _) _)
    clear hge
    refine (rtagged_any ⟨#[101, 109, 112, 116, 121]⟩ none 0 0 [] w0 (.inl (by unfold bytesV; rfl)) rfl (by omega) (fun _ => by simp) (by decide)).mono ?_
    rintro e w5 ⟨he, hb5⟩
    have he : e = .returned (.agg (arrK .u8 (treeS l))) := by rw [← el.out, emptyT_eq]; exact he
    subst he
    have HR5 := Lib.hid (HR0.out.below hb5)
    have HB5 := Lib.hid (HB0.out.trans (hb5.mono HB0.out.size))
    clear hb5
    go_wp2_with (
      (refine wpList_put_blk rfl 37 (.tmp 2) (.tmp 7) rfl w.heap.size (arrK .u8 (treeS l)) rfl rfl 37 (arrK .u8 z32) HR5.out (info32 lt.out) (by rw [len32 lt.out, len32 z32_length]) (arrK_all _ _) ?_
       intro w6 HD6 hg6 hz6
       have HD6 := Lib.hid HD6
       have HB6 := below_grown HB5.out hg6 HB5.out.size (by simp)
       clear hg6 hz6))
    exact ret_row rfl w.heap.size 37 (arrK .u8 (treeS l)) (.array 32 5) rfl HD6.out (by kernel_rfl) rfl (info32 lt.out) rfl ⟨rfl, HB6⟩
  have hpos : 0 < m := by omega
  obtain ⟨b, off, rfl, hb, hcell⟩ := Cells.addr HA.out (by rw [bytesV_length, HL.out.flat_length, Hl.out]; omega)
  clear hcell
  by_cases h1 : m = 1
  · have H1 := Lib.hid h1
    have hq0 : ((m : Int) == 0) = false := by simp; omega
    have hq1 : ((m : Int) == 1) = true := by simp; omega
    have hmI : (0 : Int) < (m : Int) := by omega
    obtain ⟨d, hd⟩ : ∃ d, l = [d] := by
      match l, Hl.out.trans h1 with
      | [d], _ => exact ⟨d, rfl⟩
    have HD := Lib.hid (show IsD d from HL.out d (by rw [hd]; simp))
    have el := Lib.hid (show leafS d = treeS l by rw [hd, treeS_one])
    have HC := Lib.hid (show Cells w (some ⟨b, off, none⟩) (bytesV d) by
      have := HA.out
      rw [hd] at this
      simpa using this)
    clear h0 h1 hd HA
    go_enter Try.func37, Try.ntmps37
    go_wp2_with (fail)
    generalize hge : World.alloc _ _ = w0
    have HR0 := Lib.hid (show Blk w0 w.heap.size 37 (arrK .u8 z32) by subst hge; exact Blk.new w 37 (arrK .u8 z32))
    have HB0 := Lib.hid (show Below w.heap.size w w0 by subst hge; exact (Below.refl _ _).alloc (Nat.le_refl _) _)
    clear hge
    refine (rtagged_any ⟨#[108, 101, 97, 102]⟩ (some ⟨b, off, none⟩) 32 32 d w0 (HC.out.below HB0.out) HD.out.1 (by omega) HD.out.2 (by decide)).mono ?_
    rintro e w5 ⟨he, hb5⟩
    have he : e = .returned (.agg (arrK .u8 (treeS l))) := by rw [← el.out]; first | exact he | (rw [leafS_eq]; exact he)
    subst he
    have HR5 := Lib.hid (HR0.out.below hb5)
    have HB5 := Lib.hid (HB0.out.trans (hb5.mono HB0.out.size))
    clear hb5
    go_wp2_with (
      (refine wpList_put_blk rfl 37 (.tmp 2) (.tmp 14) rfl w.heap.size (arrK .u8 (treeS l)) rfl rfl 37 (arrK .u8 z32) HR5.out (info32 lt.out) (by rw [len32 lt.out, len32 z32_length]) (arrK_all _ _) ?_
       intro w6 HD6 hg6 hz6
       have HD6 := Lib.hid HD6
       have HB6 := below_grown HB5.out hg6 HB5.out.size (by simp)
       clear hg6 hz6))
    exact ret_row rfl w.heap.size 37 (arrK .u8 (treeS l)) (.array 32 5) rfl HD6.out (by kernel_rfl) rfl (info32 lt.out) rfl ⟨rfl, HB6⟩
  have h2 : 2 ≤ m := by omega
  have hq0 : ((m : Int) == 0) = false := by simp; omega
  have hq1 : ((m : Int) == 1) = false := by simp; omega
  have hk1 := half_lt h2
  have hk2 := half_pos m
  have HH := Lib.hid (fun W => rhalf_any m W h2 (by omega))
  have hs := treeS_two (l := l) (by rw [Hl.out]; exact h2)
  rw [Hl.out] at hs
  generalize halfN m = k at *
  have Hs := Lib.hid hs
  clear hs h0 h1
  have T1 := Lib.hid (IH.out k hk1 (l.take k) (some ⟨b, off, none⟩) c)
  have T2 := Lib.hid (IH.out (m - k) (by omega) (l.drop k) (some ⟨b, off + k * 32, none⟩) (c - k))
  have C1 := Lib.hid (show Cells w (some ⟨b, off, none⟩) (bytesV (l.take k).flatten) by
    rw [HL.out.flat_take k]
    have := HA.out.take_ (k * 32)
    rwa [show (bytesV l.flatten).take (k * 32) = bytesV (l.flatten.take (k * 32)) by unfold bytesV; rw [List.map_take]] at this)
  have C2 := Lib.hid (show Cells w (some ⟨b, off + k * 32, none⟩) (bytesV (l.drop k).flatten) by
    rw [HL.out.flat_drop k, bytesV_drop]
    exact HA.out.drop_ (k * 32))
  have d1 := Lib.hid (treeS_isD (l.take k))
  have d2 := Lib.hid (treeS_isD (l.drop k))
  have hkm : (k : Int) ≤ (m : Int) := by omega
  have hkc : (k : Int) ≤ (c : Int) := by omega
  have hmc' : (m : Int) ≤ (c : Int) := by omega
  have hck : ¬ c = k := by omega
  have hck2 : (c == k) = false := by simp; omega
  clear HA
  go_enter Try.func37, Try.ntmps37
  go_wp2_with (fail)
  generalize hge : World.alloc _ _ = w1
  have HR := Lib.hid (show Blk w1 w.heap.size 37 (arrK .u8 z32) by subst hge; exact Blk.new w 37 (arrK .u8 z32))
  have HB := Lib.hid (show Below w.heap.size w w1 by subst hge; exact (Below.refl _ _).alloc (Nat.le_refl _) _)
  clear hge
  refine (HH.out _).mono ?_
  rintro e w' ⟨rfl, rfl⟩
  go_wp2_with (fail)
  have hR1 : w.heap.size < w1.heap.size := HR.out.lt
  have HS1 : SR w1 w.heap.size w1 := SR.start HR.out (len32 z32_length)
  have hln := dV_length lt.out
  have hin := dV_info lt.out
  have hon := dV_one (treeS l)
  have C1 := Lib.hid (C1.out.below HB.out)
  have C2 := Lib.hid (C2.out.below HB.out)
  go_region_held3 (fun W => SR w1 w.heap.size W) (first | assumption | exact SR.drew (by assumption) | exact SR.alloc (by assumption) _ | exact SR.setCells (by assumption) _ hln)
    (first
      | (go_at_call 66; refine (rnode_any (treeS (l.take k)) (treeS (l.drop k)) _ d1.out d2.out).mono ?_; rintro e w5 ⟨he, hb5⟩; have he : e = .returned (.agg (arrK .u8 (treeS l))) := by { rw [Hs.out]; exact he }; subst he; have hb5' : SR w1 w.heap.size w5 := SR.below (by assumption) hb5; have ht5 := SR.there hb5')
      | (go_at_call 37; refine (T1.out _ (by rw [List.length_take, Hl.out]; omega) (HL.out.take k) (by omega) (by omega) (SR.cells (by assumption) C1.out hb)).mono ?_; rintro e w3 ⟨rfl, hb3⟩; have hb3' : SR w1 w.heap.size w3 := SR.below (by assumption) hb3; clear T1)
      | (go_at_call 37; refine (T2.out _ (by rw [List.length_drop, Hl.out]) (HL.out.drop k) (by omega) (by omega) (SR.cells (by assumption) C2.out hb)).mono ?_; rintro e w4 ⟨rfl, hb4⟩; have hb4' : SR w1 w.heap.size w4 := SR.below (by assumption) hb4)
      | (fail))
  go_wp2_with (fail)
  have HBf := HB.out.trans (SR.base (by assumption : SR w1 w.heap.size (w5.setCells w.heap.size 0 _)))
  exact ret_row rfl w.heap.size 37 (arrK .u8 (treeS l)) (.array 32 5) rfl (SR.digest hb5' _ lt.out) (by kernel_rfl) rfl (info32 lt.out) rfl ⟨rfl, HBf⟩
end Go.Proofs.Ytcijhakofoklcaa
