/- Walks and plain laws that the statement rests on: TreeP, Tree. -/
import Derived.Deep.MidRow
import Derived.Lib.BitFns
import Derived.Test.YtkflpoiobpblhaaGreatP00
import Derived.Test.YtkflpoiobpblhaaGreatP08
import Derived.Test.YtkflpoiobpblhaaGreatP11
namespace Go.Proofs.YtkflpoiobpblhaaGreat
def halfN (n : Nat) : Nat := 2 ^ (n - 1).log2
theorem half_lt {n : Nat} (h : 2 ≤ n) : halfN n < n := by
 have := Nat.log2_self_le (n := n - 1) (by omega)
 unfold halfN; omega
theorem half_pos (n : Nat) : 1 ≤ halfN n := Nat.one_le_two_pow
theorem half_ge {n : Nat} (h : 2 ≤ n) : n ≤ 2 * halfN n := by
 have := Nat.lt_log2_self (n := n - 1)
 unfold halfN
 rw [Nat.pow_succ] at this
 omega
theorem pow_unique {a b n : Nat} (h1 : 2 ^ a < n) (h2 : n ≤ 2 * 2 ^ a) (h3 : 2 ^ b < n) (h4 : n ≤ 2 * 2 ^ b) : a = b := by
 rcases Nat.lt_trichotomy a b with h | h | h
 · have : 2 ^ (a + 1) ≤ 2 ^ b := Nat.pow_le_pow_right (by omega) h
   rw [Nat.pow_succ] at this; omega
 · exact h
 · have : 2 ^ (b + 1) ≤ 2 ^ a := Nat.pow_le_pow_right (by omega) h
   rw [Nat.pow_succ] at this; omega
theorem half_unique {a n : Nat} (hn : 2 ≤ n) (h1 : 2 ^ a < n) (h2 : n ≤ 2 * 2 ^ a) : 2 ^ a = halfN n := by
 have := pow_unique h1 h2 (by have := half_lt hn; unfold halfN at this; exact this) (by have := half_ge hn; unfold halfN at this; exact this)
 unfold halfN
 rw [← this]
theorem bitAux_spec : ∀ f x, x < 2 ^ f → x < 2 ^ Lib.bitLenAux f x ∧ (0 < x → 2 ^ (Lib.bitLenAux f x - 1) ≤ x ∧ 0 < Lib.bitLenAux f x)
 | 0, x, h => by
   have : x = 0 := by simpa using h
   subst this
   exact ⟨by simp [Lib.bitLenAux], by omega⟩
 | f + 1, x, h => by
   by_cases hx : x = 0
   · subst hx
     exact ⟨by simp [Lib.bitLenAux], by omega⟩
   · obtain ⟨h1, h2⟩ := bitAux_spec f (x / 2) (by rw [Nat.pow_succ] at h; omega)
     have e : Lib.bitLenAux (f + 1) x = 1 + Lib.bitLenAux f (x / 2) := by simp [Lib.bitLenAux, hx]
     rw [e]
     refine ⟨by rw [Nat.add_comm, Nat.pow_succ]; omega, fun _ => ⟨?_, by omega⟩⟩
     rcases Nat.eq_zero_or_pos (x / 2) with h0 | h0
     · rw [h0]
       have : Lib.bitLenAux f 0 = 0 := by cases f <;> simp [Lib.bitLenAux]
       rw [this]; simp; omega
     · obtain ⟨h3, h4⟩ := h2 h0
       obtain ⟨m, hm⟩ : ∃ m, Lib.bitLenAux f (x / 2) = m + 1 := ⟨Lib.bitLenAux f (x / 2) - 1, by omega⟩
       rw [hm] at h3 ⊢
       rw [show 1 + (m + 1) - 1 = m + 1 by omega, Nat.pow_succ]
       rw [Nat.add_sub_cancel] at h3
       omega
theorem half_bits {n : Nat} (h : 2 ≤ n) (hn : n ≤ 18446744073709551615) : 2 ^ (Lib.bitLen (n - 1) - 1) = halfN n ∧ 1 ≤ Lib.bitLen (n - 1) := by
 obtain ⟨h1, h2⟩ := bitAux_spec 64 (n - 1) (by rw [show (2 : Nat) ^ 64 = 18446744073709551616 from rfl]; omega)
 obtain ⟨h3, h4⟩ := h2 (by omega)
 refine ⟨half_unique h (by show 2 ^ (Lib.bitLenAux 64 (n - 1) - 1) < n; omega) ?_, h4⟩
 obtain ⟨m, hm⟩ : ∃ m, Lib.bitLenAux 64 (n - 1) = m + 1 := ⟨Lib.bitLenAux 64 (n - 1) - 1, by omega⟩
 show n ≤ 2 * 2 ^ (Lib.bitLenAux 64 (n - 1) - 1)
 rw [hm] at h1 ⊢
 rw [Nat.add_sub_cancel]
 rw [Nat.pow_succ] at h1
 omega
attribute [irreducible] halfN
def treeS (l : List (List Nat)) : List Nat :=
 if _h : 2 ≤ l.length then nodeS (treeS (l.take (halfN l.length))) (treeS (l.drop (halfN l.length)))
 else match l with
  | [] => tagS emptyT []
  | d :: _ => leafS d
termination_by l.length
decreasing_by
 · simp only [List.length_take]; have := half_lt ‹_›; omega
 · simp only [List.length_drop]; have := half_pos l.length; omega
theorem emptyT_eq : emptyT = strL ⟨#[101, 109, 112, 116, 121]⟩ := by unfold emptyT; rfl
theorem leafS_eq (d : List Nat) : leafS d = tagS (strL ⟨#[108, 101, 97, 102]⟩) d := by unfold leafS leafT; rfl
theorem treeS_nil : treeS [] = tagS emptyT [] := by rw [treeS]; simp
theorem treeS_one (d : List Nat) : treeS [d] = leafS d := by rw [treeS]; simp
theorem treeS_two {l : List (List Nat)} (h : 2 ≤ l.length) : treeS l = nodeS (treeS (l.take (halfN l.length))) (treeS (l.drop (halfN l.length))) := by
 rw [treeS]; simp [h]
theorem treeS_isD (l : List (List Nat)) : IsD (treeS l) := by
 rw [treeS]
 split
 · exact nodeS_isD _ _
 · split
   · exact tagS_isD _ _
   · exact leafS_isD _
def IsL (l : List (List Nat)) : Prop := ∀ d ∈ l, IsD d
theorem IsL.take {l : List (List Nat)} (h : IsL l) (k : Nat) : IsL (l.take k) := fun d hd => h d (List.mem_of_mem_take hd)
theorem IsL.drop {l : List (List Nat)} (h : IsL l) (k : Nat) : IsL (l.drop k) := fun d hd => h d (List.mem_of_mem_drop hd)
theorem IsL.flat_length {l : List (List Nat)} (h : IsL l) : l.flatten.length = l.length * 32 := by
 induction l with
 | nil => rfl
 | cons d l ih =>
   rw [List.flatten_cons, List.length_append, (h d (by simp)).1, ih (fun x hx => h x (by simp [hx])), List.length_cons]
   omega
theorem IsL.flat_drop {l : List (List Nat)} (h : IsL l) : ∀ k, (l.drop k).flatten = l.flatten.drop (k * 32) := by
 induction l with
 | nil => simp
 | cons d l ih =>
   intro k
   cases k with
   | zero => simp
   | succ k =>
     rw [List.drop_succ_cons, ih (fun x hx => h x (by simp [hx])) k, List.flatten_cons, List.drop_append]
     have h32 := (h d (by simp)).1
     rw [show d.drop ((k + 1) * 32) = [] from List.drop_of_length_le (by omega), h32, show (k + 1) * 32 - 32 = k * 32 by omega]
     simp
theorem IsL.flat_take {l : List (List Nat)} (h : IsL l) : ∀ k, (l.take k).flatten = l.flatten.take (k * 32) := by
 induction l with
 | nil => simp
 | cons d l ih =>
   intro k
   cases k with
   | zero => simp
   | succ k =>
     have h32 := (h d (by simp)).1
     rw [List.take_succ_cons, List.flatten_cons, ih (fun x hx => h x (by simp [hx])) k, List.flatten_cons, List.take_append]
     rw [show d.take ((k + 1) * 32) = d from List.take_of_length_le (by omega), h32, show (k + 1) * 32 - 32 = k * 32 by omega]
theorem IsL.flat_get {l : List (List Nat)} (h : IsL l) {k : Nat} {d : List Nat} (hk : l[k]? = some d) : (l.flatten.drop (k * 32)).take 32 = d := by
 rw [← h.flat_drop k]
 obtain ⟨hl, he⟩ := List.getElem?_eq_some_iff.1 hk
 rw [List.drop_eq_getElem_cons hl, he, List.flatten_cons, List.take_append, (h d (List.mem_of_getElem? hk)).1]
 rw [List.take_of_length_le (by rw [(h d (List.mem_of_getElem? hk)).1]; omega)]
 simp
end Go.Proofs.YtkflpoiobpblhaaGreat
namespace Go.Proofs.YtkflpoiobpblhaaGreat
open Go.RowKit
set_option maxHeartbeats 400000 in
theorem half_any (n : Nat) (w : World) (h2 : 2 ≤ n) (hn : n ≤ 4000000000000) :
    Calls Tryz.prog 92 #[.int .i64 n] w fun e w' => e = .returned (.int .i64 (halfN n : Nat)) ∧ w = w' := by
 obtain ⟨hb, hb1⟩ := half_bits h2 (by omega)
 obtain ⟨m, hm⟩ : ∃ m, Lib.bitLen (n - 1) = m + 1 := ⟨Lib.bitLen (n - 1) - 1, by omega⟩
 rw [hm, Nat.add_sub_cancel] at hb
 have hlt := half_lt h2
 have hm62 : m ≤ 62 := by
  rcases Nat.lt_or_ge 62 m with h | h
  · have : 2 ^ 63 ≤ 2 ^ m := Nat.pow_le_pow_right (by omega) h
    rw [show (2 : Nat) ^ 63 = 9223372036854775808 from rfl] at this
    omega
  · exact h
 have HL := Lib.hid (show ∀ W : World, Calls Tryz.prog 116 #[.int .u64 ((n : Int) - 1)] W fun e w' => e = .returned (.int .i64 ((m : Int) + 1)) ∧ w' = W from fun W => by
  have := Tryz.bits_Len ((n : Int) - 1) W (by omega) (by omega)
  rw [show ((n : Int) - 1).toNat = n - 1 by omega, hm] at this
  exact this)
 have Hb := Lib.hid hb
 have hsh : IntKind.i64.wrap (2 ^ m) = ((2 ^ m : Nat) : Int) := by
  rw [show ((2 : Int) ^ m) = ((2 ^ m : Nat) : Int) by simp]
  exact IntWalk.i64_in _ (by rw [hb]; omega)
 have hw : IntKind.u64.wrap ((n : Int) - 1) = (n : Int) - 1 := by rw [IntKind.wrap_u64]; omega
 clear hb hm hb1
 go_enter Tryz.func92, Tryz.ntmps92
 go_wp2_with (fail)
 refine (HL.out _).mono ?_
 rintro e w' ⟨rfl, rfl⟩
 go_wp2_with (fail)
 go_ret
 exact ⟨ret_int (by rw [← Hb.out]; simp), rfl⟩
set_option maxHeartbeats 400000 in
theorem rhalf_any (n : Nat) (w : World) (h2 : 2 ≤ n) (hn : n ≤ 4000000000000) :
    Calls Tryz.prog 99 #[.int .i64 n] w fun e w' => e = .returned (.int .i64 (halfN n : Nat)) ∧ w = w' := by
 go_enter Tryz.func99, Tryz.ntmps99
 go_wp2_with (fail)
 go_loop [3] (fun v => ∃ k j : Nat, v = .int .i64 k ∧ Hid (k = 2 ^ j) ∧ k < n ∧ 1 ≤ k) (fun v => n - (intOf v).toNat)
 case atStart => exact ⟨1, 0, rfl, rfl, by omega, by omega⟩
 case round =>
  obtain ⟨k, j, rfl, hk, hkn, hk1⟩ := hrel
  by_cases hlt : 2 * k < n
  · have hd : decide (2 * (k : Int) < (n : Int)) = true := by simp; omega
    have hkI : (k : Int) ≤ 4000000000000 := by omega
    go_wp2_with (fail)
    go_round
    case rel => exact ⟨2 * k, j + 1, by go_num, by show _ = _; rw [Nat.pow_succ, hk.out]; omega, by omega, by omega⟩
    case measure => simp [intOf]; omega
  · have hd : decide (2 * (k : Int) < (n : Int)) = false := by simp; omega
    have hkI : (k : Int) ≤ 4000000000000 := by omega
    go_wp2_with (fail)
    go_ret
    exact ⟨ret_int (by rw [← half_unique h2 (a := j) (by rw [← hk.out]; exact hkn) (by rw [← hk.out]; omega), hk.out]), rfl⟩
theorem range_cells {w : World} {b off : Nat} {d : List Nat} (h : Cells w (some ⟨b, off, none⟩) (bytesV d)) : w.rangeAt b off (d.map fun (n : Nat) => Value.int .u8 (n : Int)) := fun j v hv => by
 have hv : (bytesV d)[j]? = some v := by unfold bytesV; exact hv
 rcases h with h | ⟨b', off', he, _, hc⟩
 · rw [h] at hv; cases hv
 · injection he with he
   injection he with h1 h2
   subst h1; subst h2
   exact hc j v hv
set_option maxRecDepth 100000 in
set_option maxHeartbeats 4000000 in
theorem tree_any : ∀ (m : Nat) (l : List (List Nat)) (A : Option Addr) (c : Nat) (w : World), l.length = m → IsL l → m ≤ c → m ≤ 1000000 → Cells w A (bytesV l.flatten) →
    Calls Tryz.prog 53 #[.slice A m c] w fun e w' => e = .returned (.agg (arrK .u8 (treeS l))) ∧ Below w.heap.size w w' := by
 intro m
 induction m using Nat.strongRecOn with
 | _ m ih =>
 intro l A c w hl hL hmc hm hA
 have IH := Lib.hid ih
 have Hl := Lib.hid hl
 have HL := Lib.hid hL
 have HA := Lib.hid hA
 have lt := Lib.hid (treeS_isD l).1
 clear ih hl hL hA
 have fin : ∀ (w5 : World), Below w.heap.size w w5 → ∀ (v : List Nat), True := fun _ _ _ => trivial
 clear fin
 by_cases h0 : m = 0
 · have H0 := Lib.hid h0
   have hq : ((m : Int) == 0) = true := by simp; omega
   have el := Lib.hid (show tagS emptyT [] = treeS l by rw [List.eq_nil_of_length_eq_zero (Hl.out.trans h0), treeS_nil])
   clear h0
   go_enter Tryz.func53, Tryz.ntmps53
   go_wp2_with (fail)
   generalize hge : World.alloc _ _ = w0
   have HR0 := Lib.hid (show Blk w0 w.heap.size 29 (arrK .u8 z32) by subst hge; exact Blk.new w 29 (arrK .u8 z32))
   have HB0 := Lib.hid (al1 hge)
   clear hge
   refine (tagged_any ⟨#[101, 109, 112, 116, 121]⟩ none 0 0 [] w0 (.inl (by unfold bytesV; rfl)) rfl (by omega) (fun _ => by simp) (by decide)).mono ?_
   rintro e w5 ⟨he, hb5⟩
   have he : e = .returned (.agg (arrK .u8 (treeS l))) := by rw [← el.out, emptyT_eq]; exact he
   subst he
   have HR5 := Lib.hid (HR0.out.below hb5)
   have HB5 := Lib.hid (HB0.out.trans (hb5.mono HB0.out.size))
   clear hb5
   go_wp2_with (
    (refine wpList_put_blk rfl 29 (.tmp 2) (.tmp 8) rfl w.heap.size (arrK .u8 (treeS l)) rfl rfl 29 (arrK .u8 z32) HR5.out (info32 lt.out) (by rw [len32 lt.out, len32 z32_length]) (arrK_all _ _) ?_
     intro w6 HD6 hg6 hz6
     have HD6 := Lib.hid HD6
     have HB6 := below_grown HB5.out hg6 HB5.out.size (by simp)
     clear hg6 hz6))
   exact ret_row rfl w.heap.size 29 (arrK .u8 (treeS l)) (.array 32 5) rfl HD6.out (by kernel_rfl) rfl (info32 lt.out) rfl ⟨rfl, HB6⟩
 have hpos : 0 < m := by omega
 obtain ⟨b, off, rfl, hb, hcell⟩ := Cells.addr HA.out (by rw [bytesV_length, HL.out.flat_length, Hl.out]; omega)
 clear hcell
 by_cases h1 : m = 1
 · have H1 := Lib.hid h1
   have hq0 : ((m : Int) == 0) = false := by simp; omega
   have hq1 : ((m : Int) == 1) = true := by simp; omega
   have hmI : (0 : Int) < (m : Int) := by omega
   obtain ⟨d, hd⟩ : ∃ d, l = [d] := by
    match l, Hl.out.trans h1 with
    | [d], _ => exact ⟨d, rfl⟩
   have HD := Lib.hid (show IsD d from HL.out d (by rw [hd]; simp))
   have el := Lib.hid (show leafS d = treeS l by rw [hd, treeS_one])
   have HC := Lib.hid (show Cells w (some ⟨b, off, none⟩) (bytesV d) by
    have := HA.out
    rw [hd] at this
    simpa using this)
   clear h0 h1 hd HA
   go_enter Tryz.func53, Tryz.ntmps53
   go_wp2_with (
    (refine wpList_load_mid rfl 29 (.tmp 12) rfl b off rfl (d.map fun (n : Nat) => Value.int .u8 (n : Int)) (.array 32 5) (range_cells (HC.out.alloc _)) (by kernel_rfl) rfl (dV_info HD.out.1) ?_))
   generalize hge : World.alloc _ _ = w0
   have HR0 := Lib.hid (show Blk w0 w.heap.size 29 (arrK .u8 z32) by subst hge; exact Blk.new w 29 (arrK .u8 z32))
   have HB0 := Lib.hid (al1 hge)
   clear hge
   refine (leaf_any d w0 HD.out).mono ?_
   rintro e w5 ⟨he, hb5⟩
   have he : e = .returned (.agg (arrK .u8 (treeS l))) := by rw [← el.out]; first | exact he | (rw [leafS_eq]; exact he)
   subst he
   have HR5 := Lib.hid (HR0.out.below hb5)
   have HB5 := Lib.hid (HB0.out.trans (hb5.mono HB0.out.size))
   clear hb5
   go_wp2_with (
    (refine wpList_put_blk rfl 29 (.tmp 2) (.tmp 14) rfl w.heap.size (arrK .u8 (treeS l)) rfl rfl 29 (arrK .u8 z32) HR5.out (info32 lt.out) (by rw [len32 lt.out, len32 z32_length]) (arrK_all _ _) ?_
     intro w6 HD6 hg6 hz6
     have HD6 := Lib.hid HD6
     have HB6 := below_grown HB5.out hg6 HB5.out.size (by simp)
     clear hg6 hz6))
   exact ret_row rfl w.heap.size 29 (arrK .u8 (treeS l)) (.array 32 5) rfl HD6.out (by kernel_rfl) rfl (info32 lt.out) rfl ⟨rfl, HB6⟩
 have h2 : 2 ≤ m := by omega
 have hq0 : ((m : Int) == 0) = false := by simp; omega
 have hq1 : ((m : Int) == 1) = false := by simp; omega
 have hk1 := half_lt h2
 have hk2 := half_pos m
 have HH := Lib.hid (fun W => half_any m W h2 (by omega))
 have hs := treeS_two (l := l) (by rw [Hl.out]; exact h2)
 rw [Hl.out] at hs
 generalize halfN m = k at *
 have Hs := Lib.hid hs
 clear hs h0 h1
 have T1 := Lib.hid (IH.out k hk1 (l.take k) (some ⟨b, off, none⟩) c)
 have T2 := Lib.hid (IH.out (m - k) (by omega) (l.drop k) (some ⟨b, off + k * 32, none⟩) (c - k))
 have C1 := Lib.hid (show Cells w (some ⟨b, off, none⟩) (bytesV (l.take k).flatten) by
  rw [HL.out.flat_take k]
  have := HA.out.take_ (k * 32)
  rwa [show (bytesV l.flatten).take (k * 32) = bytesV (l.flatten.take (k * 32)) by unfold bytesV; rw [List.map_take]] at this)
 have C2 := Lib.hid (show Cells w (some ⟨b, off + k * 32, none⟩) (bytesV (l.drop k).flatten) by
  rw [HL.out.flat_drop k, bytesV_drop]
  exact HA.out.drop_ (k * 32))
 have d1 := Lib.hid (treeS_isD (l.take k))
 have d2 := Lib.hid (treeS_isD (l.drop k))
 have hkm : (k : Int) ≤ (m : Int) := by omega
 have hkc : (k : Int) ≤ (c : Int) := by omega
 have hmc' : (m : Int) ≤ (c : Int) := by omega
 have hck : ¬ c = k := by omega
 have hck2 : (c == k) = false := by simp; omega
 clear HA
 go_enter Tryz.func53, Tryz.ntmps53
 go_wp2_with (fail)
 generalize hge : World.alloc _ _ = w1
 have HR := Lib.hid (show Blk w1 w.heap.size 29 (arrK .u8 z32) by subst hge; exact Blk.new w 29 (arrK .u8 z32))
 have HB := Lib.hid (al1 hge)
 clear hge
 refine (HH.out _).mono ?_
 rintro e w' ⟨rfl, rfl⟩
 go_wp2_with (fail)
 have hR1 : w.heap.size < w1.heap.size := HR.out.lt
 have HS1 : SR w1 w.heap.size w1 := SR.start HR.out (len32 z32_length)
 have hln := dV_length lt.out
 have hin := dV_info lt.out
 have hon := dV_one (treeS l)
 have C1 := Lib.hid (C1.out.below HB.out)
 have C2 := Lib.hid (C2.out.below HB.out)
 go_region_held3 (fun W => SR w1 w.heap.size W) (first | assumption | exact SR.drew (by assumption) | exact SR.alloc (by assumption) _ | exact SR.setCells (by assumption) _ hln)
  (first
    | (go_at_call 93; refine (node_any (treeS (l.take k)) (treeS (l.drop k)) _ d1.out d2.out).mono ?_; rintro e w5 ⟨he, hb5⟩; have he : e = .returned (.agg (arrK .u8 (treeS l))) := by { rw [Hs.out]; exact he }; subst he; have hb5' : SR w1 w.heap.size w5 := SR.below (by assumption) hb5; have ht5 := SR.there hb5')
    | (go_at_call 53; refine (T1.out _ (by rw [List.length_take, Hl.out]; omega) (HL.out.take k) (by omega) (by omega) (SR.cells (by assumption) C1.out hb)).mono ?_; rintro e w3 ⟨rfl, hb3⟩; have hb3' : SR w1 w.heap.size w3 := SR.below (by assumption) hb3; clear T1)
    | (go_at_call 53; refine (T2.out _ (by rw [List.length_drop, Hl.out]) (HL.out.drop k) (by omega) (by omega) (SR.cells (by assumption) C2.out hb)).mono ?_; rintro e w4 ⟨rfl, hb4⟩; have hb4' : SR w1 w.heap.size w4 := SR.below (by assumption) hb4)
    | (fail))
 go_wp2_with (fail)
 have HBf := HB.out.trans (SR.base (by assumption : SR w1 w.heap.size (w5.setCells w.heap.size 0 _)))
 exact ret_row rfl w.heap.size 29 (arrK .u8 (treeS l)) (.array 32 5) rfl (SR.digest hb5' _ lt.out) (by kernel_rfl) rfl (info32 lt.out) rfl ⟨rfl, HBf⟩
set_option maxRecDepth 100000 in
set_option maxHeartbeats 4000000 in
theorem rtree_any : ∀ (m : Nat) (l : List (List Nat)) (A : Option Addr) (c : Nat) (w : World), l.length = m → IsL l → m ≤ c → m ≤ 1000000 → Cells w A (bytesV l.flatten) →
    Calls Tryz.prog 65 #[.slice A m c] w fun e w' => e = .returned (.agg (arrK .u8 (treeS l))) ∧ Below w.heap.size w w' := by
 intro m
 induction m using Nat.strongRecOn with
 | _ m ih =>
 intro l A c w hl hL hmc hm hA
 have IH := Lib.hid ih
 have Hl := Lib.hid hl
 have HL := Lib.hid hL
 have HA := Lib.hid hA
 have lt := Lib.hid (treeS_isD l).1
 clear ih hl hL hA
 have fin : ∀ (w5 : World), Below w.heap.size w w5 → ∀ (v : List Nat), True := fun _ _ _ => trivial
 clear fin
 by_cases h0 : m = 0
 · have H0 := Lib.hid h0
   have hq : ((m : Int) == 0) = true := by simp; omega
   have el := Lib.hid (show tagS emptyT [] = treeS l by rw [List.eq_nil_of_length_eq_zero (Hl.out.trans h0), treeS_nil])
   clear h0
   go_enter Tryz.func65, Tryz.ntmps65
   go_wp2_with (fail)
   generalize hge : World.alloc _ _ = w0
   have HR0 := Lib.hid (show Blk w0 w.heap.size 29 (arrK .u8 z32) by subst hge; exact Blk.new w 29 (arrK .u8 z32))
   have HB0 := Lib.hid (al1 hge)
   clear hge
   refine (rtagged_any ⟨#[101, 109, 112, 116, 121]⟩ none 0 0 [] w0 (.inl (by unfold bytesV; rfl)) rfl (by omega) (fun _ => by simp) (by decide)).mono ?_
   rintro e w5 ⟨he, hb5⟩
   have he : e = .returned (.agg (arrK .u8 (treeS l))) := by rw [← el.out, emptyT_eq]; exact he
   subst he
   have HR5 := Lib.hid (HR0.out.below hb5)
   have HB5 := Lib.hid (HB0.out.trans (hb5.mono HB0.out.size))
   clear hb5
   go_wp2_with (
    (refine wpList_put_blk rfl 29 (.tmp 2) (.tmp 7) rfl w.heap.size (arrK .u8 (treeS l)) rfl rfl 29 (arrK .u8 z32) HR5.out (info32 lt.out) (by rw [len32 lt.out, len32 z32_length]) (arrK_all _ _) ?_
     intro w6 HD6 hg6 hz6
     have HD6 := Lib.hid HD6
     have HB6 := below_grown HB5.out hg6 HB5.out.size (by simp)
     clear hg6 hz6))
   exact ret_row rfl w.heap.size 29 (arrK .u8 (treeS l)) (.array 32 5) rfl HD6.out (by kernel_rfl) rfl (info32 lt.out) rfl ⟨rfl, HB6⟩
 have hpos : 0 < m := by omega
 obtain ⟨b, off, rfl, hb, hcell⟩ := Cells.addr HA.out (by rw [bytesV_length, HL.out.flat_length, Hl.out]; omega)
 clear hcell
 by_cases h1 : m = 1
 · have H1 := Lib.hid h1
   have hq0 : ((m : Int) == 0) = false := by simp; omega
   have hq1 : ((m : Int) == 1) = true := by simp; omega
   have hmI : (0 : Int) < (m : Int) := by omega
   obtain ⟨d, hd⟩ : ∃ d, l = [d] := by
    match l, Hl.out.trans h1 with
    | [d], _ => exact ⟨d, rfl⟩
   have HD := Lib.hid (show IsD d from HL.out d (by rw [hd]; simp))
   have el := Lib.hid (show leafS d = treeS l by rw [hd, treeS_one])
   have HC := Lib.hid (show Cells w (some ⟨b, off, none⟩) (bytesV d) by
    have := HA.out
    rw [hd] at this
    simpa using this)
   clear h0 h1 hd HA
   go_enter Tryz.func65, Tryz.ntmps65
   go_wp2_with (fail)
   generalize hge : World.alloc _ _ = w0
   have HR0 := Lib.hid (show Blk w0 w.heap.size 29 (arrK .u8 z32) by subst hge; exact Blk.new w 29 (arrK .u8 z32))
   have HB0 := Lib.hid (al1 hge)
   clear hge
   refine (rtagged_any ⟨#[108, 101, 97, 102]⟩ (some ⟨b, off, none⟩) 32 32 d w0 (HC.out.below HB0.out) HD.out.1 (by omega) HD.out.2 (by decide)).mono ?_
   rintro e w5 ⟨he, hb5⟩
   have he : e = .returned (.agg (arrK .u8 (treeS l))) := by rw [← el.out]; first | exact he | (rw [leafS_eq]; exact he)
   subst he
   have HR5 := Lib.hid (HR0.out.below hb5)
   have HB5 := Lib.hid (HB0.out.trans (hb5.mono HB0.out.size))
   clear hb5
   go_wp2_with (
    (refine wpList_put_blk rfl 29 (.tmp 2) (.tmp 14) rfl w.heap.size (arrK .u8 (treeS l)) rfl rfl 29 (arrK .u8 z32) HR5.out (info32 lt.out) (by rw [len32 lt.out, len32 z32_length]) (arrK_all _ _) ?_
     intro w6 HD6 hg6 hz6
     have HD6 := Lib.hid HD6
     have HB6 := below_grown HB5.out hg6 HB5.out.size (by simp)
     clear hg6 hz6))
   exact ret_row rfl w.heap.size 29 (arrK .u8 (treeS l)) (.array 32 5) rfl HD6.out (by kernel_rfl) rfl (info32 lt.out) rfl ⟨rfl, HB6⟩
 have h2 : 2 ≤ m := by omega
 have hq0 : ((m : Int) == 0) = false := by simp; omega
 have hq1 : ((m : Int) == 1) = false := by simp; omega
 have hk1 := half_lt h2
 have hk2 := half_pos m
 have HH := Lib.hid (fun W => rhalf_any m W h2 (by omega))
 have hs := treeS_two (l := l) (by rw [Hl.out]; exact h2)
 rw [Hl.out] at hs
 generalize halfN m = k at *
 have Hs := Lib.hid hs
 clear hs h0 h1
 have T1 := Lib.hid (IH.out k hk1 (l.take k) (some ⟨b, off, none⟩) c)
 have T2 := Lib.hid (IH.out (m - k) (by omega) (l.drop k) (some ⟨b, off + k * 32, none⟩) (c - k))
 have C1 := Lib.hid (show Cells w (some ⟨b, off, none⟩) (bytesV (l.take k).flatten) by
  rw [HL.out.flat_take k]
  have := HA.out.take_ (k * 32)
  rwa [show (bytesV l.flatten).take (k * 32) = bytesV (l.flatten.take (k * 32)) by unfold bytesV; rw [List.map_take]] at this)
 have C2 := Lib.hid (show Cells w (some ⟨b, off + k * 32, none⟩) (bytesV (l.drop k).flatten) by
  rw [HL.out.flat_drop k, bytesV_drop]
  exact HA.out.drop_ (k * 32))
 have d1 := Lib.hid (treeS_isD (l.take k))
 have d2 := Lib.hid (treeS_isD (l.drop k))
 have hkm : (k : Int) ≤ (m : Int) := by omega
 have hkc : (k : Int) ≤ (c : Int) := by omega
 have hmc' : (m : Int) ≤ (c : Int) := by omega
 have hck : ¬ c = k := by omega
 have hck2 : (c == k) = false := by simp; omega
 clear HA
 go_enter Tryz.func65, Tryz.ntmps65
 go_wp2_with (fail)
 generalize hge : World.alloc _ _ = w1
 have HR := Lib.hid (show Blk w1 w.heap.size 29 (arrK .u8 z32) by subst hge; exact Blk.new w 29 (arrK .u8 z32))
 have HB := Lib.hid (al1 hge)
 clear hge
 refine (HH.out _).mono ?_
 rintro e w' ⟨rfl, rfl⟩
 go_wp2_with (fail)
 have hR1 : w.heap.size < w1.heap.size := HR.out.lt
 have HS1 : SR w1 w.heap.size w1 := SR.start HR.out (len32 z32_length)
 have hln := dV_length lt.out
 have hin := dV_info lt.out
 have hon := dV_one (treeS l)
 have C1 := Lib.hid (C1.out.below HB.out)
 have C2 := Lib.hid (C2.out.below HB.out)
 go_region_held3 (fun W => SR w1 w.heap.size W) (first | assumption | exact SR.drew (by assumption) | exact SR.alloc (by assumption) _ | exact SR.setCells (by assumption) _ hln)
  (first
    | (go_at_call 100; refine (rnode_any (treeS (l.take k)) (treeS (l.drop k)) _ d1.out d2.out).mono ?_; rintro e w5 ⟨he, hb5⟩; have he : e = .returned (.agg (arrK .u8 (treeS l))) := by { rw [Hs.out]; exact he }; subst he; have hb5' : SR w1 w.heap.size w5 := SR.below (by assumption) hb5; have ht5 := SR.there hb5')
    | (go_at_call 65; refine (T1.out _ (by rw [List.length_take, Hl.out]; omega) (HL.out.take k) (by omega) (by omega) (SR.cells (by assumption) C1.out hb)).mono ?_; rintro e w3 ⟨rfl, hb3⟩; have hb3' : SR w1 w.heap.size w3 := SR.below (by assumption) hb3; clear T1)
    | (go_at_call 65; refine (T2.out _ (by rw [List.length_drop, Hl.out]) (HL.out.drop k) (by omega) (by omega) (SR.cells (by assumption) C2.out hb)).mono ?_; rintro e w4 ⟨rfl, hb4⟩; have hb4' : SR w1 w.heap.size w4 := SR.below (by assumption) hb4)
    | (fail))
 go_wp2_with (fail)
 have HBf := HB.out.trans (SR.base (by assumption : SR w1 w.heap.size (w5.setCells w.heap.size 0 _)))
 exact ret_row rfl w.heap.size 29 (arrK .u8 (treeS l)) (.array 32 5) rfl (SR.digest hb5' _ lt.out) (by kernel_rfl) rfl (info32 lt.out) rfl ⟨rfl, HBf⟩
end Go.Proofs.YtkflpoiobpblhaaGreat
