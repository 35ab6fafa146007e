/- Walks and plain laws that the statement rests on: Sig9, Sig10, SigR, SigR2, SigR3, SigR4, SigR6. -/
import Derived.BigGuardPart
import Derived.Great.BuildSlice
import Derived.Test.YtkflpoiobpblhaaGreatP00
import Derived.Test.YtkflpoiobpblhaaGreatP28
import Derived.Test.YtkflpoiobpblhaaGreatP29
import Derived.Test.YtkflpoiobpblhaaGreatPS
import Derived.Test.YtkflpoiobpblhaaGreatP44
set_option maxRecDepth 100000
set_option maxHeartbeats 16000000
set_option linter.unusedVariables false
set_option linter.unusedSimpArgs false
namespace Go.Proofs.YtkflpoiobpblhaaGreat
open Go.RowKit
theorem below_two {w0 w : World} {B : Nat} (h : Below B w0 w) (hB : B ≤ w.heap.size) (o o2 : Obj) : Below B w0 ((w.alloc o).alloc o2) := (h.alloc hB o).alloc (by simp; omega) o2
theorem getD_some {l : List Bool} {k : Nat} (h : k < l.length) : l[k]? = some (l.getD k false) := by simp [h]
theorem elemC {w : World} {b off : Nat} {l : List (List Nat)} (hL : IsL l) (h : Cells w (some ⟨b, off, none⟩) (bytesV l.flatten)) {k : Nat} {d : List Nat} (hk : l[k]? = some d) : Cells w (some ⟨b, off + k * 32, none⟩) (bytesV d) := by
 have h1 := h.cut (k * 32) 32
 have e : ((bytesV l.flatten).drop (k * 32)).take 32 = bytesV d := by
  rw [← bytesV_drop, ← hL.flat_get hk]
  unfold bytesV
  rw [List.map_take]
 rwa [e] at h1
theorem rtwo_any (i : Nat) (w : World) (hi : i < 65536) :
    Calls Tryz.prog 102 #[.int .i64 i] w fun e w' => e = .returned (.slice (some ⟨w.heap.size, 0, none⟩) 2 2) ∧ Blk w' w.heap.size 5 (arrK .u8 (twoL i)) ∧ Below w.heap.size w w' := by
 go_enter Tryz.func102, Tryz.ntmps102
 go_wp2_with fail
 go_ret
 refine ⟨rfl, ?_, (Below.refl _ _).alloc (Nat.le_refl _) _⟩
 rw [show arrK .u8 (twoL i) = #[.int .u8 ((i : Int) / 256), .int .u8 ((i : Int) % 256)] by
  have e1 : ((i / 256 % 256 : Nat) : Int) = (i : Int) / 256 := by omega
  have e2 : ((i % 256 : Nat) : Int) = (i : Int) % 256 := by omega
  simp only [arrK, twoL, List.map_cons, List.map_nil, e1, e2]]
 exact Blk.new w _ _
theorem oneT_eq : oneT = strL ⟨#[111, 110, 101]⟩ := by unfold oneT; rfl
theorem run_twoD (a b : List Nat) (ha : IsD a) (hb : IsD b) (w : World) : (Instr.buildSlice 30 2 #[(0, .agg (arrK .u8 a)), (1, .agg (arrK .u8 b))]).run Tryz.prog w = .ok (.slice (some ⟨w.heap.size, 0, none⟩) 2 2) (w.alloc (.cells (arrK .u8 (a ++ b)) 29)) := by
 obtain ⟨ie, hie, h2⟩ := Option.map_eq_some_iff.1 info_dig
 obtain ⟨hz, hs, -⟩ : ie.zero = some (.agg (arrK .u8 z32)) ∧ ie.size = 32 ∧ ie.bytes = 32 := by simpa using h2
 have hf := Great.fill_whole (s := 32) (by omega) [.agg (arrK .u8 a), .agg (arrK .u8 b)] ((Array.range (2 * ie.size)).map ((Value.agg (arrK .u8 z32)).cells[· % (Value.agg (arrK .u8 z32)).cells.size]!)) (fun v hv => by
  rcases List.mem_cons.1 hv with rfl | hv
  · show (arrK .u8 a).size = 32; exact len32 ha.1
  · rw [List.mem_singleton] at hv; subst hv
    show (arrK .u8 b).size = 32; exact len32 hb.1) (by rw [hs]; simp)
 refine run_buildSlice w 30 29 2 _ _ ie _ (by kernel_rfl) hie hz (by rw [hs]; decide) (by rw [hs]; decide) ?_
 rw [hs] at hf ⊢
 rw [show ([Value.agg (arrK .u8 a), Value.agg (arrK .u8 b)].flatMap fun v => v.cells.toList).toArray = arrK .u8 (a ++ b) by simp [Value.cells, arrK]] at hf
 exact hf
section
variable {w : World} {ops : Array Oper} {rest : List Oper} {o : Oper} {a : Act} {Q : Exit → Act → World → Prop} {K : Act → World → Prop}
theorem step_twoD {E : Prop} (hgd : o.guard = none) (x y : Operand) (ho : o.op = .buildSlice 30 2 #[(0, x), (1, y)]) (d1 d2 : List Nat) (h1 : IsD d1) (h2 : IsD d2) (hx : a.eval x = .agg (arrK .u8 d1)) (hy : a.eval y = .agg (arrK .u8 d2))
    (h : K (a.put o.dst (.slice (some ⟨w.heap.size, 0, none⟩) 2 2)) (w.alloc (.cells (arrK .u8 (d1 ++ d2)) 29))) : if Region.wanted o (yielded ops a.tmps) = true then Oper.wp Tryz.prog o a w K Q else E := by
 have hw : Region.wanted o (yielded ops a.tmps) = true := by simp [Region.wanted, hgd]
 rw [if_pos hw]
 unfold Oper.wp execOp
 simp only [ho, List.map_toArray, List.map_cons, List.map_nil, hx, hy, Sem.run_bind, run_twoD d1 d2 h1 h2 w, Result.andThen_ok]
 exact h
end
theorem rone_any (l : List (List Nat)) (m : Nat) (A : Option Addr) (c : Nat) (w : World) (hl : l.length = m) (hL : IsL l) (hm : m ≤ 1000) (hA : Cells w A (bytesV l.flatten)) :
    Calls Tryz.prog 81 #[.slice A m c] w fun e w' => e = .returned (.agg (arrK .u8 (tagS oneT l.flatten))) ∧ Below w.heap.size w w' := by
 have Hl := θ hl
 have HL := θ hL
 have HA := θ hA
 have lt := θ (tagS_length oneT l.flatten)
 clear hl hL hA
 go_enter Tryz.func81, Tryz.ntmps81
 go_wp2_with fail
 go_loopw [3, 4] (fun v i wr => ∃ (k : Nat) (A' : Option Addr) (c' : Nat), k ≤ m ∧ i = .int .i64 k ∧ v = .slice A' (32 * k) c' ∧ Hid (wr.ownsRow (w.heap.size + 1) 5 1 (.slice A' (32 * k) c') (32 * k) (bytesV (l.take k).flatten)) ∧ Hid (Blk wr w.heap.size 29 (arrK .u8 z32)) ∧ w.heap.size + 1 ≤ wr.heap.size ∧ Hid (Below w.heap.size w wr)) (fun _ i _ => m - (intOf i).toNat)
 case atStart =>
  refine ⟨0, _, 0, by omega, rfl, rfl, ?_, (Blk.new w 29 (arrK .u8 z32)).alloc _, by simp, below_two (Below.refl _ _) (Nat.le_refl _) _ _⟩
  show World.ownsRow _ _ _ _ _ _ _
  have := World.ownsRow_lit (e := 5) (base := w.heap.size + 1) (size := 1) (w.alloc (.cells (arrK .u8 z32) 29)) #[] 0 (by simp) (Nat.zero_le _) rfl
  rw [World.size_alloc] at this
  have e : bytesV (l.take 0).flatten = [] := by simp [bytesV_nil]
  rw [e]
  exact this
 obtain ⟨k, A', c', hkm, rfl, rfl, hown, hR, hz, hB⟩ := hrel
 by_cases hk : k < m
 · have hdk : decide ((k : Int) < (m : Int)) = true := by simp; omega
   have hdk2 : decide (k < m) = true := by simp; omega
   have hkI : (k : Int) < (m : Int) := by omega
   obtain ⟨b, off, rfl, hbl, -⟩ := Cells.addr HA.out (by rw [bytesV_length, HL.out.flat_length, Hl.out]; omega)
   obtain ⟨d, hd⟩ := getElem?_lt (l := l) (k := k) (by rw [Hl.out]; exact hk)
   have Dd := θ (HL.out d (List.mem_of_getElem? hd))
   have Hd := θ hd
   clear hd
   go_wp2_with (
    (at_builtin
     refine wpList_append_cells rfl (.tmp 12) (.tmp 16) 22 rfl (w.heap.size + 1) 5 (.int .u8 0) 1 1 (by kernel_rfl) (by kernel_rfl) rfl (by omega) (.slice A' (32 * k) c') (32 * k) (bytesV (l.take k).flatten) hown.out rfl (some ⟨b, off + k * 32, none⟩) 32 32 (bytesV d) rfl (by rw [bytesV_length, Dd.out.1]) (elemC HL.out (HA.out.below hB.out) Hd.out) (bytesV_one _) (by unfold maxLen; omega) (by omega) hz ?_
     intro v3 w3 hown3 hg3 _
     have hz3 := Nat.le_trans hz hg3.size
     have HR3 := θ (hR.out.grown hg3 (fun e => absurd (own_base hown.out _ e.symm) (by omega)))
     have HB3 := θ (below_grown hB.out hg3 hB.out.size (fun k hk => Nat.le_trans (Nat.le_succ _) (own_base hown.out k hk)))
     rw [← bytesV_append] at hown3
     obtain ⟨A3, c3, rfl, -, -, -⟩ := own_form hown3
     have Hown3 := θ hown3
     clear hown3 hg3))
   go_roundw
   case rel =>
    refine ⟨k + 1, A3, c3, by omega, by go_num, by rw [show 32 * (k + 1) = 32 * k + 32 by omega], ?_, HR3.out, hz3, HB3.out⟩
    show World.ownsRow _ _ _ _ _ _ _
    rw [take_snoc Hd.out, List.flatten_append, show 32 * (k + 1) = 32 * k + 32 by omega]
    simpa using Hown3.out
   case measure => simp [intOf]; omega
 obtain rfl : k = m := by omega
 have C := θ (show Cells wr A' (bytesV l.flatten) by have := Cells.own hown.out; rwa [List.take_of_length_le (by rw [Hl.out]; exact Nat.le_refl _)] at this)
 have hlen := θ (show l.flatten.length = 32 * k by rw [HL.out.flat_length, Hl.out]; omega)
 have H8 := θ HL.out.flat_byte
 go_wp2_with fail
 refine (rtagged_any ⟨#[111, 110, 101]⟩ A' (32 * k) c' l.flatten wr C.out hlen.out (by omega) H8.out (by decide)).mono ?_
 rintro e w5 ⟨he, hb5⟩
 have he : e = .returned (.agg (arrK .u8 (tagS oneT l.flatten))) := by rw [oneT_eq]; exact he
 subst he
 have HR5 := θ (hR.out.below hb5)
 have HB5 := θ (bo hB hb5)
 clear hb5
 go_wp2_with (
  (refine wpList_put_blk rfl 29 (.tmp 2) (.tmp 19) rfl w.heap.size (arrK .u8 (tagS oneT l.flatten)) rfl rfl 29 (arrK .u8 z32) HR5.out (info32 lt.out) (by rw [len32 lt.out, len32 z32_length]) (arrK_all _ _) ?_
   intro w6 HD6 hg6 hz6
   have HD6 := θ HD6
   have HB6 := below_grown HB5.out hg6 HB5.out.size (by simp)
   clear hg6 hz6))
 exact ret_row rfl w.heap.size 29 (arrK .u8 (tagS oneT l.flatten)) (.array 32 5) rfl HD6.out (by kernel_rfl) rfl (info32 lt.out) rfl ⟨rfl, HB6⟩
theorem two_cells {w : World} {g : Nat} {t : TypeId} {a b : List Nat} (h : Blk w g t (arrK .u8 (a ++ b))) : Cells w (some ⟨g, 0, none⟩) (bytesV [a, b].flatten) := by
 have := cells_dig h
 simpa using this
theorem rBits_bad (root : List Nat) (i : Int) (A : Option Addr) (n c : Nat) (w : World) (hi : i < 0 ∨ 4096 ≤ i) :
    Calls Tryz.prog 69 #[.agg (arrK .u8 root), .int .i64 i, .slice A n c] w fun e w' => e = .returned (.slice none 0 0) ∧ Below w.heap.size w w' := by
 have h : i < 0 ∨ (0 ≤ i ∧ 4096 ≤ i) := by omega
 clear hi
 rcases h with h | ⟨h1, h2⟩
 all_goals
  go_enter Tryz.func69, Tryz.ntmps69
  go_wp2_with fail
  all_goals
   go_ret
   exact ⟨rfl, (Below.refl _ _).alloc (Nat.le_refl _) _⟩
theorem rBits_good (root : List Nat) (i : Nat) (msg : List Nat) (A : Option Addr) (n c : Nat) (w : World) (hr : IsD root) (hi : i < 4096) (hA : Cells w A (bytesV msg)) (hm : msg.length = n) (hn : n ≤ 70000) (h8 : ByteL msg) :
    Calls Tryz.prog 69 #[.agg (arrK .u8 root), .int .i64 i, .slice A n c] w fun e w' => ∃ A' c', e = .returned (.slice A' 64 c') ∧ Cells w' A' ((bitL (msgS root i msg) 64).map Value.bool) ∧ Below w.heap.size w w' := by
 have HA := θ hA
 have Hr := θ hr
 have Hm := θ hm
 have Hm8 := θ h8
 have hiI : (i : Int) < 4096 := by omega
 have Ta3 := θ (show 0 + 32 ≤ maxLen by unfold maxLen; omega)
 have Tb3 := θ (show (0 + 32) * 1 ≤ 140737488355328 by omega)
 have Ta5 := θ (show 32 + 2 ≤ maxLen by unfold maxLen; omega)
 have Tb5 := θ (show (32 + 2) * 1 ≤ 140737488355328 by omega)
 have Ta6 := θ (show 34 + n ≤ maxLen by unfold maxLen; omega)
 have Tb6 := θ (show (34 + n) * 1 ≤ 140737488355328 by omega)
 obtain ⟨d, hd⟩ := exq (msgS root i msg)
 have lt := θ (show d.length = 32 by rw [← hd]; exact (msgS_isD root i msg).1)
 have l8 := θ (show ByteL d by rw [← hd]; exact (msgS_isD root i msg).2)
 rw [hd]
 have Hdd := θ hd
 clear hA hr hm h8 hd
 go_enter Tryz.func69, Tryz.ntmps69
 go_upto_region 3 with fail
 generalize hge : World.alloc _ _ = w1
 have HK1 := θ (show Blk w1 w.heap.size 29 (arrK .u8 root) by subst hge; exact Blk.new w _ _)
 have HB1 := θ (al1 hge)
 have hw1 : w.heap.size ≤ w1.heap.size := HB1.out.size
 have lK := HK1.out.lt
 have nK := θ (show ¬ w1.heap.size ≤ w.heap.size by omega)
 have nR := nK
 clear hge
 have Own0 := θ (show (w1.alloc (.cells #[] 5)).ownsRow w1.heap.size 5 1 (.slice (some ⟨w1.heap.size, 0, none⟩) 0 0) 0 (bytesV []) by rw [bytesV_nil]; exact World.ownsRow_lit (size := 1) w1 #[] 0 (Nat.le_refl _) (Nat.zero_le _) rfl)
 go_wp2_with (
  (at_builtin; refine wpList_append_cells rfl (.tmp 17) (.tmp 18) 22 rfl w1.heap.size 5 (.int .u8 0) 1 1 (by kernel_rfl) (by kernel_rfl) rfl (by decide) (.slice (some ⟨w1.heap.size, 0, none⟩) 0 0) 0 (bytesV ([])) Own0.out rfl (some ⟨w.heap.size, 0, none⟩) 32 32 (bytesV (root)) rfl (by rw [bytesV_length, Hr.out.1]) ((cells_dig HK1.out).alloc _) (bytesV_one _) (Ta3.out) (Tb3.out) ((show w1.heap.size ≤ (w1.alloc (.cells #[] 5)).heap.size by simp)) ?_; intro v3 w3 hown3 hg3 _; have Z3 := Nat.le_trans ((show w1.heap.size ≤ (w1.alloc (.cells #[] 5)).heap.size by simp)) hg3.size; have HK3 := θ ((HK1.out.alloc _).grown hg3 (fun e => absurd (own_base Own0.out _ e.symm) nK.out)); have HR3 := θ ((HK1.out.alloc _).grown hg3 (fun e => absurd (own_base Own0.out _ e.symm) nR.out)); rw [Nat.zero_add] at hown3; have HB3 := θ (below_grown (HB1.out.alloc HB1.out.size _) hg3 (HB1.out.alloc HB1.out.size _).size (fun k hk => Nat.le_trans hw1 (own_base Own0.out k hk))); rw [← bytesV_append] at hown3; obtain ⟨A3, c3, rfl, -, -, -⟩ := own_form hown3; have Hown3 := θ hown3; clear hown3 hg3))
 refine (rtwo_any i w3 (by omega)).mono ?_
 rintro e w4 ⟨rfl, ht4, hb4⟩
 have HK4 := θ (HK3.out.below hb4)
 have HB4 := θ (bo HB3 hb4)
 have Z4 := Nat.le_trans Z3 hb4.size
 have Hown4 := θ (own_below Hown3.out hb4)
 have Ht4 := θ (cells_dig ht4)
 clear ht4 hb4
 go_wp2_with (first
  | ((at_builtin; refine wpList_append_cells rfl (.tmp 23) (.tmp 24) 22 rfl w1.heap.size 5 (.int .u8 0) 1 1 (by kernel_rfl) (by kernel_rfl) rfl (by decide) (.slice A5 34 c5) 34 (bytesV ([] ++ root ++ twoL i)) Hown5.out rfl A n c (bytesV (msg)) rfl (by rw [bytesV_length, Hm.out, Nat.mul_one]) (HA.out.below HB5.out) (bytesV_one _) (Ta6.out) (Tb6.out) (Z5) ?_; intro v6 w6 hown6 hg6 _; have Z6 := Nat.le_trans (Z5) hg6.size; have HK6 := θ (HK5.out.grown hg6 (fun e => absurd (own_base Hown5.out _ e.symm) nK.out)); have HR6 := θ (HK5.out.grown hg6 (fun e => absurd (own_base Hown5.out _ e.symm) nR.out)); have HB6 := θ (below_grown HB5.out hg6 HB5.out.size (fun k hk => Nat.le_trans hw1 (own_base Hown5.out k hk))); rw [← bytesV_append] at hown6; obtain ⟨A6, c6, rfl, -, -, -⟩ := own_form hown6; have Hown6 := θ hown6; clear hown6 hg6))
  | ((at_builtin; refine wpList_append_cells rfl (.tmp 19) (.tmp 21) 22 rfl w1.heap.size 5 (.int .u8 0) 1 1 (by kernel_rfl) (by kernel_rfl) rfl (by decide) (.slice A3 32 c3) 32 (bytesV ([] ++ root)) Hown4.out rfl (some ⟨w3.heap.size, 0, none⟩) 2 2 (bytesV (twoL i)) rfl (by rw [bytesV_length]; rfl) (Ht4.out) (bytesV_one _) (Ta5.out) (Tb5.out) (Z4) ?_; intro v5 w5 hown5 hg5 _; have Z5 := Nat.le_trans (Z4) hg5.size; have HK5 := θ (HK4.out.grown hg5 (fun e => absurd (own_base Hown4.out _ e.symm) nK.out)); have HR5 := θ (HK4.out.grown hg5 (fun e => absurd (own_base Hown4.out _ e.symm) nR.out)); rw [show 32 + 2 = 34 from rfl] at hown5; have HB5 := θ (below_grown HB4.out hg5 HB4.out.size (fun k hk => Nat.le_trans hw1 (own_base Hown4.out k hk))); rw [← bytesV_append] at hown5; obtain ⟨A5, c5, rfl, -, -, -⟩ := own_form hown5; have Hown5 := θ hown5; clear hown5 hg5)))
 have C6 := θ (Cells.own Hown6.out)
 refine (rtagged_any ⟨#[109, 101, 115, 115, 97, 103, 101]⟩ _ _ _ (root ++ twoL i ++ msg) w6 (by simpa using C6.out) (by simp [Hr.out.1, Hm.out, twoL_length]; try omega) (by omega) ((Hr.out.2.append (twoL_byte i)).append Hm8.out) (by decide)).mono ?_
 rintro e w7 ⟨he, hb7⟩
 have he : e = .returned (.agg (arrK .u8 d)) := by rw [← Hdd.out, msgS_eq]; exact he
 subst he
 have HB7 := θ (bo HB6 hb7)
 clear hb7
 go_wp2_with (
  (refine wpList_put_blk rfl 29 (.tmp 8) (.tmp 26) rfl w7.heap.size (arrK .u8 d) rfl rfl 29 (arrK .u8 z32) (Blk.new w7 29 (arrK .u8 z32)) (info32 lt.out) (by rw [len32 lt.out, len32 z32_length]) (arrK_all _ _) ?_
   intro w8 HD8 hg8 hz8
   have hb8 : Below w7.heap.size w7 w8 := below_grown ((Below.refl w7.heap.size w7).alloc (Nat.le_refl _) (.cells (arrK .u8 z32) 29)) hg8 (by simp) (by simp)
   have HD8 := θ HD8
   have HB8 := θ (bo HB7 hb8)
   have lD := HD8.out.lt
   clear hg8 hz8 hb8))
 obtain ⟨G, hG⟩ := exq w7.heap.size
 rw [hG] at HD8 lD ⊢
 clear hG
 go_loopw [9, 10] (fun v kv wr => ∃ (k : Nat) (A' : Option Addr) (c' : Nat), k ≤ 64 ∧ kv = .int .i64 k ∧ v = .slice A' k c' ∧ Hid (wr.ownsRow w8.heap.size 4 1 (.slice A' k c') k ((bitL d k).map Value.bool)) ∧ Hid (Below w8.heap.size w8 wr)) (fun _ kv _ => 64 - (intOf kv).toNat)
 case atStart => exact ⟨0, _, 0, by omega, rfl, rfl, (show World.ownsRow _ _ _ _ _ _ _ by rw [bitL_zero]; exact World.ownsRow_lit (size := 1) w8 #[] 0 (Nat.le_refl _) (Nat.zero_le _) rfl), (Below.refl _ _).alloc (Nat.le_refl _) _⟩
 obtain ⟨k, A', c', hk64, rfl, rfl, hown, hB⟩ := hrel
 by_cases hk : k < 64
 · have hdk : decide ((k : Int) < 64) = true := by simp; omega
   have e1 := (hB.out.cell (p := ⟨G, k / 8, none⟩) lD).trans (HD8.out.cellv (i := k / 8) (arrK_get (l := d) (by rw [lt.out]; omega)))
   have hk8 : k / 8 < 32 := by omega
   have hkI : (k : Int) / 8 < 32 := by omega
   have hkI2 : (k : Int) < 64 := by omega
   obtain ⟨x, hx⟩ := exq (d.getD (k / 8) 0)
   rw [hx] at e1
   have hbit := θ (bit_walk l8.out k x hx)
   have hx8 : x < 256 := by rw [← hx]; exact l8.out _
   clear hx
   go_wp2_with (
    (at_builtin
     refine push1 rfl (.tmp 32) (.tmp 43) 102 rfl w8.heap.size 4 (.bool false) 1 Tryz.underlying102 (by kernel_rfl) rfl (.slice A' k c') k ((bitL d k).map Value.bool) _ hown.out rfl rfl rfl (by unfold maxLen; omega) (by omega) hB.out.size ?_
     intro v2 w2 hown2 hg2 _
     rw [hbit.out] at hown2
     have HB2 := θ (below_grown hB.out hg2 hB.out.size (own_base hown.out))
     obtain ⟨A2, c2, rfl, -, -, -⟩ := own_form hown2
     have Hown2 := θ hown2
     clear hown2 hg2))
   go_roundw
   case rel => exact ⟨k + 1, A2, c2, by omega, by go_num, rfl, (show World.ownsRow _ _ _ _ _ _ _ by rw [bitL_succ, List.map_append]; exact Hown2.out), HB2.out⟩
   case measure => simp [intOf]; omega
 obtain rfl : k = 64 := by omega
 go_wp2_with fail
 go_ret
 exact ⟨A', c', rfl, Cells.own hown.out, below_of HB8.out hB.out HB8.out.size⟩
def newS (n : Nat) (m : Int) (s : List Nat) : List Nat := if okKey n m 0 then s else []
def bitsI (root : List Nat) (i : Int) (msg : List Nat) : List Bool := if 0 ≤ i ∧ i < 4096 then bitL (msgS root i.toNat msg) 64 else []
theorem rBits_any (root : List Nat) (i : Int) (msg : List Nat) (A : Option Addr) (n c : Nat) (w : World) (hr : IsD root) (hA : Cells w A (bytesV msg)) (hm : msg.length = n) (hn : n ≤ 70000) (h8 : ByteL msg) :
    Calls Tryz.prog 69 #[.agg (arrK .u8 root), .int .i64 i, .slice A n c] w fun e w' => ∃ A' c', e = .returned (.slice A' (bitsI root i msg).length c') ∧ Cells w' A' ((bitsI root i msg).map Value.bool) ∧ Below w.heap.size w w' := by
 by_cases hi : 0 ≤ i ∧ i < 4096
 · obtain ⟨k, rfl⟩ := Int.eq_ofNat_of_zero_le hi.1
   have e : bitsI root k msg = bitL (msgS root k msg) 64 := by unfold bitsI; rw [if_pos hi]; rfl
   rw [e, bitL_length]
   exact (rBits_good root k msg A n c w hr (by omega) hA hm hn h8).mono fun e w' ⟨B, c', h1, h2, h3⟩ => ⟨_, _, h1, h2, h3⟩
 have e : bitsI root i msg = [] := by unfold bitsI; rw [if_neg hi]
 rw [e]
 exact (rBits_bad root i A n c w (by omega)).mono fun e w' ⟨h1, h2⟩ => ⟨none, 0, h1, .inl rfl, h2⟩
theorem samed_any (l : List (List Nat)) (m : Nat) (A B : Option Addr) (c c2 : Nat) (w : World) (hl : l.length = m) (hL : IsL l) (hm : m ≤ 1000000) (hA : Cells w A (bytesV l.flatten)) (hB : Cells w B (bytesV l.flatten)) :
    Calls Tryz.prog 75 #[.slice A m c, .slice B m c2] w fun e w' => e = .returned (.bool true) ∧ Below w.heap.size w w' := by
 have Hl := θ hl
 have HL := θ hL
 have HA := θ hA
 have HB := θ hB
 clear hl hL hA hB
 have g1 : ((m : Int) != (m : Int)) = false := by simp
 have g2 : (m != m) = false := by simp
 go_enter Tryz.func75, Tryz.ntmps75
 go_wp2_with fail
 go_loopw [5] (fun i wr => ∃ k : Nat, k ≤ m ∧ i = .int .i64 k ∧ Hid (Below w.heap.size w wr)) (fun i _ => m - (intOf i).toNat)
 case atStart => exact ⟨0, by omega, rfl, Below.refl _ _⟩
 obtain ⟨k, hk, rfl, Hbr⟩ := hrel
 by_cases hkm : k < m
 · have hdk : decide ((k : Int) < (m : Int)) = true := by simp; omega
   have hdk2 : decide (k < m) = true := by simp; omega
   have hkI : (k : Int) < (m : Int) := by omega
   obtain ⟨d, hd⟩ := getElem?_lt (l := l) (k := k) (by rw [Hl.out]; exact hkm)
   have Dd := θ (HL.out d (List.mem_of_getElem? hd))
   obtain ⟨pb, po, rfl, -, -⟩ := Cells.addr HA.out (by rw [bytesV_length, HL.out.flat_length, Hl.out]; omega)
   obtain ⟨qb, qo, rfl, -, -⟩ := Cells.addr HB.out (by rw [bytesV_length, HL.out.flat_length, Hl.out]; omega)
   have R1 := θ (fun W (h : Below w.heap.size w W) => range_at HL.out (HA.out.below h) hd)
   have R2 := θ (fun W (h : Below w.heap.size w W) => range_at HL.out (HB.out.below h) hd)
   have hEq : ∀ W, (Op.equalIn 10000 29 (.agg (arrK .u8 d)) (.agg (arrK .u8 d))).run Tryz.prog W = .ok true W := fun W => by
    have := run_eqD Dd.out Dd.out W
    simpa using this
   clear hd
   go_wp2_with fail
   refine wp_region_held_drew (S := fun W => Below w.heap.size w W) (by kernel_rfl) (Hbr.out.trans (below_drewN (Below.refl _ _) 1)) (fun Hd => ?_)
   replace Hd : Below w.heap.size w wr.drew := Hd
   generalize World.drew wr = wd at *
   refine tq 0 rfl Hd ?_
   simp only [la, Act.put]
   refine tq 1 rfl Hd ?_
   simp only [la, Act.put]
   refine tq 2 rfl Hd ?_
   simp only [la, Act.put]
   refine tg 3 (.agg (arrK .u8 d)) rfl (yieldsIf_load_mid (by rfl) _ _ rfl _ _ rfl (d.map fun (n : Nat) => Value.int .u8 (n : Int)) (.array 32 5) (fun W hW => R1.out W hW) (by kernel_rfl) rfl (dV_info Dd.out.1)) Hd ?_
   simp only [la, Act.put]
   refine tq 4 rfl Hd ?_
   simp only [la, Act.put]
   refine tq 5 rfl Hd ?_
   simp only [la, Act.put]
   refine tq 6 rfl Hd ?_
   simp only [la, Act.put]
   refine tg 7 (.agg (arrK .u8 d)) rfl (yieldsIf_load_mid (by rfl) _ _ rfl _ _ rfl (d.map fun (n : Nat) => Value.int .u8 (n : Int)) (.array 32 5) (fun W hW => R2.out W hW) (by kernel_rfl) rfl (dV_info Dd.out.1)) Hd ?_
   simp only [la, Act.put]
   refine tq 8 rfl Hd ?_
   simp only [la, Act.put]
   refine td ?_ _
   go_wp2_with fail
   go_roundw
   case rel => exact ⟨k + 1, by omega, by go_num, Hd⟩
   case measure => simp [intOf]; omega
 have hdk : decide ((k : Int) < (m : Int)) = false := by simp; omega
 have hdk2 : decide (k < m) = false := by simp; omega
 go_wp2_with fail
 go_ret
 exact ⟨rfl, Hbr.out⟩
theorem samesig_any (u : Int) (A A2 B B2 C C2 : Option Addr) (n1 n2 n3 c c2 d d2 e e2 : Nat) (l1 l2 l3 : List (List Nat)) (w : World) (h1 : l1.length = n1) (h2 : l2.length = n2) (h3 : l3.length = n3) (L1 : IsL l1) (L2 : IsL l2) (L3 : IsL l3) (m1 : n1 ≤ 1000000) (m2 : n2 ≤ 1000000) (m3 : n3 ≤ 1000000)
    (hA : Cells w A (bytesV l1.flatten)) (hA2 : Cells w A2 (bytesV l1.flatten)) (hB : Cells w B (bytesV l2.flatten)) (hB2 : Cells w B2 (bytesV l2.flatten)) (hC : Cells w C (bytesV l3.flatten)) (hC2 : Cells w C2 (bytesV l3.flatten)) :
    Calls Tryz.prog 38 #[.agg #[.int .i64 u, .slice A n1 c, .slice B n2 d, .slice C n3 e], .agg #[.int .i64 u, .slice A2 n1 c2, .slice B2 n2 d2, .slice C2 n3 e2]] w fun e w' => e = .returned (.bool true) ∧ Below w.heap.size w w' := by
 have HA := θ hA; have HA2 := θ hA2; have HB := θ hB; have HB2 := θ hB2; have HC := θ hC; have HC2 := θ hC2
 have H1 := θ h1; have H2 := θ h2; have H3 := θ h3; have HL1 := θ L1; have HL2 := θ L2; have HL3 := θ L3
 have g1 : (u == u) = true := by simp
 clear hA hA2 hB hB2 hC hC2 h1 h2 h3 L1 L2 L3
 go_enter Tryz.func38, Tryz.ntmps38
 go_upto_region 1 with fail
 generalize hge : World.alloc _ _ = w0
 have HX0 := θ (show Blk w0 w.heap.size 32 #[.int .i64 u, .slice A n1 c, .slice B n2 d, .slice C n3 e] by subst hge; exact (blk_two w _ _ 32 32).1)
 have HY0 := θ (show Blk w0 (w.heap.size + 1) 32 #[.int .i64 u, .slice A2 n1 c2, .slice B2 n2 d2, .slice C2 n3 e2] by subst hge; exact (blk_two w _ _ 32 32).2)
 have Z0 := θ (show Below w.heap.size w w0 by subst hge; exact below_two (Below.refl _ _) (Nat.le_refl _) _ _)
 clear hge
 have x0 := HX0.out.cellv (i := 0) rfl
 have y0 := HY0.out.cellv (i := 0) rfl
 have x1 := HX0.out.cellv (i := 1) rfl
 have y1 := HY0.out.cellv (i := 1) rfl
 have x2 := HX0.out.cellv (i := 2) rfl
 have y2 := HY0.out.cellv (i := 2) rfl
 have x3 := HX0.out.cellv (i := 3) rfl
 have y3 := HY0.out.cellv (i := 3) rfl
 go_wp2_with fail
 refine (samed_any l1 n1 _ _ _ _ w0 H1.out HL1.out m1 (HA.out.below Z0.out) (HA2.out.below Z0.out)).mono ?_
 rintro e_ w1 ⟨rfl, hb⟩
 have HX1 := θ (HX0.out.below hb)
 have HY1 := θ (HY0.out.below hb)
 have Z1 := θ (bo Z0 hb)
 clear hb x0 x1 x2 x3 y0 y1 y2 y3
 have x0 := HX1.out.cellv (i := 0) rfl
 have y0 := HY1.out.cellv (i := 0) rfl
 have x1 := HX1.out.cellv (i := 1) rfl
 have y1 := HY1.out.cellv (i := 1) rfl
 have x2 := HX1.out.cellv (i := 2) rfl
 have y2 := HY1.out.cellv (i := 2) rfl
 have x3 := HX1.out.cellv (i := 3) rfl
 have y3 := HY1.out.cellv (i := 3) rfl
 go_wp2_with fail
 refine (samed_any l2 n2 _ _ _ _ w1 H2.out HL2.out m2 (HB.out.below Z1.out) (HB2.out.below Z1.out)).mono ?_
 rintro e_ w2 ⟨rfl, hb⟩
 have HX2 := θ (HX1.out.below hb)
 have HY2 := θ (HY1.out.below hb)
 have Z2 := θ (bo Z1 hb)
 clear hb x0 x1 x2 x3 y0 y1 y2 y3
 have x0 := HX2.out.cellv (i := 0) rfl
 have y0 := HY2.out.cellv (i := 0) rfl
 have x1 := HX2.out.cellv (i := 1) rfl
 have y1 := HY2.out.cellv (i := 1) rfl
 have x2 := HX2.out.cellv (i := 2) rfl
 have y2 := HY2.out.cellv (i := 2) rfl
 have x3 := HX2.out.cellv (i := 3) rfl
 have y3 := HY2.out.cellv (i := 3) rfl
 go_wp2_with fail
 refine (samed_any l3 n3 _ _ _ _ w2 H3.out HL3.out m3 (HC.out.below Z2.out) (HC2.out.below Z2.out)).mono ?_
 rintro e_ w3 ⟨rfl, hb⟩
 have HX3 := θ (HX2.out.below hb)
 have HY3 := θ (HY2.out.below hb)
 have Z3 := θ (bo Z2 hb)
 clear hb x0 x1 x2 x3 y0 y1 y2 y3
 go_wp2_with fail
 go_ret
 exact ⟨rfl, Z3.out⟩
end Go.Proofs.YtkflpoiobpblhaaGreat
