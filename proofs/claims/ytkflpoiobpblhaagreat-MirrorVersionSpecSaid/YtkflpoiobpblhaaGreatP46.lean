/- Walks and plain laws that the statement rests on: Sig9, Sig10, SigR, SigR2, SigR3, SigR4, SigR6. -/
import Derived.BigGuardPart
import Derived.Great.BuildSlice
import Derived.Test.YtkflpoiobpblhaaGreatP00
import Derived.Test.YtkflpoiobpblhaaGreatP28
import Derived.Test.YtkflpoiobpblhaaGreatP29
import Derived.Test.YtkflpoiobpblhaaGreatPS
namespace Go.Proofs.YtkflpoiobpblhaaGreat
open Go.RowKit
theorem cells_new2 (W : World) (a b : Nat) : Cells (W.alloc (.cells #[.int .u8 (a : Int), .int .u8 (b : Int)] 5)) (some ⟨W.heap.size, 0, none⟩) (bytesV [a, b]) := by
 have := cells_blk (Blk.new W 5 #[.int .u8 (a : Int), .int .u8 (b : Int)])
 rwa [show (#[Value.int .u8 (a : Int), Value.int .u8 (b : Int)]).toList = bytesV [a, b] by unfold bytesV; rfl] at this
theorem below_two {w0 w : World} {B : Nat} (h : Below B w0 w) (hB : B ≤ w.heap.size) (o o2 : Obj) : Below B w0 ((w.alloc o).alloc o2) := (h.alloc hB o).alloc (by simp; omega) o2
end Go.Proofs.YtkflpoiobpblhaaGreat
namespace Go.Proofs.YtkflpoiobpblhaaGreat
open Go.RowKit
theorem getD_some {l : List Bool} {k : Nat} (h : k < l.length) : l[k]? = some (l.getD k false) := by simp [h]
end Go.Proofs.YtkflpoiobpblhaaGreat
namespace Go.Proofs.YtkflpoiobpblhaaGreat
open Go.RowKit
theorem elemC {w : World} {b off : Nat} {l : List (List Nat)} (hL : IsL l) (h : Cells w (some ⟨b, off, none⟩) (bytesV l.flatten)) {k : Nat} {d : List Nat} (hk : l[k]? = some d) : Cells w (some ⟨b, off + k * 32, none⟩) (bytesV d) := by
 have h1 := h.cut (k * 32) 32
 have e : ((bytesV l.flatten).drop (k * 32)).take 32 = bytesV d := by
  rw [← bytesV_drop, ← hL.flat_get hk]
  unfold bytesV
  rw [List.map_take]
 rwa [e] at h1
set_option maxHeartbeats 1000000 in
theorem rvalid_any (A : Option Addr) (n c : Nat) (m u : Int) (w : World) :
    Calls Tryz.prog 64 #[.agg #[.slice A n c, .int .i64 m, .int .i64 u]] w fun e w' => e = .returned (.bool (okKey n m u)) ∧ Below w.heap.size w w' := by
 go_enter Tryz.func64, Tryz.ntmps64
 go_wp2_with (fail)
 all_goals
  go_ret
  exact ⟨ret_bool (by unfold okKey; simp only [decide_eq_decide, false_eq_decide_iff]; omega), (Below.refl _ _).alloc (Nat.le_refl _) _⟩
set_option maxHeartbeats 1000000 in
theorem rtwo_any (i : Nat) (w : World) (hi : i < 65536) :
    Calls Tryz.prog 102 #[.int .i64 i] w fun e w' => e = .returned (.slice (some ⟨w.heap.size, 0, none⟩) 2 2) ∧ Blk w' w.heap.size 5 (arrK .u8 (twoL i)) ∧ Below w.heap.size w w' := by
 go_enter Tryz.func102, Tryz.ntmps102
 go_wp2_with (fail)
 go_ret
 refine ⟨rfl, ?_, (Below.refl _ _).alloc (Nat.le_refl _) _⟩
 rw [show arrK .u8 (twoL i) = #[.int .u8 ((i : Int) / 256), .int .u8 ((i : Int) % 256)] by
  have e1 : ((i / 256 % 256 : Nat) : Int) = (i : Int) / 256 := by omega
  have e2 : ((i % 256 : Nat) : Int) = (i : Int) % 256 := by omega
  simp only [arrK, twoL, List.map_cons, List.map_nil, e1, e2]]
 exact Blk.new w _ _
set_option linter.unusedSimpArgs false in
set_option maxRecDepth 100000 in
set_option maxHeartbeats 4000000 in
theorem rsecret_any (A : Option Addr) (n c : Nat) (m u : Int) (s : List Nat) (i j b : Nat) (w : World) (hA : Cells w A (bytesV s)) (hs : s.length = n) (hn : n ≤ 1000) (h8 : ByteL s) (hi : i < 65536) (hj : j < 64) (hb : b < 2) :
    Calls Tryz.prog 70 #[.agg #[.slice A n c, .int .i64 m, .int .i64 u], .int .i64 i, .int .i64 j, .int .i64 b] w fun e w' => e = .returned (.agg (arrK .u8 (secS s i j b))) ∧ Below w.heap.size w w' := by
 have HA := Lib.hid hA
 have Hs := Lib.hid hs
 have Hs8 := Lib.hid h8
 have HJ := Lib.hid (show ByteL [j, b] from fun k => by match k with | 0 => (show j < 256; omega) | 1 => (show b < 256; omega) | k + 2 => (show (0 : Nat) < 256; omega))
 have lt := Lib.hid (secS_isD s i j b).1
 have Hwj := Lib.hid (show IntKind.u8.wrap (j : Int) = (j : Int) by simp [IntKind.wrap, IntKind.bits, IntKind.signed]; omega)
 have Hwb := Lib.hid (show IntKind.u8.wrap (b : Int) = (b : Int) by simp [IntKind.wrap, IntKind.bits, IntKind.signed]; omega)
 have Ta3 := Lib.hid (show 0 + n ≤ maxLen by unfold maxLen; omega)
 have Tb3 := Lib.hid (show (0 + n) * 1 ≤ 140737488355328 by omega)
 have Ta5 := Lib.hid (show n + 2 ≤ maxLen by unfold maxLen; omega)
 have Tb5 := Lib.hid (show (n + 2) * 1 ≤ 140737488355328 by omega)
 have Ta6 := Lib.hid (show n + 2 + 2 ≤ maxLen by unfold maxLen; omega)
 have Tb6 := Lib.hid (show (n + 2 + 2) * 1 ≤ 140737488355328 by omega)
 have Tc := Lib.hid (show n + 2 + 2 ≤ 1000000 by omega)
 clear hA hs h8
 go_enter Tryz.func70, Tryz.ntmps70
 go_upto_region 1 with (fail)
 generalize hge : World.alloc _ _ = w1
 have HK1 := Lib.hid (show Blk w1 w.heap.size 24 #[.slice A n c, .int .i64 m, .int .i64 u] by subst hge; exact (blk_two w _ (arrK .u8 z32) 24 29).1)
 have HR1 := Lib.hid (show Blk w1 (w.heap.size + 1) 29 (arrK .u8 z32) by subst hge; exact (blk_two w _ (arrK .u8 z32) 24 29).2)
 have HB1 := Lib.hid (al2 hge)
 have hw1 : w.heap.size ≤ w1.heap.size := HB1.out.size
 have lK := HK1.out.lt
 have lR := HR1.out.lt
 have nK := Lib.hid (show ¬ w1.heap.size ≤ w.heap.size by omega)
 have nR := Lib.hid (show ¬ w1.heap.size ≤ w.heap.size + 1 by omega)
 clear hge
 have q0 : ∀ o : Obj, (w1.alloc o).cell? ⟨w.heap.size, 0, none⟩ = some (.slice A n c) := fun o => (HK1.out.alloc o).cellv (i := 0) rfl
 have Own0 := Lib.hid (show (w1.alloc (.cells #[] 5)).ownsRow w1.heap.size 5 1 (.slice (some ⟨w1.heap.size, 0, none⟩) 0 0) 0 (bytesV []) by rw [bytesV_nil]; exact World.ownsRow_lit (size := 1) w1 #[] 0 (Nat.le_refl _) (Nat.zero_le _) rfl)
 go_wp2_with (
  (at_builtin; refine wpList_append_cells rfl (.tmp 10) (.tmp 12) 22 rfl w1.heap.size 5 (.int .u8 0) 1 1 (by kernel_rfl) (by kernel_rfl) rfl (by decide) (.slice (some ⟨w1.heap.size, 0, none⟩) 0 0) 0 (bytesV ([])) Own0.out rfl A n c (bytesV (s)) rfl (by rw [bytesV_length, Hs.out, Nat.mul_one]) ((HA.out.below HB1.out).alloc _) (bytesV_one _) (Ta3.out) (Tb3.out) ((show w1.heap.size ≤ (w1.alloc (.cells #[] 5)).heap.size by simp)) ?_; intro v3 w3 hown3 hg3 _; have Z3 := Nat.le_trans ((show w1.heap.size ≤ (w1.alloc (.cells #[] 5)).heap.size by simp)) hg3.size; have HK3 := Lib.hid ((HK1.out.alloc _).grown hg3 (fun e => absurd (own_base Own0.out _ e.symm) nK.out)); have HR3 := Lib.hid ((HR1.out.alloc _).grown hg3 (fun e => absurd (own_base Own0.out _ e.symm) nR.out)); rw [Nat.zero_add] at hown3; have HB3 := Lib.hid (below_grown (HB1.out.alloc HB1.out.size _) hg3 (HB1.out.alloc HB1.out.size _).size (fun k hk => Nat.le_trans hw1 (own_base Own0.out k hk))); rw [← bytesV_append] at hown3; obtain ⟨A3, c3, rfl, -, -, -⟩ := own_form hown3; have Hown3 := Lib.hid hown3; clear hown3 hg3))
 clear q0
 refine (rtwo_any i w3 hi).mono ?_
 rintro e w4 ⟨rfl, ht4, hb4⟩
 have HK4 := Lib.hid (HK3.out.below hb4)
 have HR4 := Lib.hid (HR3.out.below hb4)
 have HB4 := Lib.hid (below_of HB3.out hb4 HB3.out.size)
 have Z4 := Nat.le_trans Z3 hb4.size
 have Hown4 := Lib.hid (own_below Hown3.out hb4)
 have Ht4 := Lib.hid (cells_dig ht4)
 clear ht4 hb4
 have hwj := Hwj.out
 have hwb := Hwb.out
 go_wp2_with (first
  | ((at_builtin; refine wpList_append_cells rfl (.tmp 17) (.tmp 22) 22 rfl w1.heap.size 5 (.int .u8 0) 1 1 (by kernel_rfl) (by kernel_rfl) rfl (by decide) (.slice A5 (n + 2) c5) (n + 2) (bytesV ([] ++ s ++ twoL i)) (own_below Hown5.out ((Below.refl w5.heap.size w5).alloc (Nat.le_refl _) (.cells #[.int .u8 (j : Int), .int .u8 (b : Int)] 5))) rfl (some ⟨w5.heap.size, 0, none⟩) 2 2 (bytesV ([j, b])) rfl (by rw [bytesV_length]; rfl) (cells_new2 w5 j b) (bytesV_one _) (Ta6.out) (Tb6.out) ((show w1.heap.size ≤ (w5.alloc (.cells #[.int .u8 (j : Int), .int .u8 (b : Int)] 5)).heap.size from Nat.le_trans Z5 (by simp))) ?_; intro v6 w6 hown6 hg6 _; have Z6 := Nat.le_trans ((show w1.heap.size ≤ (w5.alloc (.cells #[.int .u8 (j : Int), .int .u8 (b : Int)] 5)).heap.size from Nat.le_trans Z5 (by simp))) hg6.size; have HK6 := Lib.hid ((HK5.out.alloc (.cells #[.int .u8 (j : Int), .int .u8 (b : Int)] 5)).grown hg6 (fun e => absurd (own_base (own_below Hown5.out ((Below.refl w5.heap.size w5).alloc (Nat.le_refl _) (.cells #[.int .u8 (j : Int), .int .u8 (b : Int)] 5))) _ e.symm) nK.out)); have HR6 := Lib.hid ((HR5.out.alloc (.cells #[.int .u8 (j : Int), .int .u8 (b : Int)] 5)).grown hg6 (fun e => absurd (own_base (own_below Hown5.out ((Below.refl w5.heap.size w5).alloc (Nat.le_refl _) (.cells #[.int .u8 (j : Int), .int .u8 (b : Int)] 5))) _ e.symm) nR.out)); have HB6 := Lib.hid (below_grown (HB5.out.alloc HB5.out.size (.cells #[.int .u8 (j : Int), .int .u8 (b : Int)] 5)) hg6 (HB5.out.alloc HB5.out.size (.cells #[.int .u8 (j : Int), .int .u8 (b : Int)] 5)).size (fun k hk => Nat.le_trans hw1 (own_base (own_below Hown5.out ((Below.refl w5.heap.size w5).alloc (Nat.le_refl _) (.cells #[.int .u8 (j : Int), .int .u8 (b : Int)] 5))) k hk))); rw [← bytesV_append] at hown6; obtain ⟨A6, c6, rfl, -, -, -⟩ := own_form hown6; have Hown6 := Lib.hid hown6; clear hown6 hg6))
  | ((at_builtin; refine wpList_append_cells rfl (.tmp 13) (.tmp 15) 22 rfl w1.heap.size 5 (.int .u8 0) 1 1 (by kernel_rfl) (by kernel_rfl) rfl (by decide) (.slice A3 n c3) n (bytesV ([] ++ s)) Hown4.out rfl (some ⟨w3.heap.size, 0, none⟩) 2 2 (bytesV (twoL i)) rfl (by rw [bytesV_length]; rfl) (Ht4.out) (bytesV_one _) (Ta5.out) (Tb5.out) (Z4) ?_; intro v5 w5 hown5 hg5 _; have Z5 := Nat.le_trans (Z4) hg5.size; have HK5 := Lib.hid (HK4.out.grown hg5 (fun e => absurd (own_base Hown4.out _ e.symm) nK.out)); have HR5 := Lib.hid (HR4.out.grown hg5 (fun e => absurd (own_base Hown4.out _ e.symm) nR.out)); have HB5 := Lib.hid (below_grown HB4.out hg5 HB4.out.size (fun k hk => Nat.le_trans hw1 (own_base Hown4.out k hk))); rw [← bytesV_append] at hown5; obtain ⟨A5, c5, rfl, -, -, -⟩ := own_form hown5; have Hown5 := Lib.hid hown5; clear hown5 hg5)))
 clear hwj hwb
 have C6 := Lib.hid (Cells.own Hown6.out)
 refine (rtagged_any ⟨#[115, 101, 99, 114, 101, 116]⟩ _ _ _ (s ++ twoL i ++ [j, b]) w6 (by simpa using C6.out) (by simp [Hs.out, twoL_length]) (by have := Tc.out; omega) ((Hs8.out.append (twoL_byte i)).append HJ.out) (by decide)).mono ?_
 rintro e w7 ⟨he, hb7⟩
 have he : e = .returned (.agg (arrK .u8 (secS s i j b))) := by rw [secS_eq]; exact he
 subst he
 have HR7 := Lib.hid (HR6.out.below hb7)
 have HB7 := Lib.hid (below_of HB6.out hb7 HB6.out.size)
 clear hb7
 go_wp2_with (
  (refine wpList_put_blk rfl 29 (.tmp 8) (.tmp 24) rfl (w.heap.size + 1) (arrK .u8 (secS s i j b)) rfl rfl 29 (arrK .u8 z32) HR7.out (info32 lt.out) (by rw [len32 lt.out, len32 z32_length]) (arrK_all _ _) ?_
   intro w8 HD8 hg8 hz8
   have HD8 := Lib.hid HD8
   have HB8 := below_grown HB7.out hg8 HB7.out.size (by simp)
   clear hg8 hz8))
 exact ret_row rfl (w.heap.size + 1) 29 (arrK .u8 (secS s i j b)) (.array 32 5) rfl HD8.out (by kernel_rfl) rfl (info32 lt.out) rfl ⟨rfl, HB8⟩
end Go.Proofs.YtkflpoiobpblhaaGreat
namespace Go.Proofs.YtkflpoiobpblhaaGreat
open Go.RowKit
theorem oneT_eq : oneT = strL ⟨#[111, 110, 101]⟩ := by unfold oneT; rfl
theorem run_twoD (a b : List Nat) (ha : IsD a) (hb : IsD b) (w : World) : (Instr.buildSlice 30 2 #[(0, .agg (arrK .u8 a)), (1, .agg (arrK .u8 b))]).run Tryz.prog w = .ok (.slice (some ⟨w.heap.size, 0, none⟩) 2 2) (w.alloc (.cells (arrK .u8 (a ++ b)) 29)) := by
 obtain ⟨ie, hie, h2⟩ := Option.map_eq_some_iff.1 info_dig
 obtain ⟨hz, hs, -⟩ : ie.zero = some (.agg (arrK .u8 z32)) ∧ ie.size = 32 ∧ ie.bytes = 32 := by simpa using h2
 have hf := Great.fill_whole (s := 32) (by omega) [.agg (arrK .u8 a), .agg (arrK .u8 b)] ((Array.range (2 * ie.size)).map ((Value.agg (arrK .u8 z32)).cells[· % (Value.agg (arrK .u8 z32)).cells.size]!)) (fun v hv => by
  rcases List.mem_cons.1 hv with rfl | hv
  · show (arrK .u8 a).size = 32; exact len32 ha.1
  · rw [List.mem_singleton] at hv; subst hv
    show (arrK .u8 b).size = 32; exact len32 hb.1) (by rw [hs]; simp)
 refine run_buildSlice w 30 29 2 _ _ ie _ (by kernel_rfl) hie hz (by rw [hs]; decide) (by rw [hs]; decide) ?_
 rw [hs] at hf ⊢
 rw [show ([Value.agg (arrK .u8 a), Value.agg (arrK .u8 b)].flatMap fun v => v.cells.toList).toArray = arrK .u8 (a ++ b) by simp [Value.cells, arrK]] at hf
 exact hf
section
variable {w : World} {ops : Array Oper} {rest : List Oper} {o : Oper} {a : Act} {Q : Exit → Act → World → Prop} {K : Act → World → Prop}
theorem step_twoD {E : Prop} (hgd : o.guard = none) (x y : Operand) (ho : o.op = .buildSlice 30 2 #[(0, x), (1, y)]) (d1 d2 : List Nat) (h1 : IsD d1) (h2 : IsD d2) (hx : a.eval x = .agg (arrK .u8 d1)) (hy : a.eval y = .agg (arrK .u8 d2))
    (h : K (a.put o.dst (.slice (some ⟨w.heap.size, 0, none⟩) 2 2)) (w.alloc (.cells (arrK .u8 (d1 ++ d2)) 29))) : if Region.wanted o (yielded ops a.tmps) = true then Oper.wp Tryz.prog o a w K Q else E := by
 have hw : Region.wanted o (yielded ops a.tmps) = true := by simp [Region.wanted, hgd]
 rw [if_pos hw]
 unfold Oper.wp execOp
 simp only [ho, List.map_toArray, List.map_cons, List.map_nil, hx, hy, Sem.run_bind, run_twoD d1 d2 h1 h2 w, Result.andThen_ok]
 exact h
end
set_option linter.unusedSimpArgs false in
set_option maxRecDepth 100000 in
set_option maxHeartbeats 4000000 in
theorem rone_any (l : List (List Nat)) (m : Nat) (A : Option Addr) (c : Nat) (w : World) (hl : l.length = m) (hL : IsL l) (hm : m ≤ 1000) (hA : Cells w A (bytesV l.flatten)) :
    Calls Tryz.prog 81 #[.slice A m c] w fun e w' => e = .returned (.agg (arrK .u8 (tagS oneT l.flatten))) ∧ Below w.heap.size w w' := by
 have Hl := Lib.hid hl
 have HL := Lib.hid hL
 have HA := Lib.hid hA
 have lt := Lib.hid (tagS_length oneT l.flatten)
 clear hl hL hA
 go_enter Tryz.func81, Tryz.ntmps81
 go_wp2_with (fail)
 go_loopw [3, 4] (fun v i wr => ∃ (k : Nat) (A' : Option Addr) (c' : Nat), k ≤ m ∧ i = .int .i64 k ∧ v = .slice A' (32 * k) c' ∧ Hid (wr.ownsRow (w.heap.size + 1) 5 1 (.slice A' (32 * k) c') (32 * k) (bytesV (l.take k).flatten)) ∧ Hid (Blk wr w.heap.size 29 (arrK .u8 z32)) ∧ w.heap.size + 1 ≤ wr.heap.size ∧ Hid (Below w.heap.size w wr)) (fun _ i _ => m - (intOf i).toNat)
 case atStart =>
  refine ⟨0, _, 0, by omega, rfl, rfl, ?_, (Blk.new w 29 (arrK .u8 z32)).alloc _, by simp, below_two (Below.refl _ _) (Nat.le_refl _) _ _⟩
  show World.ownsRow _ _ _ _ _ _ _
  have := World.ownsRow_lit (e := 5) (base := w.heap.size + 1) (size := 1) (w.alloc (.cells (arrK .u8 z32) 29)) #[] 0 (by simp) (Nat.zero_le _) rfl
  rw [World.size_alloc] at this
  have e : bytesV (l.take 0).flatten = [] := by simp [bytesV_nil]
  rw [e]
  exact this
 case round =>
  obtain ⟨k, A', c', hkm, rfl, rfl, hown, hR, hz, hB⟩ := hrel
  by_cases hk : k < m
  · have hdk : decide ((k : Int) < (m : Int)) = true := by simp; omega
    have hdk2 : decide (k < m) = true := by simp; omega
    have hkI : (k : Int) < (m : Int) := by omega
    obtain ⟨b, off, rfl, hbl, -⟩ := Cells.addr HA.out (by rw [bytesV_length, HL.out.flat_length, Hl.out]; omega)
    obtain ⟨d, hd⟩ := getElem?_lt (l := l) (k := k) (by rw [Hl.out]; exact hk)
    have Dd := Lib.hid (HL.out d (List.mem_of_getElem? hd))
    have Hd := Lib.hid hd
    clear hd
    go_wp2_with (
     (at_builtin
      refine wpList_append_cells rfl (.tmp 12) (.tmp 16) 22 rfl (w.heap.size + 1) 5 (.int .u8 0) 1 1 (by kernel_rfl) (by kernel_rfl) rfl (by omega) (.slice A' (32 * k) c') (32 * k) (bytesV (l.take k).flatten) hown.out rfl (some ⟨b, off + k * 32, none⟩) 32 32 (bytesV d) rfl (by rw [bytesV_length, Dd.out.1]) (elemC HL.out (HA.out.below hB.out) Hd.out) (bytesV_one _) (by unfold maxLen; omega) (by omega) hz ?_
      intro v3 w3 hown3 hg3 _
      have hz3 := Nat.le_trans hz hg3.size
      have HR3 := Lib.hid (hR.out.grown hg3 (fun e => absurd (own_base hown.out _ e.symm) (by omega)))
      have HB3 := Lib.hid (below_grown hB.out hg3 hB.out.size (fun k hk => Nat.le_trans (Nat.le_succ _) (own_base hown.out k hk)))
      rw [← bytesV_append] at hown3
      obtain ⟨A3, c3, rfl, -, -, -⟩ := own_form hown3
      have Hown3 := Lib.hid hown3
      clear hown3 hg3))
    go_roundw
    case rel =>
     refine ⟨k + 1, A3, c3, by omega, by go_num, by rw [show 32 * (k + 1) = 32 * k + 32 by omega], ?_, HR3.out, hz3, HB3.out⟩
     show World.ownsRow _ _ _ _ _ _ _
     rw [take_snoc Hd.out, List.flatten_append, show 32 * (k + 1) = 32 * k + 32 by omega]
     simpa using Hown3.out
    case measure => simp [intOf]; omega
  · obtain rfl : k = m := by omega
    have C := Lib.hid (show Cells wr A' (bytesV l.flatten) by have := Cells.own hown.out; rwa [List.take_of_length_le (by rw [Hl.out]; exact Nat.le_refl _)] at this)
    have hlen := Lib.hid (show l.flatten.length = 32 * k by rw [HL.out.flat_length, Hl.out]; omega)
    have H8 := Lib.hid HL.out.flat_byte
    go_wp2_with (fail)
    refine (rtagged_any ⟨#[111, 110, 101]⟩ A' (32 * k) c' l.flatten wr C.out hlen.out (by omega) H8.out (by decide)).mono ?_
    rintro e w5 ⟨he, hb5⟩
    have he : e = .returned (.agg (arrK .u8 (tagS oneT l.flatten))) := by rw [oneT_eq]; exact he
    subst he
    have HR5 := Lib.hid (hR.out.below hb5)
    have HB5 := Lib.hid (below_of hB.out hb5 hB.out.size)
    clear hb5
    go_wp2_with (
     (refine wpList_put_blk rfl 29 (.tmp 2) (.tmp 19) rfl w.heap.size (arrK .u8 (tagS oneT l.flatten)) rfl rfl 29 (arrK .u8 z32) HR5.out (info32 lt.out) (by rw [len32 lt.out, len32 z32_length]) (arrK_all _ _) ?_
      intro w6 HD6 hg6 hz6
      have HD6 := Lib.hid HD6
      have HB6 := below_grown HB5.out hg6 HB5.out.size (by simp)
      clear hg6 hz6))
    exact ret_row rfl w.heap.size 29 (arrK .u8 (tagS oneT l.flatten)) (.array 32 5) rfl HD6.out (by kernel_rfl) rfl (info32 lt.out) rfl ⟨rfl, HB6⟩
theorem two_isL (s : List Nat) (i j : Nat) : IsL [keyF s i j false, keyF s i j true] := (IsL.nil_.snoc (keyF_isD s i j false)).snoc (keyF_isD s i j true)
theorem two_cells {w : World} {g : Nat} {t : TypeId} {a b : List Nat} (h : Blk w g t (arrK .u8 (a ++ b))) : Cells w (some ⟨g, 0, none⟩) (bytesV [a, b].flatten) := by
 have := cells_dig h
 simpa using this
set_option linter.unusedSimpArgs false in
set_option maxRecDepth 100000 in
set_option maxHeartbeats 4000000 in
theorem rkeys_any (A : Option Addr) (n c m : Nat) (u : Int) (s : List Nat) (w : World) (hA : Cells w A (bytesV s)) (hs : s.length = n) (hn : n ≤ 1000) (h8 : ByteL s) (hm : m ≤ 4096) :
    Calls Tryz.prog 66 #[.agg #[.slice A n c, .int .i64 m, .int .i64 u]] w fun e w' => ∃ A' c', e = .returned (.slice A' m c') ∧ m ≤ c' ∧ c' ≤ maxLen ∧ Cells w' A' (bytesV (pubL s m).flatten) ∧ Below w.heap.size w w' := by
 have HA := Lib.hid hA
 have Hs := Lib.hid hs
 have Hs8 := Lib.hid h8
 clear hA hs h8
 go_enter Tryz.func66, Tryz.ntmps66
 go_wp2_with (fail)
 go_loopw [3, 4] (fun v i wr => ∃ (i0 : Nat) (A' : Option Addr) (c' : Nat), i0 ≤ m ∧ i = .int .i64 i0 ∧ v = .slice A' i0 c' ∧ Hid (wr.ownsRow (w.heap.size + 1) 29 32 (.slice A' i0 c') i0 (bytesV (pubL s i0).flatten)) ∧ Hid (Blk wr w.heap.size 24 #[.slice A n c, .int .i64 m, .int .i64 u]) ∧ w.heap.size + 1 ≤ wr.heap.size ∧ Hid (Below w.heap.size w wr)) (fun _ i _ => m - (intOf i).toNat)
 case atStart =>
  refine ⟨0, _, 0, by omega, rfl, rfl, ?_, (Blk.new w 24 _).alloc _, by simp, below_two (Below.refl _ _) (Nat.le_refl _) _ _⟩
  show World.ownsRow _ _ _ _ _ _ _
  rw [pubL_zero]
  have := ownD_empty (w.alloc (.cells #[.slice A n c, .int .i64 m, .int .i64 u] 24)) (w.heap.size + 1) (by simp)
  rwa [World.size_alloc] at this
 case round =>
  obtain ⟨i, A', c', him, rfl, rfl, hown, hK, hz, hB⟩ := hrel
  by_cases hi : i < m
  · have hdi : decide ((i : Int) < (m : Int)) = true := by simp; omega
    have hdi2 : decide (i < m) = true := by simp; omega
    have k1 := hK.out.cellv (i := 1) rfl
    obtain ⟨wo, rfl⟩ : ∃ wo : World, wo = wr := ⟨_, rfl⟩
    have k0 := hK.out.cellv (i := 0) rfl
    have k2 := hK.out.cellv (i := 2) rfl
    have ltK := hK.out.lt
    go_wp2_with (fail)
    go_loopw [5, 6] (fun v jv wq => ∃ (j : Nat) (A5 : Option Addr) (c5 : Nat), j ≤ 64 ∧ jv = .int .i64 j ∧ v = .slice A5 (2 * j) c5 ∧ Hid (wq.ownsRow wo.heap.size 29 32 (.slice A5 (2 * j) c5) (2 * j) (bytesV (bothL (keyF s i) j).flatten)) ∧ Hid (Below wo.heap.size wo wq)) (fun _ jv _ => 64 - (intOf jv).toNat)
    case atStart => exact ⟨0, _, 0, by omega, rfl, rfl, (show World.ownsRow _ _ _ _ _ _ _ by rw [bothL_zero]; exact ownD_empty wo _ (Nat.le_refl _)), (Below.refl _ _).alloc (Nat.le_refl _) _⟩
    case round =>
     obtain ⟨j, A5, c5, hj64, rfl, rfl, hli, hBi⟩ := hrel
     obtain ⟨wq, rfl⟩ : ∃ wq : World, wq = wr := ⟨_, rfl⟩
     by_cases hj : j < 64
     · have hdj : decide ((j : Int) < 64) = true := by simp; omega
       go_upto_region 9 with (fail)
       clear k1
       have k1 := hK.out.cellv (i := 1) rfl
       refine wp_region_held_drew (S := fun W => Below wo.heap.size wo W) (by kernel_rfl) (below_drewN hBi.out 1) (fun Hd => ?_)
       have Hd : Below wo.heap.size wo wq.drew := below_drewN hBi.out 1
       have Zd : wo.heap.size ≤ wq.drew.heap.size := hBi.out.size
       have fl : wq.drew.ownsRow (wo.heap.size) 29 32 (.slice A5 (2 * j) c5) (2 * j) (bytesV (bothL (keyF s i) j).flatten) := hli.out
       generalize World.drew wq = wd at *
       refine tq 0 rfl Hd ?_
       refine ts 1 rfl Hd (fun wS hSw => by
        have c0 := (hSw.cell (p := ⟨w.heap.size, 0, none⟩) ltK).trans k0
        have c1 := (hSw.cell (p := ⟨w.heap.size, 1, none⟩) ltK).trans k1
        have c2 := (hSw.cell (p := ⟨w.heap.size, 2, none⟩) ltK).trans k2
        go_simp
        try with_reducible rfl) ?_
       try simp only [la, Act.put]
       refine tq 2 rfl Hd ?_
       refine tq 3 rfl Hd ?_
       try simp only [la, Act.put]
       refine ts 6 rfl Hd (fun wS hSw => by
        have c0 := (hSw.cell (p := ⟨w.heap.size, 0, none⟩) ltK).trans k0
        have c1 := (hSw.cell (p := ⟨w.heap.size, 1, none⟩) ltK).trans k1
        have c2 := (hSw.cell (p := ⟨w.heap.size, 2, none⟩) ltK).trans k2
        go_simp
        try with_reducible rfl) ?_
       refine tq 7 rfl Hd ?_
       try simp only [la, Act.put]
       refine tq 8 rfl Hd ?_
       try simp only [la, Act.put]
       refine ty 4 rfl (fun K hK => ?_)
       go_simp
       refine (rsecret_any A n c m u s i j 0 _ (HA.out.below (below_of hB.out Hd hB.out.size)) Hs.out hn Hs8.out (by omega) hj (by omega)).mono ?_
       rintro e w1_ ⟨rfl, hb1⟩
       have fl1 := own_below fl hb1
       have Hb1 := below_of Hd hb1 Hd.size
       have Zb1 := Nat.le_trans Zd hb1.size
       go_wp2_with (fail)
       refine hK.out _ _ Hb1 fun _ => ?_
       clear hK K
       try simp only [la, Act.put]
       refine ty 5 rfl (fun K hK => ?_)
       go_simp
       refine (rhash_any (secS s i j 0) _ (secS_isD _ _ _ _)).mono ?_
       rintro e w2_ ⟨he, hb2⟩
       have he : e = .returned (.agg (arrK .u8 (keyF s i j false))) := by rw [keyF_eq]; exact he
       subst he
       have fl2 := own_below fl1 hb2
       have Hb2 := below_of Hb1 hb2 Hb1.size
       have Zb2 := Nat.le_trans Zb1 hb2.size
       go_wp2_with (fail)
       refine hK.out _ _ Hb2 fun _ => ?_
       clear hK K
       try simp only [la, Act.put]
       refine ty 9 rfl (fun K hK => ?_)
       go_simp
       refine (rsecret_any A n c m u s i j 1 _ (HA.out.below (below_of hB.out Hb2 hB.out.size)) Hs.out hn Hs8.out (by omega) hj (by omega)).mono ?_
       rintro e w3_ ⟨rfl, hb3⟩
       have fl3 := own_below fl2 hb3
       have Hb3 := below_of Hb2 hb3 Hb2.size
       have Zb3 := Nat.le_trans Zb2 hb3.size
       go_wp2_with (fail)
       refine hK.out _ _ Hb3 fun _ => ?_
       clear hK K
       try simp only [la, Act.put]
       refine ty 10 rfl (fun K hK => ?_)
       go_simp
       refine (rhash_any (secS s i j 1) _ (secS_isD _ _ _ _)).mono ?_
       rintro e w4_ ⟨he, hb4⟩
       have he : e = .returned (.agg (arrK .u8 (keyF s i j true))) := by rw [keyF_eq]; exact he
       subst he
       have fl4 := own_below fl3 hb4
       have Hb4 := below_of Hb3 hb4 Hb3.size
       have Zb4 := Nat.le_trans Zb3 hb4.size
       go_wp2_with (fail)
       refine hK.out _ _ Hb4 fun _ => ?_
       clear hK K
       try simp only [la, Act.put]
       refine ty 11 rfl (fun K hK => ?_)
       refine step_twoD (by rfl) _ _ (by rfl) (keyF s i j false) (keyF s i j true) (keyF_isD s i j false) (keyF_isD s i j true) (by rfl) (by rfl) ?_
       generalize hge : World.alloc _ _ = w5_
       have fb5 : Blk w5_ w4_.heap.size 29 (arrK .u8 (keyF s i j false ++ keyF s i j true)) := by subst hge; exact Blk.new _ _ _
       have hb5 := al1 hge
       clear hge
       have fl5 := own_below fl4 hb5
       have aplb5 := apart_new fl4
       have lob5 : wo.heap.size ≤ w4_.heap.size := Zb4
       have Hb5 := below_of Hb4 hb5 Hb4.size
       have Zb5 := Nat.le_trans Zb4 hb5.size
       refine hK.out _ _ Hb5 fun _ => ?_
       clear hK K
       try simp only [la, Act.put]
       refine ty 12 rfl (fun K hK => ?_)
       refine step_addDs (by rfl) (.tmp 19) (.tmp 30) (by rfl) (wo.heap.size) (.slice A5 (2 * j) c5) (2 * j) (bothL (keyF s i) j) fl5 (by rfl) (some ⟨w4_.heap.size, 0, none⟩) 2 2 [keyF s i j false, keyF s i j true] rfl (two_isL s i j) (two_cells fb5) (by rfl) (by omega) Zb5 ?_
       intro v6 w6_ fl6 hg6 st6
       have aplb6 := apart_sits st6 aplb5 fb5.lt
       have fb6 := fb5.grown hg6 (fun e => aplb5 e.symm)
       have Hb6 := below_grown Hb5 hg6 Hb5.size (own_base fl5)
       have Zb6 := Nat.le_trans Zb5 hg6.size
       obtain ⟨A6, c6, rfl, le6, lm6, -⟩ := own_form fl6
       refine hK.out _ _ Hb6 fun _ => ?_
       clear hK K
       refine tq 13 rfl Hb6 ?_
       try simp only [la, Act.put]
       refine td ?_ _
       go_wp2_with (fail)
       go_roundw
       case rel => exact ⟨j + 1, A6, c6, by omega, by go_num, by rw [show 2 * (j + 1) = 2 * j + 2 by omega], (show World.ownsRow _ _ _ _ _ _ _ by rw [bothL_succ, show 2 * (j + 1) = 2 * j + 2 by omega, List.append_assoc]; exact fl6), Hb6⟩
       case measure => simp [intOf]; omega
     · obtain rfl : j = 64 := by omega
       have C := Lib.hid (Cells.own hli.out)
       have Hown1 := Lib.hid (own_below hown.out hBi.out)
       have HK1 := Lib.hid (hK.out.below hBi.out)
       have HB1 := Lib.hid (below_of hB.out hBi.out hB.out.size)
       have hz1 : w.heap.size + 1 ≤ wq.heap.size := Nat.le_trans hz hBi.out.size
       have dD := Lib.hid (pubS_isD (keyF s i))
       clear k0 k1 k2
       go_wp2_with (fail)
       refine (rone_any (bothL (keyF s i) 64) (2 * 64) A5 c5 wq (bothL_length _ _) (bothL_isL _ _ (fun j b _ => keyF_isD s i j b)) (by omega) C.out).mono ?_
       rintro e wa ⟨he, hba⟩
       have he : e = .returned (.agg (arrK .u8 (pubS (keyF s i)))) := by rw [pubS_eq]; rw [oneT_eq] at he; exact he
       subst he
       have Hown2 := Lib.hid (own_below Hown1.out hba)
       have HK2 := Lib.hid (HK1.out.below hba)
       have HB2 := Lib.hid (below_of HB1.out hba HB1.out.size)
       have hz2 : w.heap.size + 1 ≤ wa.heap.size := Nat.le_trans hz1 hba.size
       clear hba
       go_wp2_with (first
        | (at_builtin
           refine wpList_pushD rfl (.tmp 32) (.tmp 35) rfl (w.heap.size + 1) (.slice A' i c') i (pubL s i) (pubS (keyF s i)) (own_below Hown2.out hb3.out) rfl wa.heap.size HD3.out dD.out rfl (by omega) (Nat.le_trans hz2 hb3.out.size) ?_
           intro v4 w4 hown4 hg4
           have HK4 := Lib.hid ((HK2.out.below hb3.out).grown hg4 (fun e => absurd (own_base Hown2.out _ e.symm) (by omega)))
           have HB4 := Lib.hid (below_grown (below_of HB2.out hb3.out HB2.out.size) hg4 (Nat.le_trans HB2.out.size hb3.out.size) (fun k hk => Nat.le_trans (Nat.le_succ _) (own_base Hown2.out k hk)))
           have hz4 : w.heap.size + 1 ≤ w4.heap.size := Nat.le_trans (Nat.le_trans hz2 hb3.out.size) hg4.size
           obtain ⟨A4, c4, rfl, -, -, -⟩ := own_form hown4
           have Hown4 := Lib.hid hown4
           clear hown4 hg4)
        | (refine wpList_oneD rfl (.tmp 34) rfl (pubS (keyF s i)) dD.out rfl ?_
           generalize hge3 : World.alloc _ _ = w3
           have HD3 := Lib.hid (show Blk w3 wa.heap.size 29 (arrK .u8 (pubS (keyF s i))) by subst hge3; exact Blk.new _ _ _)
           have hb3 := Lib.hid (al1 hge3)
           clear hge3))
       go_roundw
       case rel => exact ⟨i + 1, A4, c4, by omega, by go_num, rfl, (show World.ownsRow _ _ _ _ _ _ _ by rw [pubL_succ]; exact Hown4.out), HK4.out, hz4, HB4.out⟩
       case measure => simp [intOf]; omega
  · obtain rfl : i = m := by omega
    have k1 := hK.out.cellv (i := 1) rfl
    go_wp2_with (fail)
    go_ret
    obtain ⟨A2, c2, hv, h1, h2, -⟩ := own_form hown.out
    cases hv
    exact ⟨A', c', rfl, h1, h2, Cells.own hown.out, hB.out⟩
end Go.Proofs.YtkflpoiobpblhaaGreat
namespace Go.Proofs.YtkflpoiobpblhaaGreat
open Go.RowKit
set_option linter.unusedSimpArgs false in
set_option maxRecDepth 100000 in
set_option maxHeartbeats 4000000 in
theorem rPublic_any (A : Option Addr) (n c : Nat) (m u : Int) (s : List Nat) (w : World) (hA : Cells w A (bytesV s)) (hs : s.length = n) (h8 : ByteL s) :
    Calls Tryz.prog 32 #[.agg #[.slice A n c, .int .i64 m, .int .i64 u]] w fun e w' => e = .returned (.tuple #[.agg (arrK .u8 (pubR n m u s)), .int .i64 (errKey (okKey n m u))]) ∧ Below w.heap.size w w' := by
 have HA := Lib.hid hA
 have Hs := Lib.hid hs
 have Hs8 := Lib.hid h8
 clear hA hs h8
 cases hv : okKey n m u with
 | false =>
   have HV := Lib.hid (fun W => rvalid_any A n c m u W)
   rw [hv] at HV
   have er : pubR n m u s = z32 := by unfold pubR; rw [hv]; rfl
   have ee : errKey false = 40 := rfl
   rw [er, ee]
   clear er ee hv
   go_enter Tryz.func32, Tryz.ntmps32
   go_wp2_with (fail)
   generalize hge : World.alloc _ _ = w1
   have HR := Lib.hid (show Blk w1 (w.heap.size + 1) 29 (arrK .u8 z32) by subst hge; exact (blk_two w _ (arrK .u8 z32) 24 29).2)
   have HB := Lib.hid (al2 hge)
   clear hge
   refine (HV.out w1).mono ?_
   rintro e w2 ⟨rfl, hb2⟩
   have HR2 := Lib.hid (HR.out.below hb2)
   have HB2 := Lib.hid (below_of HB.out hb2 HB.out.size)
   clear hb2
   go_wp2_with (
       (refine wpList_store_same rfl 29 (.tmp 2) (.tmp 7) rfl (w.heap.size + 1) (arrK .u8 z32) rfl rfl 29 HR2.out (by kernel_rfl) (arrK_all _ _) ?_))
   exact ret_row2 rfl (w.heap.size + 1) 29 (arrK .u8 z32) (.array 32 5) rfl rfl HR2.out (by kernel_rfl) rfl (by kernel_rfl) rfl ⟨rfl, HB2.out⟩
 | true =>
   obtain ⟨h1, h2, h3, h4, h5, h6⟩ := okKey_true hv
   obtain ⟨k, rfl⟩ := Int.eq_ofNat_of_zero_le (show 0 ≤ m by omega)
   have HV := Lib.hid (fun W => rvalid_any A n c k u W)
   rw [hv] at HV
   have er : pubR n k u s = treeS (pubL s k) := by unfold pubR; rw [hv]; rfl
   have ee : errKey true = 0 := rfl
   rw [er, ee]
   clear er ee hv
   have lt := Lib.hid (treeS_isD (pubL s k)).1
   go_enter Tryz.func32, Tryz.ntmps32
   go_wp2_with (fail)
   generalize hge : World.alloc _ _ = w1
   have H1 := Lib.hid (show Blk w1 w.heap.size 24 #[.slice A n c, .int .i64 k, .int .i64 u] by subst hge; exact (blk_two w _ (arrK .u8 z32) 24 29).1)
   have HR := Lib.hid (show Blk w1 (w.heap.size + 1) 29 (arrK .u8 z32) by subst hge; exact (blk_two w _ (arrK .u8 z32) 24 29).2)
   have HB := Lib.hid (al2 hge)
   clear hge
   refine (HV.out w1).mono ?_
   rintro e w2 ⟨rfl, hb2⟩
   have HK2 := Lib.hid (H1.out.below hb2)
   have HR2 := Lib.hid (HR.out.below hb2)
   have HB2 := Lib.hid (below_of HB.out hb2 HB.out.size)
   have q0 := Blk.cellv HK2.out (i := 0) rfl
   have q1 := Blk.cellv HK2.out (i := 1) rfl
   have q2 := Blk.cellv HK2.out (i := 2) rfl
   clear hb2
   go_wp2_with (fail)
   refine (rkeys_any A n c k u s w2 (HA.out.below HB2.out) Hs.out (by omega) Hs8.out (by omega)).mono ?_
   rintro e w3 ⟨A3, c3, rfl, hc3, hm3, hC3, hb3⟩
   have HR3 := Lib.hid (HR2.out.below hb3)
   have HB3 := Lib.hid (below_of HB2.out hb3 HB2.out.size)
   clear hb3 q0 q1 q2
   go_wp2_with (fail)
   refine (rtree_any k (pubL s k) A3 c3 w3 (pubL_length s k) (pubL_isL s k) hc3 (by omega) hC3).mono ?_
   rintro e w4 ⟨rfl, hb4⟩
   have HR4 := Lib.hid (HR3.out.below hb4)
   have HB4 := Lib.hid (below_of HB3.out hb4 HB3.out.size)
   clear hb4 hC3
   go_wp2_with (
    (refine wpList_put_blk rfl 29 (.tmp 2) (.tmp 10) rfl (w.heap.size + 1) (arrK .u8 (treeS (pubL s k))) rfl rfl 29 (arrK .u8 z32) HR4.out (info32 lt.out) (by rw [len32 lt.out, len32 z32_length]) (arrK_all _ _) ?_
     intro w6 HD6 hg6 hz6
     have HD6 := Lib.hid HD6
     have HB6 := below_grown HB4.out hg6 HB4.out.size (by simp)
     clear hg6 hz6))
   exact ret_row2 rfl (w.heap.size + 1) 29 (arrK .u8 (treeS (pubL s k))) (.array 32 5) rfl rfl HD6.out (by kernel_rfl) rfl (info32 lt.out) rfl ⟨rfl, HB6⟩
set_option linter.unusedSimpArgs false in
set_option maxRecDepth 100000 in
set_option maxHeartbeats 4000000 in
theorem rBits_bad (root : List Nat) (i : Int) (A : Option Addr) (n c : Nat) (w : World) (hi : i < 0 ∨ 4096 ≤ i) :
    Calls Tryz.prog 69 #[.agg (arrK .u8 root), .int .i64 i, .slice A n c] w fun e w' => e = .returned (.slice none 0 0) ∧ Below w.heap.size w w' := by
 have h : i < 0 ∨ (0 ≤ i ∧ 4096 ≤ i) := by omega
 clear hi
 rcases h with h | ⟨h1, h2⟩
 all_goals
  go_enter Tryz.func69, Tryz.ntmps69
  go_wp2_with (fail)
  all_goals
   go_ret
   exact ⟨rfl, (Below.refl _ _).alloc (Nat.le_refl _) _⟩
set_option linter.unusedSimpArgs false in
set_option maxRecDepth 100000 in
set_option maxHeartbeats 4000000 in
theorem rBits_good (root : List Nat) (i : Nat) (msg : List Nat) (A : Option Addr) (n c : Nat) (w : World) (hr : IsD root) (hi : i < 4096) (hA : Cells w A (bytesV msg)) (hm : msg.length = n) (hn : n ≤ 70000) (h8 : ByteL msg) :
    Calls Tryz.prog 69 #[.agg (arrK .u8 root), .int .i64 i, .slice A n c] w fun e w' => ∃ A' c', e = .returned (.slice A' 64 c') ∧ Cells w' A' ((bitL (msgS root i msg) 64).map Value.bool) ∧ Below w.heap.size w w' := by
 have HA := Lib.hid hA
 have Hr := Lib.hid hr
 have Hm := Lib.hid hm
 have Hm8 := Lib.hid h8
 have hiI : (i : Int) < 4096 := by omega
 have Ta3 := Lib.hid (show 0 + 32 ≤ maxLen by unfold maxLen; omega)
 have Tb3 := Lib.hid (show (0 + 32) * 1 ≤ 140737488355328 by omega)
 have Ta5 := Lib.hid (show 32 + 2 ≤ maxLen by unfold maxLen; omega)
 have Tb5 := Lib.hid (show (32 + 2) * 1 ≤ 140737488355328 by omega)
 have Ta6 := Lib.hid (show 34 + n ≤ maxLen by unfold maxLen; omega)
 have Tb6 := Lib.hid (show (34 + n) * 1 ≤ 140737488355328 by omega)
 obtain ⟨d, hd⟩ : ∃ d, msgS root i msg = d := ⟨_, rfl⟩
 have lt := Lib.hid (show d.length = 32 by rw [← hd]; exact (msgS_isD root i msg).1)
 have l8 := Lib.hid (show ByteL d by rw [← hd]; exact (msgS_isD root i msg).2)
 rw [hd]
 have Hdd := Lib.hid hd
 clear hA hr hm h8 hd
 go_enter Tryz.func69, Tryz.ntmps69
 go_upto_region 3 with (fail)
 generalize hge : World.alloc _ _ = w1
 have HK1 := Lib.hid (show Blk w1 w.heap.size 29 (arrK .u8 root) by subst hge; exact Blk.new w _ _)
 have HB1 := Lib.hid (al1 hge)
 have hw1 : w.heap.size ≤ w1.heap.size := HB1.out.size
 have lK := HK1.out.lt
 have nK := Lib.hid (show ¬ w1.heap.size ≤ w.heap.size by omega)
 have nR := nK
 clear hge
 have Own0 := Lib.hid (show (w1.alloc (.cells #[] 5)).ownsRow w1.heap.size 5 1 (.slice (some ⟨w1.heap.size, 0, none⟩) 0 0) 0 (bytesV []) by rw [bytesV_nil]; exact World.ownsRow_lit (size := 1) w1 #[] 0 (Nat.le_refl _) (Nat.zero_le _) rfl)
 go_wp2_with (
  (at_builtin; refine wpList_append_cells rfl (.tmp 17) (.tmp 18) 22 rfl w1.heap.size 5 (.int .u8 0) 1 1 (by kernel_rfl) (by kernel_rfl) rfl (by decide) (.slice (some ⟨w1.heap.size, 0, none⟩) 0 0) 0 (bytesV ([])) Own0.out rfl (some ⟨w.heap.size, 0, none⟩) 32 32 (bytesV (root)) rfl (by rw [bytesV_length, Hr.out.1]) ((cells_dig HK1.out).alloc _) (bytesV_one _) (Ta3.out) (Tb3.out) ((show w1.heap.size ≤ (w1.alloc (.cells #[] 5)).heap.size by simp)) ?_; intro v3 w3 hown3 hg3 _; have Z3 := Nat.le_trans ((show w1.heap.size ≤ (w1.alloc (.cells #[] 5)).heap.size by simp)) hg3.size; have HK3 := Lib.hid ((HK1.out.alloc _).grown hg3 (fun e => absurd (own_base Own0.out _ e.symm) nK.out)); have HR3 := Lib.hid ((HK1.out.alloc _).grown hg3 (fun e => absurd (own_base Own0.out _ e.symm) nR.out)); rw [Nat.zero_add] at hown3; have HB3 := Lib.hid (below_grown (HB1.out.alloc HB1.out.size _) hg3 (HB1.out.alloc HB1.out.size _).size (fun k hk => Nat.le_trans hw1 (own_base Own0.out k hk))); rw [← bytesV_append] at hown3; obtain ⟨A3, c3, rfl, -, -, -⟩ := own_form hown3; have Hown3 := Lib.hid hown3; clear hown3 hg3))
 refine (rtwo_any i w3 (by omega)).mono ?_
 rintro e w4 ⟨rfl, ht4, hb4⟩
 have HK4 := Lib.hid (HK3.out.below hb4)
 have HB4 := Lib.hid (below_of HB3.out hb4 HB3.out.size)
 have Z4 := Nat.le_trans Z3 hb4.size
 have Hown4 := Lib.hid (own_below Hown3.out hb4)
 have Ht4 := Lib.hid (cells_dig ht4)
 clear ht4 hb4
 go_wp2_with (first
  | ((at_builtin; refine wpList_append_cells rfl (.tmp 23) (.tmp 24) 22 rfl w1.heap.size 5 (.int .u8 0) 1 1 (by kernel_rfl) (by kernel_rfl) rfl (by decide) (.slice A5 34 c5) 34 (bytesV ([] ++ root ++ twoL i)) Hown5.out rfl A n c (bytesV (msg)) rfl (by rw [bytesV_length, Hm.out, Nat.mul_one]) (HA.out.below HB5.out) (bytesV_one _) (Ta6.out) (Tb6.out) (Z5) ?_; intro v6 w6 hown6 hg6 _; have Z6 := Nat.le_trans (Z5) hg6.size; have HK6 := Lib.hid (HK5.out.grown hg6 (fun e => absurd (own_base Hown5.out _ e.symm) nK.out)); have HR6 := Lib.hid (HK5.out.grown hg6 (fun e => absurd (own_base Hown5.out _ e.symm) nR.out)); have HB6 := Lib.hid (below_grown HB5.out hg6 HB5.out.size (fun k hk => Nat.le_trans hw1 (own_base Hown5.out k hk))); rw [← bytesV_append] at hown6; obtain ⟨A6, c6, rfl, -, -, -⟩ := own_form hown6; have Hown6 := Lib.hid hown6; clear hown6 hg6))
  | ((at_builtin; refine wpList_append_cells rfl (.tmp 19) (.tmp 21) 22 rfl w1.heap.size 5 (.int .u8 0) 1 1 (by kernel_rfl) (by kernel_rfl) rfl (by decide) (.slice A3 32 c3) 32 (bytesV ([] ++ root)) Hown4.out rfl (some ⟨w3.heap.size, 0, none⟩) 2 2 (bytesV (twoL i)) rfl (by rw [bytesV_length]; rfl) (Ht4.out) (bytesV_one _) (Ta5.out) (Tb5.out) (Z4) ?_; intro v5 w5 hown5 hg5 _; have Z5 := Nat.le_trans (Z4) hg5.size; have HK5 := Lib.hid (HK4.out.grown hg5 (fun e => absurd (own_base Hown4.out _ e.symm) nK.out)); have HR5 := Lib.hid (HK4.out.grown hg5 (fun e => absurd (own_base Hown4.out _ e.symm) nR.out)); rw [show 32 + 2 = 34 from rfl] at hown5; have HB5 := Lib.hid (below_grown HB4.out hg5 HB4.out.size (fun k hk => Nat.le_trans hw1 (own_base Hown4.out k hk))); rw [← bytesV_append] at hown5; obtain ⟨A5, c5, rfl, -, -, -⟩ := own_form hown5; have Hown5 := Lib.hid hown5; clear hown5 hg5)))
 have C6 := Lib.hid (Cells.own Hown6.out)
 refine (rtagged_any ⟨#[109, 101, 115, 115, 97, 103, 101]⟩ _ _ _ (root ++ twoL i ++ msg) w6 (by simpa using C6.out) (by simp [Hr.out.1, Hm.out, twoL_length]; try omega) (by omega) ((Hr.out.2.append (twoL_byte i)).append Hm8.out) (by decide)).mono ?_
 rintro e w7 ⟨he, hb7⟩
 have he : e = .returned (.agg (arrK .u8 d)) := by rw [← Hdd.out, msgS_eq]; exact he
 subst he
 have HB7 := Lib.hid (below_of HB6.out hb7 HB6.out.size)
 clear hb7
 go_wp2_with (
  (refine wpList_put_blk rfl 29 (.tmp 8) (.tmp 26) rfl w7.heap.size (arrK .u8 d) rfl rfl 29 (arrK .u8 z32) (Blk.new w7 29 (arrK .u8 z32)) (info32 lt.out) (by rw [len32 lt.out, len32 z32_length]) (arrK_all _ _) ?_
   intro w8 HD8 hg8 hz8
   have hb8 : Below w7.heap.size w7 w8 := below_grown ((Below.refl w7.heap.size w7).alloc (Nat.le_refl _) (.cells (arrK .u8 z32) 29)) hg8 (by simp) (by simp)
   have HD8 := Lib.hid HD8
   have HB8 := Lib.hid (below_of HB7.out hb8 HB7.out.size)
   have lD := HD8.out.lt
   clear hg8 hz8 hb8))
 obtain ⟨G, hG⟩ : ∃ G, w7.heap.size = G := ⟨_, rfl⟩
 rw [hG] at HD8 lD ⊢
 clear hG
 go_loopw [9, 10] (fun v kv wr => ∃ (k : Nat) (A' : Option Addr) (c' : Nat), k ≤ 64 ∧ kv = .int .i64 k ∧ v = .slice A' k c' ∧ Hid (wr.ownsRow w8.heap.size 4 1 (.slice A' k c') k ((bitL d k).map Value.bool)) ∧ Hid (Below w8.heap.size w8 wr)) (fun _ kv _ => 64 - (intOf kv).toNat)
 case atStart => exact ⟨0, _, 0, by omega, rfl, rfl, (show World.ownsRow _ _ _ _ _ _ _ by rw [bitL_zero]; exact World.ownsRow_lit (size := 1) w8 #[] 0 (Nat.le_refl _) (Nat.zero_le _) rfl), (Below.refl _ _).alloc (Nat.le_refl _) _⟩
 case round =>
  obtain ⟨k, A', c', hk64, rfl, rfl, hown, hB⟩ := hrel
  by_cases hk : k < 64
  · have hdk : decide ((k : Int) < 64) = true := by simp; omega
    have e1 := (hB.out.cell (p := ⟨G, k / 8, none⟩) lD).trans (HD8.out.cellv (i := k / 8) (arrK_get (l := d) (by rw [lt.out]; omega)))
    have hk8 : k / 8 < 32 := by omega
    have hkI : (k : Int) / 8 < 32 := by omega
    have hkI2 : (k : Int) < 64 := by omega
    obtain ⟨x, hx⟩ : ∃ x, d.getD (k / 8) 0 = x := ⟨_, rfl⟩
    rw [hx] at e1
    have hbit := Lib.hid (bit_walk l8.out k x hx)
    have hx8 : x < 256 := by rw [← hx]; exact l8.out _
    clear hx
    go_wp2_with (
     (at_builtin
      refine push1 rfl (.tmp 32) (.tmp 43) 102 rfl w8.heap.size 4 (.bool false) 1 Tryz.underlying102 (by kernel_rfl) rfl (.slice A' k c') k ((bitL d k).map Value.bool) _ hown.out rfl rfl rfl (by unfold maxLen; omega) (by omega) hB.out.size ?_
      intro v2 w2 hown2 hg2 _
      rw [hbit.out] at hown2
      have HB2 := Lib.hid (below_grown hB.out hg2 hB.out.size (own_base hown.out))
      obtain ⟨A2, c2, rfl, -, -, -⟩ := own_form hown2
      have Hown2 := Lib.hid hown2
      clear hown2 hg2))
    go_roundw
    case rel => exact ⟨k + 1, A2, c2, by omega, by go_num, rfl, (show World.ownsRow _ _ _ _ _ _ _ by rw [bitL_succ, List.map_append]; exact Hown2.out), HB2.out⟩
    case measure => simp [intOf]; omega
  · obtain rfl : k = 64 := by omega
    go_wp2_with (fail)
    go_ret
    exact ⟨A', c', rfl, Cells.own hown.out, below_of HB8.out hB.out HB8.out.size⟩
theorem run_str (A : Option Addr) (n c : Nat) (s : List Nat) (W : World) (hC : Cells W A (bytesV s)) (hs : s.length = n) (h8 : ByteL s) : (convert 22 9 (.slice A n c)).run Tryz.prog W = .ok (.string ⟨(s.map UInt8.ofNat).toArray⟩) W := by
 subst hs
 cases A with
 | none =>
   have : s = [] := by
    rcases hC with h | ⟨b, off, h, _⟩
    · exact List.eq_nil_of_length_eq_zero (by rw [← bytesV_length, h]; rfl)
    · cases h
   subst this
   show (convert 22 9 (.slice none 0 c)).run Tryz.prog W = _
   rw [run_convert_bytes_string W 22 9 5 none 0 c Tryz.underlying22 Tryz.underlying5 Tryz.underlying9]
   simp [Conv.bytesToString]
   rfl
 | some a =>
   have h := run_convert_bytes_back (P := Tryz.prog) W 22 9 5 a c (s.map UInt8.ofNat) Tryz.underlying22 Tryz.underlying5 Tryz.underlying9 (fun j hj => by
    have hj' : j < s.length := by simpa using hj
    obtain ⟨b, off, he, -, hc⟩ := hC.addr (by rw [bytesV_length]; omega)
    injection he with he
    subst he
    have h1 := hc j _ (bytesV_get hj')
    rw [Addr.add_lit, h1]
    have h2 := h8 j
    rw [List.getD_eq_getElem?_getD, List.getElem?_eq_getElem hj'] at h2 ⊢
    simp at h2 ⊢
    omega)
   rwa [List.length_map] at h
set_option linter.unusedSimpArgs false in
set_option maxRecDepth 100000 in
set_option maxHeartbeats 4000000 in
theorem samekey_any (A B : Option Addr) (n c d : Nat) (m u : Int) (s : List Nat) (w : World) (hA : Cells w A (bytesV s)) (hB : Cells w B (bytesV s)) (hs : s.length = n) (h8 : ByteL s) :
    Calls Tryz.prog 13 #[.agg #[.slice A n c, .int .i64 m, .int .i64 u], .agg #[.slice B n d, .int .i64 m, .int .i64 u]] w fun e w' => e = .returned (.bool true) ∧ Below w.heap.size w w' := by
 have g1 : (m == m) = true := by simp
 have g2 : (u == u) = true := by simp
 have hb : ∀ o o2 : Obj, Below w.heap.size w ((w.alloc o).alloc o2) := fun o o2 => below_two (Below.refl _ _) (Nat.le_refl _) o o2
 have r1 : ∀ o o2 : Obj, Sem.run Tryz.prog (convert 22 9 (.slice A n c)) ((w.alloc o).alloc o2) = .ok (.string ⟨(s.map UInt8.ofNat).toArray⟩) ((w.alloc o).alloc o2) := fun o o2 => run_str A n c s _ (hA.below (hb o o2)) hs h8
 have r2 : ∀ o o2 : Obj, Sem.run Tryz.prog (convert 22 9 (.slice B n d)) ((w.alloc o).alloc o2) = .ok (.string ⟨(s.map UInt8.ofNat).toArray⟩) ((w.alloc o).alloc o2) := fun o o2 => run_str B n d s _ (hB.below (hb o o2)) hs h8
 generalize (⟨(s.map UInt8.ofNat).toArray⟩ : ByteArray) = S at *
 clear hA hB hs h8
 go_enter Tryz.func13, Tryz.ntmps13
 go_wp2_with (fail)
 go_ret
 exact ⟨rfl, hb _ _⟩
end Go.Proofs.YtkflpoiobpblhaaGreat
namespace Go.Proofs.YtkflpoiobpblhaaGreat
open Go.RowKit
def newS (n : Nat) (m : Int) (s : List Nat) : List Nat := if okKey n m 0 then s else []
def bitsI (root : List Nat) (i : Int) (msg : List Nat) : List Bool := if 0 ≤ i ∧ i < 4096 then bitL (msgS root i.toNat msg) 64 else []
theorem rBits_any (root : List Nat) (i : Int) (msg : List Nat) (A : Option Addr) (n c : Nat) (w : World) (hr : IsD root) (hA : Cells w A (bytesV msg)) (hm : msg.length = n) (hn : n ≤ 70000) (h8 : ByteL msg) :
    Calls Tryz.prog 69 #[.agg (arrK .u8 root), .int .i64 i, .slice A n c] w fun e w' => ∃ A' c', e = .returned (.slice A' (bitsI root i msg).length c') ∧ Cells w' A' ((bitsI root i msg).map Value.bool) ∧ Below w.heap.size w w' := by
 by_cases hi : 0 ≤ i ∧ i < 4096
 · obtain ⟨k, rfl⟩ := Int.eq_ofNat_of_zero_le hi.1
   have e : bitsI root k msg = bitL (msgS root k msg) 64 := by unfold bitsI; rw [if_pos hi]; rfl
   rw [e, bitL_length]
   exact (rBits_good root k msg A n c w hr (by omega) hA hm hn h8).mono fun e w' ⟨B, c', h1, h2, h3⟩ => ⟨_, _, h1, h2, h3⟩
 · have e : bitsI root i msg = [] := by unfold bitsI; rw [if_neg hi]
   rw [e]
   exact (rBits_bad root i A n c w (by omega)).mono fun e w' ⟨h1, h2⟩ => ⟨none, 0, h1, .inl rfl, h2⟩
end Go.Proofs.YtkflpoiobpblhaaGreat
namespace Go.Proofs.YtkflpoiobpblhaaGreat
open Go.RowKit
set_option linter.unusedSimpArgs false in
set_option maxRecDepth 100000 in
set_option maxHeartbeats 4000000 in
theorem samed_any (l : List (List Nat)) (m : Nat) (A B : Option Addr) (c c2 : Nat) (w : World) (hl : l.length = m) (hL : IsL l) (hm : m ≤ 1000000) (hA : Cells w A (bytesV l.flatten)) (hB : Cells w B (bytesV l.flatten)) :
    Calls Tryz.prog 75 #[.slice A m c, .slice B m c2] w fun e w' => e = .returned (.bool true) ∧ Below w.heap.size w w' := by
 have Hl := Lib.hid hl
 have HL := Lib.hid hL
 have HA := Lib.hid hA
 have HB := Lib.hid hB
 clear hl hL hA hB
 have g1 : ((m : Int) != (m : Int)) = false := by simp
 have g2 : (m != m) = false := by simp
 go_enter Tryz.func75, Tryz.ntmps75
 go_wp2_with (fail)
 go_loopw [5] (fun i wr => ∃ k : Nat, k ≤ m ∧ i = .int .i64 k ∧ Hid (Below w.heap.size w wr)) (fun i _ => m - (intOf i).toNat)
 case atStart => exact ⟨0, by omega, rfl, Below.refl _ _⟩
 case round =>
  obtain ⟨k, hk, rfl, Hbr⟩ := hrel
  by_cases hkm : k < m
  · have hdk : decide ((k : Int) < (m : Int)) = true := by simp; omega
    have hdk2 : decide (k < m) = true := by simp; omega
    have hkI : (k : Int) < (m : Int) := by omega
    obtain ⟨d, hd⟩ := getElem?_lt (l := l) (k := k) (by rw [Hl.out]; exact hkm)
    have Dd := Lib.hid (HL.out d (List.mem_of_getElem? hd))
    obtain ⟨pb, po, rfl, -, -⟩ := Cells.addr HA.out (by rw [bytesV_length, HL.out.flat_length, Hl.out]; omega)
    obtain ⟨qb, qo, rfl, -, -⟩ := Cells.addr HB.out (by rw [bytesV_length, HL.out.flat_length, Hl.out]; omega)
    have R1 := Lib.hid (fun W (h : Below w.heap.size w W) => range_at HL.out (HA.out.below h) hd)
    have R2 := Lib.hid (fun W (h : Below w.heap.size w W) => range_at HL.out (HB.out.below h) hd)
    have hEq : ∀ W, (Op.equalIn 10000 29 (.agg (arrK .u8 d)) (.agg (arrK .u8 d))).run Tryz.prog W = .ok true W := fun W => by
     have := run_eqD Dd.out Dd.out W
     simpa using this
    clear hd
    go_wp2_with (fail)
    refine wp_region_held_drew (S := fun W => Below w.heap.size w W) (by kernel_rfl) (Hbr.out.trans (below_drewN (Below.refl _ _) 1)) (fun Hd => ?_)
    replace Hd : Below w.heap.size w wr.drew := Hd
    generalize World.drew wr = wd at *
    refine tq 0 rfl Hd ?_
    simp only [la, Act.put]
    refine tq 1 rfl Hd ?_
    simp only [la, Act.put]
    refine tq 2 rfl Hd ?_
    simp only [la, Act.put]
    refine tg 3 (.agg (arrK .u8 d)) rfl (yieldsIf_load_mid (by rfl) _ _ rfl _ _ rfl (d.map fun (n : Nat) => Value.int .u8 (n : Int)) (.array 32 5) (fun W hW => R1.out W hW) (by kernel_rfl) rfl (dV_info Dd.out.1)) Hd ?_
    simp only [la, Act.put]
    refine tq 4 rfl Hd ?_
    simp only [la, Act.put]
    refine tq 5 rfl Hd ?_
    simp only [la, Act.put]
    refine tq 6 rfl Hd ?_
    simp only [la, Act.put]
    refine tg 7 (.agg (arrK .u8 d)) rfl (yieldsIf_load_mid (by rfl) _ _ rfl _ _ rfl (d.map fun (n : Nat) => Value.int .u8 (n : Int)) (.array 32 5) (fun W hW => R2.out W hW) (by kernel_rfl) rfl (dV_info Dd.out.1)) Hd ?_
    simp only [la, Act.put]
    refine tq 8 rfl Hd ?_
    simp only [la, Act.put]
    refine td ?_ _
    go_wp2_with (fail)
    go_roundw
    case rel => exact ⟨k + 1, by omega, by go_num, Hd⟩
    case measure => simp [intOf]; omega
  · have hdk : decide ((k : Int) < (m : Int)) = false := by simp; omega
    have hdk2 : decide (k < m) = false := by simp; omega
    go_wp2_with (fail)
    go_ret
    exact ⟨rfl, Hbr.out⟩
set_option linter.unusedSimpArgs false in
set_option maxRecDepth 100000 in
set_option maxHeartbeats 4000000 in
theorem samesig_any (u : Int) (A A2 B B2 C C2 : Option Addr) (n1 n2 n3 c c2 d d2 e e2 : Nat) (l1 l2 l3 : List (List Nat)) (w : World) (h1 : l1.length = n1) (h2 : l2.length = n2) (h3 : l3.length = n3) (L1 : IsL l1) (L2 : IsL l2) (L3 : IsL l3) (m1 : n1 ≤ 1000000) (m2 : n2 ≤ 1000000) (m3 : n3 ≤ 1000000)
    (hA : Cells w A (bytesV l1.flatten)) (hA2 : Cells w A2 (bytesV l1.flatten)) (hB : Cells w B (bytesV l2.flatten)) (hB2 : Cells w B2 (bytesV l2.flatten)) (hC : Cells w C (bytesV l3.flatten)) (hC2 : Cells w C2 (bytesV l3.flatten)) :
    Calls Tryz.prog 38 #[.agg #[.int .i64 u, .slice A n1 c, .slice B n2 d, .slice C n3 e], .agg #[.int .i64 u, .slice A2 n1 c2, .slice B2 n2 d2, .slice C2 n3 e2]] w fun e w' => e = .returned (.bool true) ∧ Below w.heap.size w w' := by
 have HA := Lib.hid hA; have HA2 := Lib.hid hA2; have HB := Lib.hid hB; have HB2 := Lib.hid hB2; have HC := Lib.hid hC; have HC2 := Lib.hid hC2
 have H1 := Lib.hid h1; have H2 := Lib.hid h2; have H3 := Lib.hid h3; have HL1 := Lib.hid L1; have HL2 := Lib.hid L2; have HL3 := Lib.hid L3
 have g1 : (u == u) = true := by simp
 clear hA hA2 hB hB2 hC hC2 h1 h2 h3 L1 L2 L3
 go_enter Tryz.func38, Tryz.ntmps38
 go_upto_region 1 with (fail)
 generalize hge : World.alloc _ _ = w0
 have HX0 := Lib.hid (show Blk w0 w.heap.size 32 #[.int .i64 u, .slice A n1 c, .slice B n2 d, .slice C n3 e] by subst hge; exact (blk_two w _ _ 32 32).1)
 have HY0 := Lib.hid (show Blk w0 (w.heap.size + 1) 32 #[.int .i64 u, .slice A2 n1 c2, .slice B2 n2 d2, .slice C2 n3 e2] by subst hge; exact (blk_two w _ _ 32 32).2)
 have Z0 := Lib.hid (show Below w.heap.size w w0 by subst hge; exact below_two (Below.refl _ _) (Nat.le_refl _) _ _)
 clear hge
 have x0 := HX0.out.cellv (i := 0) rfl
 have y0 := HY0.out.cellv (i := 0) rfl
 have x1 := HX0.out.cellv (i := 1) rfl
 have y1 := HY0.out.cellv (i := 1) rfl
 have x2 := HX0.out.cellv (i := 2) rfl
 have y2 := HY0.out.cellv (i := 2) rfl
 have x3 := HX0.out.cellv (i := 3) rfl
 have y3 := HY0.out.cellv (i := 3) rfl
 go_wp2_with (fail)
 refine (samed_any l1 n1 _ _ _ _ w0 H1.out HL1.out m1 (HA.out.below Z0.out) (HA2.out.below Z0.out)).mono ?_
 rintro e_ w1 ⟨rfl, hb⟩
 have HX1 := Lib.hid (HX0.out.below hb)
 have HY1 := Lib.hid (HY0.out.below hb)
 have Z1 := Lib.hid (below_of Z0.out hb Z0.out.size)
 clear hb x0 x1 x2 x3 y0 y1 y2 y3
 have x0 := HX1.out.cellv (i := 0) rfl
 have y0 := HY1.out.cellv (i := 0) rfl
 have x1 := HX1.out.cellv (i := 1) rfl
 have y1 := HY1.out.cellv (i := 1) rfl
 have x2 := HX1.out.cellv (i := 2) rfl
 have y2 := HY1.out.cellv (i := 2) rfl
 have x3 := HX1.out.cellv (i := 3) rfl
 have y3 := HY1.out.cellv (i := 3) rfl
 go_wp2_with (fail)
 refine (samed_any l2 n2 _ _ _ _ w1 H2.out HL2.out m2 (HB.out.below Z1.out) (HB2.out.below Z1.out)).mono ?_
 rintro e_ w2 ⟨rfl, hb⟩
 have HX2 := Lib.hid (HX1.out.below hb)
 have HY2 := Lib.hid (HY1.out.below hb)
 have Z2 := Lib.hid (below_of Z1.out hb Z1.out.size)
 clear hb x0 x1 x2 x3 y0 y1 y2 y3
 have x0 := HX2.out.cellv (i := 0) rfl
 have y0 := HY2.out.cellv (i := 0) rfl
 have x1 := HX2.out.cellv (i := 1) rfl
 have y1 := HY2.out.cellv (i := 1) rfl
 have x2 := HX2.out.cellv (i := 2) rfl
 have y2 := HY2.out.cellv (i := 2) rfl
 have x3 := HX2.out.cellv (i := 3) rfl
 have y3 := HY2.out.cellv (i := 3) rfl
 go_wp2_with (fail)
 refine (samed_any l3 n3 _ _ _ _ w2 H3.out HL3.out m3 (HC.out.below Z2.out) (HC2.out.below Z2.out)).mono ?_
 rintro e_ w3 ⟨rfl, hb⟩
 have HX3 := Lib.hid (HX2.out.below hb)
 have HY3 := Lib.hid (HY2.out.below hb)
 have Z3 := Lib.hid (below_of Z2.out hb Z2.out.size)
 clear hb x0 x1 x2 x3 y0 y1 y2 y3
 go_wp2_with (fail)
 go_ret
 exact ⟨rfl, Z3.out⟩
end Go.Proofs.YtkflpoiobpblhaaGreat
