/- slices.Values, AppendSeq, Collect at intervals. -/
import Derived.RangeFuncNested
import Derived.RangeFuncBound
import Derived.RangeFuncCalls
import Derived.RangeFuncLeaves
import Derived.Shelf.Abstract
import Derived.Shelf.RegionOpen
import Derived.OwnWalkIn
import Derived.TacticsInMore
import Derived.LoopNIn
import Derived.LoopIn
import Derived.Maps.AppendAt
import Derived.Test.YtlijdbgknbeefaaDoorIvA
namespace Go.Proofs.YtlijdbgknbeefaaDoor
open Go.RowKit Go.Shelf
attribute [local go_sem] Oper.semAt_some
abbrev encI (x : Int × Int) : Value := .agg #[.int .i64 x.1, .int .i64 x.2]
set_option maxRecDepth 100000 in
set_option maxHeartbeats 4000000 in
theorem ivalues1_in (F : Fence) (n : Nat) (h7 : F.fn 46) (hro : F.round = none) (hn : 1 ≤ n) (l Bs n₀ b off len cap : Nat) (zs : List (Int × Int)) (hz : zs.length = len) (hreach : len ≤ 1000000) (hb : b < n₀) (J Jx : List (Int × Int) → World → Prop)
    (W : World) (hJ : AbidesFrom W.heap.size J)
    (hY : ∀ pre x W, J pre W → pre.length < len → YieldAt F (n - 1) Tryd.prog l #[encI x] W fun e W' =>
      (e = .returned (.bool true) ∧ J (pre ++ [x]) W' ∧ Below n₀ W W') ∨ (e = .returned (.bool false) ∧ Jx (pre ++ [x]) W'))
    (hn₀ : n₀ ≤ W.heap.size) (hBs : W.cell? ⟨Bs, 0, none⟩ = some (.slice (some ⟨b, off, none⟩) len cap)) (hc : ∀ k i, zs[k]? = some i → W.cell? ⟨b, off + k * 2, none⟩ = some (.int .i64 i.1) ∧ W.cell? ⟨b, off + k * 2 + 1, none⟩ = some (.int .i64 i.2)) (h0 : J [] W) :
    CallsIn F n Tryd.prog 46 #[.func (.yield l) #[] #[], .pointer (some ⟨Bs, 0, none⟩)] W fun e W' => (∃ v, e = .returned v) ∧
      ((∃ ys, ys = zs ∧ J ys W') ∨ (∃ pre, (∃ k, k ≤ len ∧ pre = zs.take k) ∧ Jx pre W')) := by
  refine callsIn_of_wp Tryd.func46 rfl h7 ?_ hro
  simp only [Tryd.ntmps46, List.size_toArray, List.length_cons, List.length_nil, Nat.reduceAdd, Nat.reduceSub, Array.replicate_succ, Array.replicate_zero, List.push_toArray, List.append_toArray, List.nil_append, List.cons_append]
  gi_wp2
  gi_loopw [7] (fun i wr => ∃ k : Nat, k ≤ len ∧ i = .int .i64 k ∧ J (zs.take k) wr ∧ Below n₀ W wr ∧ W.heap.size ≤ wr.heap.size)
    (fun i _ => len - (intOf i).toNat)
  case atStart => exact ⟨0, Nat.zero_le _, rfl, h0, Below.refl _ _, Nat.le_refl _⟩
  case round =>
    obtain ⟨k, hk, rfl, hJs, hnx, hsz⟩ := hrel
    by_cases hlt : k < len
    · obtain ⟨x, hx⟩ : ∃ x, zs[k]? = some x := ⟨zs[k]'(by omega), List.getElem?_eq_getElem _⟩
      have hc1 := (hnx.cell (p := ⟨b, off + k * 2, none⟩) hb).trans (hc k x hx).1
      have hc2 := (hnx.cell (p := ⟨b, off + k * 2 + 1, none⟩) hb).trans (hc k x hx).2
      have hJa : J (zs.take k) (wr.alloc (.cells #[.int .i64 x.1, .int .i64 x.2] 43)) := hJ _ _ _ none hJs (World.grownBy_alloc _ _ none) (fun r e => by cases e)
      have hba : Below n₀ W (wr.alloc (.cells #[.int .i64 x.1, .int .i64 x.2] 43)) := hnx.alloc (by omega) _
      obtain ⟨fn, tmps, assign, body, hy, hR⟩ := hY _ x _ hJa (by rw [List.length_take]; omega)
      have Hx := Lib.hid hx
      have Hz := Lib.hid hz
      clear hx hz hc
      gi_wp2
      refine hR.mono ?_
      rintro e W3 (⟨rfl, hJ3, hk3⟩ | ⟨rfl, hJx3⟩)
      · gi_wp2
        go_roundw
        case rel => exact ⟨k + 1, by omega, by go_num, by rw [take_snoc Hx.out]; exact hJ3, hba.trans hk3, by have := hk3.size; simp at this; omega⟩
        case measure => simp [intOf]; omega
      · gi_wp2
        refine bodyPost_ret (results_none rfl _ _ _) rfl ?_
        exact ⟨⟨_, rfl⟩, .inr ⟨_, ⟨k + 1, by omega, (take_snoc Hx.out).symm⟩, hJx3⟩⟩
    · obtain rfl : k = len := by omega
      gi_wp2
      go_end0
      exact ⟨⟨_, rfl⟩, .inl ⟨_, by rw [List.take_of_length_le (by omega)], hJs⟩⟩
set_option maxRecDepth 100000 in
set_option maxHeartbeats 1000000 in
theorem ivalues1_nil_in (F : Fence) (n : Nat) (h7 : F.fn 46) (hro : F.round = none) (l Bs : Nat) (A : Option Addr) (cap : Nat) (J : List (Int × Int) → World → Prop) (W : World) (hBs : W.cell? ⟨Bs, 0, none⟩ = some (.slice A 0 cap)) (h0 : J [] W) :
    CallsIn F n Tryd.prog 46 #[.func (.yield l) #[] #[], .pointer (some ⟨Bs, 0, none⟩)] W fun e W' => (∃ v, e = .returned v) ∧ J [] W' := by
  refine callsIn_of_wp Tryd.func46 rfl h7 ?_ hro
  simp only [Tryd.ntmps46, List.size_toArray, List.length_cons, List.length_nil, Nat.reduceAdd, Nat.reduceSub, Array.replicate_succ, Array.replicate_zero, List.push_toArray, List.append_toArray, List.nil_append, List.cons_append]
  gi_wp2
  gi_loopw [7] (fun i wr => i = .int .i64 0 ∧ J [] wr) (fun _ _ => 0)
  case atStart => exact ⟨rfl, h0⟩
  case round =>
    obtain ⟨rfl, hJs⟩ := hrel
    gi_wp2
    go_end0
    exact ⟨⟨_, rfl⟩, hJs⟩
set_option maxHeartbeats 1000000 in
theorem ivalues_any (A : Option Addr) (len cap : Nat) (w : World) :
    Calls Tryd.prog 36 #[.slice A len cap] w fun e w' => e = .returned (.func (.func 46) #[] #[.pointer (some ⟨w.heap.size, 0, none⟩)]) ∧ w' = w.alloc (.cells #[.slice A len cap] 37) := by
  go_enter Tryd.func36, Tryd.ntmps36
  go_wp2_with (fail)
  go_ret
  exact ⟨rfl, rfl⟩
/-- slices.Values(s) hands back a value that yields the intervals of s, in order. -/
theorem ivalues_stops (F : Fence) (n : Nat) (h7 : F.fn 46) (hro : F.round = none) (hn : 1 ≤ n) (Bs n₀ : Nat) (A : Option Addr) (len cap : Nat) (zs : List (Int × Int)) (hz : zs.length = len) (hreach : len ≤ 1000000) (w : World) (hBs : Bs < w.heap.size) (hn₀ : n₀ ≤ w.heap.size)
    (hc : w.cell? ⟨Bs, 0, none⟩ = some (.slice A len cap)) (hI : zs = [] ∨ ∃ b off, A = some ⟨b, off, none⟩ ∧ b < n₀ ∧ ∀ k i, zs[k]? = some i → w.cell? ⟨b, off + k * 2, none⟩ = some (.int .i64 i.1) ∧ w.cell? ⟨b, off + k * 2 + 1, none⟩ = some (.int .i64 i.2)) :
    SeqStopsK F n Tryd.prog 46 #[.pointer (some ⟨Bs, 0, none⟩)] (fun x : Int × Int => #[encI x]) (Below n₀) (fun ys => ys = zs) (fun pre => pre <+: zs) len w := fun l J Jx W hW hJ _ hY h0 => by
  have hc' := (hW.cell (p := ⟨Bs, 0, none⟩) hBs).trans hc
  rcases hI with rfl | ⟨b, off, rfl, hb, hcs⟩
  · simp at hz
    subst hz
    exact (ivalues1_nil_in F n h7 hro l Bs A cap J W hc' h0).mono fun e W' ⟨he, hj⟩ => ⟨he, .inl ⟨_, rfl, hj⟩⟩
  · refine (ivalues1_in F n h7 hro hn l Bs n₀ b off len cap zs hz hreach hb J Jx W hJ hY (Nat.le_trans hn₀ hW.size) hc' (fun k i hi => ?_) h0).mono ?_
    · have h1 := (hcs k i hi).1
      have h2 := (hcs k i hi).2
      exact ⟨((hW.mono hn₀).cell (p := ⟨b, off + k * 2, none⟩) hb).trans h1, ((hW.mono hn₀).cell (p := ⟨b, off + k * 2 + 1, none⟩) hb).trans h2⟩
    · rintro e W' ⟨he, ⟨ys, rfl, hj⟩ | ⟨pre, ⟨k, hk, rfl⟩, hj⟩⟩
      · exact ⟨he, .inl ⟨_, rfl, hj⟩⟩
      · exact ⟨he, .inr ⟨_, List.take_prefix _ _, hj⟩⟩
theorem cell_two_new (w : World) (x y : Value) (t : TypeId) : ∀ j u, [x, y][j]? = some u → (w.alloc (.cells #[x, y] t)).cell? ((⟨w.heap.size, 0, none⟩ : Addr).add j) = some u := by
  intro j u hj
  match j, hj with
  | 0, hj => simp at hj; subst hj; exact (Blk.new w t #[x, y]).cell 0
  | 1, hj => simp at hj; subst hj; exact (Blk.new w t #[x, y]).cell 1
  | j + 2, hj => simp at hj
theorem blk_own {β : Type} (B : Nat) (t : TypeId) (f : β → Array Value) : Own (fun s W => Blk W B t (f s)) := fun s X Y row hs hg hrow =>
  hs.grown hg (fun e' => by
    obtain ⟨o, ho, hc⟩ := hrow B e'.symm
    rw [show X.heap[B]? = _ from hs] at ho; cases ho; cases hc)
theorem infoIv : (Tryd.prog.info? 43).map (fun i => (i.zero, i.size, i.bytes)) = some (some (.agg #[.int .i64 0, .int .i64 0]), 2, 16) := by kernel_rfl
set_option maxRecDepth 100000 in
set_option maxHeartbeats 4000000 in
/-- slices.AppendSeq(nil, slices.Values(s)): a new slice of the intervals of s. -/
theorem iappendSeq_in (F : Fence) (n : Nat) (h11 : F.fn 49) (hro : F.round = none) (hn : 2 ≤ n) (g : Nat) (lb : Array Value) (hFg : F.fn g) (eg : ∀ args w, (callFunc g args).run Tryd.prog w = .ok (.enter g args) w)
    (zs : List (Int × Int)) (N : Nat) (hN : N ≤ 1000000) (w : World) (hseq : SeqStopsK F (n - 1) Tryd.prog g lb (fun x : Int × Int => #[encI x]) (Below w.heap.size) (fun ys => ys = zs) (fun pre => pre <+: zs) N w) :
    CallsIn F n Tryd.prog 49 #[.slice none 0 0, .func (.func g) #[] lb] w fun e w' => ∃ v, e = .returned v ∧ w'.ownsRow w.heap.size 43 2 v zs.length (ivV zs) ∧ Below w.heap.size w w' := by
  have h1 : 1 ≤ n := by omega
  refine callsIn_of_wp_marks Tryd.func49 rfl h11 ?_ hro
  simp only [Tryd.ntmps49, List.size_toArray, List.length_cons, List.length_nil, Nat.reduceAdd, Nat.reduceSub, Array.replicate_succ, Array.replicate_zero, List.push_toArray, List.append_toArray, List.nil_append, List.cons_append]
  gi_wp2
  have bS := Boxed.new w 37 (.slice none 0 0)
  have hB0 : Below w.heap.size w (w.alloc (.cells #[.slice none 0 0] 37)) := (Below.refl _ w).alloc (Nat.le_refl _) _
  have hsz : (w.alloc (.cells #[.slice none 0 0] 37)).heap.size = w.heap.size + 1 := by simp
  obtain ⟨W0, hW0⟩ : ∃ W0, w.alloc (.cells #[.slice none 0 0] 37) = W0 := ⟨_, rfl⟩
  rw [hW0] at bS hB0 hsz ⊢
  clear hW0
  obtain ⟨i0, hi, hz0, hz1, hz2⟩ := info_parts infoIv
  refine wpIn_rangeFunc_ownH hro h1 (gf := g) (lb := lb) rfl hFg eg hseq belowK_t (belowK_b (by omega)) hB0 (fun _ => rfl)
    (fun pre W => (∃ v, Boxed W w.heap.size 37 v ∧ W.ownsRow w.heap.size 43 2 v pre.length (ivV pre) ∧ True) ∧ Below w.heap.size w W)
    (fun _ _ _ => False)
    (OwnFrom.and (Own.from (holdsRow_own w.heap.size w.heap.size 37 43 2 (fun pre => pre.length) (fun pre => ivV pre) (fun _ _ => True)) _) (ownFrom_below (Nat.le_refl _) (by omega)))
    (fun _ _ _ _ _ hs _ _ => hs)
    ⟨⟨_, bS, World.ownsRow_nil W0 _ _ _, trivial⟩, hB0⟩
    (fun x a' W => ∃ Bx, w.heap.size < Bx ∧ Blk W Bx 43 #[.int .i64 x.1, .int .i64 x.2] ∧ a' = { tmps := #[.slice none 0 0, .func (.func g) #[] lb, .pointer (some ⟨w.heap.size, 0, none⟩), undef, .slice none 0 0, .pointer (some ⟨Bx, 0, none⟩), .func (.func g) #[] lb, encI x, undef, undef, undef, undef, undef], defers := [] })
    ?hAx ?assign ?body ?done ?stop
  case hAx =>
    rintro x a' s X Y row ⟨Bx, h1, h2, h3⟩ hg hrow
    exact ⟨Bx, h1, blk_own Bx _ (fun _ : Unit => #[.int .i64 x.1, .int .i64 x.2]) () X Y row h2 hg (fun r e => (hrow r e).2), h3⟩
  case assign =>
    rintro l pre x W K ⟨⟨v, hv, hr, -⟩, hB⟩ hK
    gi_wp2
    exact hK _ _ ((KeepsOthers.alloc _ _).from _) ((Below.refl _ W).alloc hB.size _) ⟨⟨v, hv.alloc _, hr.alloc _, trivial⟩, hB.alloc hB.size _⟩ ⟨W.heap.size, hv.lt, Blk.new W _ _, rfl⟩
  case body =>
    rintro l pre x a' W hl ⟨r, hr⟩ ⟨⟨v, hv, hrow, -⟩, hB⟩ ⟨Bx, hBx, bX, rfl⟩ hlt
    have hc := hv.cell
    have x0 := Blk.cellv bX (i := 0) rfl
    have x1 := Blk.cellv bX (i := 1) rfl
    gi_wp2_with (first
      | (gi_at_builtin; refine wpListIn_append_own _ rfl _ _ 37 rfl w.heap.size 43 i0 (.agg #[.int .i64 0, .int .i64 0]) 2 16 Tryd.underlying37 hi hz0 hz1 hz2 rfl (by decide) _ _ _ rfl (hrow.alloc _) ⟨W.heap.size, 0, none⟩ 1 1 [.int .i64 x.1, .int .i64 x.2] rfl rfl (cell_two_new _ _ _ _) (by simp [Value.oneCell']) (by unfold maxLen; omega) (by omega) (by have := hB.size; simp; omega) ?_; intro v' w1 hown' hgrow _; obtain ⟨g', cap', rfl⟩ := ownsRow_succ hown'; obtain ⟨hv1, hv2, hr2, hk2, hb2⟩ := hv.appended (by decide) hrow hB.size (Nat.le_refl _) hown' hgrow; have hc1 := hv1.cell; have hf1 := hv1.frozen))
    exact ⟨hk2.from _, hb2, ⟨_, hv2, by rw [ivV_append, List.length_append]; exact hr2, trivial⟩, hB.trans hb2⟩
  case done =>
    rintro D ys W hD rfl ⟨⟨v, hv, hrow, -⟩, hB⟩ hK
    have hc := hv.cell
    gi_wp2
    refine ⟨by simp, .inl ⟨_, _, rfl, run_takeDeferred hK, ?_⟩⟩
    exact ⟨_, results_tmp rfl _ _ _, v, rfl, ownsRow_putObj hrow _ hK rfl, hB.trans (belowK_b (w := w) (Nat.le_refl _) W D _ _ (by omega) hK rfl rfl)⟩
  case stop =>
    rintro D c pre W _ _ h _
    exact h.elim
set_option maxHeartbeats 1000000 in
/-- slices.Collect(slices.Values(s)): a new slice of the intervals of s. -/
theorem icollect_any (Bs : Nat) (A : Option Addr) (len cap : Nat) (zs : List (Int × Int)) (hz : zs.length = len) (hlen : len ≤ 1000000) (w : World) (hBs : Bs < w.heap.size) (hc : w.cell? ⟨Bs, 0, none⟩ = some (.slice A len cap)) (hC : IvC w A zs) :
    Calls Tryd.prog 44 #[.func (.func 46) #[] #[.pointer (some ⟨Bs, 0, none⟩)]] w fun e w' => ∃ v, e = .returned v ∧ w'.ownsRow w.heap.size 43 2 v zs.length (ivV zs) ∧ Below w.heap.size w w' := by
  have e7 : ∀ args w, (callFunc 46 args).run Tryd.prog w = .ok (.enter 46 args) w := enters_of Tryd.func46 (by kernel_rfl) rfl
  have hI : zs = [] ∨ ∃ b off, A = some ⟨b, off, none⟩ ∧ b < w.heap.size ∧ ∀ k i, zs[k]? = some i → w.cell? ⟨b, off + k * 2, none⟩ = some (.int .i64 i.1) ∧ w.cell? ⟨b, off + k * 2 + 1, none⟩ = some (.int .i64 i.2) := by
    rcases Nat.eq_zero_or_pos zs.length with h | h
    · exact .inl (List.eq_nil_of_length_eq_zero h)
    · exact .inr (hC.at_ h)
  have hseq := ivalues_stops Fence.wide 3 trivial rfl (by omega) Bs w.heap.size A len cap zs hz hlen w hBs (Nat.le_refl _) hc hI
  have HC := Lib.hid ((callsIn_wide (n := 4)).1 (iappendSeq_in Fence.wide 4 trivial rfl (by omega) 46 #[.pointer (some ⟨Bs, 0, none⟩)] trivial e7 zs len hlen w hseq))
  clear hseq hI hC hc hz e7
  go_enter Tryd.func44, Tryd.ntmps44
  go_wp2_with ((go_at_call 49; refine HC.out.mono ?_; rintro e w' ⟨v, rfl, hrow, hb⟩))
  go_ret
  exact ⟨v, rfl, hrow, hb⟩
end Go.Proofs.YtlijdbgknbeefaaDoor