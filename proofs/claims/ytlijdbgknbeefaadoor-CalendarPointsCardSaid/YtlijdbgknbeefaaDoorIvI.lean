/- The walks of In (calendar), of the reference's In and Same; '==' at dates and intervals. -/
import Derived.Test.YtlijdbgknbeefaaDoorIvU
import Derived.Laws.StructEq
namespace Go.Proofs.YtlijdbgknbeefaaDoor
open Go.RowKit Go.Shelf Go.Lib
theorem run_eqI (a b c d : Int) (w : World) : (Op.equalIn 10000 43 (.agg #[.int .i64 a, .int .i64 b]) (.agg #[.int .i64 c, .int .i64 d])).run Tryd.prog w = .ok (decide ((a, b) = (c, d))) w := by
  have u3 := Tryd.underlying3
  have a3 := Tryd.isAgg3
  have z3 := Tryd.sizeOf3
  have hS : Tryd.prog.underlying 43 = some (.struct (Tryd.prog.fieldsOf 43)) := by kernel_rfl
  have hp : Tryd.prog.stoodInHeld 43 = false := by kernel_rfl
  rw [show (10000 : Nat) = 9999 + 1 from rfl, run_equalIn_agg w 9999 43 _ _ hS hp]
  simp only [Program.fieldsOf, Tryd.underlying43]
  go_simp
  by_cases h1 : a = c <;> by_cases h2 : b = d <;> simp [h1, h2]
theorem run_eqDt (a b c d e f : Int) (w : World) : (Op.equalIn 10000 23 (.agg #[.int .i64 a, .int .i64 b, .int .i64 c]) (.agg #[.int .i64 d, .int .i64 e, .int .i64 f])).run Tryd.prog w = .ok (decide ((a, b, c) = (d, e, f))) w := by
  have u3 := Tryd.underlying3
  have a3 := Tryd.isAgg3
  have z3 := Tryd.sizeOf3
  have hS : Tryd.prog.underlying 23 = some (.struct (Tryd.prog.fieldsOf 23)) := by kernel_rfl
  have hp : Tryd.prog.stoodInHeld 23 = false := by kernel_rfl
  rw [show (10000 : Nat) = 9999 + 1 from rfl, run_equalIn_agg w 9999 23 _ _ hS hp]
  simp only [Program.fieldsOf, Tryd.underlying23]
  go_simp
  by_cases h1 : a = d <;> by_cases h2 : b = e <;> by_cases h3 : c = f <;> simp [h1, h2, h3]
theorem ipred_any (n : Int) (B : Nat) (w : World) (hB : B < w.heap.size) (hcell : w.cell? ⟨B, 0, none⟩ = some (.int .i64 n)) :
    PredBelow Tryd.prog 40 #[.pointer (some ⟨B, 0, none⟩)] (fun x => .agg (encIv x).toArray) (Iv.inI n) w := fun W x hb => by
  have hc : W.cell? ⟨B, 0, none⟩ = some (.int .i64 n) := (hb.cell (p := ⟨B, 0, none⟩) hB).trans hcell
  have hBW : B < W.heap.size := Nat.lt_of_lt_of_le hB hb.size
  have hne : B ≠ W.heap.size := by omega
  obtain ⟨x, y⟩ := x
  show Calls Tryd.prog 40 #[.agg #[.int .i64 x, .int .i64 y], .pointer (some ⟨B, 0, none⟩)] W _
  by_cases h1 : x ≤ n <;> by_cases h2 : n ≤ y
  all_goals
    go_enter Tryd.func40, Tryd.ntmps40
    go_wp2_with (fail)
    go_ret
    exact ⟨ret_bool (by unfold Iv.inI; simp [h1, h2]), hb.alloc hb.size _⟩
set_option maxHeartbeats 1000000 in
theorem iindex_empty (A : Option Addr) (c : Nat) (fv : Value) (w : World) :
    Calls Tryd.prog 48 #[.slice A 0 c, fv] w fun e w' => e = .returned (.int .i64 (-1)) ∧ w = w' := by
  go_enter Tryd.func48, Tryd.ntmps48
  go_wp2_with (fail)
  refine wp_loop_rounds 1 ?_
  rw [rounds_succ]
  go_wp2_with (fail)
  go_ret
  exact ⟨rfl, rfl⟩
set_option maxHeartbeats 1000000 in
theorem icontains_empty (A : Option Addr) (c : Nat) (fv : Value) (w : World) :
    Calls Tryd.prog 39 #[.slice A 0 c, fv] w fun e w' => e = .returned (.bool false) ∧ w = w' := by
  go_enter Tryd.func39, Tryd.ntmps39
  go_wp2_with ((go_at_call 48; refine (iindex_empty _ _ _ _).mono ?_; rintro e w' ⟨rfl, rfl⟩))
  go_ret
  exact ⟨rfl, rfl⟩
set_option maxHeartbeats 2000000 in
theorem In_any (n : Int) (A : Option Addr) (len c : Nat) (l : List (Int × Int)) (w : World) (hl : l.length = len) (hlen : len ≤ 1000000) (hC : IvC w A l) :
    Calls Tryd.prog 21 #[.int .i64 n, .slice A len c] w fun e w' => e = .returned (.bool (Iv.inU n l)) ∧ Below w.heap.size w w' := by
  rcases Nat.eq_zero_or_pos l.length with h0 | h0
  · have hl0 : l = [] := List.eq_nil_of_length_eq_zero h0
    subst hl0
    simp at hl
    subst hl
    clear hC hlen h0
    have HE : Iv.inU n [] = false := rfl
    rw [HE]
    clear HE
    go_enter Tryd.func21, Tryd.ntmps21
    go_wp2_with ((go_at_call 39; refine (icontains_empty _ _ _ _).mono ?_; rintro e w' ⟨rfl, rfl⟩))
    go_ret
    exact ⟨rfl, (Below.refl _ w).alloc (Nat.le_refl _) _⟩
  · obtain ⟨b, off, rfl, hb, hcs⟩ := hC.at_ h0
    have eg : ∀ args w, (callFunc 40 args).run Tryd.prog w = .ok (.enter 40 args) w := enters_of Tryd.func40 (by kernel_rfl) rfl
    have hcon := AnyQ.slices_ContainsFunc Tryd.anyIv 2 Tryd.isAgg43 Tryd.sizeOf43 encIv (fun _ => rfl) (Iv.inI n) 40 #[.pointer (some ⟨w.heap.size, 0, none⟩)] eg b off len c l (w.alloc (.cells #[.int .i64 n] 3))
      (ipred_any n w.heap.size _ (by simp) (Blk.cellv (Blk.new w _ _) (i := 0) rfl)) (by omega) (by omega) (by simp; omega) (fun j hj i v hi => by
        refine Lib.cell?_alloc_some _ ?_
        have h1 := hcs j l[j] (List.getElem?_eq_getElem hj)
        rw [getElem!_pos _ j hj] at hi
        match i, hi with
        | 0, hi => simp [encIv] at hi; rw [← hi]; exact h1.1
        | 1, hi => simp [encIv] at hi; rw [← hi]; exact h1.2
        | i + 2, hi => simp [encIv] at hi)
    change Calls Tryd.prog 39 _ _ _ at hcon
    have he : (l.take len).any (Iv.inI n) = Iv.inU n l := by rw [List.take_of_length_le (by omega)]; rfl
    rw [he] at hcon
    have HC := Lib.hid hcon
    clear hcs hcon he eg hC hl hlen
    generalize Iv.inU n l = r at HC ⊢
    go_enter Tryd.func21, Tryd.ntmps21
    go_wp2_with ((go_at_call 39; refine HC.out.mono ?_; rintro e w' ⟨rfl, hb'⟩))
    go_ret
    exact ⟨rfl, ((Below.refl _ w).alloc (Nat.le_refl _) _).trans (hb'.mono (by simp))⟩
end Go.Proofs.YtlijdbgknbeefaaDoor
