/- The walk of Grow. -/
import Derived.Test.YtcijhakofoklcaaWGrow
namespace Go.Proofs.Ytcijhakofoklcaa
open Go.RowKit
set_option linter.unusedSimpArgs false in
set_option maxRecDepth 100000 in
set_option maxHeartbeats 4000000 in
theorem grow_out (l : List (List Nat)) (n : Int) (m : Nat) (A : Option Addr) (c : Nat) (w : World) (hl : l.length = m) (hL : IsL l) (hmc : m ≤ c) (hm : m ≤ 1000) (hA : Cells w A (bytesV l.flatten)) :
    Calls Try.prog 34 #[.slice A m c, .int .i64 n] w fun e w' => ∃ A' q c', e = .returned (.tuple #[.slice A' q c', .int .i64 (errArg (okGrow l n))]) ∧ (growR l n).length = q ∧ q ≤ c' ∧ c' ≤ maxLen ∧ Cells w' A' (bytesV (growR l n).flatten) ∧ Below w.heap.size w w' := by
  by_cases h : 1 ≤ n ∧ n ≤ (m : Int)
  · obtain ⟨k, rfl⟩ := Int.eq_ofNat_of_zero_le (show 0 ≤ n by omega)
    have h' : 1 ≤ (k : Int) ∧ (k : Int) ≤ (l.length : Int) := by rw [hl]; exact h
    have Hok : okGrow l k = true := by unfold okGrow; rw [decide_eq_true h']
    have Hr : growR l k = growS l k true := by unfold growR; rw [if_pos h', Int.toNat_natCast]
    rw [Hok, Hr, errArg_true]
    have hpw := grownS_pow 10 k m true (by omega)
    have GP := Lib.hid (fun W (hB : Below w.heap.size w W) hP hG => grow1_any m l k true A c w W w.heap.size (w.heap.size + 1) [] none 0 0 hl hL (by omega) (by omega) hmc hm rfl (by omega) hA hB (Nat.le_refl _) (Nat.le_succ _) (by omega) hP hG (ownD_nil _ _) (by simp [Apart, Value.ownBlock]) (by simp [Apart, Value.ownBlock]))
    have q1 : decide ((k : Int) < 1) = false := by simp; omega
    have q1' : decide (k < 1) = false := by simp; omega
    have q2 : decide ((m : Int) < (k : Int)) = false := by simp; omega
    have q3 : decide (m < k) = false := by simp; omega
    clear Hok Hr h' h hl hL hA
    go_enter Try.func34, Try.ntmps34
    go_wp2_with (fail)
    generalize hge : World.alloc _ _ = w1
    have hP1 : Blk w1 w.heap.size 28 #[.slice none 0 0] := by subst hge; exact (Blk.new w _ _).alloc _
    have hG1 : Blk w1 (w.heap.size + 1) 77 #[GC w.heap.size (w.heap.size + 1)] := by subst hge; exact (blk_two w #[.slice none 0 0] #[GC w.heap.size (w.heap.size + 1)] _ _).2
    have hB1 : Below w.heap.size w w1 := by subst hge; exact ((Below.refl _ _).alloc (Nat.le_refl _) _).alloc (by simp) _
    clear hge
    refine (GP.out _ hB1 hP1 hG1).mono ?_
    rintro e w2 ⟨rfl, A', c', q', gP, gq, gG, gO, b1, b2, gB⟩
    have gp := cellv1 gP
    have GQ := Lib.hid gq
    have GO := Lib.hid gO
    have GB := Lib.hid gB
    have GPP := Lib.hid gP
    have GA := Lib.hid b1
    have gf := gP.frozen 0
    clear hP1 hG1 hB1 gq gO gB gG b1 b2
    go_wp2_with (fail)
    have hs0 := cellv1 (GPP.out.set_ 0 (.slice A' q' c'))
    have hs1 := (GPP.out.set_ 0 (.slice A' q' c')).frozen 0
    obtain ⟨A2, c2, hv, k1, k2, -⟩ := own_form GO.out
    cases hv
    have hq' := GQ.out
    simp only [List.length_nil, Nat.zero_add] at hq'
    refine bodyPost_ret_by (v := .tuple #[.slice A' q' c', .int .i64 0]) ?_ rfl ⟨A', q', c', rfl, hq'.symm, k1, k2, ?_, ?_⟩
    · simp [results, asAddr, go_sem, hs0]
    · have := GO.out
      rw [List.nil_append] at this
      have := this.kept (grown_setOne (w := w2) (g := w.heap.size) (o := 0) (.slice A' q' c')) (.inr GA.out)
      exact Cells.own this
    · exact below_grown GB.out (grown_setOne _) GB.out.size (fun k hk => by cases hk; exact Nat.le_refl _)
  · have h' : ¬ (1 ≤ n ∧ n ≤ (l.length : Int)) := by rw [hl]; exact h
    have Hok : okGrow l n = false := by unfold okGrow; rw [decide_eq_false h']
    have Hr : growR l n = [] := by unfold growR; rw [if_neg h']
    rw [Hok, Hr, errArg_false]
    clear Hok Hr h' hl hL hA
    refine (grow_none n A m c w (by omega)).mono ?_
    rintro e w' ⟨rfl, hb⟩
    exact ⟨none, 0, 0, rfl, rfl, Nat.le_refl _, Nat.zero_le _, nilBytes w' none, hb⟩
end Go.Proofs.Ytcijhakofoklcaa
