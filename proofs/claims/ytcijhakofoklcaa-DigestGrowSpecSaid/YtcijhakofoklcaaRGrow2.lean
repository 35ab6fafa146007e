/- The walks of Grow and grown of the reference. -/
import Derived.Test.YtcijhakofoklcaaRGrow
namespace Go.Proofs.Ytcijhakofoklcaa
open Go.RowKit
def growR (l : List (List Nat)) (n : Int) : List (List Nat) := if 1 ≤ n ∧ n ≤ (l.length : Int) then growS l n.toNat true else []
def okGrow (l : List (List Nat)) (n : Int) : Bool := decide (1 ≤ n ∧ n ≤ (l.length : Int))
theorem growR_isL (l : List (List Nat)) (n : Int) : IsL (growR l n) := by
  unfold growR
  split
  · exact growS_isL _ _ _ _ rfl
  · exact IsL.nil_
theorem growR_len {l : List (List Nat)} (h : l.length ≤ 24) (n : Int) : (growR l n).length ≤ 6 := by
  unfold growR
  split
  · rw [growS_length _ _ _ _ rfl (by omega) (by omega)]
    exact grownS_pow 5 _ _ _ (by omega)
  · simp
set_option linter.unusedSimpArgs false in
set_option maxRecDepth 100000 in
set_option maxHeartbeats 4000000 in
theorem rgrow_out (l : List (List Nat)) (n : Int) (m : Nat) (A : Option Addr) (c : Nat) (w : World) (hl : l.length = m) (hL : IsL l) (hmc : m ≤ c) (hm : m ≤ 1000000) (hA : Cells w A (bytesV l.flatten)) :
    Calls Try.prog 35 #[.slice A m c, .int .i64 n] w fun e w' => ∃ A' q c', e = .returned (.tuple #[.slice A' q c', .int .i64 (errArg (okGrow l n))]) ∧ (growR l n).length = q ∧ q ≤ c' ∧ c' ≤ maxLen ∧ Cells w' A' (bytesV (growR l n).flatten) ∧ Below w.heap.size w w' := by
  by_cases h : 1 ≤ n ∧ n ≤ (m : Int)
  · obtain ⟨k, rfl⟩ := Int.eq_ofNat_of_zero_le (show 0 ≤ n by omega)
    have h' : 1 ≤ (k : Int) ∧ (k : Int) ≤ (l.length : Int) := by rw [hl]; exact h
    have Hok : okGrow l k = true := by unfold okGrow; rw [decide_eq_true h']
    have Hr : growR l k = growS l k true := by unfold growR; rw [if_pos h', Int.toNat_natCast]
    rw [Hok, Hr, errArg_true]
    have RP := Lib.hid (rgrowth_any m l k true A c w hl hL (by omega) (by omega) hmc hm hA)
    have q1 : decide ((k : Int) < 1) = false := by simp; omega
    have q1' : decide (k < 1) = false := by simp; omega
    have q2 : decide ((m : Int) < (k : Int)) = false := by simp; omega
    have q3 : decide (m < k) = false := by simp; omega
    clear Hok Hr h' h hl hL hA
    go_enter Try.func35, Try.ntmps35
    go_wp2_with (fail)
    refine RP.out.mono ?_
    rintro e w' ⟨A', q, c', rfl, g1, g2, g3⟩
    have G := Lib.hid (And.intro g1 (And.intro g2 g3))
    clear g1 g2 g3
    go_wp2_with (fail)
    go_ret2
    obtain ⟨g1, g2, g3⟩ := G.out
    obtain ⟨A2, c2, hv, k1, k2, -⟩ := own_form g2
    cases hv
    exact ⟨A', q, c', rfl, g1, k1, k2, Cells.own g2, g3⟩
  · have h' : ¬ (1 ≤ n ∧ n ≤ (l.length : Int)) := by rw [hl]; exact h
    have Hok : okGrow l n = false := by unfold okGrow; rw [decide_eq_false h']
    have Hr : growR l n = [] := by unfold growR; rw [if_neg h']
    rw [Hok, Hr, errArg_false]
    clear Hok Hr h' hl hL hA
    have h2 : n < 1 ∨ (1 ≤ n ∧ (m : Int) < n) := by omega
    clear h
    rcases h2 with h | ⟨h0, h⟩
    · go_enter Try.func35, Try.ntmps35
      go_wp2_with (fail)
      go_ret2
      exact ⟨none, 0, 0, rfl, rfl, Nat.le_refl _, Nat.zero_le _, nilBytes w none, Below.refl _ _⟩
    · go_enter Try.func35, Try.ntmps35
      go_wp2_with (fail)
      go_ret2
      exact ⟨none, 0, 0, rfl, rfl, Nat.le_refl _, Nat.zero_le _, nilBytes w none, Below.refl _ _⟩
set_option linter.unusedSimpArgs false in
set_option maxRecDepth 100000 in
set_option maxHeartbeats 4000000 in
theorem rgrown_any : ∀ (m n : Nat) (wh : Bool) (w : World), 1 ≤ n → n ≤ m → m ≤ 1099511627776 →
    Calls Try.prog 70 #[.int .i64 n, .int .i64 m, .bool wh] w fun e w' => e = .returned (.int .i64 (grownS n m wh : Nat)) ∧ w = w' := by
  intro m
  induction m using Nat.strongRecOn with
  | _ m ih =>
  intro n wh w hn1 hn hm
  have IH := Lib.hid ih
  clear ih
  by_cases h0 : n = m
  · have hq1 : ((n : Int) == (m : Int)) = true := by simp; omega
    have hq2 : (n == m) = true := by simp; omega
    cases wh
    · rw [grownS_part h0]
      clear h0
      go_enter Try.func70, Try.ntmps70
      go_wp2_with (fail)
      go_ret
      exact ⟨rfl, rfl⟩
    · rw [grownS_whole h0]
      clear h0
      go_enter Try.func70, Try.ntmps70
      go_wp2_with (fail)
      go_ret
      exact ⟨rfl, rfl⟩
  have h2 : 2 ≤ m := by omega
  have hq1 : ((n : Int) == (m : Int)) = false := by simp; omega
  have hq2 : (n == m) = false := by simp; omega
  have hk1 := half_lt h2
  have hk2 := half_pos m
  have HH := Lib.hid (fun W => rhalf_any m W h2 (by omega))
  have dlo := Lib.hid (fun h => grownS_lo (n := n) wh h0 h2 h)
  have dhi := Lib.hid (fun h => grownS_hi (n := n) wh h0 h2 h)
  have hpow := Lib.hid (fun (x y : Nat) (z : Bool) (h : y ≤ 1099511627776) => grownS_pow 40 x y z (Nat.le_trans h (by decide)))
  generalize halfN m = k at *
  clear h0
  by_cases hk : n ≤ k
  · have hdk : decide ((n : Int) ≤ (k : Int)) = true := by simp; omega
    have hdk2 : decide (n ≤ k) = true := by simp; omega
    have P := Lib.hid (fun W => IH.out k hk1 n wh W hn1 hk (by omega))
    have hb := hpow.out n k wh (by omega)
    rw [dlo.out hk]
    generalize grownS n k wh = q at *
    have s1 : (1 : Int) + (q : Int) = ((q + 1 : Nat) : Int) := by omega
    have s2 : IntKind.i64.wrap ((q + 1 : Nat) : Int) = ((q + 1 : Nat) : Int) := IntWalk.i64_in _ (by omega)
    clear dlo dhi
    go_enter Try.func70, Try.ntmps70
    go_wp2_with (fail)
    refine (HH.out _).mono ?_
    rintro e w' ⟨rfl, rfl⟩
    go_wp2_with (go_at_call 70; refine (P.out _).mono ?_; rintro e w3 ⟨rfl, rfl⟩)
    go_ret
    exact ⟨ret_int (by omega), rfl⟩
  · have hdk : decide ((n : Int) ≤ (k : Int)) = false := by simp; omega
    have hdk2 : decide (n ≤ k) = false := by simp; omega
    have P := Lib.hid (fun W => IH.out (m - k) (by omega) (n - k) false W (by omega) (by omega) (by omega))
    have hb := hpow.out (n - k) (m - k) false (by omega)
    rw [dhi.out hk]
    generalize grownS (n - k) (m - k) false = q at *
    have s1 : (1 : Int) + (q : Int) = ((q + 1 : Nat) : Int) := by omega
    have s2 : IntKind.i64.wrap ((q + 1 : Nat) : Int) = ((q + 1 : Nat) : Int) := IntWalk.i64_in _ (by omega)
    have s3 : (n : Int) - (k : Int) = ((n - k : Nat) : Int) := by omega
    have s4 : IntKind.i64.wrap ((n - k : Nat) : Int) = ((n - k : Nat) : Int) := IntWalk.i64_in _ (by omega)
    have s5 : (m : Int) - (k : Int) = ((m - k : Nat) : Int) := by omega
    have s6 : IntKind.i64.wrap ((m - k : Nat) : Int) = ((m - k : Nat) : Int) := IntWalk.i64_in _ (by omega)
    clear dlo dhi
    go_enter Try.func70, Try.ntmps70
    go_wp2_with (fail)
    refine (HH.out _).mono ?_
    rintro e w' ⟨rfl, rfl⟩
    go_wp2_with (go_at_call 70; refine (P.out _).mono ?_; rintro e w3 ⟨rfl, rfl⟩)
    go_ret
    exact ⟨ret_int (by omega), rfl⟩
end Go.Proofs.Ytcijhakofoklcaa
