/- The walks of the calendar's valid, Weekday, Next, Check, and of the reference's. -/
import Derived.Test.YtpmkebejfnflfaaMem
import Derived.Test.YtpmkebejfnflfaaChecked
import Derived.BigGuardPart
namespace Go.Proofs.Ytpmkebejfnflfaa
open Go.RowKit
namespace Iv
def okI (i : Int × Int) : Bool := decide (0 ≤ i.1 ∧ i.1 ≤ 1048576 ∧ 0 ≤ i.2 ∧ i.2 ≤ 1048576 ∧ i.1 ≤ i.2)
theorem okI_iff (i : Int × Int) : okI i = true ↔ (0 ≤ i.1 ∧ i.1 ≤ 1048576 ∧ 0 ≤ i.2 ∧ i.2 ≤ 1048576 ∧ i.1 ≤ i.2) := by simp [okI]
end Iv
def validB (n : Int) : Bool := decide (0 ≤ n ∧ n ≤ 1048576)
set_option maxHeartbeats 1000000 in
theorem valid_any (n : Int) (w : World) :
    Calls Try.prog 48 #[.int .i64 n] w fun e w' => e = .returned (.bool (validB n)) ∧ w = w' := by
  go_enter Try.func48, Try.ntmps48
  go_wp2_with (fail)
  all_goals
    go_ret
    exact ⟨ret_bool (by unfold validB; simp only [decide_eq_decide, false_eq_decide_iff]; omega), rfl⟩
theorem validB_iff (n : Int) : validB n = true ↔ 0 ≤ n ∧ n ≤ 1048576 := by simp [validB]
theorem validB_false (n : Int) : validB n = false ↔ ¬ (0 ≤ n ∧ n ≤ 1048576) := by rw [← validB_iff]; simp
def wdN (n : Int) : Int := if validB n then (n + 5) % 7 else 0
def wdE (n : Int) : Int := if validB n then 0 else 10
set_option maxHeartbeats 1000000 in
theorem Weekday_any (n : Int) (w : World) :
    Calls Try.prog 26 #[.int .i64 n] w fun e w' => e = .returned (.tuple #[.int .i64 (wdN n), .int .i64 (wdE n)]) ∧ w = w' := by
  have HV := Lib.hid (fun W => valid_any n W)
  unfold wdN wdE
  cases hv : validB n with
  | true =>
    obtain ⟨h1, h2⟩ := (validB_iff n).1 hv
    rw [hv] at HV
    clear hv
    go_enter Try.func26, Try.ntmps26
    go_wp2_with ((go_at_call 48; refine (HV.out _).mono ?_; rintro e w' ⟨rfl, rfl⟩))
    go_ret2
    exact ⟨rfl, rfl⟩
  | false =>
    rw [hv] at HV
    clear hv
    go_enter Try.func26, Try.ntmps26
    go_wp2_with ((go_at_call 48; refine (HV.out _).mono ?_; rintro e w' ⟨rfl, rfl⟩))
    go_ret2
    exact ⟨rfl, rfl⟩
set_option maxHeartbeats 1000000 in
theorem rValid_any (n : Int) (w : World) :
    Calls Try.prog 58 #[.int .i64 n] w fun e w' => e = .returned (.bool (validB n)) ∧ w = w' := by
  go_enter Try.func58, Try.ntmps58
  go_wp2_with (fail)
  all_goals
    go_ret
    exact ⟨ret_bool (by unfold validB; simp only [decide_eq_decide, false_eq_decide_iff]; omega), rfl⟩
def nxt (n wd : Int) : Int := n + (wd - (n + 5)) % 7
def nextN (n wd : Int) : Int := if validB n && decide (0 ≤ wd ∧ wd ≤ 6) && validB (nxt n wd) then nxt n wd else 0
def nextE (n wd : Int) : Int := if validB n then (if 0 ≤ wd ∧ wd ≤ 6 then (if validB (nxt n wd) then 0 else 10) else 1) else 10
set_option maxHeartbeats 2000000 in
theorem Next_any (n wd : Int) (w : World) :
    Calls Try.prog 45 #[.int .i64 n, .int .i64 wd] w fun e w' => e = .returned (.tuple #[.int .i64 (nextN n wd), .int .i64 (nextE n wd)]) ∧ w = w' := by
  have HW := Lib.hid (fun W => Weekday_any n W)
  unfold nextN nextE
  cases hv : validB n with
  | false =>
    unfold wdN wdE at HW
    rw [hv] at HW
    simp only [Bool.false_eq_true, if_false] at HW
    clear hv
    go_enter Try.func45, Try.ntmps45
    go_wp2_with ((go_at_call 26; refine (HW.out _).mono ?_; rintro e w' ⟨rfl, rfl⟩))
    go_ret2
    exact ⟨rfl, rfl⟩
  | true =>
    obtain ⟨b1, b2⟩ := (validB_iff n).1 hv
    unfold wdN wdE at HW
    rw [hv] at HW
    simp only [if_true] at HW
    clear hv
    by_cases h1 : wd < 0
    · have e : decide (0 ≤ wd ∧ wd ≤ 6) = false := by simp; omega
      have e2 : ¬ (0 ≤ wd ∧ wd ≤ 6) := by omega
      rw [e, if_neg e2]
      clear e e2
      go_enter Try.func45, Try.ntmps45
      go_wp2_with ((go_at_call 26; refine (HW.out _).mono ?_; rintro e w' ⟨rfl, rfl⟩))
      go_ret2
      exact ⟨rfl, rfl⟩
    · by_cases h2 : 7 ≤ wd
      · have e : decide (0 ≤ wd ∧ wd ≤ 6) = false := by simp; omega
        have e2 : ¬ (0 ≤ wd ∧ wd ≤ 6) := by omega
        rw [e, if_neg e2]
        clear e e2
        go_enter Try.func45, Try.ntmps45
        go_wp2_with ((go_at_call 26; refine (HW.out _).mono ?_; rintro e w' ⟨rfl, rfl⟩))
        go_ret2
        exact ⟨rfl, rfl⟩
      · have e : decide (0 ≤ wd ∧ wd ≤ 6) = true := by simp; omega
        have e2 : 0 ≤ wd ∧ wd ≤ 6 := by omega
        rw [e, if_pos e2]
        clear e e2
        have HV := Lib.hid (fun W => valid_any (nxt n wd) W)
        have c1 : 0 ≤ (n + 5) % 7 := by omega
        have c2 : (n + 5) % 7 < 7 := by omega
        have c3 : 0 ≤ (wd - (n + 5)) % 7 := by omega
        have c4 : (wd - (n + 5)) % 7 < 7 := by omega
        cases hv : validB (nxt n wd)
        all_goals
          rw [hv] at HV
          clear hv
          unfold nxt at HV ⊢
          go_enter Try.func45, Try.ntmps45
          go_wp2_with (fail)
          refine (HW.out _).mono ?_
          rintro e w' ⟨rfl, rfl⟩
          go_wp2_with (fail)
          refine (HV.out _).mono ?_
          rintro e w' ⟨rfl, rfl⟩
          go_wp2_with (fail)
          go_ret2
          exact ⟨rfl, rfl⟩
theorem nxt_spec (n wd : Int) (h0 : 0 ≤ wd) (h6 : wd ≤ 6) : n ≤ nxt n wd ∧ nxt n wd ≤ n + 6 ∧ (nxt n wd + 5) % 7 = wd := by unfold nxt; omega
theorem nxt_first (n wd k : Int) (hk : n ≤ k) (e : (k + 5) % 7 = wd) : nxt n wd ≤ k := by unfold nxt; omega
set_option maxHeartbeats 2000000 in
theorem rNext_any (n wd : Int) (w : World) :
    Calls Try.prog 47 #[.int .i64 n, .int .i64 wd] w fun e w' => e = .returned (.tuple #[.int .i64 (nextN n wd), .int .i64 (nextE n wd)]) ∧ w = w' := by
  have HW := Lib.hid (fun W => rValid_any n W)
  unfold nextN nextE
  cases hv : validB n with
  | false =>
    rw [hv] at HW
    clear hv
    go_enter Try.func47, Try.ntmps47
    go_wp2_with ((go_at_call 58; refine (HW.out _).mono ?_; rintro e w' ⟨rfl, rfl⟩))
    go_ret2
    exact ⟨rfl, rfl⟩
  | true =>
    obtain ⟨b1, b2⟩ := (validB_iff n).1 hv
    rw [hv] at HW
    clear hv
    by_cases h1 : wd < 0
    · have e : decide (0 ≤ wd ∧ wd ≤ 6) = false := by simp; omega
      have e2 : ¬ (0 ≤ wd ∧ wd ≤ 6) := by omega
      rw [e, if_neg e2]
      clear e e2
      go_enter Try.func47, Try.ntmps47
      go_wp2_with ((go_at_call 58; refine (HW.out _).mono ?_; rintro e w' ⟨rfl, rfl⟩))
      go_ret2
      exact ⟨rfl, rfl⟩
    · by_cases h2 : 6 < wd
      · have e : decide (0 ≤ wd ∧ wd ≤ 6) = false := by simp; omega
        have e2 : ¬ (0 ≤ wd ∧ wd ≤ 6) := by omega
        rw [e, if_neg e2]
        clear e e2
        go_enter Try.func47, Try.ntmps47
        go_wp2_with ((go_at_call 58; refine (HW.out _).mono ?_; rintro e w' ⟨rfl, rfl⟩))
        go_ret2
        exact ⟨rfl, rfl⟩
      · have e : decide (0 ≤ wd ∧ wd ≤ 6) = true := by simp; omega
        have e2 : 0 ≤ wd ∧ wd ≤ 6 := by omega
        rw [e, if_pos e2]
        clear e e2
        have HV := Lib.hid (fun W => rValid_any (nxt n wd) W)
        obtain ⟨c1, c2, c3⟩ := nxt_spec n wd (by omega) (by omega)
        have Hf := Lib.hid (fun k hk e => nxt_first n wd k hk e)
        obtain ⟨x, hx⟩ : ∃ x, nxt n wd = x := ⟨_, rfl⟩
        rw [hx] at HV Hf c1 c2 c3 ⊢
        have Hc := Lib.hid c3
        clear hx c3
        cases hv : validB x
        all_goals
          rw [hv] at HV
          clear hv
          go_enter Try.func47, Try.ntmps47
          go_wp2_with ((go_at_call 58; refine (HW.out _).mono ?_; rintro e w' ⟨rfl, rfl⟩))
          go_loop [0] (fun t => ∃ k : Int, n ≤ k ∧ k ≤ x ∧ t = .int .i64 k) (fun t => (x - intOf t).toNat)
          case atStart => exact ⟨n, by omega, c1, rfl⟩
          case round =>
            obtain ⟨k, hk1, hk2, rfl⟩ := hrel
            have d1 : 0 ≤ (k + 5) % 7 := by omega
            by_cases hs : (k + 5) % 7 = wd
            · have hkx : x = k := by have := Hf.out k hk1 hs; omega
              have Hs := Lib.hid hs
              have hne : ((k + 5) % 7 != wd) = false := by simpa using hs
              subst hkx
              clear hs Hc
              go_wp2_with (fail)
              refine (HV.out _).mono ?_
              rintro e w' ⟨rfl, rfl⟩
              go_wp2_with (fail)
              go_ret2
              exact ⟨rfl, rfl⟩
            · have hne : ((k + 5) % 7 != wd) = true := by simpa using hs
              have hlt : k < x := by
                by_cases e : k = x
                · exact absurd (by rw [e]; exact Hc.out) hs
                · omega
              clear hs
              go_wp2_with (fail)
              go_round
              case rel => exact ⟨k + 1, by omega, by omega, rfl⟩
              case measure => simp [intOf]; omega
def chkE (i : Int × Int) : Int := if Iv.okI i then 0 else 10
theorem chkE_of (a b : Int) : chkE (a, b) = if validB a && validB b && decide (a ≤ b) then 0 else 10 := by
  unfold chkE
  congr 1
  rw [eq_iff_iff, Iv.okI_iff]
  simp [validB]; omega
set_option maxHeartbeats 2000000 in
theorem Check_any (a b : Int) (w : World) :
    Calls Try.prog 44 #[.agg #[.int .i64 a, .int .i64 b]] w fun e w' => e = .returned (.int .i64 (chkE (a, b))) ∧ w' = w.alloc (.cells #[.int .i64 a, .int .i64 b] 41) := by
  rw [chkE_of]
  have HA := Lib.hid (fun W => valid_any a W)
  have HB := Lib.hid (fun W => valid_any b W)
  cases ha : validB a <;> cases hb : validB b
  all_goals
    rw [ha] at HA
    rw [hb] at HB
    clear ha hb
    go_enter Try.func44, Try.ntmps44
    go_wp2_with (first | (with_reducible refine (HA.out _).mono ?_; rintro e w' ⟨rfl, rfl⟩) | (with_reducible refine (HB.out _).mono ?_; rintro e w' ⟨rfl, rfl⟩))
    all_goals
      go_ret
      refine ⟨ret_int ?_, rfl⟩
      first | rfl | simp_all
set_option maxHeartbeats 2000000 in
theorem rCheck_any (a b : Int) (w : World) :
    Calls Try.prog 46 #[.agg #[.int .i64 a, .int .i64 b]] w fun e w' => e = .returned (.int .i64 (chkE (a, b))) ∧ w' = w.alloc (.cells #[.int .i64 a, .int .i64 b] 41) := by
  rw [chkE_of]
  have HA := Lib.hid (fun W => rValid_any a W)
  have HB := Lib.hid (fun W => rValid_any b W)
  cases ha : validB a <;> cases hb : validB b
  all_goals
    rw [ha] at HA
    rw [hb] at HB
    clear ha hb
    go_enter Try.func46, Try.ntmps46
    go_wp2_with (first | (with_reducible refine (HA.out _).mono ?_; rintro e w' ⟨rfl, rfl⟩) | (with_reducible refine (HB.out _).mono ?_; rintro e w' ⟨rfl, rfl⟩))
    all_goals
      go_ret
      refine ⟨ret_int ?_, rfl⟩
      first | rfl | simp_all
end Go.Proofs.Ytpmkebejfnflfaa
