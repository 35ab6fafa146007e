/- The walks of the reference's Valid and Member (fixtures). -/
import Derived.Test.YtpmkebejfnflfaaFLaw
import Derived.Test.YtpmkebejfnflfaaFVal
namespace Go.Proofs.Ytpmkebejfnflfaa
open Go.RowKit Go.Shelf Go.Lib
set_option linter.unusedVariables false
set_option linter.unusedSimpArgs false
set_option maxHeartbeats 4000000 in
theorem rin_any (x lo hi : Int) (w : World) : Calls Try.prog 70 #[.int .i64 x, .int .i64 lo, .int .i64 hi] w fun e w' => e = .returned (.bool (decide (lo ≤ x) && decide (x ≤ hi))) ∧ w = w' := by
  by_cases h1 : lo ≤ x
  · have d1 : decide (lo ≤ x) = true := by simpa using h1
    by_cases h2 : x ≤ hi
    · have d2 : decide (x ≤ hi) = true := by simpa using h2
      rw [d1, d2]
      go_enter Try.func70, Try.ntmps70
      go_wp2_with (fail)
      go_ret
      exact ⟨rfl, rfl⟩
    · have d2 : decide (x ≤ hi) = false := by simpa using h2
      rw [d1, d2]
      go_enter Try.func70, Try.ntmps70
      go_wp2_with (fail)
      go_ret
      exact ⟨rfl, rfl⟩
  · have d1 : decide (lo ≤ x) = false := by simpa using h1
    rw [d1]
    go_enter Try.func70, Try.ntmps70
    go_wp2_with (fail)
    go_ret
    exact ⟨rfl, rfl⟩
set_option maxHeartbeats 4000000 in
theorem rclub_any (x : Int) (w : World) : Calls Try.prog 69 #[.int .i64 x] w fun e w' => e = .returned (.bool (decide (0 ≤ x) && decide (x ≤ 191))) ∧ w = w' := by
  have H := Lib.hid (fun W => rin_any x 0 191 W)
  go_enter Try.func69, Try.ntmps69
  go_wp2_with (fail)
  refine (H.out w).mono ?_
  rintro e w' ⟨rfl, rfl⟩
  go_wp2_with (fail)
  go_ret
  exact ⟨rfl, rfl⟩
namespace Fix
def clubsB (cl : List Int) : Bool := (cl.all fun x => decide (0 ≤ x) && decide (x ≤ 191)) && (decide (2 ≤ cl.length) && decide (cl.length ≤ 24))
def incB (cl : List Int) : Bool := (List.range cl.length).all fun i => decide (i = 0) || decide (cl.getD (i - 1) 0 < cl.getD i 0)
theorem valid_split (cl : List Int) : validC cl = (clubsB cl && incB cl) := by
  rw [Bool.eq_iff_iff, Bool.and_eq_true]
  unfold validC clubsB incB
  simp only [Bool.and_eq_true, decide_eq_true_eq, List.all_eq_true, Bool.or_eq_true, List.mem_range, goodAt]
  constructor
  · rintro ⟨⟨h1, h2⟩, h3⟩
    refine ⟨⟨fun x hx => ?_, h1, h2⟩, fun i hi => (h3 i hi).2⟩
    obtain ⟨j, hj, e⟩ := List.mem_iff_getElem.1 hx
    have := h3 j hj
    rw [List.getD_eq_getElem?_getD, List.getElem?_eq_getElem hj, Option.getD_some, e] at this
    omega
  · rintro ⟨⟨h1, h2, h3⟩, h4⟩
    refine ⟨⟨h2, h3⟩, fun i hi => ⟨?_, h4 i hi⟩⟩
    have := h1 (cl.getD i 0) (by rw [List.getD_eq_getElem?_getD, List.getElem?_eq_getElem hi]; exact List.getElem_mem hi)
    omega
end Fix
set_option maxRecDepth 100000 in
set_option maxHeartbeats 4000000 in
theorem rclubs_any (A : Option Addr) (n c : Nat) (cl : List Int) (w : World) (hl : cl.length = n) (hnc : n ≤ c) (hcm : c ≤ maxLen) (hA : Ints w A cl) :
    Calls Try.prog 53 #[.slice A n c, .int .i64 2, .int .i64 24] w fun e w' => e = .returned (.bool (Fix.clubsB cl)) ∧ Below w.heap.size w w' := by
  have Hl := Lib.hid hl
  have HA := Lib.hid hA
  have HI := Lib.hid (fun W => rin_any n 2 24 W)
  have HC := Lib.hid (fun x W => rclub_any x W)
  unfold maxLen at hcm
  clear hl hA
  obtain ⟨R, hR⟩ : ∃ R, Fix.clubsB cl = R := ⟨_, rfl⟩
  have HR := Lib.hid hR
  rw [hR]
  clear hR
  go_enter Try.func53, Try.ntmps53
  go_wp2_with (fail)
  go_loopw [7] (fun i W => ∃ k : Nat, k ≤ n ∧ i = .int .i64 k ∧ Hid (∀ x ∈ cl.take k, 0 ≤ x ∧ x ≤ 191) ∧ W = w) (fun i _ => n - (intOf i).toNat)
  case atStart => exact ⟨0, Nat.zero_le _, rfl, Lib.hid (by simp), rfl⟩
  case round =>
    obtain ⟨k, hk, rfl, Hg, rfl⟩ := hrel
    by_cases hlt : k < n
    · obtain ⟨x, hx⟩ := getElem?_lt (l := cl) (k := k) (by rw [Hl.out]; exact hlt)
      obtain ⟨b, off, rfl, hb, hcs⟩ := HA.out.at_ (k := k) (by rw [Hl.out]; exact hlt)
      have hc1 := hcs k x hx
      have Hx := Lib.hid hx
      clear hcs hx
      by_cases h1 : 0 ≤ x
      · have d1 : decide (0 ≤ x) = true := by simpa using h1
        by_cases h2 : x ≤ 191
        · have d2 : decide (x ≤ 191) = true := by simpa using h2
          go_wp2_with (fail)
          refine (HC.out x wr).mono ?_
          rintro e w' ⟨rfl, rfl⟩
          rw [d1, d2]
          go_wp2_with (fail)
          go_roundw
          case rel => exact ⟨k + 1, by omega, by go_num, Lib.hid (by rw [take_snoc Hx.out]; intro y hy; rcases List.mem_append.1 hy with hy | hy; (· exact Hg.out y hy); (· simp at hy; subst hy; exact ⟨h1, h2⟩)), trivial⟩
          case measure => simp [intOf]; omega
        · have d2 : decide (x ≤ 191) = false := by simpa using h2
          have hf : R = false := by
            rw [← HR.out]
            unfold Fix.clubsB
            rw [show (cl.all fun x => decide (0 ≤ x) && decide (x ≤ 191)) = false from List.all_eq_false.2 ⟨x, List.mem_of_getElem? Hx.out, by simp [d2]⟩]
            rfl
          go_wp2_with (fail)
          refine (HC.out x wr).mono ?_
          rintro e w' ⟨rfl, rfl⟩
          rw [d1, d2]
          go_wp2_with (fail)
          go_ret
          exact ⟨ret_bool hf.symm, Below.refl _ _⟩
      · have d1 : decide (0 ≤ x) = false := by simpa using h1
        have hf : R = false := by
          rw [← HR.out]
          unfold Fix.clubsB
          rw [show (cl.all fun x => decide (0 ≤ x) && decide (x ≤ 191)) = false from List.all_eq_false.2 ⟨x, List.mem_of_getElem? Hx.out, by simp [d1]⟩]
          rfl
        go_wp2_with (fail)
        refine (HC.out x wr).mono ?_
        rintro e w' ⟨rfl, rfl⟩
        rw [d1]
        go_wp2_with (fail)
        go_ret
        exact ⟨ret_bool hf.symm, Below.refl _ _⟩
    · obtain rfl : n = k := by omega
      have hf : (decide ((2 : Int) ≤ (n : Int)) && decide ((n : Int) ≤ 24)) = R := by
        rw [← HR.out]
        unfold Fix.clubsB
        have h1 := Hg.out
        rw [List.take_of_length_le (by rw [Hl.out]; exact Nat.le_refl _)] at h1
        rw [show (cl.all fun x => decide (0 ≤ x) && decide (x ≤ 191)) = true from List.all_eq_true.2 fun x hx => by have := h1 x hx; simp; omega, Bool.true_and, Hl.out]
        congr 1
        · exact decide_eq_decide.2 (by omega)
        · exact decide_eq_decide.2 (by omega)
      rw [hf] at HI
      clear hf
      go_wp2_with (fail)
      refine (HI.out wr).mono ?_
      rintro e w' ⟨rfl, rfl⟩
      go_wp2_with (fail)
      go_ret
      exact ⟨rfl, Below.refl _ _⟩
set_option maxRecDepth 100000 in
set_option maxHeartbeats 4000000 in
theorem rincr_any (A : Option Addr) (n c : Nat) (cl : List Int) (w : World) (hl : cl.length = n) (hnc : n ≤ c) (hcm : c ≤ maxLen) (hA : Ints w A cl) :
    Calls Try.prog 54 #[.slice A n c] w fun e w' => e = .returned (.bool (Fix.incB cl)) ∧ Below w.heap.size w w' := by
  have Hl := Lib.hid hl
  have HA := Lib.hid hA
  unfold maxLen at hcm
  clear hl hA
  obtain ⟨R, hR⟩ : ∃ R, Fix.incB cl = R := ⟨_, rfl⟩
  have HR := Lib.hid hR
  rw [hR]
  clear hR
  go_enter Try.func54, Try.ntmps54
  go_wp2_with (fail)
  go_loopw [3] (fun i W => ∃ k : Nat, 1 ≤ k ∧ (k ≤ n ∨ k = 1) ∧ i = .int .i64 k ∧ Hid (∀ j, 1 ≤ j → j < k → cl.getD (j - 1) 0 < cl.getD j 0) ∧ Hid (Below w.heap.size w W)) (fun i _ => n - (intOf i).toNat)
  case atStart => exact ⟨1, Nat.le_refl _, .inr rfl, rfl, Lib.hid (fun j h1 h2 => by omega), Below.refl _ _⟩
  case round =>
    obtain ⟨k, hk1, hk, rfl, Hg, hB⟩ := hrel
    by_cases hlt : k < n
    · obtain ⟨x, hx⟩ := getElem?_lt (l := cl) (k := k) (by rw [Hl.out]; exact hlt)
      obtain ⟨y, hy⟩ := getElem?_lt (l := cl) (k := k - 1) (by rw [Hl.out]; omega)
      obtain ⟨b, off, rfl, hb, hcs⟩ := (HA.out.below hB.out).at_ (k := k) (by rw [Hl.out]; exact hlt)
      have hc1 := hcs k x hx
      have hc2 := hcs (k - 1) y hy
      have Gx := Lib.hid (show cl.getD k 0 = x by rw [List.getD_eq_getElem?_getD, hx]; rfl)
      have Gy := Lib.hid (show cl.getD (k - 1) 0 = y by rw [List.getD_eq_getElem?_getD, hy]; rfl)
      obtain ⟨k', rfl⟩ : ∃ k', k = k' + 1 := ⟨k - 1, by omega⟩
      rw [Nat.add_sub_cancel] at hc2
      have d4 : ((k' + 1 : Nat) : Int) - 1 = (k' : Int) := by omega
      have d4' : (k' : Int) + 1 - 1 = (k' : Int) := by omega
      have d5 : IntKind.i64.wrap (k' : Int) = (k' : Int) := IntWalk.i64_in _ (by omega)
      have hkI' : (k' : Int) < (n : Int) := by omega
      have hkN' : k' < n := by omega
      clear hcs hx hy
      by_cases hxy : x ≤ y
      · have d6 : decide (x ≤ y) = true := by simpa using hxy
        have hf : R = false := by
          rw [← HR.out]
          unfold Fix.incB
          refine List.all_eq_false.2 ⟨k' + 1, List.mem_range.2 (by rw [Hl.out]; exact hlt), ?_⟩
          rw [Gx.out, Gy.out]
          simp
          omega
        go_wp2_with (fail)
        go_quiet (fail)
        go_wp2_with (fail)
        go_ret
        exact ⟨ret_bool hf.symm, below_drewN hB.out _⟩
      · have d6 : decide (x ≤ y) = false := by simpa using hxy
        go_wp2_with (fail)
        go_quiet (fail)
        go_wp2_with (fail)
        go_roundw
        case rel => exact ⟨k' + 1 + 1, by omega, .inl (by omega), by go_num, Lib.hid (fun j h1 h2 => by
          rcases Nat.lt_or_ge j (k' + 1) with h | h
          · exact Hg.out j h1 h
          · rw [show j = k' + 1 by omega, Gx.out, Gy.out]; omega), below_drewN hB.out _⟩
        case measure => simp [intOf]; omega
    · have hdk : decide ((k : Int) < (n : Int)) = false := by simp; omega
      have hf : R = true := by
        rw [← HR.out]
        unfold Fix.incB
        refine List.all_eq_true.2 fun j hj => ?_
        have hj' := List.mem_range.1 hj
        rw [Hl.out] at hj'
        by_cases h0 : j = 0
        · simp [h0]
        · have := Hg.out j (by omega) (by omega)
          simp only [Bool.or_eq_true, decide_eq_true_eq]
          exact .inr this
      go_wp2_with (fail)
      go_ret
      exact ⟨ret_bool hf.symm, hB.out⟩
set_option maxHeartbeats 4000000 in
theorem rvalid_any (A : Option Addr) (n c : Nat) (cl : List Int) (w : World) (hl : cl.length = n) (hnc : n ≤ c) (hcm : c ≤ maxLen) (hA : Ints w A cl) :
    Calls Try.prog 34 #[.slice A n c] w fun e w' => e = .returned (.bool (Fix.validC cl)) ∧ Below w.heap.size w w' := by
  have H1 := Lib.hid (fun W h => rclubs_any A n c cl W hl hnc hcm h)
  have H2 := Lib.hid (fun W h => rincr_any A n c cl W hl hnc hcm h)
  have HA := Lib.hid hA
  rw [Fix.valid_split]
  clear hl hA
  generalize Fix.clubsB cl = p at *
  generalize Fix.incB cl = q at *
  cases p with
  | false =>
    go_enter Try.func34, Try.ntmps34
    go_wp2_with (fail)
    refine (H1.out w HA.out).mono ?_
    rintro e w1 ⟨rfl, hb1⟩
    go_wp2_with (fail)
    go_ret
    exact ⟨rfl, hb1⟩
  | true =>
    go_enter Try.func34, Try.ntmps34
    go_wp2_with (fail)
    refine (H1.out w HA.out).mono ?_
    rintro e w1 ⟨rfl, hb1⟩
    go_wp2_with (fail)
    refine (H2.out w1 (HA.out.below hb1)).mono ?_
    rintro e w2 ⟨rfl, hb2⟩
    have hb := below_of hb1 hb2 hb1.size
    clear hb1 hb2
    go_wp2_with (fail)
    go_ret
    exact ⟨rfl, hb⟩
set_option maxRecDepth 100000 in
set_option maxHeartbeats 4000000 in
theorem member_any (A : Option Addr) (n c : Nat) (cl : List Int) (x : Int) (w : World) (hl : cl.length = n) (hn : n ≤ 9223372036854775807) (hA : Ints w A cl) :
    Calls Try.prog 39 #[.slice A n c, .int .i64 x] w fun e w' => e = .returned (.bool (decide (x ∈ cl))) ∧ w = w' := by
  have Hl := Lib.hid hl
  have HA := Lib.hid hA
  clear hl hA
  obtain ⟨R, hR⟩ : ∃ R, decide (x ∈ cl) = R := ⟨_, rfl⟩
  have HR := Lib.hid hR
  rw [hR]
  clear hR
  go_enter Try.func39, Try.ntmps39
  go_wp2_with (fail)
  go_loopw [5] (fun i W => ∃ k : Nat, k ≤ n ∧ i = .int .i64 k ∧ Hid (x ∉ cl.take k) ∧ W = w) (fun i _ => n - (intOf i).toNat)
  case atStart => exact ⟨0, Nat.zero_le _, rfl, Lib.hid (by simp), rfl⟩
  case round =>
    obtain ⟨k, hk, rfl, Hg, rfl⟩ := hrel
    by_cases hlt : k < n
    · obtain ⟨y, hy⟩ := getElem?_lt (l := cl) (k := k) (by rw [Hl.out]; exact hlt)
      obtain ⟨b, off, rfl, hb, hcs⟩ := HA.out.at_ (k := k) (by rw [Hl.out]; exact hlt)
      have hc1 := hcs k y hy
      have Hy := Lib.hid hy
      clear hcs hy
      by_cases hxy : y = x
      · subst hxy
        have hf : R = true := by rw [← HR.out]; exact decide_eq_true (List.mem_of_getElem? Hy.out)
        go_wp2_with (fail)
        go_ret
        exact ⟨ret_bool hf.symm, rfl⟩
      · have d1 : decide (y = x) = false := by simpa using hxy
        have d1' : (y == x) = false := by simpa using hxy
        go_wp2_with (fail)
        go_roundw
        case rel => exact ⟨k + 1, by omega, by go_num, Lib.hid (by rw [take_snoc Hy.out]; intro h; rcases List.mem_append.1 h with h | h; (· exact Hg.out h); (· simp at h; exact hxy h.symm)), trivial⟩
        case measure => simp [intOf]; omega
    · obtain rfl : n = k := by omega
      have hf : R = false := by
        rw [← HR.out]
        have h1 := Hg.out
        rw [List.take_of_length_le (by rw [Hl.out]; exact Nat.le_refl _)] at h1
        exact decide_eq_false h1
      go_wp2_with (fail)
      go_ret
      exact ⟨ret_bool hf.symm, rfl⟩
end Go.Proofs.Ytpmkebejfnflfaa
