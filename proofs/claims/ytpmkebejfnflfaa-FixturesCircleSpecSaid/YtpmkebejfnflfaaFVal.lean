/- The walks of valid (fixtures) and of the reference's Valid, Member, SameInts. -/
import Derived.Test.YtpmkebejfnflfaaFIv
import Derived.Test.YtpmkebejfnflfaaFCal
import Derived.BigGuardPart
namespace Go.Proofs.Ytpmkebejfnflfaa
open Go.RowKit
namespace Fix
def goodAt (cl : List Int) (i : Nat) : Bool := decide (0 ≤ cl.getD i 0) && decide (cl.getD i 0 < 192) && (decide (i = 0) || decide (cl.getD (i - 1) 0 < cl.getD i 0))
/-- Are clubs valid? -/
def validC (cl : List Int) : Bool := decide (2 ≤ cl.length ∧ cl.length ≤ 24) && (List.range cl.length).all (goodAt cl)
theorem validC_bad {cl : List Int} {k : Nat} (hk : k < cl.length) (h : goodAt cl k = false) : validC cl = false := by
  unfold validC
  rw [show (List.range cl.length).all (goodAt cl) = false from List.all_eq_false.2 ⟨k, List.mem_range.2 hk, by rw [h]; simp⟩, Bool.and_false]
theorem validC_good {cl : List Int} (h1 : 2 ≤ cl.length) (h2 : cl.length ≤ 24) (h : ∀ j, j < cl.length → goodAt cl j = true) : validC cl = true := by
  unfold validC
  rw [decide_eq_true ⟨h1, h2⟩, Bool.true_and]
  exact List.all_eq_true.2 fun j hj => h j (List.mem_range.1 hj)
theorem validC_len {cl : List Int} (h : ¬ (2 ≤ cl.length ∧ cl.length ≤ 24)) : validC cl = false := by
  unfold validC
  rw [decide_eq_false h, Bool.false_and]
theorem validC_iff {cl : List Int} : validC cl = true ↔ 2 ≤ cl.length ∧ cl.length ≤ 24 ∧ ∀ j, j < cl.length → goodAt cl j = true := by
  constructor
  · intro h
    unfold validC at h
    rw [Bool.and_eq_true] at h
    have h1 := of_decide_eq_true h.1
    exact ⟨h1.1, h1.2, fun j hj => List.all_eq_true.1 h.2 j (List.mem_range.2 hj)⟩
  · rintro ⟨h1, h2, h3⟩
    exact validC_good h1 h2 h3
end Fix
theorem getD_of {l : List Int} {k : Nat} {x : Int} (h : l[k]? = some x) : l.getD k 0 = x := by rw [List.getD_eq_getElem?_getD, h]; rfl
set_option linter.unusedVariables false in
set_option maxRecDepth 100000 in
set_option maxHeartbeats 4000000 in
theorem fvalid_any (A : Option Addr) (n c : Nat) (cl : List Int) (w : World) (hl : cl.length = n) (hA : Ints w A cl) :
    Calls Try.prog 28 #[.slice A n c] w fun e w' => e = .returned (.bool (Fix.validC cl)) ∧ Below w.heap.size w w' := by
  have Hl := Lib.hid hl
  have HA := Lib.hid hA
  obtain ⟨R, hR⟩ : ∃ R, Fix.validC cl = R := ⟨_, rfl⟩
  have HR := Lib.hid hR
  rw [hR]
  clear hl hA hR
  by_cases h2 : n < 2
  · have q1 : decide ((n : Int) < 2) = true := by simp; omega
    have q2 : decide (n < 2) = true := by simpa using h2
    have HN := Lib.hid (show R = false by rw [← HR.out]; exact Fix.validC_len (by rw [Hl.out]; omega))
    go_enter Try.func28, Try.ntmps28
    go_wp2_with (fail)
    go_ret
    exact ⟨ret_bool HN.out.symm, Below.refl _ _⟩
  · have q1 : decide ((n : Int) < 2) = false := by simp; omega
    have q2 : decide (n < 2) = false := by simpa using h2
    by_cases h24 : 24 < n
    · have q3 : decide ((24 : Int) < (n : Int)) = true := by simp; omega
      have q4 : decide (24 < n) = true := by simpa using h24
      have HN := Lib.hid (show R = false by rw [← HR.out]; exact Fix.validC_len (by rw [Hl.out]; omega))
      go_enter Try.func28, Try.ntmps28
      go_wp2_with (fail)
      go_ret
      exact ⟨ret_bool HN.out.symm, Below.refl _ _⟩
    · have q3 : decide ((24 : Int) < (n : Int)) = false := by simp; omega
      have q4 : decide (24 < n) = false := by simpa using h24
      go_enter Try.func28, Try.ntmps28
      go_wp2_with (fail)
      go_loopw [15] (fun i wr => ∃ k : Nat, k ≤ n ∧ i = .int .i64 k ∧ Hid (∀ j, j < k → Fix.goodAt cl j = true) ∧ Hid (Below w.heap.size w wr)) (fun i _ => n - (intOf i).toNat)
      case atStart => exact ⟨0, by omega, rfl, (fun j hj => absurd hj (Nat.not_lt_zero _)), Below.refl _ _⟩
      case round =>
        obtain ⟨k, hk, rfl, hg, hB⟩ := hrel
        by_cases hlt : k < n
        · have hdk : decide ((k : Int) < (n : Int)) = true := by simp; omega
          have hkI : (k : Int) < (n : Int) := by omega
          obtain ⟨x, hx⟩ := getElem?_lt (l := cl) (k := k) (by rw [Hl.out]; exact hlt)
          obtain ⟨b, off, rfl, hb, hcs⟩ := HA.out.at_ (k := k) (by rw [Hl.out]; omega)
          have hc1 := (hB.out.cell (p := ⟨b, off + k, none⟩) hb).trans (hcs k _ hx)
          have Gx := Lib.hid (getD_of hx)
          by_cases hx0 : x < 0
          · have d1 : decide (x < 0) = true := by simpa using hx0
            have HN := Lib.hid (show R = false by rw [← HR.out]; exact Fix.validC_bad (by rw [Hl.out]; exact hlt) (by unfold Fix.goodAt; rw [Gx.out, decide_eq_false (show ¬ (0 ≤ x) by omega)]; rfl))
            clear hcs hx
            go_wp2_with (fail)
            go_ret
            exact ⟨ret_bool HN.out.symm, hB.out⟩
          have d1 : decide (x < 0) = false := by simpa using hx0
          by_cases hx1 : 192 ≤ x
          · have d2 : decide (192 ≤ x) = true := by simpa using hx1
            have HN := Lib.hid (show R = false by rw [← HR.out]; exact Fix.validC_bad (by rw [Hl.out]; exact hlt) (by unfold Fix.goodAt; rw [Gx.out, decide_eq_false (show ¬ (x < 192) by omega), Bool.and_false]; rfl))
            clear hcs hx
            go_wp2_with (fail)
            go_ret
            exact ⟨ret_bool HN.out.symm, hB.out⟩
          have d2 : decide (192 ≤ x) = false := by simpa using hx1
          by_cases hk0 : k = 0
          · obtain rfl := hk0
            have HG := Lib.hid (show Fix.goodAt cl 0 = true by unfold Fix.goodAt; rw [Gx.out, decide_eq_true (show 0 ≤ x by omega), decide_eq_true (show x < 192 by omega)]; rfl)
            rw [Nat.add_zero] at hc1
            clear hcs hx
            go_wp2_with (fail)
            go_roundw
            case rel => exact ⟨1, by omega, by go_num, (fun j hj => by rw [show j = 0 by omega]; exact HG.out), hB.out⟩
            case measure => simp [intOf]; omega
          · obtain ⟨k', rfl⟩ : ∃ k', k = k' + 1 := ⟨k - 1, by omega⟩
            obtain ⟨y, hy⟩ := getElem?_lt (l := cl) (k := k') (by rw [Hl.out]; omega)
            have hc2 := (hB.out.cell (p := ⟨b, off + k', none⟩) hb).trans (hcs k' _ hy)
            have Gy := Lib.hid (getD_of hy)
            have d3 : decide ((0 : Int) < ((k' + 1 : Nat) : Int)) = true := decide_eq_true (by omega)
            have d3' : decide ((0 : Int) < (k' : Int) + 1) = true := decide_eq_true (by omega)
            have d4 : ((k' + 1 : Nat) : Int) - 1 = (k' : Int) := by omega
            have d4' : (k' : Int) + 1 - 1 = (k' : Int) := by omega
            have d5 : IntKind.i64.wrap (k' : Int) = (k' : Int) := IntWalk.i64_in _ (by omega)
            have hkI' : (k' : Int) < (n : Int) := by omega
            have hkN' : k' < n := by omega
            by_cases hxy : x ≤ y
            · have d6 : decide (x ≤ y) = true := by simpa using hxy
              have HN := Lib.hid (show R = false by rw [← HR.out]; exact Fix.validC_bad (by rw [Hl.out]; exact hlt) (by
                unfold Fix.goodAt; rw [show k' + 1 - 1 = k' by omega, Gx.out, Gy.out, decide_eq_false (show ¬ (y < x) by omega), decide_eq_false (show ¬ (k' + 1 = 0) by omega), Bool.or_false, Bool.and_false]))
              clear hcs hx hy
              go_wp2_with (fail)
              go_ret
              exact ⟨ret_bool HN.out.symm, hB.out⟩
            · have d6 : decide (x ≤ y) = false := by simpa using hxy
              have HG := Lib.hid (show Fix.goodAt cl (k' + 1) = true by
                unfold Fix.goodAt; rw [show k' + 1 - 1 = k' by omega, Gx.out, Gy.out, decide_eq_true (show y < x by omega), decide_eq_true (show 0 ≤ x by omega), decide_eq_true (show x < 192 by omega), Bool.or_true]; rfl)
              clear hcs hx hy
              go_wp2_with (fail)
              go_roundw
              case rel => exact ⟨k' + 1 + 1, by omega, by go_num, (fun j hj => by
                rcases Nat.lt_or_ge j (k' + 1) with h | h
                · exact hg.out j h
                · rw [show j = k' + 1 by omega]; exact HG.out), hB.out⟩
              case measure => simp [intOf]; omega
        · obtain rfl : k = n := by omega
          have hdk : decide ((k : Int) < (k : Int)) = false := by simp
          have HN := Lib.hid (show R = true by rw [← HR.out]; exact Fix.validC_good (by rw [Hl.out]; omega) (by rw [Hl.out]; omega) (fun j hj => hg.out j (by rw [← Hl.out]; exact hj)))
          go_wp2_with (fail)
          go_ret
          exact ⟨ret_bool HN.out.symm, hB.out⟩
end Go.Proofs.Ytpmkebejfnflfaa
