import Derived.Test.YtbccdjaeopfalaaBase
namespace Go.Proofs.Ytbccdjaeopfalaa
open Go.RowKit

/-- assizeref22.Same -/
def sameB (xs ys : List Int) : Bool := decide (xs = ys)

theorem Same_len (A B : Option Addr) (n m c d : Nat) (w : World) (hne : n ≠ m) :
    Calls Try.prog 17 #[.slice A n c, .slice B m d] w fun e w' => e = .returned (.bool false) ∧ w = w' := by
  have hd : ((n : Int) != (m : Int)) = true := by simp; omega
  go_enter Try.func17, Try.ntmps17
  go_wp2
  go_ret
  exact ⟨rfl, rfl⟩

set_option maxHeartbeats 400000 in
theorem Same_any (A B : Option Addr) (n c d : Nat) (xs ys : List Int) (w : World) (hx : xs.length = n) (hy : ys.length = n) (hm : n ≤ maxLen)
    (hA : Ints w A xs) (hB : Ints w B ys) :
    Calls Try.prog 17 #[.slice A n c, .slice B n d] w fun e w' => e = .returned (.bool (sameB xs ys)) ∧ Drawn w w' := by
  have Hx := Lib.hid hx; have Hy := Lib.hid hy; clear hx hy
  unfold maxLen at hm
  have hd : ((n : Int) != (n : Int)) = false := by simp
  go_enter Try.func17, Try.ntmps17
  go_wp2
  go_loopw [5] (fun i wr => ∃ k : Nat, k ≤ n ∧ i = .int .i64 k ∧ xs.take k = ys.take k ∧ Drawn w wr) (fun i _ => n - (intOf i).toNat)
  case atStart => exact ⟨0, by omega, rfl, by simp, Drawn.refl _⟩
  case round =>
    obtain ⟨k, hk, rfl, htk, hw⟩ := hrel
    have Htk := Lib.hid htk; clear htk
    by_cases hlt : k < n
    · obtain ⟨b, off, rfl, -, hc⟩ := hA.at_ (k := k) (by rw [Hx.out]; exact hlt)
      obtain ⟨b2, off2, rfl, -, hc2⟩ := hB.at_ (k := k) (by rw [Hy.out]; exact hlt)
      obtain ⟨x, hxk⟩ := getElem?_lt (l := xs) (k := k) (by rw [Hx.out]; exact hlt)
      obtain ⟨y, hyk⟩ := getElem?_lt (l := ys) (k := k) (by rw [Hy.out]; exact hlt)
      have e1 : wr.cell? ⟨b, off + k, none⟩ = some (.int .i64 x) := (hw.cell _).trans (hc k x hxk)
      have e2 : wr.cell? ⟨b2, off2 + k, none⟩ = some (.int .i64 y) := (hw.cell _).trans (hc2 k y hyk)
      have Hxk := Lib.hid hxk; have Hyk := Lib.hid hyk
      clear hc hc2 hxk hyk hA hB
      by_cases hxy : x = y
      · subst hxy
        have hb : (x != x) = false := by simp
        go_wp2
        go_quiet (fail)
        go_wp2
        go_roundw
        case rel => exact ⟨k + 1, by omega, by go_num, by rw [take_snoc Hxk.out, take_snoc Hyk.out, Htk.out], hw.drewN _⟩
        case measure => simp [intOf]; omega
      · have hb : (x != y) = true := by simpa using hxy
        go_wp2
        go_quiet (fail)
        go_wp2
        go_ret
        refine ⟨ret_bool ?_, hw.drewN _⟩
        have : xs ≠ ys := fun e => by
          have h1 := Hxk.out; rw [e, Hyk.out] at h1
          exact hxy (by injection h1 with h; exact h.symm)
        simp [sameB, this]
    · go_wp2
      go_ret
      obtain rfl : k = n := by omega
      have e : xs = ys := by
        have := Htk.out
        rwa [List.take_of_length_le (by rw [Hx.out]; omega), List.take_of_length_le (by rw [Hy.out]; omega)] at this
      exact ⟨ret_bool (by simp [sameB, e]), hw⟩

end Go.Proofs.Ytbccdjaeopfalaa
