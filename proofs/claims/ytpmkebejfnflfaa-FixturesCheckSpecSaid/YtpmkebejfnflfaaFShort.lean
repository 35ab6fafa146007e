/- The walk of the reference's Short (fixtures). -/
import Derived.Test.YtpmkebejfnflfaaFLaw
import Derived.SizedLaws
namespace Go.Proofs.Ytpmkebejfnflfaa
open Go.RowKit Go.Shelf Go.Lib
namespace Fix
def shortR (ls : List (List Mt)) : Bool := decide (ls.length ≤ 50) && decide (ls.flatten.length ≤ 160)
theorem flat_take {ls : List (List Mt)} {k : Nat} {l : List Mt} (h : ls[k]? = some l) : (ls.take (k + 1)).flatten.length = (ls.take k).flatten.length + l.length := by
  rw [take_snoc h, List.flatten_append, List.length_append]; simp
end Fix
theorem reach_44 : reachBytes < 2 ^ 47 := reachBytes_lt
set_option linter.unusedVariables false in
set_option linter.unusedSimpArgs false in
set_option maxRecDepth 100000 in
set_option maxHeartbeats 8000000 in
theorem short_any (A : Option Addr) (n c : Nat) (ls : List (List (Int × Int))) (w : World) (hl : ls.length = n) (hnc : n ≤ c) (hcm : c ≤ maxLen) (hC : RoundsC w A ls) (hs : ∀ l ∈ ls, l.length * 16 ≤ reachBytes) :
    Calls Try.prog 14 #[.agg #[.slice A n c]] w fun e w' => e = .returned (.bool (Fix.shortR ls)) ∧ Below w.heap.size w w' := by
  have HC := Lib.hid hC
  have Hl := Lib.hid hl
  have Hs : Hid (∀ l ∈ ls, l.length ≤ 8796093022208) := Lib.hid fun l h => by
    have h1 := hs l h
    have h2 := reach_44
    omega
  unfold maxLen at hcm
  clear hC hl hs
  by_cases hbig : n ≤ 50
  · obtain ⟨R, hR⟩ : ∃ R, Fix.shortR ls = R := ⟨_, rfl⟩
    have HR := Lib.hid hR
    rw [hR]
    clear hR
    go_enter Try.func14, Try.ntmps14
    go_upto_region 1 with (fail)
    generalize hge : World.alloc _ _ = w0
    have H0 := Lib.hid (show Blk w0 w.heap.size 26 #[.slice A n c] by subst hge; exact Blk.new w _ _)
    have HB0 := Lib.hid (show Below w.heap.size w w0 by subst hge; exact (Below.refl _ _).alloc (Nat.le_refl _) _)
    clear hge
    go_wp2_with (fail)
    go_loopw [4, 3] (fun i s W => ∃ k t : Nat, k ≤ n ∧ i = .int .i64 k ∧ s = .int .i64 t ∧ t ≤ k * 8796093022208 ∧ Hid (t = (ls.take k).flatten.length) ∧ Hid (Below w0.heap.size w0 W)) (fun i _ _ => n - (intOf i).toNat)
    case atStart => exact ⟨0, 0, Nat.zero_le _, rfl, rfl, by omega, (Lib.hid (by simp)), Below.refl _ _⟩
    case round =>
      obtain ⟨k, t, hk, rfl, rfl, ht, hsum, hB⟩ := hrel
      have q0 := (H0.out.below hB.out).cell 0
      have q0' : wr.cell? ⟨w.heap.size, 0, none⟩ = some (.slice A n c) := q0
      clear q0
      by_cases hlt : k < n
      · obtain ⟨l, hx⟩ := getElem?_lt (l := ls) (k := k) (by rw [Hl.out]; exact hlt)
        obtain ⟨b, off, A', c', rfl, hb, hcell, -, -, -⟩ := ((HC.out.below HB0.out).below hB.out).at_ hx
        have hll := Hs.out l (List.mem_of_getElem? hx)
        have Hft := Lib.hid (Fix.flat_take hx)
        obtain ⟨m, hm⟩ : ∃ m, m = l.length := ⟨_, rfl⟩
        rw [← hm] at hcell hll Hft
        clear hx hm
        go_wp2_with (fail)
        go_roundw
        case rel => exact ⟨k + 1, t + m, by omega, by go_num, by go_num, by omega, Lib.hid (by rw [Hft.out, ← hsum.out]), hB⟩
        case measure => simp [intOf]; omega
      · obtain rfl : k = n := by omega
        have hfin : Fix.shortR ls = decide ((t : Int) ≤ 160) := by
          have h1 := hsum.out
          rw [List.take_of_length_le (by rw [Hl.out]; exact Nat.le_refl _)] at h1
          unfold Fix.shortR
          rw [Hl.out, decide_eq_true hbig, Bool.true_and, ← h1]
          exact decide_eq_decide.2 (by omega)
        rw [HR.out] at hfin
        have h50 : decide ((k : Int) ≤ 50) = true := by simp; omega
        go_wp2_with (fail)
        go_ret
        exact ⟨ret_bool hfin.symm, below_of HB0.out hB.out HB0.out.size⟩
  · have hR : Fix.shortR ls = false := by unfold Fix.shortR; rw [Hl.out, decide_eq_false hbig]; rfl
    rw [hR]
    clear hR
    go_enter Try.func14, Try.ntmps14
    go_upto_region 1 with (fail)
    generalize hge : World.alloc _ _ = w0
    have H0 := Lib.hid (show Blk w0 w.heap.size 26 #[.slice A n c] by subst hge; exact Blk.new w _ _)
    have HB0 := Lib.hid (show Below w.heap.size w w0 by subst hge; exact (Below.refl _ _).alloc (Nat.le_refl _) _)
    clear hge
    go_wp2_with (fail)
    go_loopw [4, 3] (fun i s W => ∃ k : Nat, ∃ t : Int, k ≤ n ∧ i = .int .i64 k ∧ s = .int .i64 t ∧ Hid (Below w0.heap.size w0 W)) (fun i _ _ => n - (intOf i).toNat)
    case atStart => exact ⟨0, 0, Nat.zero_le _, rfl, rfl, Below.refl _ _⟩
    case round =>
      obtain ⟨k, t, hk, rfl, rfl, hB⟩ := hrel
      have q0 := (H0.out.below hB.out).cell 0
      have q0' : wr.cell? ⟨w.heap.size, 0, none⟩ = some (.slice A n c) := q0
      clear q0
      by_cases hlt : k < n
      · obtain ⟨l, hx⟩ := getElem?_lt (l := ls) (k := k) (by rw [Hl.out]; exact hlt)
        obtain ⟨b, off, A', c', rfl, hb, hcell, -, -, -⟩ := ((HC.out.below HB0.out).below hB.out).at_ hx
        obtain ⟨m, hm⟩ : ∃ m, m = l.length := ⟨_, rfl⟩
        rw [← hm] at hcell
        clear hx hm
        go_wp2_with (fail)
        go_roundw
        case rel => exact ⟨k + 1, _, by omega, by go_num, rfl, hB⟩
        case measure => simp [intOf]; omega
      · obtain rfl : k = n := by omega
        have h50 : decide ((k : Int) ≤ 50) = false := by simp; omega
        go_wp2_with (fail)
        go_ret
        exact ⟨rfl, below_of HB0.out hB.out HB0.out.size⟩
end Go.Proofs.Ytpmkebejfnflfaa
