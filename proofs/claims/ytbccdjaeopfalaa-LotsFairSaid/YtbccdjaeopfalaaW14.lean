import Derived.Test.YtbccdjaeopfalaaW13
import Derived.Test.YtbccdjaeopfalaaW11
import Derived.Test.YtbccdjaeopfalaaW1
namespace Go.Proofs.Ytbccdjaeopfalaa
open Go.RowKit

/-! ### The contracts, one for every input -/
def factN (n : Int) : Nat := if 0 ≤ n ∧ n ≤ 18 then fact n.toNat else 0
def okF (n : Int) : Bool := decide (0 ≤ n ∧ n ≤ 18)
def unrankL (n : Int) (k : Nat) : List Int := if okN n k then unrank n.toNat k else []
theorem okN_pos {n : Int} {k : Nat} (h : okN n k = true) : ∃ m : Nat, n = m ∧ m ≤ 18 ∧ k < fact m := by
  unfold okN at h
  obtain ⟨h0, h1, h2⟩ := of_decide_eq_true h
  obtain ⟨m, rfl⟩ := Int.eq_ofNat_of_zero_le h0
  exact ⟨m, rfl, by omega, h2⟩

theorem Factorial_any (n : Int) (w : World) :
    Calls Try.prog 11 #[.int .i64 n] w fun e w' => e = .returned (.tuple #[.int .u64 (factN n), .int .i64 (errOf (okF n))]) ∧ w = w' := by
  by_cases h : 0 ≤ n ∧ n ≤ 18
  · obtain ⟨m, rfl⟩ := Int.eq_ofNat_of_zero_le h.1
    have := Factorial_good m w (by omega)
    simpa [factN, okF, h, errOf] using this
  · have := Factorial_bad n w (by omega)
    simpa [factN, okF, h, errOf] using this
theorem RFactorial_any (n : Int) (w : World) :
    Calls Try.prog 12 #[.int .i64 n] w fun e w' => e = .returned (.tuple #[.int .u64 (factN n), .int .i64 (errOf (okF n))]) ∧ w = w' := by
  by_cases h : 0 ≤ n ∧ n ≤ 18
  · obtain ⟨m, rfl⟩ := Int.eq_ofNat_of_zero_le h.1
    have := RFactorial_good m w (by omega)
    simpa [factN, okF, h, errOf] using this
  · have := RFactorial_bad n w (by omega)
    simpa [factN, okF, h, errOf] using this

/-- A slice of integers and an error, as results. -/
def ResIE (e : Ending) (w w' : World) (xs : List Int) (err : Int) : Prop :=
  ∃ A m c, e = .returned (.tuple #[.slice A m c, .int .i64 err]) ∧ xs.length = m ∧ m ≤ c ∧ c ≤ maxLen ∧ Ints w' A xs ∧ Below w.heap.size w w'
theorem ResIE.nil {w w' : World} {err : Int} (hb : Below w.heap.size w w') : ResIE (.returned (.tuple #[.slice none 0 0, .int .i64 err])) w w' [] err :=
  ⟨none, 0, 0, rfl, rfl, Nat.le_refl _, Nat.zero_le _, Ints.nil_ _ _, hb⟩
theorem ResIE.own {w w' : World} {err : Int} {base : Nat} {v : Value} {n : Nat} {xs : List Int} (hown : w'.ownsRow base 3 1 v n (xs.map (Value.int .i64))) (hb : Below w.heap.size w w') : ResIE (.returned (.tuple #[v, .int .i64 err])) w w' xs err := by
  obtain ⟨A, c, rfl, h1, h2, h3⟩ := own_form hown
  exact ⟨A, n, c, rfl, by simpa using h3, h1, h2, Ints.own hown, hb⟩

theorem Unrank_any (n : Int) (k : Nat) (w : World) : Calls Try.prog 13 #[.int .i64 n, .int .u64 k] w fun e w' => ResIE e w w' (unrankL n k) (errOf (okN n k)) := by
  cases h : okN n k with
  | false =>
    refine (Unrank_bad n k w h).mono fun e w' ⟨he, hw⟩ => ?_
    subst he; subst hw
    simp only [unrankL, h]
    exact ResIE.nil (Below.refl _ _)
  | true =>
    obtain ⟨m, rfl, hm, hk⟩ := okN_pos h
    refine (Unrank_good m k w hm hk).mono fun e w' ⟨v, he, hown, hb⟩ => ?_
    subst he
    simp only [unrankL, h, Int.toNat_natCast, if_true]
    exact ResIE.own hown hb
theorem RUnrank_any (n : Int) (k : Nat) (w : World) : Calls Try.prog 14 #[.int .i64 n, .int .u64 k] w fun e w' => ResIE e w w' (unrankL n k) (errOf (okN n k)) := by
  cases h : okN n k with
  | false =>
    refine (RUnrank_bad n k w h).mono fun e w' ⟨he, hw⟩ => ?_
    subst he; subst hw
    simp only [unrankL, h]
    exact ResIE.nil (Below.refl _ _)
  | true =>
    obtain ⟨m, rfl, hm, hk⟩ := okN_pos h
    refine (RUnrank_good m k w hm hk).mono fun e w' ⟨v, he, hown, hb⟩ => ?_
    subst he
    simp only [unrankL, h, Int.toNat_natCast, if_true]
    exact ResIE.own hown hb
theorem Rank_any (A : Option Addr) (n c : Nat) (p : List Int) (w : World) (hp : p.length = n) (hnc : n ≤ c) (hcm : c ≤ maxLen) (hA : Ints w A p) :
    Calls Try.prog 15 #[.slice A n c] w fun e w' => e = .returned (.tuple #[.int .u64 (rankN p), .int .i64 (errOf (isPerm p))]) ∧ Below w.heap.size w w' := by
  cases h : isPerm p with
  | false => simpa [rankN, h, errOf] using Rank_bad A n c p w hp (Nat.le_trans hnc hcm) hA h
  | true => simpa [rankN, h, errOf] using Rank_good A n c p w hp hnc hcm hA h
theorem RRank_any (A : Option Addr) (n c : Nat) (p : List Int) (w : World) (hp : p.length = n) (hnc : n ≤ c) (hcm : c ≤ maxLen) (hA : Ints w A p) :
    Calls Try.prog 16 #[.slice A n c] w fun e w' => e = .returned (.tuple #[.int .u64 (rankN p), .int .i64 (errOf (isPerm p))]) ∧ Below w.heap.size w w' := by
  cases h : isPerm p with
  | false => simpa [rankN, h, errOf] using RRank_bad A n c p w hp (Nat.le_trans hnc hcm) hA h
  | true => simpa [rankN, h, errOf] using RRank_good A n c p w hp (Nat.le_trans hnc hcm) hA h
theorem Same_all (A B : Option Addr) (n m c d : Nat) (xs ys : List Int) (w : World) (hx : xs.length = n) (hy : ys.length = m) (hm : n ≤ maxLen) (hA : Ints w A xs) (hB : Ints w B ys) :
    Calls Try.prog 17 #[.slice A n c, .slice B m d] w fun e w' => e = .returned (.bool (sameB xs ys)) ∧ Drawn w w' := by
  by_cases h : n = m
  · subst h; exact Same_any A B n c d xs ys w hx hy hm hA hB
  · refine (Same_len A B n m c d w h).mono fun e w' ⟨he, hw⟩ => ?_
    subst hw
    refine ⟨he.trans (ret_bool ?_), Drawn.refl _⟩
    have : xs ≠ ys := fun e => h (by rw [← hx, ← hy, e])
    simp [sameB, this]
theorem Order_res (A : Option Addr) (n c : Nat) (cl : List Int) (k : Nat) (w : World) (hp : cl.length = n) (hnc : n ≤ c) (hm : c ≤ maxLen) (hA : Ints w A cl) :
    Calls Try.prog 18 #[.slice A n c, .int .u64 k] w fun e w' => ResIE e w w' (orderL cl k) (errOf (okOrder cl k)) := by
  refine (Order_any A n c cl k w hp hnc hm hA).mono fun e w' ⟨h1, h2, hb⟩ => ?_
  cases h : okOrder cl k with
  | false =>
    rw [h1 h]
    simp only [orderL, h]
    exact ResIE.nil hb
  | true =>
    obtain ⟨v, he, hown⟩ := h2 h
    subst he
    simp only [orderL, h, if_true]
    exact ResIE.own hown hb
theorem ROrder_res (A : Option Addr) (n c : Nat) (cl : List Int) (k : Nat) (w : World) (hp : cl.length = n) (hnc : n ≤ c) (hm : c ≤ maxLen) (hA : Ints w A cl) :
    Calls Try.prog 19 #[.slice A n c, .int .u64 k] w fun e w' => ResIE e w w' (orderL cl k) (errOf (okOrder cl k)) := by
  refine (ROrder_any A n c cl k w hp hnc hm hA).mono fun e w' ⟨h1, h2, hb⟩ => ?_
  cases h : okOrder cl k with
  | false =>
    rw [h1 h]
    simp only [orderL, h]
    exact ResIE.nil hb
  | true =>
    obtain ⟨v, he, hown⟩ := h2 h
    subst he
    simp only [orderL, h, if_true]
    exact ResIE.own hown hb
theorem okComp_len {p q : List Int} (h : okComp p q = true) : p.length = q.length ∧ isPerm p = true ∧ isPerm q = true := by
  unfold okComp at h
  simp only [Bool.and_eq_true, decide_eq_true_eq] at h
  exact ⟨h.1.1, h.1.2, h.2⟩
theorem Compose_any (A B : Option Addr) (n m c d : Nat) (p q : List Int) (w : World) (hp : p.length = n) (hq : q.length = m) (hn : n ≤ maxLen) (hm : m ≤ maxLen) (hA : Ints w A p) (hB : Ints w B q) :
    Calls Try.prog 20 #[.slice A n c, .slice B m d] w fun e w' => ResIE e w w' (composeL p q) (errOf (okComp p q)) := by
  cases h : okComp p q with
  | false =>
    refine (Compose_bad A B n m c d p q w hp hq hn hm hA hB h).mono fun e w' ⟨he, hb⟩ => ?_
    subst he
    simp only [composeL, h]
    exact ResIE.nil hb
  | true =>
    obtain ⟨h0, h1, h2⟩ := okComp_len h
    obtain rfl : n = m := by omega
    refine (Compose_good A B n c d p q w hp hq hA hB h1 h2).mono fun e w' ⟨v, he, hown, hb⟩ => ?_
    subst he
    simp only [composeL, h, if_true]
    exact ResIE.own hown hb
theorem RCompose_any (A B : Option Addr) (n m c d : Nat) (p q : List Int) (w : World) (hp : p.length = n) (hq : q.length = m) (hn : n ≤ maxLen) (hm : m ≤ maxLen) (hA : Ints w A p) (hB : Ints w B q) :
    Calls Try.prog 21 #[.slice A n c, .slice B m d] w fun e w' => ResIE e w w' (composeL p q) (errOf (okComp p q)) := by
  cases h : okComp p q with
  | false =>
    refine (RCompose_bad A B n m c d p q w hp hq hn hm hA hB h).mono fun e w' ⟨he, hb⟩ => ?_
    subst he
    simp only [composeL, h]
    exact ResIE.nil hb
  | true =>
    obtain ⟨h0, h1, h2⟩ := okComp_len h
    obtain rfl : n = m := by omega
    refine (RCompose_good A B n c d p q w hp hq hA hB h1 h2).mono fun e w' ⟨v, he, hown, hb⟩ => ?_
    subst he
    simp only [composeL, h, if_true]
    exact ResIE.own hown hb
theorem Ints.lit (w : World) (e : TypeId) (xs : List Int) : Ints (w.alloc (.cells (xs.map (Value.int .i64)).toArray e)) (some ⟨w.heap.size, 0, none⟩) xs :=
  Ints.mk (by simp) fun j x hx => by
    rw [Nat.zero_add, (Blk.new w e _).cell j]
    simp [hx]
end Go.Proofs.Ytbccdjaeopfalaa
