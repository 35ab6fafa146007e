import Derived.Test.YtbccdjaeopfalaaW2
import Derived.Test.YtbccdjaeopfalaaW3
namespace Go.Proofs.Ytbccdjaeopfalaa
open Go.RowKit

def lessN (x : Int) (r : List Int) : Nat := (r.filter fun y => decide (y < x)).length
/-- The number of a permutation. -/
def rk : List Int → Nat
  | [] => 0
  | x :: r => lessN x r * fact r.length + rk r
def isPerm (p : List Int) : Bool := permB p && decide (p.length ≤ 18)
def rankN (p : List Int) : Nat := if isPerm p then rk p else 0
def errOf (b : Bool) : Int := if b then 0 else 220

theorem lessN_le (x : Int) (r : List Int) : lessN x r ≤ r.length := List.length_filter_le _ _
theorem lessN_snoc (x y : Int) (r : List Int) : lessN x (r ++ [y]) = lessN x r + if y < x then 1 else 0 := by
  unfold lessN
  rw [List.filter_append, List.length_append]
  by_cases h : y < x <;> simp [h]
theorem rk_lt : ∀ p : List Int, rk p < fact p.length
  | [] => by decide
  | x :: r => by
    have h1 := rk_lt r
    have h2 := lessN_le x r
    have h3 : lessN x r * fact r.length ≤ r.length * fact r.length := Nat.mul_le_mul_right _ h2
    show _ < (r.length + 1) * fact r.length
    rw [Nat.add_mul, Nat.one_mul]
    show lessN x r * fact r.length + rk r < _
    omega
theorem rk_step {p : List Int} {k : Nat} {x : Int} (h : p[k]? = some x) (hh : Nat) (hr : hh * fact (p.length - k) + rk (p.drop k) = rk p) :
    (hh * (p.length - k) + lessN x (p.drop (k + 1))) * fact (p.length - (k + 1)) + rk (p.drop (k + 1)) = rk p := by
  have hk : k < p.length := (List.getElem?_eq_some_iff.1 h).1
  rw [drop_cons h] at hr
  have e1 : p.length - k = (p.length - (k + 1)) + 1 := by omega
  have e2 : fact (p.length - k) = (p.length - k) * fact (p.length - (k + 1)) := by rw [e1]; rfl
  have e3 : (p.drop (k + 1)).length = p.length - (k + 1) := by simp
  rw [e2] at hr
  have hr' : hh * ((p.length - k) * fact (p.length - (k + 1))) + (lessN x (p.drop (k + 1)) * fact (p.drop (k + 1)).length + rk (p.drop (k + 1))) = rk p := hr
  rw [e3] at hr'
  rw [Nat.add_mul, Nat.mul_assoc]
  omega
theorem rk_step_le {p : List Int} {k : Nat} {x : Int} (h : p[k]? = some x) (hh : Nat) (hl : p.length ≤ 18) (hr : hh * fact (p.length - k) + rk (p.drop k) = rk p) :
    hh * (p.length - k) + lessN x (p.drop (k + 1)) ≤ 6402373705728000 ∧ hh ≤ 6402373705728000 ∧ hh * (p.length - k) ≤ 6402373705728000 := by
  have h1 := rk_step h hh hr
  have h2 := rk_lt p
  have h3 := fact_le p.length hl
  have h4 := fact_pos (p.length - (k + 1))
  have h5 : (hh * (p.length - k) + lessN x (p.drop (k + 1))) * 1 ≤ (hh * (p.length - k) + lessN x (p.drop (k + 1))) * fact (p.length - (k + 1)) := Nat.mul_le_mul_left _ h4
  have h6 := fact_pos (p.length - k)
  have h7 : hh * 1 ≤ hh * fact (p.length - k) := Nat.mul_le_mul_left _ h6
  omega
/-- The reference's sum. -/
theorem rk_sum {p : List Int} {k : Nat} {x : Int} (h : p[k]? = some x) (s : Nat) (hs : s + rk (p.drop k) = rk p) :
    (s + lessN x (p.drop (k + 1)) * fact (p.length - 1 - k)) + rk (p.drop (k + 1)) = rk p := by
  rw [drop_cons h] at hs
  have hs' : s + (lessN x (p.drop (k + 1)) * fact (p.drop (k + 1)).length + rk (p.drop (k + 1))) = rk p := hs
  have e3 : (p.drop (k + 1)).length = p.length - 1 - k := by simp; omega
  rw [e3] at hs'
  omega
end Go.Proofs.Ytbccdjaeopfalaa
