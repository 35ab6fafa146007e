/- The tables of the permutation: plain and walk. -/
import Derived.Test.YtcijhakofoklcaaRows
import Derived.Test.YtcijhakofoklcaaShaP
import Derived.StillTailTactics
namespace Go.Proofs.Ytcijhakofoklcaa
open Go.RowKit
def tStep (s : Nat × Nat × List Nat) (t : Nat) : Nat × Nat × List Nat := (s.2.1, (2 * s.1 + 3 * s.2.1) % 5, s.2.2.set (5 * s.2.1 + s.1) ((t + 1) * (t + 2) / 2 % 64))
def tAcc (k : Nat) : Nat × Nat × List Nat := (List.range k).foldl tStep (1, 0, List.replicate 25 0)
def pVal (i : Nat) : Nat := 5 * ((2 * (i % 5) + 3 * (i / 5)) % 5) + i / 5
def pAcc (k : Nat) : List Nat := (List.range k).foldl (fun l i => l.set i (pVal i)) (List.replicate 25 0)
def lfsr (s : Nat) : Nat := if 2 * s > 255 then (2 * s) ^^^ 369 else 2 * s
def kBit (s j : Nat) : Nat := (s &&& 1) <<< (2 ^ j - 1)
def kIn (i : Nat) (p : List Nat × Nat) (j : Nat) : List Nat × Nat := (List.range j).foldl (fun p j => (p.1.set i (p.1.getD i 0 ||| kBit p.2 j), lfsr p.2)) p
def kOut (k : Nat) : List Nat × Nat := (List.range k).foldl (fun p i => kIn i p 7) (List.replicate 24 0, 1)
theorem tAcc_succ (k : Nat) : tAcc (k + 1) = tStep (tAcc k) k := foldl_succ _ _ k
theorem pAcc_succ (k : Nat) : pAcc (k + 1) = (pAcc k).set k (pVal k) := foldl_succ _ _ k
theorem kIn_succ (i : Nat) (p : List Nat × Nat) (j : Nat) : kIn i p (j + 1) = ((kIn i p j).1.set i ((kIn i p j).1.getD i 0 ||| kBit (kIn i p j).2 j), lfsr (kIn i p j).2) := foldl_succ _ _ j
theorem kOut_succ (k : Nat) : kOut (k + 1) = kIn k (kOut k) 7 := foldl_succ _ _ k
theorem pVal_eq (i : Nat) : pVal i = 5 * ((2 * (i % 5) + 3 * (i / 5)) % 5) + i / 5 := rfl
theorem lfsr_eq (s : Nat) : lfsr s = if 2 * s > 255 then (2 * s) ^^^ 369 else 2 * s := rfl
theorem kBit_eq (s j : Nat) : kBit s j = (s &&& 1) <<< (2 ^ j - 1) := rfl
theorem tAcc_zero : tAcc 0 = (1, 0, List.replicate 25 0) := rfl
theorem pAcc_zero : pAcc 0 = List.replicate 25 0 := rfl
theorem kIn_zero (i : Nat) (p : List Nat × Nat) : kIn i p 0 = p := rfl
theorem kOut_zero : kOut 0 = (List.replicate 24 0, 1) := rfl
def turnL : List Nat := [0, 1, 62, 28, 27, 36, 44, 6, 55, 20, 3, 10, 43, 25, 39, 41, 45, 15, 21, 8, 18, 2, 61, 56, 14]
def placeL : List Nat := [0, 10, 20, 5, 15, 16, 1, 11, 21, 6, 7, 17, 2, 12, 22, 23, 8, 18, 3, 13, 14, 24, 9, 19, 4]
def constL : List Nat := [0x1, 0x8082, 0x800000000000808A, 0x8000000080008000, 0x808B, 0x80000001, 0x8000000080008081, 0x8000000000008009, 0x8A, 0x88, 0x80008009, 0x8000000A, 0x8000808B, 0x800000000000008B, 0x8000000000008089, 0x8000000000008003, 0x8000000000008002, 0x8000000000000080, 0x800A, 0x800000008000000A, 0x8000000080008081, 0x8000000000008080, 0x80000001, 0x8000000080008008]
theorem tAcc_all : (tAcc 24).2.2 = turnL := by decide +kernel
theorem pAcc_all : pAcc 25 = placeL := by decide +kernel
theorem kOut_all : (kOut 24).1 = constL := by decide +kernel
theorem tAcc_small : ∀ k, k ≤ 24 → (tAcc k).1 < 5 ∧ (tAcc k).2.1 < 5 ∧ (tAcc k).2.2.length = 25
  | 0, _ => ⟨by decide, by decide, rfl⟩
  | k + 1, h => by
    obtain ⟨-, h2, h3⟩ := tAcc_small k (by omega)
    rw [tAcc_succ]
    exact ⟨h2, Nat.mod_lt _ (by omega), by unfold tStep; simp [h3]⟩
theorem pAcc_length : ∀ k, (pAcc k).length = 25
  | 0 => rfl
  | k + 1 => by rw [pAcc_succ, List.length_set, pAcc_length k]
theorem lfsr_lt {s : Nat} (h : s < 256) : lfsr s < 256 := by
  unfold lfsr
  split
  · have : ∀ s : Fin 256, 2 * s.1 > 255 → (2 * s.1) ^^^ 369 < 256 := by decide +kernel
    exact this ⟨s, h⟩ ‹_›
  · omega
theorem kIn_small (i : Nat) (p : List Nat × Nat) (hp : p.1.length = 24 ∧ p.2 < 256) : ∀ j, (kIn i p j).1.length = 24 ∧ (kIn i p j).2 < 256
  | 0 => hp
  | j + 1 => by
    rw [kIn_succ]
    have h := kIn_small i p hp j
    exact ⟨by simp [h.1], lfsr_lt h.2⟩
theorem kOut_small : ∀ k, (kOut k).1.length = 24 ∧ (kOut k).2 < 256
  | 0 => ⟨rfl, by decide⟩
  | k + 1 => by rw [kOut_succ]; exact kIn_small k _ (kOut_small k) 7
theorem kBit_w {s j : Nat} (hj : j < 7) : IsW (kBit s j) := by
  have h1 : s &&& 1 < 2 := Nat.lt_of_le_of_lt Nat.and_le_right (by omega)
  unfold kBit IsW
  have h2 : 2 ^ j - 1 ≤ 63 := by
    have : 2 ^ j ≤ 2 ^ 6 := Nat.pow_le_pow_right (by omega) (by omega)
    omega
  rw [Nat.shiftLeft_eq]
  have h3 : 2 ^ (2 ^ j - 1) ≤ 2 ^ 63 := Nat.pow_le_pow_right (by omega) h2
  have h4 : (s &&& 1) * 2 ^ (2 ^ j - 1) ≤ 1 * 2 ^ 63 := Nat.mul_le_mul (by omega) h3
  omega
theorem kIn_w (i : Nat) (p : List Nat × Nat) (hp : AllW p.1) : ∀ j, j ≤ 7 → AllW (kIn i p j).1
  | 0, _ => hp
  | j + 1, h => by
    rw [kIn_succ]
    have hj := kIn_w i p hp j (by omega)
    exact hj.set _ _ ((hj _).or (kBit_w (by omega)))
theorem kOut_w : ∀ k, AllW (kOut k).1
  | 0 => AllW.replicate 24
  | k + 1 => by rw [kOut_succ]; exact kIn_w k _ (kOut_w k) 7 (by omega)
theorem kbit_walk {s j : Nat} (hs : s < 256) (hj : j < 7) : IntKind.u64.wrap (IntKind.u64.wrap (bits .and .i64 (s : Int) 1) * 2 ^ min (IntKind.u64.wrap (IntKind.u64.wrap (2 ^ j) - 1)).toNat 64) = ((kBit s j : Nat) : Int) := by
  have h : ∀ s : Fin 256, ∀ j : Fin 7, IntKind.u64.wrap (IntKind.u64.wrap (bits .and .i64 (s.1 : Int) 1) * 2 ^ min (IntKind.u64.wrap (IntKind.u64.wrap (2 ^ j.1) - 1)).toNat 64) = ((kBit s.1 j.1 : Nat) : Int) := by decide +kernel
  exact h ⟨s, hs⟩ ⟨j, hj⟩
theorem kor_walk {z s j : Nat} (hz : IsW z) (hs : s < 256) (hj : j < 7) : bits .or .u64 (z : Int) (IntKind.u64.wrap (IntKind.u64.wrap (bits .and .i64 (s : Int) 1) * 2 ^ min (IntKind.u64.wrap (IntKind.u64.wrap (2 ^ j) - 1)).toNat 64)) = ((z ||| kBit s j : Nat) : Int) := by
  rw [kbit_walk hs hj, or_w hz (kBit_w hj)]
theorem kxor_walk {s : Nat} (hs : s < 256) : bits .xor .i64 ((s : Int) * 2) 369 = ((2 * s ^^^ 369 : Nat) : Int) := by
  have h : ∀ s : Fin 256, bits .xor .i64 ((s.1 : Int) * 2) 369 = ((2 * s.1 ^^^ 369 : Nat) : Int) := by decide +kernel
  exact h ⟨s, hs⟩
attribute [irreducible] tAcc pAcc kIn kOut lfsr kBit pVal turnL placeL constL
end Go.Proofs.Ytcijhakofoklcaa
