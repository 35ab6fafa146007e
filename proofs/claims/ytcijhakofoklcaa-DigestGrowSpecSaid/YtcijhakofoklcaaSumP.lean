/- SHA3-256 of a list of bytes: plain. -/
import Derived.Test.YtcijhakofoklcaaShaT
namespace Go.Proofs.Ytcijhakofoklcaa
/-- What is laid behind the bytes. -/
def endL (m : Nat) : List Nat := let e := (List.replicate m 0).set 0 6; e.set (m - 1) (e.getD (m - 1) 0 ^^^ 128)
def msgL (b : List Nat) : List Nat := b ++ endL (136 - b.length % 136)
def abVal (x c i : Nat) : Nat := x ^^^ ((c <<< (8 * (i % 8))) % 18446744073709551616)
def abAcc (l blk : List Nat) (k : Nat) : List Nat := (List.range k).foldl (fun l i => l.set (i / 8) (abVal (l.getD (i / 8) 0) (blk.getD i 0) i)) l
def absorb (l blk : List Nat) : List Nat := perm placeL turnL constL (abAcc l blk 136) 24
def sponge (msg : List Nat) (n : Nat) : List Nat := (List.range n).foldl (fun l i => absorb l (msg.drop (136 * i))) (List.replicate 25 0)
def outVal (l : List Nat) (i : Nat) : Nat := (l.getD (i / 8) 0 >>> (8 * (i % 8))) % 256
def outAcc (l : List Nat) (k : Nat) : List Nat := (List.range k).foldl (fun d i => d.set i (outVal l i)) (List.replicate 32 0)
def sha (b : List Nat) : List Nat := outAcc (sponge (msgL b) ((msgL b).length / 136)) 32
theorem abAcc_zero (l blk : List Nat) : abAcc l blk 0 = l := rfl
theorem abAcc_succ (l blk : List Nat) (k : Nat) : abAcc l blk (k + 1) = (abAcc l blk k).set (k / 8) (abVal ((abAcc l blk k).getD (k / 8) 0) (blk.getD k 0) k) := foldl_succ _ _ k
theorem sponge_zero (msg : List Nat) : sponge msg 0 = List.replicate 25 0 := rfl
theorem sponge_succ (msg : List Nat) (n : Nat) : sponge msg (n + 1) = absorb (sponge msg n) (msg.drop (136 * n)) := foldl_succ _ _ n
theorem outAcc_zero (l : List Nat) : outAcc l 0 = List.replicate 32 0 := rfl
theorem outAcc_succ (l : List Nat) (k : Nat) : outAcc l (k + 1) = (outAcc l k).set k (outVal l k) := foldl_succ _ _ k
theorem absorb_eq (l blk : List Nat) : absorb l blk = perm placeL turnL constL (abAcc l blk 136) 24 := rfl
theorem sha_eq (b : List Nat) : sha b = outAcc (sponge (msgL b) ((msgL b).length / 136)) 32 := rfl
theorem msgL_eq (b : List Nat) : msgL b = b ++ endL (136 - b.length % 136) := rfl
theorem abVal_eq (x c i : Nat) : abVal x c i = x ^^^ ((c <<< (8 * (i % 8))) % 18446744073709551616) := rfl
theorem outVal_eq (l : List Nat) (i : Nat) : outVal l i = (l.getD (i / 8) 0 >>> (8 * (i % 8))) % 256 := rfl
theorem abAcc_length (l blk : List Nat) : ∀ k, (abAcc l blk k).length = l.length
  | 0 => rfl
  | k + 1 => by rw [abAcc_succ, List.length_set, abAcc_length l blk k]
theorem outAcc_length (l : List Nat) : ∀ k, (outAcc l k).length = 32
  | 0 => rfl
  | k + 1 => by rw [outAcc_succ, List.length_set, outAcc_length l k]
theorem endL_length (m : Nat) : (endL m).length = m := by simp [endL]
theorem msgL_length (b : List Nat) : (msgL b).length = 136 * (b.length / 136 + 1) := by
  rw [msgL_eq, List.length_append, endL_length]
  omega
theorem sha_length (b : List Nat) : (sha b).length = 32 := by rw [sha_eq, outAcc_length]
theorem constL_w : AllW constL := by rw [← kOut_all]; exact kOut_w 24
theorem abVal_w {x : Nat} (hx : IsW x) (c i : Nat) : IsW (abVal x c i) := hx.xor (Nat.mod_lt _ (by decide))
theorem abAcc_w {l : List Nat} (h : AllW l) (blk : List Nat) : ∀ k, AllW (abAcc l blk k)
  | 0 => h
  | k + 1 => by rw [abAcc_succ]; exact (abAcc_w h blk k).set _ _ (abVal_w (abAcc_w h blk k _) _ _)
theorem absorb_w {l : List Nat} (h : AllW l) (blk : List Nat) : AllW (absorb l blk) := by rw [absorb_eq]; exact perm_w (abAcc_w h blk 136) constL_w 24
theorem absorb_length (l blk : List Nat) : (absorb l blk).length = l.length := by rw [absorb_eq, perm_length, abAcc_length]
theorem sponge_w (msg : List Nat) : ∀ n, AllW (sponge msg n)
  | 0 => AllW.replicate 25
  | n + 1 => by rw [sponge_succ]; exact absorb_w (sponge_w msg n) _
theorem sponge_length (msg : List Nat) : ∀ n, (sponge msg n).length = 25
  | 0 => rfl
  | n + 1 => by rw [sponge_succ, absorb_length, sponge_length msg n]
theorem placeL_small : ∀ i, placeL.getD i 0 < 25 := by
  intro i
  by_cases h : i < 25
  · have : ∀ i : Fin 25, placeL.getD i.1 0 < 25 := by decide +kernel
    exact this ⟨i, h⟩
  · have hl : placeL.length = 25 := by rw [← pAcc_all, pAcc_length]
    rw [List.getD_eq_getElem?_getD, List.getElem?_eq_none (by omega)]; decide
theorem turnL_length : turnL.length = 25 := by rw [← tAcc_all]; exact (tAcc_small 24 (by omega)).2.2
theorem placeL_length : placeL.length = 25 := by rw [← pAcc_all, pAcc_length]
theorem constL_length : constL.length = 24 := by rw [← kOut_all]; exact (kOut_small 24).1
theorem turnL_small : ∀ i, turnL.getD i 0 < 64 := by
  intro i
  by_cases h : i < 25
  · have : ∀ i : Fin 25, turnL.getD i.1 0 < 64 := by decide +kernel
    exact this ⟨i, h⟩
  · rw [List.getD_eq_getElem?_getD, List.getElem?_eq_none (by rw [turnL_length]; omega)]; decide
attribute [irreducible] endL msgL abVal abAcc absorb sponge outVal outAcc sha
end Go.Proofs.Ytcijhakofoklcaa
