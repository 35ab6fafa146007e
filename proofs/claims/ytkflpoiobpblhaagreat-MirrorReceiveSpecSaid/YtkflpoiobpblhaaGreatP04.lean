/- Walks and plain laws that the statement rests on: ShaP. -/
import Derived.Laws.BitsAllLaws
import Derived.Test.YtkflpoiobpblhaaGreatP00
import Derived.Test.YtkflpoiobpblhaaGreatP01
import Derived.Test.YtkflpoiobpblhaaGreatPS
namespace Go.Proofs.YtkflpoiobpblhaaGreat
open Go.RowKit
def IsW (v : Nat) : Prop := v < 18446744073709551616
def rotl (v s : Nat) : Nat := ((v <<< s) % 18446744073709551616) ||| (v >>> (64 - s))
def not64 (b : Nat) : Nat := 18446744073709551615 - b
theorem IsW.zero : IsW 0 := by unfold IsW; omega
theorem IsW.xor {a b : Nat} (ha : IsW a) (hb : IsW b) : IsW (a ^^^ b) := Nat.xor_lt_two_pow (n := 64) ha hb
theorem IsW.and {a b : Nat} (ha : IsW a) : IsW (a &&& b) := Nat.lt_of_le_of_lt Nat.and_le_left ha
theorem IsW.or {a b : Nat} (ha : IsW a) (hb : IsW b) : IsW (a ||| b) := Nat.or_lt_two_pow (n := 64) ha hb
theorem IsW.shr {a : Nat} (ha : IsW a) (s : Nat) : IsW (a >>> s) := Nat.lt_of_le_of_lt (by rw [Nat.shiftRight_eq_div_pow]; exact Nat.div_le_self _ _) ha
theorem IsW.rotl {v : Nat} (hv : IsW v) (s : Nat) : IsW (rotl v s) := Nat.or_lt_two_pow (n := 64) (Nat.mod_lt _ (by decide)) (hv.shr _)
theorem IsW.not (b : Nat) : IsW (not64 b) := by unfold IsW not64; omega
theorem xor_w {a b : Nat} (ha : IsW a) (hb : IsW b) : bits .xor .u64 (a : Int) (b : Int) = ((a ^^^ b : Nat) : Int) := u64_xor_nat a b ha hb
theorem and_w {a b : Nat} (ha : IsW a) (hb : IsW b) : bits .and .u64 (a : Int) (b : Int) = ((a &&& b : Nat) : Int) := u64_and_nat a b ha hb
theorem or_w {a b : Nat} (ha : IsW a) (hb : IsW b) : bits .or .u64 (a : Int) (b : Int) = ((a ||| b : Nat) : Int) := u64_or_nat a b ha hb
theorem and63 {s : Nat} (hs : s < 64) : bits .and .u64 (s : Int) 63 = (s : Int) := by
 have h := u64_and_nat s 63 (by omega) (by omega)
 have e : s &&& 63 = s := by
  have := Nat.and_two_pow_sub_one_eq_mod s 6
  rw [show (2 : Nat) ^ 6 - 1 = 63 from rfl] at this
  rw [this]; exact Nat.mod_eq_of_lt hs
 rw [e] at h
 exact h
theorem shl_w (v s : Nat) : IntKind.u64.wrap ((v : Int) * 2 ^ s) = (((v <<< s) % 18446744073709551616 : Nat) : Int) := by
 rw [IntKind.wrap_u64, Nat.shiftLeft_eq]
 simp
theorem shr_w (v s : Nat) : (v : Int) / 2 ^ s = ((v >>> s : Nat) : Int) := by
 rw [Nat.shiftRight_eq_div_pow]
 simp
theorem rot_eq {v s : Nat} (hv : IsW v) : bits .or .u64 (IntKind.u64.wrap ((v : Int) * 2 ^ s)) ((v : Int) / 2 ^ (64 - s)) = ((rotl v s : Nat) : Int) := by
 rw [shl_w, shr_w, or_w (Nat.mod_lt _ (by decide)) (hv.shr _)]
 rfl
def AllW (l : List Nat) : Prop := ∀ i, IsW (l.getD i 0)
theorem AllW.set {l : List Nat} (h : AllW l) (i v : Nat) (hv : IsW v) : AllW (l.set i v) := by
 intro j
 have hj := h j
 simp only [List.getD_eq_getElem?_getD] at hj ⊢
 rw [List.getElem?_set]
 by_cases e : i = j
 · rw [if_pos e]
   by_cases h2 : i < l.length
   · rw [if_pos h2]; exact hv
   · rw [if_neg h2]; exact IsW.zero
 · rw [if_neg e]; exact hj
theorem AllW.replicate (n : Nat) : AllW (List.replicate n 0) := by
 intro j
 rw [List.getD_eq_getElem?_getD, List.getElem?_replicate]
 split <;> exact IsW.zero
def cAcc (l : List Nat) (k : Nat) : List Nat := (List.range k).foldl (fun c n => c.set (n % 5) (c.getD (n % 5) 0 ^^^ l.getD n 0)) (List.replicate 5 0)
def bVal (l c tn : List Nat) (n : Nat) : Nat := rotl (l.getD n 0 ^^^ (c.getD ((n % 5 + 4) % 5) 0 ^^^ rotl (c.getD ((n % 5 + 1) % 5) 0) 1)) (tn.getD n 0)
def bAcc (l c pl tn : List Nat) (k : Nat) : List Nat := (List.range k).foldl (fun b n => b.set (pl.getD n 0) (bVal l c tn n)) (List.replicate 25 0)
def xVal (b : List Nat) (n : Nat) : Nat := b.getD n 0 ^^^ (not64 (b.getD (n - n % 5 + (n % 5 + 1) % 5) 0) &&& b.getD (n - n % 5 + (n % 5 + 2) % 5) 0)
def xAcc (b l : List Nat) (k : Nat) : List Nat := (List.range k).foldl (fun l n => l.set n (xVal b n)) l
def iot (kc : Nat) (x : List Nat) : List Nat := x.set 0 (x.getD 0 0 ^^^ kc)
def rnd (pl tn : List Nat) (kc : Nat) (l : List Nat) : List Nat := iot kc (xAcc (bAcc l (cAcc l 25) pl tn 25) l 25)
def perm (pl tn ks l : List Nat) (k : Nat) : List Nat := (List.range k).foldl (fun l i => rnd pl tn (ks.getD i 0) l) l
theorem foldl_succ {α : Type} (f : α → Nat → α) (a : α) (k : Nat) : (List.range (k + 1)).foldl f a = f ((List.range k).foldl f a) k := by
 rw [List.range_succ, List.foldl_append]; rfl
theorem cAcc_succ (l : List Nat) (k : Nat) : cAcc l (k + 1) = (cAcc l k).set (k % 5) ((cAcc l k).getD (k % 5) 0 ^^^ l.getD k 0) := foldl_succ _ _ k
theorem bAcc_succ (l c pl tn : List Nat) (k : Nat) : bAcc l c pl tn (k + 1) = (bAcc l c pl tn k).set (pl.getD k 0) (bVal l c tn k) := foldl_succ _ _ k
theorem xAcc_succ (b l : List Nat) (k : Nat) : xAcc b l (k + 1) = (xAcc b l k).set k (xVal b k) := foldl_succ _ _ k
theorem perm_succ (pl tn ks l : List Nat) (k : Nat) : perm pl tn ks l (k + 1) = rnd pl tn (ks.getD k 0) (perm pl tn ks l k) := foldl_succ _ _ k
theorem cAcc_zero (l : List Nat) : cAcc l 0 = List.replicate 5 0 := rfl
theorem bAcc_zero (l c pl tn : List Nat) : bAcc l c pl tn 0 = List.replicate 25 0 := rfl
theorem xAcc_zero (b l : List Nat) : xAcc b l 0 = l := rfl
theorem perm_zero (pl tn ks l : List Nat) : perm pl tn ks l 0 = l := rfl
theorem bVal_eq (l c tn : List Nat) (n : Nat) : bVal l c tn n = rotl (l.getD n 0 ^^^ (c.getD ((n % 5 + 4) % 5) 0 ^^^ rotl (c.getD ((n % 5 + 1) % 5) 0) 1)) (tn.getD n 0) := rfl
theorem xVal_eq (b : List Nat) (n : Nat) : xVal b n = b.getD n 0 ^^^ (not64 (b.getD (n - n % 5 + (n % 5 + 1) % 5) 0) &&& b.getD (n - n % 5 + (n % 5 + 2) % 5) 0) := rfl
theorem rnd_eq (pl tn : List Nat) (kc : Nat) (l : List Nat) : rnd pl tn kc l = iot kc (xAcc (bAcc l (cAcc l 25) pl tn 25) l 25) := rfl
theorem cAcc_length (l : List Nat) : ∀ k, (cAcc l k).length = 5
 | 0 => rfl
 | k + 1 => by rw [cAcc_succ, List.length_set, cAcc_length l k]
theorem bAcc_length (l c pl tn : List Nat) : ∀ k, (bAcc l c pl tn k).length = 25
 | 0 => rfl
 | k + 1 => by rw [bAcc_succ, List.length_set, bAcc_length l c pl tn k]
theorem xAcc_length (b l : List Nat) : ∀ k, (xAcc b l k).length = l.length
 | 0 => rfl
 | k + 1 => by rw [xAcc_succ, List.length_set, xAcc_length b l k]
theorem rnd_length (pl tn : List Nat) (kc : Nat) (l : List Nat) : (rnd pl tn kc l).length = l.length := by
 unfold rnd iot
 rw [List.length_set, xAcc_length]
theorem perm_length (pl tn ks l : List Nat) : ∀ k, (perm pl tn ks l k).length = l.length
 | 0 => rfl
 | k + 1 => by rw [perm_succ, rnd_length, perm_length pl tn ks l k]
theorem cAcc_w {l : List Nat} (h : AllW l) : ∀ k, AllW (cAcc l k)
 | 0 => AllW.replicate 5
 | k + 1 => by rw [cAcc_succ]; exact (cAcc_w h k).set _ _ ((cAcc_w h k _).xor (h k))
theorem bVal_w {l c : List Nat} (h : AllW l) (hc : AllW c) (tn : List Nat) (n : Nat) : IsW (bVal l c tn n) := IsW.rotl ((h n).xor ((hc _).xor (IsW.rotl (hc _) _))) _
theorem bAcc_w {l c : List Nat} (h : AllW l) (hc : AllW c) (pl tn : List Nat) : ∀ k, AllW (bAcc l c pl tn k)
 | 0 => AllW.replicate 25
 | k + 1 => by rw [bAcc_succ]; exact (bAcc_w h hc pl tn k).set _ _ (bVal_w h hc tn k)
theorem xVal_w {b : List Nat} (h : AllW b) (n : Nat) : IsW (xVal b n) := (h n).xor (IsW.not _).and
theorem xAcc_w {b l : List Nat} (h : AllW b) (hl : AllW l) : ∀ k, AllW (xAcc b l k)
 | 0 => hl
 | k + 1 => by rw [xAcc_succ]; exact (xAcc_w h hl k).set _ _ (xVal_w h k)
theorem iot_w {x : List Nat} {kc : Nat} (h : AllW x) (hk : IsW kc) : AllW (iot kc x) := h.set 0 _ ((h 0).xor hk)
theorem rnd_w {pl tn : List Nat} {kc : Nat} {l : List Nat} (h : AllW l) (hk : IsW kc) : AllW (rnd pl tn kc l) := by
 have hx := xAcc_w (bAcc_w h (cAcc_w h 25) pl tn 25) h 25
 unfold rnd
 exact iot_w hx hk
theorem perm_w {pl tn ks l : List Nat} (h : AllW l) (hk : AllW ks) : ∀ k, AllW (perm pl tn ks l k)
 | 0 => h
 | k + 1 => by rw [perm_succ]; exact rnd_w (perm_w h hk k) (hk k)
def arrK (q : IntKind) (l : List Nat) : Array Value := (l.map fun (n : Nat) => Value.int q (n : Int)).toArray
theorem arrK_get {q : IntKind} {l : List Nat} {i : Nat} (h : i < l.length) : (arrK q l)[i]? = some (.int q ((l.getD i 0 : Nat) : Int)) := by
 simp [arrK, h]
theorem arrK_set (q : IntKind) (l : List Nat) (i v : Nat) : (arrK q l).setIfInBounds i (.int q (v : Int)) = arrK q (l.set i v) := by
 simp [arrK]
theorem Blk.word {w : World} {g : Nat} {t : TypeId} {q : IntKind} {l : List Nat} (h : Blk w g t (arrK q l)) {i : Nat} (hi : i < l.length) : w.cell? ⟨g, i, none⟩ = some (.int q ((l.getD i 0 : Nat) : Int)) := (h.cell i).trans (arrK_get hi)
theorem Blk.put {w : World} {g : Nat} {t : TypeId} {q : IntKind} {l : List Nat} (h : Blk w g t (arrK q l)) (i v : Nat) : Blk (w.setCell ⟨g, i, none⟩ (.int q (v : Int))) g t (arrK q (l.set i v)) := by
 have := h.set_ i (.int q (v : Int))
 rwa [arrK_set] at this
theorem iot_eq (kc : Nat) (x : List Nat) : iot kc x = x.set 0 (x.getD 0 0 ^^^ kc) := rfl
theorem not_w {b : Nat} (hb : IsW b) : bits .xor .u64 18446744073709551615 (b : Int) = ((not64 b : Nat) : Int) := by
 have e : (18446744073709551615 : Int) = ((18446744073709551615 : Nat) : Int) := rfl
 rw [e, xor_w (by unfold IsW; omega) hb]
 congr 1
 unfold not64
 apply Nat.eq_of_testBit_eq
 intro i
 have hb2 : b < 2 ^ 64 := hb
 have e2 : 18446744073709551615 - b = 2 ^ 64 - (b + 1) := by rw [show (2 : Nat) ^ 64 = 18446744073709551616 from rfl]; omega
 rw [e2, Nat.testBit_two_pow_sub_succ hb2, Nat.testBit_xor]
 rw [show (18446744073709551615 : Nat) = 2 ^ 64 - 1 by rfl, Nat.testBit_two_pow_sub_one]
 by_cases hi : i < 64
 · simp [hi]
 · simp [hi]
   exact Nat.testBit_lt_two_pow (Nat.lt_of_lt_of_le hb2 (Nat.pow_le_pow_right (n := 2) (by decide) (Nat.le_of_not_lt hi)))
attribute [irreducible] cAcc bAcc xAcc rnd perm rotl bVal xVal not64 iot
end Go.Proofs.YtkflpoiobpblhaaGreat
