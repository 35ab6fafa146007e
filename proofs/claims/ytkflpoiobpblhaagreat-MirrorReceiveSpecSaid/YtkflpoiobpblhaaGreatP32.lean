/- Walks and plain laws that the statement rests on: MFnd. -/
import Derived.Deep.LoopGhost
import Derived.Test.YtkflpoiobpblhaaGreatP00
import Derived.Test.YtkflpoiobpblhaaGreatP30
namespace Go.Proofs.YtkflpoiobpblhaaGreat
open Go.RowKit
set_option linter.unusedVariables false
set_option linter.unusedSimpArgs false
namespace Mir
def cmpS (x y : ByteArray) : Int := if nlt x y = true then -1 else if nlt y x = true then 1 else 0
theorem cmpS_neg {x y : ByteArray} : cmpS x y < 0 ↔ nlt x y = true := by
 unfold cmpS
 by_cases h : nlt x y = true
 · simp [h]
 · by_cases h' : nlt y x = true <;> simp [h, h']
theorem cmpS_zero {x y : ByteArray} : cmpS x y = 0 ↔ x = y := by
 unfold cmpS
 by_cases h : nlt x y = true
 · simp [h, nlt_ne h]
 · by_cases h' : nlt y x = true
   · simp [h, h', (nlt_ne h').symm]
   · simp only [h, h', if_false, Bool.false_eq_true]
     exact ⟨fun _ => nlt_tri (by simpa using h) (by simpa using h'), fun _ => trivial⟩
def nmAt (l : List It) (t : Nat) : ByteArray := (l.map Prod.fst).getD t ⟨#[]⟩
theorem nmAt_get {l : List It} {t : Nat} {x : It} (h : l[t]? = some x) : nmAt l t = x.1 := by
 unfold nmAt
 rw [List.getD_eq_getElem?_getD, List.getElem?_map, h]; rfl
theorem nmAt_inc {l : List It} (hi : Inc (l.map Prod.fst)) {s t : Nat} (h : s < t) (ht : t < l.length) : nlt (nmAt l s) (nmAt l t) = true := by
 rw [Inc, List.pairwise_iff_getElem] at hi
 have := hi s t (by simp; omega) (by simpa using ht) h
 unfold nmAt
 rw [List.getD_eq_getElem?_getD, List.getD_eq_getElem?_getD, List.getElem?_eq_getElem (by simp; omega), List.getElem?_eq_getElem (by simpa using ht)]
 exact this
end Mir
set_option maxHeartbeats 4000000 in
theorem isNaNs_any (s : ByteArray) (w : World) : Calls Tryz.prog 126 #[.string s] w fun e w' => e = .returned (.bool false) ∧ w = w' := by
 go_enter Tryz.func126, Tryz.ntmps126
 go_wp2_with (fail)
 go_ret
 exact ⟨by simp, rfl⟩
set_option maxHeartbeats 4000000 in
theorem scmp_any (x y : ByteArray) (w : World) : Calls Tryz.prog 111 #[.string x, .string y] w fun e w' => e = .returned (.int .i64 (Mir.cmpS x y)) ∧ w = w' := by
 have H := Lib.hid (fun s W => isNaNs_any s W)
 by_cases h1 : Mir.nlt x y = true
 · have e : Mir.cmpS x y = -1 := by unfold Mir.cmpS; rw [if_pos h1]
   rw [e]
   unfold Mir.nlt at h1
   go_enter Tryz.func111, Tryz.ntmps111
   go_wp2_with (go_at_call 126; refine (H.out _ _).mono ?_; rintro e w' ⟨rfl, rfl⟩)
   go_ret
   exact ⟨rfl, rfl⟩
 · by_cases h2 : x = y
   · have e : Mir.cmpS x y = 0 := Mir.cmpS_zero.2 h2
     rw [e]
     have h3 : (x.toList == y.toList) = true := by rw [h2]; simp
     have h1 : Op.bytesLess x.toList y.toList = false := by unfold Mir.nlt at h1; simpa using h1
     clear h2 e
     go_enter Tryz.func111, Tryz.ntmps111
     go_wp2_with (go_at_call 126; refine (H.out _ _).mono ?_; rintro e w' ⟨rfl, rfl⟩)
     go_ret
     exact ⟨rfl, rfl⟩
   · have h1 : Op.bytesLess x.toList y.toList = false := by unfold Mir.nlt at h1; simpa using h1
     have h4 : Mir.nlt y x = true := by
      cases h : Mir.nlt y x with
      | true => rfl
      | false => exact absurd (Mir.nlt_tri h1 h) h2
     have e : Mir.cmpS x y = 1 := by unfold Mir.cmpS Mir.nlt at *; rw [h1, if_neg (by simp), if_pos h4]
     rw [e]
     have h3 : (x.toList == y.toList) = false := by
      simp only [beq_eq_false_iff_ne, ne_eq]
      intro h
      rw [ByteArray.toList_eq, ByteArray.toList_eq] at h
      exact h2 (ByteArray.ext (Array.toList_inj.1 h))
     clear h2 e
     go_enter Tryz.func111, Tryz.ntmps111
     go_wp2_with (go_at_call 126; refine (H.out _ _).mono ?_; rintro e w' ⟨rfl, rfl⟩)
     go_ret
     exact ⟨rfl, rfl⟩
set_option maxHeartbeats 4000000 in
theorem fclo_any (s t : ByteArray) (D : Value) (w : World) : Calls Tryz.prog 124 #[.agg #[.string s, D], .string t] w fun e w' => e = .returned (.int .i64 (Mir.cmpS s t)) ∧ Below w.heap.size w w' := by
 have H := Lib.hid (fun W => scmp_any s t W)
 generalize Mir.cmpS s t = r at *
 go_enter Tryz.func124, Tryz.ntmps124
 go_wp2_with (go_at_call 111; refine (H.out _).mono ?_; rintro e w' ⟨rfl, rfl⟩)
 go_ret
 exact ⟨rfl, (Below.refl _ _).alloc (Nat.le_refl _) _⟩
set_option maxRecDepth 100000 in
set_option maxHeartbeats 4000000 in
theorem isearch_any (A : Option Addr) (n c : Nat) (l : List Mir.It) (s : ByteArray) (w : World) (hl : l.length = n) (hn : n ≤ 1000000) (hC : ItemsC w A l) (hi : Mir.Inc (l.map Prod.fst)) :
    Calls Tryz.prog 123 #[.slice A n c, .string s, .func (.func 124) #[] #[]] w fun e w' => ∃ (k : Nat) (q : Bool), e = .returned (.tuple #[.int .i64 (k : Int), .bool q]) ∧ Hid (q = true → ∃ x, l[k]? = some x ∧ x.1 = s) ∧ Hid (q = false → ∀ x ∈ l, x.1 ≠ s) ∧ Below w.heap.size w w' := by
 have eg : ∀ args w, (callFunc 124 args).run Tryz.prog w = .ok (.enter 124 args) w := enters_of Tryz.func124 (by kernel_rfl) rfl
 have HC := Lib.hid hC
 have Hl := Lib.hid hl
 have Hi := Lib.hid hi
 have HF := Lib.hid (fun a D W => fclo_any a s D W)
 clear hC hl hi
 go_enter Tryz.func123, Tryz.ntmps123
 go_wp2_with (fail)
 go_loopw [9, 10] (fun i j wr => ∃ lo hi : Nat, i = .int .i64 lo ∧ j = .int .i64 hi ∧ lo ≤ hi ∧ hi ≤ n ∧ Hid (∀ t, t < lo → Mir.nlt (Mir.nmAt l t) s = true) ∧ Hid (∀ t, hi ≤ t → t < n → Mir.nlt (Mir.nmAt l t) s = false) ∧ Hid (Below w.heap.size w wr)) (fun i j _ => (intOf j).toNat - (intOf i).toNat)
 case atStart => exact ⟨0, n, rfl, rfl, Nat.zero_le _, Nat.le_refl _, Lib.hid (fun t h => by omega), Lib.hid (fun t h h' => by omega), Lib.hid (Below.refl _ _)⟩
 case round =>
  obtain ⟨wk, rfl⟩ : ∃ wk : World, wk = wr := ⟨_, rfl⟩
  obtain ⟨lo, hi, rfl, rfl, hlh, hin, I1, I2, hB⟩ := hrel
  by_cases hlt : lo < hi
  · obtain ⟨⟨a, dat⟩, hx⟩ := getElem?_lt (l := l) (k := (lo + hi) / 2) (by rw [Hl.out]; omega)
    obtain ⟨b, off, rfl, hb, hcs⟩ := (HC.out.below hB.out).at_ (by rw [Hl.out]; omega)
    obtain ⟨D, cd, hc1, hc2, -, -, -, -⟩ := hcs _ _ hx
    simp only [] at hc1 hc2
    have hnm := Lib.hid (Mir.nmAt_get hx)
    clear hcs hx
    by_cases hyx : Mir.cmpS a s < 0
    · go_wp2_with (go_at_fn 124; refine (HF.out _ _ _).mono ?_; rintro e w2 ⟨rfl, hb2⟩)
      go_roundw
      case rel =>
       refine ⟨(lo + hi) / 2 + 1, hi, by rw [show ((lo : Int) + (hi : Int)) / 2 + 1 = (((lo + hi) / 2 + 1 : Nat) : Int) by omega], rfl, by omega, hin, Lib.hid (fun t ht => ?_), I2, Lib.hid (below_of hB.out hb2 hB.out.size)⟩
       have hm : Mir.nlt (Mir.nmAt l ((lo + hi) / 2)) s = true := by rw [hnm.out]; exact Mir.cmpS_neg.1 hyx
       rcases Nat.lt_or_eq_of_le (Nat.le_of_lt_succ ht) with h | rfl
       · exact Mir.nlt_trans (Mir.nmAt_inc Hi.out h (by rw [Hl.out]; omega)) hm
       · exact hm
      case measure => simp [intOf]; omega
    · go_wp2_with (go_at_fn 124; refine (HF.out _ _ _).mono ?_; rintro e w2 ⟨rfl, hb2⟩)
      go_roundw
      case rel =>
       refine ⟨lo, (lo + hi) / 2, rfl, by rw [show ((lo : Int) + (hi : Int)) / 2 = (((lo + hi) / 2 : Nat) : Int) by omega], by omega, by omega, I1, Lib.hid (fun t ht htn => ?_), Lib.hid (below_of hB.out hb2 hB.out.size)⟩
       have hm : Mir.nlt (Mir.nmAt l ((lo + hi) / 2)) s = false := by
        rw [hnm.out]
        cases h : Mir.nlt a s with
        | false => rfl
        | true => exact absurd (Mir.cmpS_neg.2 h) (Int.not_lt.2 hyx)
       rcases Nat.lt_or_eq_of_le ht with h | rfl
       · cases h3 : Mir.nlt (Mir.nmAt l t) s with
         | false => rfl
         | true => rw [Mir.nlt_trans (Mir.nmAt_inc Hi.out h (by rw [Hl.out]; omega)) h3] at hm; cases hm
       · exact hm
      case measure => simp [intOf]; omega
  · obtain rfl : hi = lo := by omega
    have I1' := I1.out
    by_cases hn2 : hi < n
    · obtain ⟨⟨a, dat⟩, hx⟩ := getElem?_lt (l := l) (k := hi) (by rw [Hl.out]; omega)
      obtain ⟨b, off, rfl, hb, hcs⟩ := (HC.out.below hB.out).at_ (by rw [Hl.out]; omega)
      obtain ⟨D, cd, hc1, hc2, -, -, -, -⟩ := hcs _ _ hx
      simp only [] at hc1 hc2
      have hnm := Lib.hid (Mir.nmAt_get hx)
      have Hx := Lib.hid hx
      clear hcs hx I1'
      by_cases hyx : Mir.cmpS a s = 0
      · go_wp2_with (go_at_fn 124; refine (HF.out _ _ _).mono ?_; rintro e w2 ⟨rfl, hb2⟩)
        go_ret2
        exact ⟨hi, true, by simp [hyx], Lib.hid (fun _ => ⟨(a, dat), Hx.out, Mir.cmpS_zero.1 hyx⟩), Lib.hid (fun h => by cases h), below_of hB.out hb2 hB.out.size⟩
      · go_wp2_with (go_at_fn 124; refine (HF.out _ _ _).mono ?_; rintro e w2 ⟨rfl, hb2⟩)
        go_ret2
        refine ⟨hi, false, by simp [hyx], Lib.hid (fun h => by cases h), Lib.hid (fun _ x hxm hxs => ?_), below_of hB.out hb2 hB.out.size⟩
        obtain ⟨t, ht, rfl⟩ := List.getElem_of_mem hxm
        have e := Mir.nmAt_get (List.getElem?_eq_getElem ht)
        rw [hxs] at e
        rcases Nat.lt_trichotomy t hi with h | rfl | h
        · have := I1.out t h
          rw [e, Mir.nlt_irrefl] at this; cases this
        · rw [hnm.out] at e
          exact hyx (Mir.cmpS_zero.2 e)
        · have h1 := I2.out t (by omega) (by rw [← Hl.out]; exact ht)
          have h2 := I2.out hi (Nat.le_refl _) hn2
          have h3 := Mir.nmAt_inc Hi.out h ht
          rw [e] at h3
          rw [h3] at h2; cases h2
    · go_wp2_with (fail)
      go_ret2
      refine ⟨hi, false, rfl, Lib.hid (fun h => by cases h), Lib.hid (fun _ x hxm hxs => ?_), hB.out⟩
      obtain ⟨t, ht, rfl⟩ := List.getElem_of_mem hxm
      have e := Mir.nmAt_get (List.getElem?_eq_getElem ht)
      rw [hxs] at e
      have := I1.out t (by rw [Hl.out] at ht; omega)
      rw [e, Mir.nlt_irrefl] at this; cases this
set_option maxHeartbeats 4000000 in
theorem find_any (A : Option Addr) (n c : Nat) (l : List Mir.It) (s : ByteArray) (w : World) (hl : l.length = n) (hn : n ≤ 1000000) (hC : ItemsC w A l) (hi : Mir.Inc (l.map Prod.fst)) :
    Calls Tryz.prog 108 #[.slice A n c, .string s] w fun e w' => ∃ (k : Nat) (q : Bool), e = .returned (.tuple #[.int .i64 (k : Int), .bool q]) ∧ Hid (q = true → ∃ x, l[k]? = some x ∧ x.1 = s) ∧ Hid (q = false → ∀ x ∈ l, x.1 ≠ s) ∧ Below w.heap.size w w' := by
 have H := Lib.hid (fun W h => isearch_any A n c l s W hl hn h hi)
 have HC := Lib.hid hC
 clear hC hl hi
 go_enter Tryz.func108, Tryz.ntmps108
 go_wp2_with (fail)
 refine (H.out _ HC.out).mono ?_
 rintro e w2 ⟨k, q, rfl, h1, h2, hb2⟩
 go_wp2_with (fail)
 go_ret2
 exact ⟨k, q, rfl, h1, h2, hb2⟩
end Go.Proofs.YtkflpoiobpblhaaGreat
