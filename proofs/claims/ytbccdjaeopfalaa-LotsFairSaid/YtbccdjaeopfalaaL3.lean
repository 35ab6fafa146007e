/- The statement LotsInverseSaid: for every number of elements, number and list, Rank and Unrank are inverse to each other; no condition beside the row's own. -/
import Derived.Test.YtbccdjaeopfalaaW15
import Derived.Test.YtbccdjaeopfalaaP3
import Derived.Test.YtbccdjaeopfalaaRow
namespace Go.Proofs.Ytbccdjaeopfalaa
open Go.RowKit Go.WideShapes Go.ChangeShapes Go.ChangeAt

theorem errOf_true {b : Bool} (h : b = true) : errOf b = 0 := by rw [h]; rfl
theorem errOf_false {b : Bool} (h : b = false) : errOf b = 220 := by rw [h]; rfl
theorem len100 {p : List Int} (h : isPerm p = true) : p.length ≤ 18 := by
  unfold isPerm at h
  rw [Bool.and_eq_true] at h
  exact of_decide_eq_true h.2
/-- The unranked permutation: fine, of the length, and its number. -/
theorem Unrank_fine (n k : Nat) (hn : n ≤ 18) (hk : k < fact n) (W : World) : Calls Try.prog 13 #[.int .i64 n, .int .u64 k] W fun e w' => ∃ A c, e = .returned (.tuple #[.slice A n c, .int .i64 0]) ∧ n ≤ c ∧ c ≤ maxLen ∧ Ints w' A (unrank n k) ∧ Below W.heap.size W w' := Unrank_sl n k W hn hk
theorem Rank_fine (A : Option Addr) (n c k : Nat) (W : World) (hn : n ≤ 18) (hk : k < fact n) (hnc : n ≤ c) (hcm : c ≤ maxLen) (hA : Ints W A (unrank n k)) :
    Calls Try.prog 15 #[.slice A n c] W fun e w' => e = .returned (.tuple #[.int .u64 k, .int .i64 0]) ∧ Below W.heap.size W w' := by
  have := Rank_any A n c (unrank n k) W (unrank_length n k) hnc hcm hA
  rwa [rank_unrank hn hk, errOf_true (unrank_isPerm hn hk)] at this

set_option maxRecDepth 100000 in
set_option maxHeartbeats 4000000 in
/-- The second half: Unrank of Rank. -/
theorem inverse_rest (W : World) (A : Option Addr) (m c : Nat) (p : List Int) (hl : p.length = m) (hmc : m ≤ c) (hcm : c ≤ maxLen) (hA : Ints W A p) :
    (isPerm p = false ∧ Calls Try.prog 15 #[.slice A m c] W fun e w' => e = .returned (.tuple #[.int .u64 0, .int .i64 220]) ∧ Below W.heap.size W w') ∨
    (∃ k : Nat, m ≤ 18 ∧ k < fact m ∧ unrank m k = p ∧ Calls Try.prog 15 #[.slice A m c] W fun e w' => e = .returned (.tuple #[.int .u64 k, .int .i64 0]) ∧ Below W.heap.size W w') := by
  have h := Rank_any A m c p W hl hmc hcm hA
  cases hp : isPerm p with
  | false =>
    rw [hp] at h
    have e : rankN p = 0 := by simp [rankN, hp]
    rw [e] at h
    exact .inl ⟨rfl, h⟩
  | true =>
    rw [hp] at h
    obtain ⟨h1, h2⟩ := unrank_rank hl hp
    exact .inr ⟨rankN p, by have := len100 hp; omega, h1, h2, h⟩

set_option maxRecDepth 100000 in
set_option maxHeartbeats 4000000 in
theorem LotsInverse_walk (w : World) (n : Int) (_wn : (Lit.int .i64 n).wf = true) (k : Int) (wk : (Lit.int .u64 k).wf = true) (A : Option Addr) (m c : Nat) (p : List Int) (hl : p.length = m) (hmc : m ≤ c) (hcm : c ≤ maxLen)
    (hA : Cells w A (p.map (Value.int .i64))) (_wx : ∀ x ∈ p, (Lit.int .i64 x).wf = true) : Calls Try.prog 5 #[.int .i64 n, .int .u64 k, .slice A m c] w (Fine w) := by
  have hk0 := (bounds_u64 wk).1
  clear wk
  obtain ⟨k, rfl⟩ := Int.eq_ofNat_of_zero_le hk0
  have hA : Ints w A p := hA
  have Hl := Lib.hid hl
  clear hl hk0
  have Hcm := Lib.hid hcm
  unfold maxLen at hcm
  by_cases hm : 100 < m
  · go_enter Try.func5, Try.ntmps5
    go_wp2_with (fail)
    refine (sane_any _).mono ?_
    rintro e w1 ⟨rfl, hb1⟩
    go_wp2_with (fail)
    go_ret
    exact ⟨rfl, hb1⟩
  have hmI : (m : Int) ≤ 100 := by omega
  clear hm
  by_cases hn : 0 ≤ n ∧ n ≤ 18
  · obtain ⟨n, rfl⟩ := Int.eq_ofNat_of_zero_le hn.1
    have hn18 : n ≤ 18 := by omega
    clear hn
    have hfp : (1 : Int) ≤ (fact n : Int) := by have := fact_pos n; omega
    have hfn : ((fact n : Int) == 0) = false := by simp; have := fact_pos n; omega
    obtain ⟨r, hr⟩ : ∃ r, k % fact n = r := ⟨_, rfl⟩
    have hrl : r < fact n := by rw [← hr]; exact Nat.mod_lt _ (fact_pos n)
    have hmod : ((k : Int) % (fact n : Int)) = (r : Int) := by rw [← Int.natCast_emod, hr]
    have hfl := fact_le n hn18
    have hrb : (r : Int) ≤ 6402373705728000 := by omega
    have hq1 : ((r : Int) != (r : Int)) = false := by simp
    have hq2 : ((n : Int) != (n : Int)) = false := by simp
    clear hr
    go_enter Try.func5, Try.ntmps5
    go_wp2_with (fail)
    refine (sane_any _).mono ?_
    rintro e w1 ⟨rfl, hb1⟩
    go_wp2_with (fail)
    refine (Factorial_good n _ hn18).mono ?_
    rintro e w' ⟨rfl, rfl⟩
    go_wp2_with (fail)
    refine (Unrank_fine n r hn18 hrl _).mono ?_
    rintro e w2 ⟨A2, c2, rfl, hn2, hc2, hI2, hb2⟩
    have H2 : Below w.heap.size w w2 := below_of hb1 hb2 hb1.size
    go_wp2_with (fail)
    refine (Rank_fine _ _ _ r _ hn18 hrl hn2 hc2 hI2).mono ?_
    rintro e w3 ⟨rfl, hb3⟩
    have H3 : Below w.heap.size w w3 := below_of H2 hb3 H2.size
    have HA0 := Lib.hid (Ints.below hA H3)
    rcases inverse_rest w3 A m c p Hl.out hmc Hcm.out HA0.out with ⟨-, hR⟩ | ⟨q, hm18, hqf, hup, hR⟩
    · have HR := Lib.hid hR
      clear hR
      go_wp2_with (fail)
      refine (HR.out).mono ?_
      rintro e w4 ⟨rfl, hb4⟩
      go_wp2_with (fail)
      go_ret
      exact ⟨rfl, below_of H3 hb4 (H3).size⟩
    · have HR := Lib.hid hR
      have Hup := Lib.hid hup
      clear hR hup
      go_wp2_with (fail)
      refine (HR.out).mono ?_
      rintro e w4 ⟨rfl, hb4⟩
      have H4 : Below w.heap.size w w4 := below_of H3 hb4 (H3).size
      go_wp2_with (fail)
      refine (Unrank_fine m q hm18 hqf _).mono ?_
      rintro e w5 ⟨A5, c5, rfl, hm5, hc5, hI5, hb5⟩
      rw [Hup.out] at hI5
      have H5 : Below w.heap.size w w5 := below_of H4 hb5 H4.size
      have HA5 := Lib.hid (Ints.below hA H5)
      go_wp2_with (fail)
      refine (Same_all _ _ _ _ _ _ p p _ Hl.out Hl.out (Nat.le_trans hmc Hcm.out) hI5 HA5.out).mono ?_
      rintro e w6 ⟨rfl, hd6⟩
      rw [same_self]
      go_wp2_with (fail)
      go_ret
      exact ⟨rfl, below_of H5 (hd6.below _) H5.size⟩
  · have hno := Lib.hid hn
    have HF := Lib.hid (fun (W : World) => Factorial_bad n W (by have := hno.out; omega))
    clear hn
    go_enter Try.func5, Try.ntmps5
    go_wp2_with (fail)
    refine (sane_any _).mono ?_
    rintro e w1 ⟨rfl, hb1⟩
    go_wp2_with (fail)
    refine (HF.out _).mono ?_
    rintro e w' ⟨rfl, rfl⟩
    have HA0 := Lib.hid (Ints.below hA hb1)
    rcases inverse_rest w1 A m c p Hl.out hmc Hcm.out HA0.out with ⟨-, hR⟩ | ⟨q, hm18, hqf, hup, hR⟩
    · have HR := Lib.hid hR
      clear hR
      go_wp2_with (fail)
      refine (HR.out).mono ?_
      rintro e w4 ⟨rfl, hb4⟩
      go_wp2_with (fail)
      go_ret
      exact ⟨rfl, below_of hb1 hb4 (hb1).size⟩
    · have HR := Lib.hid hR
      have Hup := Lib.hid hup
      clear hR hup
      go_wp2_with (fail)
      refine (HR.out).mono ?_
      rintro e w4 ⟨rfl, hb4⟩
      have H4 : Below w.heap.size w w4 := below_of hb1 hb4 (hb1).size
      go_wp2_with (fail)
      refine (Unrank_fine m q hm18 hqf _).mono ?_
      rintro e w5 ⟨A5, c5, rfl, hm5, hc5, hI5, hb5⟩
      rw [Hup.out] at hI5
      have H5 : Below w.heap.size w w5 := below_of H4 hb5 H4.size
      have HA5 := Lib.hid (Ints.below hA H5)
      go_wp2_with (fail)
      refine (Same_all _ _ _ _ _ _ p p _ Hl.out Hl.out (Nat.le_trans hmc Hcm.out) hI5 HA5.out).mono ?_
      rintro e w6 ⟨rfl, hd6⟩
      rw [same_self]
      go_wp2_with (fail)
      go_ret
      exact ⟨rfl, below_of H5 (hd6.below _) H5.size⟩

theorem lotsInverse_own : ownKnob Try.prog.godebug = none := by kernel_rfl
theorem lotsInverse_laidOut : laidOutB Try.prog = true := by kernel_rfl
theorem lotsInverse_readable : (Try.f5.params.toList.all fun t => Try.prog.readableRec t && decide (t < Try.prog.types.size)) = true := by kernel_rfl
set_option maxRecDepth 100000 in
theorem lotsInverse_lifted (os : Os) (started : os.Started) (H : Type) (enc : TypeId × Value → H) :
    ReturnsInHanded {} Try.checked os 5 .any (Rows.lotsInverseSpec.pre6 enc Try.prog Try.f5 Rows.lotsInverseRow.domain false) (Rows.lotsInverseSpec.post enc Try.prog Try.f5 false true false false) := by
  refine returnsInHanded_of_change (C := Try.checked) lotsInverse_own started (by kernel_rfl) Try.func5
    (ChangeSpec.witness6 (enc := enc) (C := Try.checked) false ⟨#[], #[.int .i64 0, .int .u64 0, .slice none 0 0], []⟩ 8 (by kernel_rfl) (by kernel_rfl) (by kernel_rfl) (by kernel_rfl)) ?_
  intro W base args ds gs before hval0 hW hcnd _
  have hval : ∀ (j : Nat) t v, Try.f5.params[j]? = some t → args[j]? = some v → Value.okWide Try.prog W .any base t v := hval0
  have hW' := hW
  obtain ⟨p, q, hA0, hV, rfl, hfz, hnd⟩ := hW
  have hA : DataW.TrodAll enc Try.prog W 0 (fun _ => true) true Try.f5.params.toList args.toList ds p := hA0
  rw [Try.params5] at hA hval
  obtain ⟨v0, vs0, d0, ds0, p0, q0, hargs, rfl, rfl, h0, r0⟩ := trodAll_cons hA
  obtain ⟨v1, vs1, d1, ds1, p1, q1, rfl, rfl, rfl, h1, r1⟩ := trodAll_cons r0
  obtain ⟨v2, vs2, d2, ds2, p2, q2, rfl, rfl, rfl, h2, r2⟩ := trodAll_cons r1
  obtain ⟨rfl, rfl, rfl⟩ := trodAll_nil r2
  obtain rfl : args = #[v0, v1, v2] := by cases args; simp_all
  obtain ⟨rfl, rfl⟩ := trodVars_none hV
  obtain ⟨a0, rfl, rfl, rfl, w0⟩ := open_int Try.underlying3 (hval 0 3 v0 rfl rfl) h0
  obtain ⟨a1, rfl, rfl, rfl, w1⟩ := open_int Try.underlying22 (hval 1 22 v1 rfl rfl) h1
  obtain ⟨A2, n2, c2, xs2, rfl, l2, nc2, cm2, g2, w2⟩ := open_intslice Try.underlying23 Try.underlying3 (by kernel_rfl) (hval 2 23 v2 rfl rfl) h2
  refine (LotsInverse_walk W a0 w0 a1 w1 A2 n2 c2 xs2 l2 nc2 cm2 g2 w2).mono fun e W' ⟨he, hb⟩ => ?_
  subst he
  simp only [List.append_nil] at hW'
  refine ⟨_, rfl, law_post lotsInverse_laidOut ?_ (by kernel_rfl) Try.underlying4 rfl hW' rfl rfl rfl hb⟩
  intro t ht
  have hr := List.all_eq_true.1 lotsInverse_readable t ht
  rw [Bool.and_eq_true] at hr
  exact ⟨hr.1, of_decide_eq_true hr.2⟩
theorem lotsInverse_over : Rows.lotsInverseRow.holds Try.pinned (OpenSpec.ofChange Rows.lotsInverseSpec) :=
  OpenClaim.holds_of_wide 5 Try.f5 rfl rfl rfl rfl rfl rfl rfl ⟨rfl, rfl, rfl, rfl, rfl⟩ rfl rfl rfl rfl rfl (by kernel_rfl) Try.func5 (by kernel_rfl)
    (of_decide_eq_true (by kernel_rfl)) (by unfold Func.isWrapper; rw [if_neg (of_decide_eq_false (by kernel_rfl))]; exact ⟨rfl, rfl⟩)
    (fun os started H enc _ => lotsInverse_lifted os started H enc)
theorem lotsInverse_proved : Rows.LotsInverseSaid := lotsInverse_over
#print axioms lotsInverse_proved
end Go.Proofs.Ytbccdjaeopfalaa
