/- The statement LotsRankSpecSaid: for every number of elements, number and list, Factorial, Unrank and Rank agree with the specification; no condition beside the row's own. -/
import Derived.Test.YtbccdjaeopfalaaW15
import Derived.Test.YtbccdjaeopfalaaRow
namespace Go.Proofs.Ytbccdjaeopfalaa
open Go.RowKit Go.WideShapes Go.ChangeShapes Go.ChangeAt

set_option maxRecDepth 100000 in
set_option maxHeartbeats 4000000 in
theorem LotsRankSpec_walk (w : World) (n : Int) (_wn : (Lit.int .i64 n).wf = true) (k : Int) (wk : (Lit.int .u64 k).wf = true) (A : Option Addr) (m c : Nat) (p : List Int) (hl : p.length = m) (hmc : m ≤ c) (hcm : c ≤ maxLen)
    (hA : Cells w A (p.map (Value.int .i64))) (_wx : ∀ x ∈ p, (Lit.int .i64 x).wf = true) : Calls Try.prog 3 #[.int .i64 n, .int .u64 k, .slice A m c] w (Fine w) := by
  have hk0 := (bounds_u64 wk).1
  clear wk
  obtain ⟨k, rfl⟩ := Int.eq_ofNat_of_zero_le hk0
  have hA : Ints w A p := hA
  have Hl := Lib.hid hl
  clear hl hk0
  have Hcm := Lib.hid hcm
  unfold maxLen at hcm
  by_cases hm : 100 < m
  · go_enter Try.func3, Try.ntmps3
    go_wp2_with (fail)
    refine (sane_any _).mono ?_
    rintro e w1 ⟨rfl, hb1⟩
    go_wp2_with (fail)
    go_ret
    exact ⟨rfl, hb1⟩
  · have hmI : (m : Int) ≤ 100 := by omega
    clear hm
    have hf : (((factN n : Nat) : Int) == ((factN n : Nat) : Int)) = true := by simp
    have hf2 : (errOf (okF n) == errOf (okF n)) = true := by simp
    have hf3 : (errOf (okN n k) == errOf (okN n k)) = true := by simp
    have hf4 : (errOf (isPerm p) == errOf (isPerm p)) = true := by simp
    have hf5 : (((rankN p : Nat) : Int) == ((rankN p : Nat) : Int)) = true := by simp
    go_enter Try.func3, Try.ntmps3
    go_wp2_with (fail)
    refine (sane_any _).mono ?_
    rintro e w1 ⟨rfl, hb1⟩
    go_wp2_with (fail)
    refine (Factorial_any _ _).mono ?_
    rintro e w' ⟨rfl, rfl⟩
    go_wp2_with (fail)
    refine (RFactorial_any _ _).mono ?_
    rintro e w' ⟨rfl, rfl⟩
    go_wp2_with (fail)
    refine (Unrank_any _ _ _).mono ?_
    rintro e w2 ⟨A2, m2, c2, rfl, hl2, hm2, hc2, hI2, hb2⟩
    have Hl2 := Lib.hid hl2
    clear hl2
    go_wp2_with (fail)
    refine (RUnrank_any _ _ _).mono ?_
    rintro e w3 ⟨A3, m3, c3, rfl, hl3, hm3, hc3, hI3, hb3⟩
    have Hl3 := Lib.hid hl3
    clear hl3
    have H3 : Below w.heap.size w w3 := below_of (below_of hb1 hb2 hb1.size) hb3 (below_of hb1 hb2 hb1.size).size
    have HA3 := Lib.hid (Ints.below hA H3)
    go_wp2_with (fail)
    refine (Rank_any _ _ _ p _ Hl.out hmc Hcm.out HA3.out).mono ?_
    rintro e w4 ⟨rfl, hb4⟩
    have H4 := below_of H3 hb4 H3.size
    have HA4 := Lib.hid (Ints.below hA H4)
    go_wp2_with (fail)
    refine (RRank_any _ _ _ p _ Hl.out hmc Hcm.out HA4.out).mono ?_
    rintro e w5 ⟨rfl, hb5⟩
    have H5 := below_of H4 hb5 H4.size
    have HA2 := Lib.hid (((Ints.below hI2 hb3).below hb4).below hb5)
    have HA3' := Lib.hid ((Ints.below hI3 hb4).below hb5)
    go_wp2_with (fail)
    refine (Same_all _ _ _ _ _ _ (unrankL n k) (unrankL n k) _ Hl2.out Hl3.out (Nat.le_trans hm2 hc2) HA2.out HA3'.out).mono ?_
    rintro e w6 ⟨rfl, hd6⟩
    rw [same_self]
    go_wp2_with (fail)
    go_ret
    exact ⟨rfl, below_of H5 (hd6.below _) H5.size⟩

theorem lotsRankSpec_own : ownKnob Try.prog.godebug = none := by kernel_rfl
theorem lotsRankSpec_laidOut : laidOutB Try.prog = true := by kernel_rfl
theorem lotsRankSpec_readable : (Try.f3.params.toList.all fun t => Try.prog.readableRec t && decide (t < Try.prog.types.size)) = true := by kernel_rfl
set_option maxRecDepth 100000 in
theorem lotsRankSpec_lifted (os : Os) (started : os.Started) (H : Type) (enc : TypeId × Value → H) :
    ReturnsInHanded {} Try.checked os 3 .any (Rows.lotsRankSpecSpec.pre6 enc Try.prog Try.f3 Rows.lotsRankSpecRow.domain false) (Rows.lotsRankSpecSpec.post enc Try.prog Try.f3 false true false false) := by
  refine returnsInHanded_of_change (C := Try.checked) lotsRankSpec_own started (by kernel_rfl) Try.func3
    (ChangeSpec.witness6 (enc := enc) (C := Try.checked) false ⟨#[], #[.int .i64 0, .int .u64 0, .slice none 0 0], []⟩ 8 (by kernel_rfl) (by kernel_rfl) (by kernel_rfl) (by kernel_rfl)) ?_
  intro W base args ds gs before hval0 hW hcnd _
  have hval : ∀ (j : Nat) t v, Try.f3.params[j]? = some t → args[j]? = some v → Value.okWide Try.prog W .any base t v := hval0
  have hW' := hW
  obtain ⟨p, q, hA0, hV, rfl, hfz, hnd⟩ := hW
  have hA : DataW.TrodAll enc Try.prog W 0 (fun _ => true) true Try.f3.params.toList args.toList ds p := hA0
  rw [Try.params3] at hA hval
  obtain ⟨v0, vs0, d0, ds0, p0, q0, hargs, rfl, rfl, h0, r0⟩ := trodAll_cons hA
  obtain ⟨v1, vs1, d1, ds1, p1, q1, rfl, rfl, rfl, h1, r1⟩ := trodAll_cons r0
  obtain ⟨v2, vs2, d2, ds2, p2, q2, rfl, rfl, rfl, h2, r2⟩ := trodAll_cons r1
  obtain ⟨rfl, rfl, rfl⟩ := trodAll_nil r2
  obtain rfl : args = #[v0, v1, v2] := by cases args; simp_all
  obtain ⟨rfl, rfl⟩ := trodVars_none hV
  obtain ⟨a0, rfl, rfl, rfl, w0⟩ := open_int Try.underlying3 (hval 0 3 v0 rfl rfl) h0
  obtain ⟨a1, rfl, rfl, rfl, w1⟩ := open_int Try.underlying22 (hval 1 22 v1 rfl rfl) h1
  obtain ⟨A2, n2, c2, xs2, rfl, l2, nc2, cm2, g2, w2⟩ := open_intslice Try.underlying23 Try.underlying3 (by kernel_rfl) (hval 2 23 v2 rfl rfl) h2
  refine (LotsRankSpec_walk W a0 w0 a1 w1 A2 n2 c2 xs2 l2 nc2 cm2 g2 w2).mono fun e W' ⟨he, hb⟩ => ?_
  subst he
  simp only [List.append_nil] at hW'
  refine ⟨_, rfl, law_post lotsRankSpec_laidOut ?_ (by kernel_rfl) Try.underlying4 rfl hW' rfl rfl rfl hb⟩
  intro t ht
  have hr := List.all_eq_true.1 lotsRankSpec_readable t ht
  rw [Bool.and_eq_true] at hr
  exact ⟨hr.1, of_decide_eq_true hr.2⟩
theorem lotsRankSpec_over : Rows.lotsRankSpecRow.holds Try.pinned (OpenSpec.ofChange Rows.lotsRankSpecSpec) :=
  OpenClaim.holds_of_wide 3 Try.f3 rfl rfl rfl rfl rfl rfl rfl ⟨rfl, rfl, rfl, rfl, rfl⟩ rfl rfl rfl rfl rfl (by kernel_rfl) Try.func3 (by kernel_rfl)
    (of_decide_eq_true (by kernel_rfl)) (by unfold Func.isWrapper; rw [if_neg (of_decide_eq_false (by kernel_rfl))]; exact ⟨rfl, rfl⟩)
    (fun os started H enc _ => lotsRankSpec_lifted os started H enc)
theorem lotsRankSpec_proved : Rows.LotsRankSpecSaid := lotsRankSpec_over
#print axioms lotsRankSpec_proved
end Go.Proofs.Ytbccdjaeopfalaa
