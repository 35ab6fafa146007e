/- The statement LotsOrderSpecSaid: for every list of clubs, number and lists, Order and Compose agree with the specification; no condition beside the row's own. -/
import Derived.Test.YtbccdjaeopfalaaW15
import Derived.Test.YtbccdjaeopfalaaRow
namespace Go.Proofs.Ytbccdjaeopfalaa
open Go.RowKit Go.WideShapes Go.ChangeShapes Go.ChangeAt

set_option maxRecDepth 100000 in
set_option maxHeartbeats 4000000 in
theorem LotsOrderSpec_walk (w : World) (A0 : Option Addr) (n0 c0 : Nat) (cl : List Int) (l0 : cl.length = n0) (nc0 : n0 ≤ c0) (cm0 : c0 ≤ maxLen) (g0 : Cells w A0 (cl.map (Value.int .i64))) (_w0 : ∀ x ∈ cl, (Lit.int .i64 x).wf = true)
    (k : Int) (wk : (Lit.int .u64 k).wf = true)
    (A2 : Option Addr) (n2 c2 : Nat) (p : List Int) (l2 : p.length = n2) (nc2 : n2 ≤ c2) (cm2 : c2 ≤ maxLen) (g2 : Cells w A2 (p.map (Value.int .i64))) (_w2 : ∀ x ∈ p, (Lit.int .i64 x).wf = true)
    (A3 : Option Addr) (n3 c3 : Nat) (q : List Int) (l3 : q.length = n3) (nc3 : n3 ≤ c3) (cm3 : c3 ≤ maxLen) (g3 : Cells w A3 (q.map (Value.int .i64))) (_w3 : ∀ x ∈ q, (Lit.int .i64 x).wf = true) :
    Calls Try.prog 4 #[.slice A0 n0 c0, .int .u64 k, .slice A2 n2 c2, .slice A3 n3 c3] w (Fine w) := by
  have hk0 := (bounds_u64 wk).1
  clear wk
  obtain ⟨k, rfl⟩ := Int.eq_ofNat_of_zero_le hk0
  clear hk0
  have G0 : Ints w A0 cl := g0
  have G2 : Ints w A2 p := g2
  have G3 : Ints w A3 q := g3
  have L0 := Lib.hid l0; have L2 := Lib.hid l2; have L3 := Lib.hid l3
  have M0 := Lib.hid cm0; have M2 := Lib.hid (Nat.le_trans nc2 cm2); have M3 := Lib.hid (Nat.le_trans nc3 cm3)
  clear l0 l2 l3 g0 g2 g3
  unfold maxLen at cm0 cm2 cm3
  by_cases b0 : 100 < n0
  · go_enter Try.func4, Try.ntmps4
    go_wp2_with (fail)
    refine (sane_any _).mono ?_
    rintro e w1 ⟨rfl, hb1⟩
    go_wp2_with (fail)
    go_ret
    exact ⟨rfl, hb1⟩
  by_cases b2 : 100 < n2
  · go_enter Try.func4, Try.ntmps4
    go_wp2_with (fail)
    refine (sane_any _).mono ?_
    rintro e w1 ⟨rfl, hb1⟩
    go_wp2_with (fail)
    go_ret
    exact ⟨rfl, hb1⟩
  by_cases b3 : 100 < n3
  · go_enter Try.func4, Try.ntmps4
    go_wp2_with (fail)
    refine (sane_any _).mono ?_
    rintro e w1 ⟨rfl, hb1⟩
    go_wp2_with (fail)
    go_ret
    exact ⟨rfl, hb1⟩
  have hf1 : (errOf (okOrder cl k) == errOf (okOrder cl k)) = true := by simp
  have hf2 : (errOf (okComp p q) == errOf (okComp p q)) = true := by simp
  go_enter Try.func4, Try.ntmps4
  go_wp2_with (fail)
  refine (sane_any _).mono ?_
  rintro e w1 ⟨rfl, hb1⟩
  have K1 := Lib.hid (Ints.below G0 hb1)
  go_wp2_with (fail)
  refine (Order_res _ _ _ cl k _ L0.out nc0 M0.out K1.out).mono ?_
  rintro e w2 ⟨X2, m2, d2, rfl, hl2, hm2, hd2, hI2, hb2⟩
  have Hl2 := Lib.hid hl2
  have H2 : Below w.heap.size w w2 := below_of hb1 hb2 hb1.size
  have K2 := Lib.hid (Ints.below G0 H2)
  clear hl2
  go_wp2_with (fail)
  refine (ROrder_res _ _ _ cl k _ L0.out nc0 M0.out K2.out).mono ?_
  rintro e w3 ⟨X3, m3, d3, rfl, hl3, hm3, hd3, hI3, hb3⟩
  have Hl3 := Lib.hid hl3
  have H3 : Below w.heap.size w w3 := below_of H2 hb3 H2.size
  have K3 := Lib.hid (Ints.below G2 H3)
  have K3' := Lib.hid (Ints.below G3 H3)
  clear hl3
  go_wp2_with (fail)
  refine (Compose_any _ _ _ _ _ _ p q _ L2.out L3.out M2.out M3.out K3.out K3'.out).mono ?_
  rintro e w4 ⟨X4, m4, d4, rfl, hl4, hm4, hd4, hI4, hb4⟩
  have Hl4 := Lib.hid hl4
  have H4 : Below w.heap.size w w4 := below_of H3 hb4 H3.size
  have K4 := Lib.hid (Ints.below G2 H4)
  have K4' := Lib.hid (Ints.below G3 H4)
  clear hl4
  go_wp2_with (fail)
  refine (RCompose_any _ _ _ _ _ _ p q _ L2.out L3.out M2.out M3.out K4.out K4'.out).mono ?_
  rintro e w5 ⟨X5, m5, d5, rfl, hl5, hm5, hd5, hI5, hb5⟩
  have Hl5 := Lib.hid hl5
  have H5 : Below w.heap.size w w5 := below_of H4 hb5 H4.size
  clear hl5
  have J2 := Lib.hid (((Ints.below hI2 hb3).below hb4).below hb5)
  have J3 := Lib.hid ((Ints.below hI3 hb4).below hb5)
  have J4 := Lib.hid (Ints.below hI4 hb5)
  have J5 := Lib.hid hI5
  go_wp2_with (fail)
  refine (Same_all _ _ _ _ _ _ _ _ _ Hl2.out Hl3.out (Nat.le_trans hm2 hd2) J2.out J3.out).mono ?_
  rintro e w6 ⟨rfl, hd6⟩
  rw [same_self]
  have hb6 : Below w5.heap.size w5 w6 := hd6.below _
  have J46 := Lib.hid (Ints.below J4.out hb6)
  have J56 := Lib.hid (Ints.below J5.out hb6)
  go_wp2_with (fail)
  refine (Same_all _ _ _ _ _ _ _ _ _ Hl4.out Hl5.out (Nat.le_trans hm4 hd4) J46.out J56.out).mono ?_
  rintro e w7 ⟨rfl, hd7⟩
  rw [same_self]
  have hb7 : Below w6.heap.size w6 w7 := hd7.below _
  have H6 := below_of H5 hb6 H5.size
  go_wp2_with (fail)
  go_ret
  exact ⟨rfl, below_of H6 hb7 H6.size⟩

theorem lotsOrderSpec_own : ownKnob Try.prog.godebug = none := by kernel_rfl
theorem lotsOrderSpec_laidOut : laidOutB Try.prog = true := by kernel_rfl
theorem lotsOrderSpec_readable : (Try.f4.params.toList.all fun t => Try.prog.readableRec t && decide (t < Try.prog.types.size)) = true := by kernel_rfl
set_option maxRecDepth 100000 in
theorem lotsOrderSpec_lifted (os : Os) (started : os.Started) (H : Type) (enc : TypeId × Value → H) :
    ReturnsInHanded {} Try.checked os 4 .any (Rows.lotsOrderSpecSpec.pre6 enc Try.prog Try.f4 Rows.lotsOrderSpecRow.domain false) (Rows.lotsOrderSpecSpec.post enc Try.prog Try.f4 false true false false) := by
  refine returnsInHanded_of_change (C := Try.checked) lotsOrderSpec_own started (by kernel_rfl) Try.func4
    (ChangeSpec.witness6 (enc := enc) (C := Try.checked) false ⟨#[], #[.slice none 0 0, .int .u64 0, .slice none 0 0, .slice none 0 0], []⟩ 8 (by kernel_rfl) (by kernel_rfl) (by kernel_rfl) (by kernel_rfl)) ?_
  intro W base args ds gs before hval0 hW hcnd _
  have hval : ∀ (j : Nat) t v, Try.f4.params[j]? = some t → args[j]? = some v → Value.okWide Try.prog W .any base t v := hval0
  have hW' := hW
  obtain ⟨p, q, hA0, hV, rfl, hfz, hnd⟩ := hW
  have hA : DataW.TrodAll enc Try.prog W 0 (fun _ => true) true Try.f4.params.toList args.toList ds p := hA0
  rw [Try.params4] at hA hval
  obtain ⟨v0, vs0, d0, ds0, p0, q0, hargs, rfl, rfl, h0, r0⟩ := trodAll_cons hA
  obtain ⟨v1, vs1, d1, ds1, p1, q1, rfl, rfl, rfl, h1, r1⟩ := trodAll_cons r0
  obtain ⟨v2, vs2, d2, ds2, p2, q2, rfl, rfl, rfl, h2, r2⟩ := trodAll_cons r1
  obtain ⟨v3, vs3, d3, ds3, p3, q3, rfl, rfl, rfl, h3, r3⟩ := trodAll_cons r2
  obtain ⟨rfl, rfl, rfl⟩ := trodAll_nil r3
  obtain rfl : args = #[v0, v1, v2, v3] := by cases args; simp_all
  obtain ⟨rfl, rfl⟩ := trodVars_none hV
  obtain ⟨A0, n0, c0, xs0, rfl, l0, nc0, cm0, g0, w0⟩ := open_intslice Try.underlying23 Try.underlying3 (by kernel_rfl) (hval 0 23 v0 rfl rfl) h0
  obtain ⟨a1, rfl, rfl, rfl, w1⟩ := open_int Try.underlying22 (hval 1 22 v1 rfl rfl) h1
  obtain ⟨A2, n2, c2, xs2, rfl, l2, nc2, cm2, g2, w2⟩ := open_intslice Try.underlying23 Try.underlying3 (by kernel_rfl) (hval 2 23 v2 rfl rfl) h2
  obtain ⟨A3, n3, c3, xs3, rfl, l3, nc3, cm3, g3, w3⟩ := open_intslice Try.underlying23 Try.underlying3 (by kernel_rfl) (hval 3 23 v3 rfl rfl) h3
  refine (LotsOrderSpec_walk W A0 n0 c0 xs0 l0 nc0 cm0 g0 w0 a1 w1 A2 n2 c2 xs2 l2 nc2 cm2 g2 w2 A3 n3 c3 xs3 l3 nc3 cm3 g3 w3).mono fun e W' ⟨he, hb⟩ => ?_
  subst he
  simp only [List.append_nil] at hW'
  refine ⟨_, rfl, law_post lotsOrderSpec_laidOut ?_ (by kernel_rfl) Try.underlying4 rfl hW' rfl rfl rfl hb⟩
  intro t ht
  have hr := List.all_eq_true.1 lotsOrderSpec_readable t ht
  rw [Bool.and_eq_true] at hr
  exact ⟨hr.1, of_decide_eq_true hr.2⟩
theorem lotsOrderSpec_over : Rows.lotsOrderSpecRow.holds Try.pinned (OpenSpec.ofChange Rows.lotsOrderSpecSpec) :=
  OpenClaim.holds_of_wide 4 Try.f4 rfl rfl rfl rfl rfl rfl rfl ⟨rfl, rfl, rfl, rfl, rfl⟩ rfl rfl rfl rfl rfl (by kernel_rfl) Try.func4 (by kernel_rfl)
    (of_decide_eq_true (by kernel_rfl)) (by unfold Func.isWrapper; rw [if_neg (of_decide_eq_false (by kernel_rfl))]; exact ⟨rfl, rfl⟩)
    (fun os started H enc _ => lotsOrderSpec_lifted os started H enc)
theorem lotsOrderSpec_proved : Rows.LotsOrderSpecSaid := lotsOrderSpec_over
#print axioms lotsOrderSpec_proved
end Go.Proofs.Ytbccdjaeopfalaa
