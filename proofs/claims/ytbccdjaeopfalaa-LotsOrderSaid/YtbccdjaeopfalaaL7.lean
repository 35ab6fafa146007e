/- The statement LotsOrderSaid: for every list of clubs and number for which Order succeeds, the order is the one that the permutation of the number says; no condition beside the row's own. -/
import Derived.Test.YtbccdjaeopfalaaL3
namespace Go.Proofs.Ytbccdjaeopfalaa
open Go.RowKit Go.WideShapes Go.ChangeShapes Go.ChangeAt

theorem okOrder_parts {cl : List Int} {k n : Nat} (hl : cl.length = n) (h : okOrder cl k = true) : n ≤ 18 ∧ k < fact n ∧ orderL cl k = (unrank n k).map (nth cl) := by
  have h' := h
  unfold okOrder at h
  rw [Bool.and_eq_true, Bool.and_eq_true] at h
  obtain ⟨m, e, hm, hk⟩ := okN_pos h.2
  have e' : cl.length = m := by omega
  obtain rfl : n = m := by omega
  refine ⟨hm, hk, ?_⟩
  unfold orderL order
  rw [if_pos h', hl]

set_option maxRecDepth 100000 in
set_option maxHeartbeats 4000000 in
theorem LotsOrder_walk (w : World) (A : Option Addr) (n c : Nat) (cl : List Int) (hl : cl.length = n) (hnc : n ≤ c) (hcm : c ≤ maxLen)
    (hA : Cells w A (cl.map (Value.int .i64))) (_wx : ∀ x ∈ cl, (Lit.int .i64 x).wf = true) (k : Int) (wk : (Lit.int .u64 k).wf = true) : Calls Try.prog 9 #[.slice A n c, .int .u64 k] w (Fine w) := by
  have hk0 := (bounds_u64 wk).1
  clear wk
  obtain ⟨k, rfl⟩ := Int.eq_ofNat_of_zero_le hk0
  have hA : Ints w A cl := hA
  have Hl := Lib.hid hl
  clear hl hk0
  have Hcm := Lib.hid hcm
  unfold maxLen at hcm
  by_cases hm : 100 < n
  · go_enter Try.func9, Try.ntmps9
    go_wp2_with (fail)
    refine (sane_any _).mono ?_
    rintro e w1 ⟨rfl, hb1⟩
    go_wp2_with (fail)
    go_ret
    exact ⟨rfl, hb1⟩
  have hmI : (n : Int) ≤ 100 := by omega
  clear hm
  have HO := Lib.hid (fun (W : World) (hI : Ints W A cl) => Order_res A n c cl k W Hl.out hnc Hcm.out hI)
  cases hok : okOrder cl k with
  | false =>
    have e1 : orderL cl k = [] := by simp [orderL, hok]
    rw [e1, hok] at HO
    rw [errOf_false rfl] at HO
    clear hok e1
    go_enter Try.func9, Try.ntmps9
    go_wp2_with (fail)
    refine (sane_any _).mono ?_
    rintro e w1 ⟨rfl, hb1⟩
    have HA1 := Lib.hid (Ints.below hA hb1)
    go_wp2_with (fail)
    refine (HO.out _ HA1.out).mono ?_
    rintro e w2 ⟨A2, m2, c2, rfl, hl2, hm2, hc2, hI2, hb2⟩
    obtain rfl : m2 = 0 := hl2.symm
    have H2 : Below w.heap.size w w2 := below_of hb1 hb2 hb1.size
    go_wp2_with (fail)
    go_ret
    exact ⟨rfl, H2⟩
  | true =>
    obtain ⟨hn18, hkf, e1⟩ := okOrder_parts Hl.out hok
    rw [e1, hok] at HO
    rw [errOf_true rfl] at HO
    have Hul := Lib.hid (unrank_length n k)
    have Hur := Lib.hid (unr_range n k hkf)
    have hk2 : (k : Int) ≤ 6402373705728000 := by have := fact_le n hn18; omega
    have hq2 : ((n : Int) != (n : Int)) = false := by simp
    have hq3 : ((k : Int) == (k : Int)) = true := by simp
    clear hok e1
    go_enter Try.func9, Try.ntmps9
    go_wp2_with (fail)
    refine (sane_any _).mono ?_
    rintro e w1 ⟨rfl, hb1⟩
    have HA1 := Lib.hid (Ints.below hA hb1)
    go_wp2_with (fail)
    refine (HO.out _ HA1.out).mono ?_
    rintro e w2 ⟨A2, m2, c2, rfl, hl2, hm2, hc2, hI2, hb2⟩
    obtain rfl : m2 = n := by rw [← hl2, List.length_map, Hul.out]
    have H2 : Below w.heap.size w w2 := below_of hb1 hb2 hb1.size
    clear hl2
    go_wp2_with (fail)
    refine (Unrank_fine m2 k hn18 hkf _).mono ?_
    rintro e w3 ⟨A3, c3, rfl, hn3, hc3, hI3, hb3⟩
    have H3 : Below w.heap.size w w3 := below_of H2 hb3 H2.size
    have J2 := Lib.hid (Ints.below hI2 hb3)
    have J0 := Lib.hid (Ints.below hA H3)
    have J3 := Lib.hid hI3
    clear hI2 hI3
    go_wp2_with (fail)
    go_loopw [54] (fun i wr => ∃ j : Nat, j ≤ m2 ∧ i = .int .i64 j ∧ Drawn w3 wr) (fun i _ => m2 - (intOf i).toNat)
    case atStart => exact ⟨0, by omega, rfl, Drawn.refl _⟩
    case round =>
      obtain ⟨j, hj, rfl, hw⟩ := hrel
      by_cases hlt : j < m2
      · obtain ⟨b, off, rfl, -, hcl⟩ := J3.out.at_ (k := j) (by rw [Hul.out]; exact hlt)
        obtain ⟨x, hx⟩ := getElem?_lt (l := unrank m2 k) (k := j) (by rw [Hul.out]; exact hlt)
        obtain ⟨hx0, hx1⟩ := Hur.out x (List.mem_of_getElem? hx)
        obtain ⟨i, rfl⟩ := Int.eq_ofNat_of_zero_le hx0
        obtain ⟨b0, off0, rfl, -, hcl0⟩ := J0.out.at_ (k := i) (by rw [Hl.out]; omega)
        obtain ⟨y, hy⟩ := getElem?_lt (l := cl) (k := i) (by rw [Hl.out]; omega)
        obtain ⟨b2, off2, rfl, -, hcl2⟩ := J2.out.at_ (k := j) (by rw [List.length_map, Hul.out]; exact hlt)
        have e1 : wr.cell? ⟨b, off + j, none⟩ = some (.int .i64 i) := (hw.cell _).trans (hcl j _ hx)
        have e2 : wr.cell? ⟨b0, off0 + i, none⟩ = some (.int .i64 y) := (hw.cell _).trans (hcl0 i _ hy)
        have e3 : wr.cell? ⟨b2, off2 + j, none⟩ = some (.int .i64 y) := (hw.cell _).trans (hcl2 j _ (by simp [hx, nth, hy]))
        have hyy : (y != y) = false := by simp
        clear hcl hcl0 hcl2 hx hy hA
        have hd1 : decide ((i : Int) < 0) = false := by simp
        have hd2 : decide ((m2 : Int) ≤ (i : Int)) = false := by simp; omega
        have hd3 : decide ((m2 : Nat) ≤ (i : Nat)) = false := by simp; omega
        go_wp2_with (fail)
        go_quiet (fail)
        go_wp2_with (fail)
        go_roundw
        case rel => exact ⟨j + 1, by omega, by go_num, hw.drewN _⟩
        case measure => simp [intOf]; omega
      · have K3 := Lib.hid (Ints.drawn J3.out hw)
        have H4 := H3.trans (hw.below _)
        go_wp2_with (fail)
        refine (Rank_fine _ _ _ k _ hn18 hkf hn3 hc3 K3.out).mono ?_
        rintro e w5 ⟨rfl, hb5⟩
        go_wp2_with (fail)
        go_ret
        exact ⟨rfl, below_of H4 hb5 H4.size⟩

theorem lotsOrder_own : ownKnob Try.prog.godebug = none := by kernel_rfl
theorem lotsOrder_laidOut : laidOutB Try.prog = true := by kernel_rfl
theorem lotsOrder_readable : (Try.f9.params.toList.all fun t => Try.prog.readableRec t && decide (t < Try.prog.types.size)) = true := by kernel_rfl
set_option maxRecDepth 100000 in
theorem lotsOrder_lifted (os : Os) (started : os.Started) (H : Type) (enc : TypeId × Value → H) :
    ReturnsInHanded {} Try.checked os 9 .any (Rows.lotsOrderSpec.pre6 enc Try.prog Try.f9 Rows.lotsOrderRow.domain false) (Rows.lotsOrderSpec.post enc Try.prog Try.f9 false true false false) := by
  refine returnsInHanded_of_change (C := Try.checked) lotsOrder_own started (by kernel_rfl) Try.func9
    (ChangeSpec.witness6 (enc := enc) (C := Try.checked) false ⟨#[], #[.slice none 0 0, .int .u64 0], []⟩ 8 (by kernel_rfl) (by kernel_rfl) (by kernel_rfl) (by kernel_rfl)) ?_
  intro W base args ds gs before hval0 hW hcnd _
  have hval : ∀ (j : Nat) t v, Try.f9.params[j]? = some t → args[j]? = some v → Value.okWide Try.prog W .any base t v := hval0
  have hW' := hW
  obtain ⟨p, q, hA0, hV, rfl, hfz, hnd⟩ := hW
  have hA : DataW.TrodAll enc Try.prog W 0 (fun _ => true) true Try.f9.params.toList args.toList ds p := hA0
  rw [Try.params9] at hA hval
  obtain ⟨v0, vs0, d0, ds0, p0, q0, hargs, rfl, rfl, h0, r0⟩ := trodAll_cons hA
  obtain ⟨v1, vs1, d1, ds1, p1, q1, rfl, rfl, rfl, h1, r1⟩ := trodAll_cons r0
  obtain ⟨rfl, rfl, rfl⟩ := trodAll_nil r1
  obtain rfl : args = #[v0, v1] := by cases args; simp_all
  obtain ⟨rfl, rfl⟩ := trodVars_none hV
  obtain ⟨A0, n0, c0, xs0, rfl, l0, nc0, cm0, g0, w0⟩ := open_intslice Try.underlying23 Try.underlying3 (by kernel_rfl) (hval 0 23 v0 rfl rfl) h0
  obtain ⟨a1, rfl, rfl, rfl, w1⟩ := open_int Try.underlying22 (hval 1 22 v1 rfl rfl) h1
  refine (LotsOrder_walk W A0 n0 c0 xs0 l0 nc0 cm0 g0 w0 a1 w1).mono fun e W' ⟨he, hb⟩ => ?_
  subst he
  simp only [List.append_nil] at hW'
  refine ⟨_, rfl, law_post lotsOrder_laidOut ?_ (by kernel_rfl) Try.underlying4 rfl hW' rfl rfl rfl hb⟩
  intro t ht
  have hr := List.all_eq_true.1 lotsOrder_readable t ht
  rw [Bool.and_eq_true] at hr
  exact ⟨hr.1, of_decide_eq_true hr.2⟩
theorem lotsOrder_over : Rows.lotsOrderRow.holds Try.pinned (OpenSpec.ofChange Rows.lotsOrderSpec) :=
  OpenClaim.holds_of_wide 9 Try.f9 rfl rfl rfl rfl rfl rfl rfl ⟨rfl, rfl, rfl, rfl, rfl⟩ rfl rfl rfl rfl rfl (by kernel_rfl) Try.func9 (by kernel_rfl)
    (of_decide_eq_true (by kernel_rfl)) (by unfold Func.isWrapper; rw [if_neg (of_decide_eq_false (by kernel_rfl))]; exact ⟨rfl, rfl⟩)
    (fun os started H enc _ => lotsOrder_lifted os started H enc)
theorem lotsOrder_proved : Rows.LotsOrderSaid := lotsOrder_over
#print axioms lotsOrder_proved
end Go.Proofs.Ytbccdjaeopfalaa
