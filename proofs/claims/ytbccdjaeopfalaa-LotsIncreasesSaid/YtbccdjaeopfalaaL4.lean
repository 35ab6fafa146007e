/- The statement LotsIncreasesSaid: for every number of elements and two numbers, the permutation with the greater number is lexicographically greater; no condition beside the row's own. -/
import Derived.Test.YtbccdjaeopfalaaL3
namespace Go.Proofs.Ytbccdjaeopfalaa
open Go.RowKit Go.WideShapes Go.ChangeShapes Go.ChangeAt

set_option maxRecDepth 100000 in
set_option maxHeartbeats 4000000 in
theorem LotsIncreases_walk (w : World) (n : Int) (_wn : (Lit.int .i64 n).wf = true) (j : Int) (wj : (Lit.int .u64 j).wf = true) (k : Int) (wk : (Lit.int .u64 k).wf = true) :
    Calls Try.prog 6 #[.int .i64 n, .int .u64 j, .int .u64 k] w (Fine w) := by
  have hk0 := (bounds_u64 wk).1
  have hj0 := (bounds_u64 wj).1
  clear wk wj
  obtain ⟨k, rfl⟩ := Int.eq_ofNat_of_zero_le hk0
  obtain ⟨j, rfl⟩ := Int.eq_ofNat_of_zero_le hj0
  clear hk0 hj0
  by_cases hn : 0 ≤ n ∧ n ≤ 18
  · obtain ⟨n, rfl⟩ := Int.eq_ofNat_of_zero_le hn.1
    have hn18 : n ≤ 18 := by omega
    clear hn
    have hfp : (1 : Int) ≤ (fact n : Int) := by have := fact_pos n; omega
    have hfn : ((fact n : Int) == 0) = false := by simp; have := fact_pos n; omega
    obtain ⟨r, hr⟩ : ∃ r, k % fact n = r := ⟨_, rfl⟩
    obtain ⟨s, hs⟩ : ∃ s, j % fact n = s := ⟨_, rfl⟩
    have hrl : r < fact n := by rw [← hr]; exact Nat.mod_lt _ (fact_pos n)
    have hsl : s < fact n := by rw [← hs]; exact Nat.mod_lt _ (fact_pos n)
    have hmod : ((k : Int) % (fact n : Int)) = (r : Int) := by rw [← Int.natCast_emod, hr]
    have hmod2 : ((j : Int) % (fact n : Int)) = (s : Int) := by rw [← Int.natCast_emod, hs]
    have hfl := fact_le n hn18
    have hrb : (r : Int) ≤ 6402373705728000 := by omega
    have hsb : (s : Int) ≤ 6402373705728000 := by omega
    have hq2 : ((n : Int) != (n : Int)) = false := by simp
    have Hul := Lib.hid (unrank_length n r)
    have Hul2 := Lib.hid (unrank_length n s)
    clear hr hs
    go_enter Try.func6, Try.ntmps6
    go_wp2_with (fail)
    refine (sane_any _).mono ?_
    rintro e w1 ⟨rfl, hb1⟩
    go_wp2_with (fail)
    refine (Factorial_good n _ hn18).mono ?_
    rintro e w' ⟨rfl, rfl⟩
    go_wp2_with (fail)
    go_quiet (fail)
    have hb1' := below_drewN hb1
    go_wp2_with (fail)
    refine (Unrank_fine n s hn18 hsl _).mono ?_
    rintro e w2 ⟨A2, c2, rfl, hn2, hc2, hI2, hb2⟩
    have H2 : Below w.heap.size w w2 := below_of (hb1' _) hb2 hb1.size
    go_wp2_with (fail)
    refine (Unrank_fine n r hn18 hrl _).mono ?_
    rintro e w3 ⟨A3, c3, rfl, hn3, hc3, hI3, hb3⟩
    have H3 : Below w.heap.size w w3 := below_of H2 hb3 H2.size
    have J2 := Lib.hid (Ints.below hI2 hb3)
    have J3 := Lib.hid hI3
    clear hI2 hI3 hmod hmod2
    go_wp2_with (fail)
    go_loopw [67] (fun i wr => ∃ t : Nat, t ≤ n ∧ i = .int .i64 t ∧ Hid ((unrank n s).take t = (unrank n r).take t) ∧ Drawn w3 wr) (fun i _ => n - (intOf i).toNat)
    case atStart => exact ⟨0, by omega, rfl, rfl, Drawn.refl _⟩
    case round =>
      obtain ⟨t, ht, rfl, Hpre, hw⟩ := hrel
      by_cases hlt : t < n
      · obtain ⟨b, off, rfl, -, hcl⟩ := J2.out.at_ (k := t) (by rw [Hul2.out]; exact hlt)
        obtain ⟨x, hx⟩ := getElem?_lt (l := unrank n s) (k := t) (by rw [Hul2.out]; exact hlt)
        obtain ⟨b3, off3, rfl, -, hcl3⟩ := J3.out.at_ (k := t) (by rw [Hul.out]; exact hlt)
        obtain ⟨y, hy⟩ := getElem?_lt (l := unrank n r) (k := t) (by rw [Hul.out]; exact hlt)
        have e1 : wr.cell? ⟨b, off + t, none⟩ = some (.int .i64 x) := (hw.cell _).trans (hcl t _ hx)
        have e2 : wr.cell? ⟨b3, off3 + t, none⟩ = some (.int .i64 y) := (hw.cell _).trans (hcl3 t _ hy)
        have Hx := Lib.hid hx
        have Hy := Lib.hid hy
        clear hcl hcl3 hx hy
        by_cases hxy : x = y
        · subst hxy
          have hb : (x != x) = false := by simp
          go_wp2_with (fail)
          go_quiet (fail)
          go_wp2_with (fail)
          go_roundw
          case rel => exact ⟨t + 1, by omega, by go_num, by
            show _ = _
            rw [take_snoc Hx.out, take_snoc Hy.out, Hpre.out], hw.drewN _⟩
          case measure => simp [intOf]; omega
        · have hb : (x != y) = true := by simpa using hxy
          have Hlt := Lib.hid (show (decide (x < y) == decide ((s : Int) < (r : Int))) = true by
            rw [beq_iff_eq]
            refine decide_eq_decide.2 ⟨fun h => ?_, fun h => ?_⟩
            · have := unrank_lex hsl hrl Hpre.out Hx.out Hy.out h
              omega
            · refine Classical.byContradiction fun hc => ?_
              have := unrank_lex hrl hsl Hpre.out.symm Hy.out Hx.out (by omega)
              omega)
          go_wp2_with (fail)
          go_quiet (fail)
          go_wp2_with (fail)
          generalize hg : wr.drewN _ = wo
          have hwo : Drawn wr wo := ⟨_, hg.symm⟩
          have f1 : wo.cell? ⟨b, off + t, none⟩ = some (.int .i64 x) := (hwo.cell _).trans e1
          have f2 : wo.cell? ⟨b3, off3 + t, none⟩ = some (.int .i64 y) := (hwo.cell _).trans e2
          have hlt2 := Hlt.out
          clear hg e1 e2
          go_quiet (fail)
          go_wp2_with (fail)
          go_ret
          have H4 := H3.trans ((hw.trans hwo).below _)
          exact ⟨ret_bool (by simpa using Hlt.out), below_drewN H4 _⟩
      · have hsr : Hid (s = r) := by
          have h := Hpre.out
          rw [List.take_of_length_le (by rw [Hul2.out]; omega), List.take_of_length_le (by rw [Hul.out]; omega)] at h
          have h1 := rank_unrank hn18 hsl
          have h2 := rank_unrank hn18 hrl
          show s = r
          rw [← h1, ← h2, h]
        have H4 := H3.trans (hw.below _)
        go_wp2_with (fail)
        go_ret
        exact ⟨ret_bool (by rw [hsr.out]; simp), H4⟩
  · have hno := Lib.hid hn
    have HF := Lib.hid (fun (W : World) => Factorial_bad n W (by have := hno.out; omega))
    clear hn
    go_enter Try.func6, Try.ntmps6
    go_wp2_with (fail)
    refine (sane_any _).mono ?_
    rintro e w1 ⟨rfl, hb1⟩
    go_wp2_with (fail)
    refine (HF.out _).mono ?_
    rintro e w' ⟨rfl, rfl⟩
    go_wp2_with (fail)
    go_ret
    exact ⟨rfl, hb1⟩

theorem lotsIncreases_own : ownKnob Try.prog.godebug = none := by kernel_rfl
theorem lotsIncreases_laidOut : laidOutB Try.prog = true := by kernel_rfl
theorem lotsIncreases_readable : (Try.f6.params.toList.all fun t => Try.prog.readableRec t && decide (t < Try.prog.types.size)) = true := by kernel_rfl
set_option maxRecDepth 100000 in
theorem lotsIncreases_lifted (os : Os) (started : os.Started) (H : Type) (enc : TypeId × Value → H) :
    ReturnsInHanded {} Try.checked os 6 .any (Rows.lotsIncreasesSpec.pre6 enc Try.prog Try.f6 Rows.lotsIncreasesRow.domain false) (Rows.lotsIncreasesSpec.post enc Try.prog Try.f6 false true false false) := by
  refine returnsInHanded_of_change (C := Try.checked) lotsIncreases_own started (by kernel_rfl) Try.func6
    (ChangeSpec.witness6 (enc := enc) (C := Try.checked) false ⟨#[], #[.int .i64 0, .int .u64 0, .int .u64 0], []⟩ 8 (by kernel_rfl) (by kernel_rfl) (by kernel_rfl) (by kernel_rfl)) ?_
  intro W base args ds gs before hval0 hW hcnd _
  have hval : ∀ (j : Nat) t v, Try.f6.params[j]? = some t → args[j]? = some v → Value.okWide Try.prog W .any base t v := hval0
  have hW' := hW
  obtain ⟨p, q, hA0, hV, rfl, hfz, hnd⟩ := hW
  have hA : DataW.TrodAll enc Try.prog W 0 (fun _ => true) true Try.f6.params.toList args.toList ds p := hA0
  rw [Try.params6] at hA hval
  obtain ⟨v0, vs0, d0, ds0, p0, q0, hargs, rfl, rfl, h0, r0⟩ := trodAll_cons hA
  obtain ⟨v1, vs1, d1, ds1, p1, q1, rfl, rfl, rfl, h1, r1⟩ := trodAll_cons r0
  obtain ⟨v2, vs2, d2, ds2, p2, q2, rfl, rfl, rfl, h2, r2⟩ := trodAll_cons r1
  obtain ⟨rfl, rfl, rfl⟩ := trodAll_nil r2
  obtain rfl : args = #[v0, v1, v2] := by cases args; simp_all
  obtain ⟨rfl, rfl⟩ := trodVars_none hV
  obtain ⟨a0, rfl, rfl, rfl, w0⟩ := open_int Try.underlying3 (hval 0 3 v0 rfl rfl) h0
  obtain ⟨a1, rfl, rfl, rfl, w1⟩ := open_int Try.underlying22 (hval 1 22 v1 rfl rfl) h1
  obtain ⟨a2, rfl, rfl, rfl, w2⟩ := open_int Try.underlying22 (hval 2 22 v2 rfl rfl) h2
  refine (LotsIncreases_walk W a0 w0 a1 w1 a2 w2).mono fun e W' ⟨he, hb⟩ => ?_
  subst he
  simp only [List.append_nil] at hW'
  refine ⟨_, rfl, law_post lotsIncreases_laidOut ?_ (by kernel_rfl) Try.underlying4 rfl hW' rfl rfl rfl hb⟩
  intro t ht
  have hr := List.all_eq_true.1 lotsIncreases_readable t ht
  rw [Bool.and_eq_true] at hr
  exact ⟨hr.1, of_decide_eq_true hr.2⟩
theorem lotsIncreases_over : Rows.lotsIncreasesRow.holds Try.pinned (OpenSpec.ofChange Rows.lotsIncreasesSpec) :=
  OpenClaim.holds_of_wide 6 Try.f6 rfl rfl rfl rfl rfl rfl rfl ⟨rfl, rfl, rfl, rfl, rfl⟩ rfl rfl rfl rfl rfl (by kernel_rfl) Try.func6 (by kernel_rfl)
    (of_decide_eq_true (by kernel_rfl)) (by unfold Func.isWrapper; rw [if_neg (of_decide_eq_false (by kernel_rfl))]; exact ⟨rfl, rfl⟩)
    (fun os started H enc _ => lotsIncreases_lifted os started H enc)
theorem lotsIncreases_proved : Rows.LotsIncreasesSaid := lotsIncreases_over
#print axioms lotsIncreases_proved
end Go.Proofs.Ytbccdjaeopfalaa
