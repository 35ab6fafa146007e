/- The statement FixturesFullSaid: for all valid clubs, the list of Circle is valid and full, has as few rounds as possible, and is balanced; no condition beside the row's own. -/
import Derived.Test.YtpmkebejfnflfaaFOp
import Derived.Test.YtpmkebejfnflfaaFCirF
namespace Go.Proofs.Ytpmkebejfnflfaa
open Go.RowKit Go.WideShapes Go.ChangeShapes Go.ChangeAt
set_option linter.unusedVariables false
set_option linter.unusedSimpArgs false
set_option maxRecDepth 100000 in
set_option maxHeartbeats 8000000 in
theorem full_no (w : World) (A : Option Addr) (n c : Nat) (cl : List Int) (hl : cl.length = n) (hnc : n ≤ c) (hcm : c ≤ maxLen) (hA : Ints w A cl) (dbl : Bool) (hv : Fix.validC cl = false) :
    Calls Try.prog 6 #[.slice A n c, .bool dbl] w (Fine w) := by
  have HC := Lib.hid (fun W h => circle_any A n c cl dbl W hl h)
  have HA := Lib.hid hA
  have Hv := Lib.hid hv
  clear hA hl hv
  unfold maxLen at hcm
  by_cases hbig : 60 < n
  · have q1 : decide ((60 : Int) < (n : Int)) = true := by simp; omega
    go_enter Try.func6, Try.ntmps6
    go_wp2_with (fail)
    refine (fsane_any w).mono ?_
    rintro e w1 ⟨rfl, hb1⟩
    have HB1 := Lib.hid hb1
    clear hb1
    go_wp2_with (fail)
    go_ret
    exact ⟨rfl, HB1.out⟩
  · have q1 : decide ((60 : Int) < (n : Int)) = false := by simp; omega
    go_enter Try.func6, Try.ntmps6
    go_wp2_with (fail)
    refine (fsane_any w).mono ?_
    rintro e w1 ⟨rfl, hb1⟩
    have HB1 := Lib.hid hb1
    clear hb1
    go_wp2_with (fail)
    refine (HC.out w1 (HA.out.below HB1.out)).mono ?_
    rintro e w2 ⟨A2, q, c2, rfl, hq, hqc, hqm, hR, hb2⟩
    have e1 : Fix.circE cl = 1 := by unfold Fix.circE; rw [Hv.out]; rfl
    have e2 : Fix.circM cl dbl = [] := by unfold Fix.circM; rw [Hv.out]; rfl
    rw [e2] at hq
    rw [e1]
    obtain rfl : q = 0 := hq
    have HB2 := Lib.hid (below_of HB1.out hb2 HB1.out.size)
    clear hb2 hR e1 e2
    go_upto_region 6 with (fail)
    generalize hge : World.alloc _ _ = w3
    have H3 := Lib.hid (show Blk w3 w2.heap.size 26 #[.slice A2 0 c2] by subst hge; exact Blk.new w2 _ _)
    have HB3 := Lib.hid (show Below w.heap.size w w3 by subst hge; exact HB2.out.alloc HB2.out.size _)
    clear hge
    have q2 := H3.out.cellv' (i := 0) rfl
    go_wp2_with (fail)
    go_ret
    exact ⟨rfl, HB3.out⟩
set_option maxRecDepth 100000 in
set_option maxHeartbeats 16000000 in
theorem full_yes (w : World) (A : Option Addr) (n c : Nat) (cl : List Int) (hl : cl.length = n) (hnc : n ≤ c) (hcm : c ≤ maxLen) (hA : Ints w A cl) (dbl : Bool) (hv : Fix.validC cl = true) :
    Calls Try.prog 6 #[.slice A n c, .bool dbl] w (Fine w) := by
  have HC := Lib.hid (fun W h => circle_any A n c cl dbl W hl h)
  have HA := Lib.hid hA
  have Hv := Lib.hid hv
  have Hl := Lib.hid hl
  have hn2 : 2 ≤ n := by rw [← hl]; exact (Fix.validC_iff.1 hv).1
  have hn24 : n ≤ 24 := by rw [← hl]; exact (Fix.validC_iff.1 hv).2.1
  obtain ⟨k1, k2, k3⟩ := circle_lens hv dbl
  have HF := Lib.hid (fun A3 q c3 W h1 h2 h3 => full_any A3 q c3 (Fix.circleM cl dbl) A n c cl dbl W h1 (by omega) h2 hl hnc h3 (by omega) (wf_circle hv (Fix.circle_ok hv dbl)))
  rw [Fix.circle_full hv dbl, Fix.circle_check hv dbl] at HF
  have HP := Lib.hid (fun A3 q c3 cb W h1 h2 => pattern_any A3 q c3 (Fix.circleM cl dbl) cb W h1 (by omega) h2 (fun l hl' => by have := k1 l hl'; omega))
  have Hcount := Lib.hid (fun cb (h : cb ∈ cl) => Fix.circle_counts hv dbl h)
  have Hlen := Lib.hid (Fix.circle_length cl dbl)
  rw [hl] at Hlen Hcount
  clear hA hl hv k1 k2 k3
  unfold maxLen at hcm
  have q1 : decide ((60 : Int) < (n : Int)) = false := by simp; omega
  go_enter Try.func6, Try.ntmps6
  go_wp2_with (fail)
  refine (fsane_any w).mono ?_
  rintro e w1 ⟨rfl, hb1⟩
  have HB1 := Lib.hid hb1
  clear hb1
  go_wp2_with (fail)
  refine (HC.out w1 (HA.out.below HB1.out)).mono ?_
  rintro e w2 ⟨A2, q, c2, rfl, hq, hqc, hqm, hR, hb2⟩
  have e1 : Fix.circE cl = 0 := by unfold Fix.circE; rw [Hv.out]; rfl
  have e2 : Fix.circM cl dbl = Fix.circleM cl dbl := by unfold Fix.circM; rw [Hv.out]; rfl
  rw [e2] at hq hR
  rw [e1]
  have HB2 := Lib.hid (below_of HB1.out hb2 HB1.out.size)
  have Hq := Lib.hid hq
  have HR := Lib.hid hR
  clear hb2 hR e1 e2 hq
  go_upto_region 6 with (fail)
  generalize hge : World.alloc _ _ = w3
  have H3 := Lib.hid (show Blk w3 w2.heap.size 26 #[.slice A2 q c2] by subst hge; exact Blk.new w2 _ _)
  have hb3 : Below w2.heap.size w2 w3 := by subst hge; exact (Below.refl _ _).alloc (Nat.le_refl _) _
  have HB3 := Lib.hid (below_of HB2.out hb3 HB2.out.size)
  have HR3 := Lib.hid (HR.out.below hb3)
  clear hge hb3 HR
  obtain ⟨X, hX⟩ : ∃ X, w2.heap.size = X := ⟨_, rfl⟩
  rw [hX] at H3 ⊢
  clear hX
  have q2 := H3.out.cellv' (i := 0) rfl
  have Hone := Lib.hid (fun cb (h : cb ∈ cl) => (Hcount.out cb h))
  clear Hcount
  obtain ⟨ls, hls⟩ : ∃ ls, ls = Fix.circleM cl dbl := ⟨_, rfl⟩
  rw [← hls] at HF HP Hlen Hq HR3 Hone
  have hval : ∀ cb, ∀ x ∈ ls.map (Fix.patM cb), x = 0 ∨ x = 1 ∨ x = -1 := fun cb x hx => by
    obtain ⟨l, -, rfl⟩ := List.mem_map.1 hx
    exact Fix.patM_values cb l
  have Hval := Lib.hid hval
  clear hls hval
  obtain ⟨F, hF⟩ : ∃ F : Nat, F = (if dbl then 2 else 1) * (n % 2) := ⟨_, rfl⟩
  rw [← hF] at Hone
  cases dbl
  case' false =>
    go_wp2_with (fail)
    have hq' : ((n : Int) - 1 + (n : Int) % 2) = (q : Int) := by
      have h1 := Hlen.out
      rw [← Hq.out] at h1
      simp at h1
      omega
    have hF' : ((n : Int) % 2) = (F : Int) := by simp at hF; omega
    rw [hq', hF']
    clear hq' hF'
  case' true =>
    go_wp2_with (fail)
    have hq' : (2 * ((n : Int) - 1 + (n : Int) % 2)) = (q : Int) := by
      have h1 := Hlen.out
      rw [← Hq.out] at h1
      simp at h1
      omega
    have hF' : (2 * ((n : Int) % 2)) = (F : Int) := by simp at hF; omega
    rw [hq', hF']
    clear hq' hF'
  all_goals
    have hAB : Ints w3 A cl := HA.out.below HB3.out
    refine (HF.out A2 q c2 w3 Hq.out.symm HR3.out hAB).mono ?_
    rintro e w4 ⟨rfl, hb4⟩
    have HA4 := Lib.hid (hAB.below hb4)
    have H4 := Lib.hid (H3.out.below hb4)
    have HB4 := Lib.hid (below_of HB3.out hb4 HB3.out.size)
    have HR4 := Lib.hid (HR3.out.below hb4)
    clear hb4 hAB q2 H3 HR3 HA HF
    have q2 := H4.out.cellv' (i := 0) rfl
    go_wp2_with (fail)
    go_loopw [76] (fun i W => ∃ k : Nat, k ≤ n ∧ i = .int .i64 k ∧ Hid (Below w4.heap.size w4 W)) (fun i _ => n - (intOf i).toNat)
    case atStart => exact ⟨0, Nat.zero_le _, rfl, Below.refl _ _⟩
    case round =>
      obtain ⟨wk, rfl⟩ : ∃ wk : World, wk = wr := ⟨_, rfl⟩
      obtain ⟨k, hk, rfl, hB⟩ := hrel
      by_cases hlt : k < n
      · have H5 := Lib.hid (H4.out.below hB.out)
        have HR5 := Lib.hid (HR4.out.below hB.out)
        obtain ⟨x, hx⟩ := getElem?_lt (l := cl) (k := k) (by rw [Hl.out]; exact hlt)
        obtain ⟨b, off, rfl, hb, hcs⟩ := (HA4.out.below hB.out).at_ (k := k) (by rw [Hl.out]; exact hlt)
        have hc1 := hcs k x hx
        have HX := Lib.hid (Hone.out x (List.mem_of_getElem? hx))
        clear q2 hcs hx
        have q2 := H5.out.cellv' (i := 0) rfl
        go_wp2_with (fail)
        refine (HP.out A2 q c2 x wk Hq.out.symm HR5.out).mono ?_
        rintro e w6 ⟨A6, c6, rfl, hown, hc6, hm6, hb6⟩
        have HC6 := Lib.hid (show Ints w6 A6 (ls.map (Fix.patM x)) from Cells.own hown)
        have HB6 := Lib.hid (below_of hB.out hb6 hB.out.size)
        have Hpl := Lib.hid (show (ls.map (Fix.patM x)).length = q by rw [List.length_map]; exact Hq.out.symm)
        have Hpv := Lib.hid (Hval.out x)
        clear hown hb6 hB q2 hc1
        generalize ls.map (Fix.patM x) = p at *
        go_wp2_with (fail)
        go_loop [84, 14, 15, 16] (fun i u v z => ∃ j h a o : Nat, j ≤ q ∧ i = .int .i64 j ∧ u = .int .i64 h ∧ v = .int .i64 a ∧ z = .int .i64 o ∧ h ≤ j ∧ a ≤ j ∧ o ≤ j ∧ Hid (h = (p.take j).count 1 ∧ a = (p.take j).count (-1) ∧ o = (p.take j).count 0)) (fun i _ _ _ => q - (intOf i).toNat)
        case atStart => exact ⟨0, 0, 0, 0, Nat.zero_le _, rfl, rfl, rfl, rfl, Nat.le_refl _, Nat.le_refl _, Nat.le_refl _, (Lib.hid (by simp))⟩
        case round =>
          obtain ⟨j, h, a, o, hj, rfl, rfl, rfl, rfl, hh, ha, ho, hcnt⟩ := hrel
          unfold maxLen at hm6 hqm
          by_cases hjl : j < q
          · obtain ⟨y, hy⟩ := getElem?_lt (l := p) (k := j) (by rw [Hpl.out]; exact hjl)
            obtain ⟨b2, off2, rfl, hb2, hcs⟩ := HC6.out.at_ (k := j) (by rw [Hpl.out]; exact hjl)
            have hc1 := hcs j y hy
            have Hy := Lib.hid (take_snoc hy)
            have hyv := Hpv.out y (List.mem_of_getElem? hy)
            clear hcs hy
            rcases hyv with rfl | rfl | rfl
            · go_wp2_with (fail)
              go_round
              case rel => exact ⟨j + 1, h, a, o + 1, by omega, by go_num, rfl, rfl, by go_num, by omega, by omega, by omega, (Lib.hid (by rw [Hy.out]; simp only [List.count_append, hcnt.out.1, hcnt.out.2.1, hcnt.out.2.2]; simp))⟩
              case measure => simp [intOf]; omega
            · go_wp2_with (fail)
              go_round
              case rel => exact ⟨j + 1, h + 1, a, o, by omega, by go_num, by go_num, rfl, rfl, by omega, by omega, by omega, (Lib.hid (by rw [Hy.out]; simp only [List.count_append, hcnt.out.1, hcnt.out.2.1, hcnt.out.2.2]; simp))⟩
              case measure => simp [intOf]; omega
            · go_wp2_with (fail)
              go_round
              case rel => exact ⟨j + 1, h, a + 1, o, by omega, by go_num, rfl, by go_num, rfl, by omega, by omega, by omega, (Lib.hid (by rw [Hy.out]; simp only [List.count_append, hcnt.out.1, hcnt.out.2.1, hcnt.out.2.2]; simp))⟩
              case measure => simp [intOf]; omega
          · obtain rfl : j = q := by omega
            have ht : p.take j = p := List.take_of_length_le (by rw [Hpl.out]; exact Nat.le_refl _)
            obtain ⟨g1, g2, g3⟩ := hcnt.out
            rw [ht] at g1 g2 g3
            obtain ⟨f1, f2, f3, f4⟩ := HX.out
            rw [← g3] at f1
            rw [← g1, ← g2] at f2 f3 f4
            subst f1
            clear g1 g2 g3 hcnt ht
            have p1 : decide ((1 : Int) < (h : Int) - (a : Int)) = false := by simp; omega
            have p2 : decide ((1 : Int) < (a : Int) - (h : Int)) = false := by simp; omega
            have s1 : IntKind.i64.wrap ((h : Int) - (a : Int)) = (h : Int) - (a : Int) := IntWalk.i64_in _ (by omega)
            have s2 : IntKind.i64.wrap ((a : Int) - (h : Int)) = (a : Int) - (h : Int) := IntWalk.i64_in _ (by omega)
            simp at f4
            try subst f4
            go_wp2_with (fail)
            go_roundw
            case rel => exact ⟨k + 1, by omega, by go_num, HB6.out⟩
            case measure => simp [intOf]; omega
      · obtain rfl : k = n := by omega
        go_wp2_with (fail)
        go_ret
        exact ⟨rfl, below_of HB4.out hB.out HB4.out.size⟩
theorem FixturesFull_walk (w : World) (A : Option Addr) (n c : Nat) (cl : List Int) (hl : cl.length = n) (hnc : n ≤ c) (hcm : c ≤ maxLen) (hA : Cells w A (cl.map (Value.int .i64))) (_hw : ∀ x ∈ cl, (Lit.int .i64 x).wf = true) (dbl : Bool) :
    Calls Try.prog 6 #[.slice A n c, .bool dbl] w (Fine w) := by
  cases hv : Fix.validC cl with
  | false => exact full_no w A n c cl hl hnc hcm hA dbl hv
  | true => exact full_yes w A n c cl hl hnc hcm hA dbl hv
-- the row
theorem fixturesFull_own : ownKnob Try.prog.godebug = none := by kernel_rfl
theorem fixturesFull_laidOut : laidOutB Try.prog = true := by kernel_rfl
theorem fixturesFull_readable : (Try.f6.params.toList.all fun t => Try.prog.readableRec t && decide (t < Try.prog.types.size)) = true := by kernel_rfl
set_option maxRecDepth 100000 in
theorem fixturesFull_lifted (os : Os) (started : os.Started) (H : Type) (enc : TypeId × Value → H) :
    ReturnsInHanded {} Try.checked os 6 .any (Rows.fixturesFullSpec.pre6 enc Try.prog Try.f6 Rows.fixturesFullRow.domain false) (Rows.fixturesFullSpec.post enc Try.prog Try.f6 false true false false) := by
  refine returnsInHanded_of_change (C := Try.checked) fixturesFull_own started (by kernel_rfl) Try.func6
    (ChangeSpec.witness6 (enc := enc) (C := Try.checked) false ⟨#[], #[.slice none 0 0, .bool false], []⟩ 8 (by kernel_rfl) (by kernel_rfl) (by kernel_rfl) (by kernel_rfl)) ?_
  intro W base args ds gs before hval0 hW hcnd _
  have hval : ∀ (j : Nat) t v, Try.f6.params[j]? = some t → args[j]? = some v → Value.okWide Try.prog W .any base t v := hval0
  have hW' := hW
  obtain ⟨p, q, hA0, hV, rfl, hfz, hnd⟩ := hW
  have hA : DataW.TrodAll enc Try.prog W 0 (fun _ => true) true Try.f6.params.toList args.toList ds p := hA0
  rw [Try.params6] at hA hval
  obtain ⟨v0, vs0, d0, ds0, p0, q0, hargs, rfl, rfl, h0, r0⟩ := trodAll_cons hA
  obtain ⟨v1, vs1, d1, ds1, p1, q1, rfl, rfl, rfl, h1, r1⟩ := trodAll_cons r0
  obtain ⟨rfl, rfl, rfl⟩ := trodAll_nil r1
  obtain rfl : args = #[v0, v1] := by cases args; simp_all
  obtain ⟨rfl, rfl⟩ := trodVars_none hV
  obtain ⟨A0, n0, c0, xs0, rfl, l0, nc0, cm0, g0, w0⟩ := open_intslice Try.underlying22 Try.underlying3 (by kernel_rfl) (hval 0 22 v0 rfl rfl) h0
  obtain ⟨a1, rfl, rfl, rfl⟩ := open_bool Try.underlying4 (hval 1 4 v1 rfl rfl) h1
  refine (FixturesFull_walk W A0 n0 c0 xs0 l0 nc0 cm0 g0 w0 a1).mono fun e W' ⟨he, hb⟩ => ?_
  subst he
  simp only [List.append_nil] at hW'
  refine ⟨_, rfl, law_post fixturesFull_laidOut ?_ (by kernel_rfl) Try.underlying4 rfl hW' rfl rfl rfl hb⟩
  intro t ht
  have hr := List.all_eq_true.1 fixturesFull_readable t ht
  rw [Bool.and_eq_true] at hr
  exact ⟨hr.1, of_decide_eq_true hr.2⟩
theorem fixturesFull_over : Rows.fixturesFullRow.holds Try.pinned (OpenSpec.ofChange Rows.fixturesFullSpec) :=
  OpenClaim.holds_of_wide 6 Try.f6 rfl rfl rfl rfl rfl rfl rfl ⟨rfl, rfl, rfl, rfl, rfl⟩ rfl rfl rfl rfl rfl (by kernel_rfl) Try.func6 (by kernel_rfl)
    (of_decide_eq_true (by kernel_rfl)) (by unfold Func.isWrapper; rw [if_neg (of_decide_eq_false (by kernel_rfl))]; exact ⟨rfl, rfl⟩)
    (fun os started H enc _ => fixturesFull_lifted os started H enc)
theorem fixturesFull_proved : Rows.FixturesFullSaid := fixturesFull_over
#print axioms fixturesFull_proved
end Go.Proofs.Ytpmkebejfnflfaa
