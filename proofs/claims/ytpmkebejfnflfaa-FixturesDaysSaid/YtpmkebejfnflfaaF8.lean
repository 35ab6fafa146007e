/- The statement FixturesDaysSaid: for all arguments for which Dates succeeds, there are as many days as rounds, within the window, all on the day of the week, at least rest days apart, and none of them could be earlier; no condition beside the row's own. -/
import Derived.Test.YtpmkebejfnflfaaFOp
namespace Go.Proofs.Ytpmkebejfnflfaa
open Go.RowKit Go.WideShapes Go.ChangeShapes Go.ChangeAt
namespace Fix
def leastAt (a rest : Int) (l : List Int) (k : Nat) : Int := if k = 0 then a else l.getD (k - 1) 0 + rest
def goodDay (a b rest wd : Int) (l : List Int) (k : Nat) : Prop := validB (l.getD k 0) = true ∧ (l.getD k 0 + 5) % 7 = wd ∧ leastAt a rest l k ≤ l.getD k 0 ∧ l.getD k 0 < leastAt a rest l k + 7 ∧ l.getD k 0 ≤ b
theorem next_good {x wd : Int} (h : nextE x wd = 0) : nextN x wd = nxt x wd ∧ validB (nxt x wd) = true ∧ (0 ≤ wd ∧ wd ≤ 6) := by
  unfold nextE at h
  unfold nextN
  cases h1 : validB x with
  | false => rw [h1] at h; simp at h
  | true =>
    by_cases h2 : 0 ≤ wd ∧ wd ≤ 6
    · cases h3 : validB (nxt x wd) with
      | false => rw [h1, if_pos h2, h3] at h; simp at h
      | true => simp [h2]
    · rw [h1, if_neg h2] at h; simp at h
theorem getD_left {l m : List Int} {k : Nat} (h : k < l.length) : (l ++ m).getD k 0 = l.getD k 0 := by
  rw [List.getD_eq_getElem?_getD, List.getElem?_append_left h, List.getD_eq_getElem?_getD]
theorem leastAt_left {a rest : Int} {l m : List Int} {k : Nat} (h : k ≤ l.length) : leastAt a rest (l ++ m) k = leastAt a rest l k := by
  unfold leastAt
  by_cases hk : k = 0
  · rw [if_pos hk, if_pos hk]
  · rw [if_neg hk, if_neg hk, getD_left (by omega)]
theorem days_good {a b rest wd : Int} : ∀ {n : Nat} {l : List Int} {fr : Int}, days a b rest wd n = some (l, fr) → fr = leastAt a rest l n ∧ ∀ k, k < n → goodDay a b rest wd l k
  | 0, l, fr, h => by
    simp [days] at h
    exact ⟨by unfold leastAt; rw [if_pos rfl, h.2], fun k hk => by omega⟩
  | n + 1, l, fr, h => by
    rw [days] at h
    cases hd : days a b rest wd n with
    | none => rw [hd] at h; simp at h
    | some s =>
      obtain ⟨l', fr'⟩ := s
      rw [hd] at h
      simp only [] at h
      split at h
      · rename_i hc
        simp only [Option.some.injEq, Prod.mk.injEq] at h
        obtain ⟨h1, h2⟩ := h
        obtain ⟨g1, g2⟩ := days_good hd
        have hl := days_len hd
        obtain ⟨n1, n2, n3⟩ := next_good hc.1
        obtain ⟨m1, m2, m3⟩ := nxt_spec fr' wd n3.1 n3.2
        have hg : l.getD n 0 = nextN fr' wd := by rw [← h1, List.getD_eq_getElem?_getD, List.getElem?_append_right (by omega), hl]; simp
        refine ⟨by unfold leastAt; rw [if_neg (by omega), Nat.add_sub_cancel, hg, h2], fun k hk => ?_⟩
        rcases Nat.lt_or_ge k n with hkn | hkn
        · obtain ⟨e1, e2, e3, e4, e5⟩ := g2 k hkn
          unfold goodDay
          rw [← h1, getD_left (by omega), leastAt_left (by omega)]
          exact ⟨e1, e2, e3, e4, e5⟩
        · obtain rfl : k = n := by omega
          unfold goodDay
          have hle : leastAt a rest l k = fr' := by rw [← h1, leastAt_left (by omega), ← g1]
          rw [hg, hle, n1]
          exact ⟨n2, m3, m1, by omega, by rw [← n1]; exact hc.2⟩
      · simp at h
theorem dates_cases (rounds a b rest wd : Int) : (datesL rounds a b rest wd = [] ∧ (datesE rounds a b rest wd = 1 ∨ datesE rounds a b rest wd = 2)) ∨
    ∃ n : Nat, rounds = (n : Int) ∧ n ≤ 46 ∧ (0 ≤ a ∧ a ≤ 1048576 ∧ 0 ≤ b ∧ b ≤ 1048576) ∧ (1 ≤ rest ∧ rest ≤ 366) ∧ datesE rounds a b rest wd = 0 ∧ (datesL rounds a b rest wd).length = n ∧ ∀ k, k < n → goodDay a b rest wd (datesL rounds a b rest wd) k := by
  cases hok : okDates rounds a b rest wd with
  | false => exact .inl ⟨(dates_bad hok).1, .inl (dates_bad hok).2⟩
  | true =>
    obtain ⟨⟨h1, h2⟩, h3, h4, -⟩ := (okDates_parts rounds a b rest wd).1 hok
    obtain ⟨n, rfl⟩ : ∃ n : Nat, rounds = (n : Int) := ⟨rounds.toNat, by omega⟩
    cases hd : days a b rest wd n with
    | none => exact .inl ⟨(dates_none hok hd).1, .inr (dates_none hok hd).2⟩
    | some s =>
      obtain ⟨l, fr⟩ := s
      obtain ⟨e1, e2⟩ := dates_some hok hd
      rw [e1]
      have hi := (Iv.okI_iff _).1 h3
      exact .inr ⟨n, rfl, by omega, ⟨hi.1, hi.2.1, hi.2.2.1, hi.2.2.2.1⟩, h4, e2, days_len hd, (days_good hd).2⟩
end Fix
set_option linter.unusedVariables false
set_option linter.unusedSimpArgs false
set_option maxRecDepth 100000 in
set_option maxHeartbeats 8000000 in
theorem days_err (w : World) (rounds a b rest wd : Int) (er : Int) (her : er = 1 ∨ er = 2) (h1 : Fix.datesL rounds a b rest wd = []) (h2 : Fix.datesE rounds a b rest wd = er) :
    Calls Try.prog 8 #[.int .i64 rounds, .agg #[.int .i64 a, .int .i64 b], .int .i64 rest, .int .i64 wd] w (Fine w) := by
  have HD := Lib.hid (fun W => dates_any rounds a b rest wd W)
  rw [h1, h2] at HD
  clear h1 h2
  rcases her with rfl | rfl
  all_goals
    go_enter Try.func8, Try.ntmps8
    go_wp2_with (fail)
    generalize hge : World.alloc _ _ = w0
    have HA0 := Lib.hid (show Blk w0 w.heap.size 41 #[.int .i64 a, .int .i64 b] by subst hge; exact Blk.new w _ _)
    have HB0 := Lib.hid (show Below w.heap.size w w0 by subst hge; exact (Below.refl _ _).alloc (Nat.le_refl _) _)
    clear hge
    refine (fsane_any w0).mono ?_
    rintro e w1 ⟨rfl, hb1⟩
    have HA1 := Lib.hid (HA0.out.below hb1)
    have HB1 := Lib.hid (below_of HB0.out hb1 HB0.out.size)
    clear hb1 HA0
    have q0 := HA1.out.cellv' (i := 0) rfl
    have q1 := HA1.out.cellv' (i := 1) rfl
    go_wp2_with (fail)
    refine (HD.out w1).mono ?_
    rintro e w2 ⟨A2, n2, c2, rfl, hn2, hc2, hm2, h46, hC2, hb2⟩
    have HB2 := Lib.hid (below_of HB1.out hb2 HB1.out.size)
    obtain rfl : n2 = 0 := hn2.symm
    clear hb2 HA1 q0 q1 hC2
    go_wp2_with (fail)
    go_ret
    exact ⟨rfl, HB2.out⟩
set_option maxRecDepth 100000 in
set_option maxHeartbeats 8000000 in
theorem FixturesDays_walk (w : World) (rounds : Int) (wr : (Lit.int .i64 rounds).wf = true) (a b : Int) (wa : (Lit.int .i64 a).wf = true) (wb : (Lit.int .i64 b).wf = true) (rest : Int) (wre : (Lit.int .i64 rest).wf = true) (wd : Int) (wwd : (Lit.int .i64 wd).wf = true) :
    Calls Try.prog 8 #[.int .i64 rounds, .agg #[.int .i64 a, .int .i64 b], .int .i64 rest, .int .i64 wd] w (Fine w) := by
  rcases Fix.dates_cases rounds a b rest wd with ⟨h1, h2⟩ | ⟨n, rfl, hn46, hab, hre, he, hlen, hg⟩
  · exact days_err w rounds a b rest wd _ h2 h1 rfl
  have HD := Lib.hid (fun W => dates_any n a b rest wd W)
  rw [he] at HD
  generalize Fix.datesL n a b rest wd = l at HD hlen hg
  have Hg := Lib.hid hg
  have Hlen := Lib.hid hlen
  clear wr wa wb wre wwd he hg hlen
  go_enter Try.func8, Try.ntmps8
  go_wp2_with (fail)
  generalize hge : World.alloc _ _ = w0
  have HA0 := Lib.hid (show Blk w0 w.heap.size 41 #[.int .i64 a, .int .i64 b] by subst hge; exact Blk.new w _ _)
  have HB0 := Lib.hid (show Below w.heap.size w w0 by subst hge; exact (Below.refl _ _).alloc (Nat.le_refl _) _)
  clear hge
  refine (fsane_any w0).mono ?_
  rintro e w1 ⟨rfl, hb1⟩
  have HA1 := Lib.hid (HA0.out.below hb1)
  have HB1 := Lib.hid (below_of HB0.out hb1 HB0.out.size)
  clear hb1 HA0
  have q0 := HA1.out.cellv' (i := 0) rfl
  have q1 := HA1.out.cellv' (i := 1) rfl
  go_wp2_with (fail)
  refine (HD.out w1).mono ?_
  rintro e w2 ⟨A2, n2, c2, rfl, hn2, hc2, hm2, h46, hC2, hb2⟩
  obtain rfl : n = n2 := by rw [← hn2, Hlen.out]
  have HA2 := Lib.hid (HA1.out.below hb2)
  have HB2 := Lib.hid (below_of HB1.out hb2 HB1.out.size)
  have HC2 := Lib.hid (show Ints w2 A2 l from hC2)
  clear hb2 HA1 q0 q1 hC2 hn2
  have q0 := HA2.out.cellv' (i := 0) rfl
  have q1 := HA2.out.cellv' (i := 1) rfl
  have q2 : decide (rest < 1) = false := by simp; omega
  go_wp2_with (fail)
  go_loop [43, 11] (fun i le => ∃ k : Nat, k ≤ n ∧ i = .int .i64 k ∧ le = .int .i64 (Fix.leastAt a rest l k)) (fun i _ => n - (intOf i).toNat)
  case atStart => exact ⟨0, Nat.zero_le _, rfl, by unfold Fix.leastAt; rw [if_pos rfl]⟩
  case round =>
    obtain ⟨k, hk, rfl, rfl⟩ := hrel
    by_cases hlt : k < n
    · obtain ⟨g1, g2, g3, g4, g5⟩ := Hg.out k hlt
      have hnext : Fix.leastAt a rest l (k + 1) = l.getD k 0 + rest := by unfold Fix.leastAt; rw [if_neg (by omega), Nat.add_sub_cancel]
      have Hnext := Lib.hid hnext
      obtain ⟨b2, off2, rfl, hb2, hcs⟩ := HC2.out.at_ (k := k) (by rw [Hlen.out]; exact hlt)
      obtain ⟨x, hx⟩ := getElem?_lt (l := l) (k := k) (by rw [Hlen.out]; exact hlt)
      have hc1 := hcs k x hx
      rw [show x = l.getD k 0 by rw [List.getD_eq_getElem?_getD, hx]; rfl] at hc1
      clear hcs hx
      have hwn : wdN (l.getD k 0) = wd := by unfold wdN; rw [if_pos g1, g2]
      have hwe : wdE (l.getD k 0) = 0 := by unfold wdE; rw [if_pos g1]
      have HW := Lib.hid (fun W => Weekday_any (l.getD k 0) W)
      rw [hwn, hwe] at HW
      obtain ⟨d1, d2⟩ := (validB_iff _).1 g1
      clear hwn hwe hnext g1 g2
      generalize l.getD k 0 = d at *
      generalize Fix.leastAt a rest l k = le at *
      have p1 : decide (d < le) = false := by simp; omega
      have p2 : decide (le + 7 ≤ d) = false := by simp; omega
      have p3 : decide (b < d) = false := by simp; omega
      have s1 : IntKind.i64.wrap (le + 7) = le + 7 := IntWalk.i64_in _ (by omega)
      have s2 : IntKind.i64.wrap (d + rest) = d + rest := IntWalk.i64_in _ (by omega)
      go_wp2_with (fail)
      refine (HW.out w2).mono ?_
      rintro e w' ⟨rfl, rfl⟩
      go_wp2_with (fail)
      go_round
      case rel => exact ⟨k + 1, by omega, by go_num, by rw [Hnext.out]⟩
      case measure => simp [intOf]; omega
    · obtain rfl : k = n := by omega
      go_wp2_with (fail)
      go_ret
      exact ⟨rfl, HB2.out⟩
-- the row
theorem fixturesDays_own : ownKnob Try.prog.godebug = none := by kernel_rfl
theorem fixturesDays_laidOut : laidOutB Try.prog = true := by kernel_rfl
theorem fixturesDays_readable : (Try.f8.params.toList.all fun t => Try.prog.readableRec t && decide (t < Try.prog.types.size)) = true := by kernel_rfl
set_option maxRecDepth 100000 in
theorem fixturesDays_lifted (os : Os) (started : os.Started) (H : Type) (enc : TypeId × Value → H) :
    ReturnsInHanded {} Try.checked os 8 .any (Rows.fixturesDaysSpec.pre6 enc Try.prog Try.f8 Rows.fixturesDaysRow.domain false) (Rows.fixturesDaysSpec.post enc Try.prog Try.f8 false true false false) := by
  refine returnsInHanded_of_change (C := Try.checked) fixturesDays_own started (by kernel_rfl) Try.func8
    (ChangeSpec.witness6 (enc := enc) (C := Try.checked) false ⟨#[], #[.int .i64 0, .agg #[.int .i64 0, .int .i64 0], .int .i64 0, .int .i64 0], []⟩ 8 (by kernel_rfl) (by kernel_rfl) (by kernel_rfl) (by kernel_rfl)) ?_
  intro W base args ds gs before hval0 hW hcnd _
  have hval : ∀ (j : Nat) t v, Try.f8.params[j]? = some t → args[j]? = some v → Value.okWide Try.prog W .any base t v := hval0
  have hW' := hW
  obtain ⟨p, q, hA0, hV, rfl, hfz, hnd⟩ := hW
  have hA : DataW.TrodAll enc Try.prog W 0 (fun _ => true) true Try.f8.params.toList args.toList ds p := hA0
  rw [Try.params8] at hA hval
  obtain ⟨v0, vs0, d0, ds0, p0, q0, hargs, rfl, rfl, h0, r0⟩ := trodAll_cons hA
  obtain ⟨v1, vs1, d1, ds1, p1, q1, rfl, rfl, rfl, h1, r1⟩ := trodAll_cons r0
  obtain ⟨v2, vs2, d2, ds2, p2, q2, rfl, rfl, rfl, h2, r2⟩ := trodAll_cons r1
  obtain ⟨v3, vs3, d3, ds3, p3, q3, rfl, rfl, rfl, h3, r3⟩ := trodAll_cons r2
  obtain ⟨rfl, rfl, rfl⟩ := trodAll_nil r3
  obtain rfl : args = #[v0, v1, v2, v3] := by cases args; simp_all
  obtain ⟨rfl, rfl⟩ := trodVars_none hV
  obtain ⟨a0, rfl, rfl, rfl, w0⟩ := open_int Try.underlying3 (hval 0 3 v0 rfl rfl) h0
  obtain ⟨x1, y1, rfl, wx1, wy1⟩ := open_iv (hval 1 41 v1 rfl rfl) h1
  obtain ⟨a2, rfl, rfl, rfl, w2⟩ := open_int Try.underlying3 (hval 2 3 v2 rfl rfl) h2
  obtain ⟨a3, rfl, rfl, rfl, w3⟩ := open_int Try.underlying3 (hval 3 3 v3 rfl rfl) h3
  refine (FixturesDays_walk W a0 w0 x1 y1 wx1 wy1 a2 w2 a3 w3).mono fun e W' ⟨he, hb⟩ => ?_
  subst he
  simp only [List.append_nil] at hW'
  refine ⟨_, rfl, law_post fixturesDays_laidOut ?_ (by kernel_rfl) Try.underlying4 rfl hW' rfl rfl rfl hb⟩
  intro t ht
  have hr := List.all_eq_true.1 fixturesDays_readable t ht
  rw [Bool.and_eq_true] at hr
  exact ⟨hr.1, of_decide_eq_true hr.2⟩
theorem fixturesDays_over : Rows.fixturesDaysRow.holds Try.pinned (OpenSpec.ofChange Rows.fixturesDaysSpec) :=
  OpenClaim.holds_of_wide 8 Try.f8 rfl rfl rfl rfl rfl rfl rfl ⟨rfl, rfl, rfl, rfl, rfl⟩ rfl rfl rfl rfl rfl (by kernel_rfl) Try.func8 (by kernel_rfl)
    (of_decide_eq_true (by kernel_rfl)) (by unfold Func.isWrapper; rw [if_neg (of_decide_eq_false (by kernel_rfl))]; exact ⟨rfl, rfl⟩)
    (fun os started H enc _ => fixturesDays_lifted os started H enc)
theorem fixturesDays_proved : Rows.FixturesDaysSaid := fixturesDays_over
#print axioms fixturesDays_proved
end Go.Proofs.Ytpmkebejfnflfaa
