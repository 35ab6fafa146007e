/- The statement FixturesCheckSpecSaid: for every list and clubs, Check, Full, Pattern and Breaks match the specification; no condition beside the row's own. -/
import Derived.Test.YtpmkebejfnflfaaFOl
import Derived.Test.YtpmkebejfnflfaaFShort
import Derived.Test.YtpmkebejfnflfaaFRf5
namespace Go.Proofs.Ytpmkebejfnflfaa
open Go.RowKit Go.WideShapes Go.ChangeShapes Go.ChangeAt
set_option linter.unusedVariables false
set_option linter.unusedSimpArgs false
theorem short_partsC {ls : List (List (Int × Int))} (h : Fix.shortR ls = true) : ls.length ≤ 50 ∧ ls.flatten.length ≤ 160 := by
  unfold Fix.shortR at h
  simpa using h
set_option maxRecDepth 100000 in
set_option maxHeartbeats 8000000 in
/-- The list is long, or there are many clubs. -/
theorem check_no (w : World) (A : Option Addr) (n c : Nat) (ls : List (List (Int × Int))) (hl : ls.length = n) (hnc : n ≤ c) (hcm : c ≤ maxLen) (hC : RoundsC w A ls) (hs : ∀ l ∈ ls, l.length * 16 ≤ reachBytes)
    (B : Option Addr) (m d : Nat) (hmd : m ≤ d) (hdm : d ≤ maxLen) (dbl : Bool) (club : Int) (h : Fix.shortR ls = false ∨ 60 < m) :
    Calls Try.prog 4 #[.agg #[.slice A n c], .slice B m d, .bool dbl, .int .i64 club] w (Fine w) := by
  have HS := Lib.hid (fun W h => short_any A n c ls W hl hnc hcm h hs)
  have HC := Lib.hid hC
  clear hl hC hs
  unfold maxLen at *
  by_cases hsh : Fix.shortR ls = true
  · have hm : 60 < m := by
      rcases h with h | h
      · rw [hsh] at h; cases h
      · exact h
    rw [hsh] at HS
    have q1 : decide ((60 : Int) < (m : Int)) = true := by simp; omega
    clear hsh h
    go_enter Try.func4, Try.ntmps4
    go_wp2_with (fail)
    generalize hge : World.alloc _ _ = w0
    have H0 := Lib.hid (show Blk w0 w.heap.size 26 #[.slice A n c] by subst hge; exact Blk.new w _ _)
    have HB0 := Lib.hid (show Below w.heap.size w w0 by subst hge; exact (Below.refl _ _).alloc (Nat.le_refl _) _)
    clear hge
    refine (fsane_any w0).mono ?_
    rintro e w1 ⟨rfl, hb1⟩
    have H1 := Lib.hid (H0.out.below hb1)
    have HB1 := Lib.hid (below_of HB0.out hb1 HB0.out.size)
    clear hb1 H0
    have q0 := H1.out.cellv' (i := 0) rfl
    go_wp2_with (fail)
    refine (HS.out w1 (HC.out.below HB1.out)).mono ?_
    rintro e w2 ⟨rfl, hb2⟩
    have HB2 := Lib.hid (below_of HB1.out hb2 HB1.out.size)
    clear hb2
    go_wp2_with (fail)
    go_ret
    exact ⟨rfl, HB2.out⟩
  · rw [show Fix.shortR ls = false by simpa using hsh] at HS
    clear hsh h
    go_enter Try.func4, Try.ntmps4
    go_wp2_with (fail)
    generalize hge : World.alloc _ _ = w0
    have H0 := Lib.hid (show Blk w0 w.heap.size 26 #[.slice A n c] by subst hge; exact Blk.new w _ _)
    have HB0 := Lib.hid (show Below w.heap.size w w0 by subst hge; exact (Below.refl _ _).alloc (Nat.le_refl _) _)
    clear hge
    refine (fsane_any w0).mono ?_
    rintro e w1 ⟨rfl, hb1⟩
    have H1 := Lib.hid (H0.out.below hb1)
    have HB1 := Lib.hid (below_of HB0.out hb1 HB0.out.size)
    clear hb1 H0
    have q0 := H1.out.cellv' (i := 0) rfl
    go_wp2_with (fail)
    refine (HS.out w1 (HC.out.below HB1.out)).mono ?_
    rintro e w2 ⟨rfl, hb2⟩
    have HB2 := Lib.hid (below_of HB1.out hb2 HB1.out.size)
    clear hb2
    go_wp2_with (fail)
    go_ret
    exact ⟨rfl, HB2.out⟩
set_option maxRecDepth 100000 in
set_option maxHeartbeats 16000000 in
theorem check_yes (w : World) (A : Option Addr) (n c : Nat) (ls : List (List (Int × Int))) (hl : ls.length = n) (hnc : n ≤ c) (hcm : c ≤ maxLen) (hC : RoundsC w A ls) (hwf : ∀ l ∈ ls, ∀ x ∈ l, WfM x) (hs : ∀ l ∈ ls, l.length * 16 ≤ reachBytes)
    (B : Option Addr) (m d : Nat) (cl : List Int) (hcl : cl.length = m) (hmd : m ≤ d) (hdm : d ≤ maxLen) (hK : Ints w B cl) (dbl : Bool) (club : Int) (hsh : Fix.shortR ls = true) (hm60 : m ≤ 60) :
    Calls Try.prog 4 #[.agg #[.slice A n c], .slice B m d, .bool dbl, .int .i64 club] w (Fine w) := by
  have HS := Lib.hid (fun W h => short_any A n c ls W hl hnc hcm h hs)
  rw [hsh] at HS
  obtain ⟨s1, s2⟩ := short_partsC hsh
  have hn50 : n ≤ 50 := by rw [← hl]; exact s1
  have hll : ∀ l ∈ ls, l.length ≤ 1000000 := fun l h => by have := Fix.len_in h; omega
  have HP1 := Lib.hid (fun W h => pattern_any A n c ls club W hl (by omega) h hll)
  have HP2 := Lib.hid (fun W h => rpattern_any A n c ls club W hl (by omega) h hll)
  have HF1 := Lib.hid (fun W h h' => full_any A n c ls B m d cl dbl W hl (by omega) h hcl hmd h' (by omega) hwf)
  have HF2 := Lib.hid (fun W h h' => rfull_any A n c ls B m d cl dbl W hl (by omega) h hcl hmd hdm h' (by omega))
  have HC1 := Lib.hid (fun W h h' => check30_any A n c ls B m d cl W hl (by omega) h hcl h' (by omega) hwf)
  have HC2 := Lib.hid (fun W h h' => rcheck_any A n c ls B m d cl W hl (by omega) h hcl hmd hdm h' (by omega))
  have HB1' := Lib.hid (fun W h => breaks_any A n c ls club W hl (by omega) h hll)
  have HB2' := Lib.hid (fun W h => rbreaks_any A n c ls club W hl (by omega) h hll)
  have Hpl := Lib.hid (show (ls.map (Fix.patM club)).length = n by rw [List.length_map, hl])
  generalize ls.map (Fix.patM club) = p at *
  generalize Fix.fullR cl ls dbl = fv at *
  generalize Fix.checkE cl ls = ce at *
  generalize Fix.breaksP p = bk at *
  have HSI := Lib.hid (fun Aa ca Ab cb W (h : Cells W Aa (intV p)) (h' : Cells W Ab (intV p)) => sameInts_any Aa n ca p Ab n cb p W Hpl.out Hpl.out (by omega) (by omega) h h')
  rw [show decide (p = p) = true by simp] at HSI
  have HC := Lib.hid hC
  have HK := Lib.hid hK
  clear hl hC hs hwf hcl hK hsh s1 s2 hll
  unfold maxLen at hcm hdm
  have qm : decide ((60 : Int) < (m : Int)) = false := by simp; omega
  go_enter Try.func4, Try.ntmps4
  go_wp2_with (fail)
  generalize hge : World.alloc _ _ = w0
  have H0 := Lib.hid (show Blk w0 w.heap.size 26 #[.slice A n c] by subst hge; exact Blk.new w _ _)
  have HB0 := Lib.hid (show Below w.heap.size w w0 by subst hge; exact (Below.refl _ _).alloc (Nat.le_refl _) _)
  clear hge
  refine (fsane_any w0).mono ?_
  rintro e w1 ⟨rfl, hb1⟩
  have H1 := Lib.hid (H0.out.below hb1)
  have HB1 := Lib.hid (below_of HB0.out hb1 HB0.out.size)
  clear hb1 H0
  have q0 := H1.out.cellv' (i := 0) rfl
  go_wp2_with (fail)
  refine (HS.out w1 (HC.out.below HB1.out)).mono ?_
  rintro e w2 ⟨rfl, hb2⟩
  have HB2 := Lib.hid (below_of HB1.out hb2 HB1.out.size)
  have q1 := cellkR hb2 q0
  clear hb2 H1 q0 HS
  go_wp2_with (fail)
  refine (HF1.out w2 (HC.out.below HB2.out) (HK.out.below HB2.out)).mono ?_
  rintro e w3 ⟨rfl, hb3⟩
  have HB3 := Lib.hid (below_of HB2.out hb3 HB2.out.size)
  have q2 := cellkR hb3 q1
  clear hb3 q1 HF1
  go_wp2_with (fail)
  refine (HF2.out w3 (HC.out.below HB3.out) (HK.out.below HB3.out)).mono ?_
  rintro e w4 ⟨rfl, hb4⟩
  have HB4 := Lib.hid (below_of HB3.out hb4 HB3.out.size)
  have q3 := cellkR hb4 q2
  have HC4 := Lib.hid (HC.out.below HB4.out)
  have HK4 := Lib.hid (HK.out.below HB4.out)
  clear hb4 q2 HF2 HC HK
  go_wp2_with (fail)
  go_region_held3 (fun W => W.cell? ⟨w.heap.size, 0, none⟩ = some (.slice A n c) ∧ Below w4.heap.size w4 W)
    (first
      | exact ⟨by assumption, by assumption⟩
      | exact ⟨q3, below_drewN (Below.refl _ _) 1⟩)
    (first
      | (go_at_call 17; go_split_ands; refine (HC1.out _ (HC4.out.below (by assumption)) (HK4.out.below (by assumption))).mono ?_; rintro e wa ⟨rfl, hbwa⟩; have k0 : wa.cell? ⟨w.heap.size, 0, none⟩ = some (.slice A n c) := cellkR hbwa (by assumption); have k1 : Below w4.heap.size w4 wa := below_of (by assumption) hbwa (Below.size (by assumption)))
      | (go_at_call 18; go_split_ands; refine (HC2.out _ (HC4.out.below (by assumption)) (HK4.out.below (by assumption))).mono ?_; rintro e wb ⟨rfl, hbwb⟩; have k0 : wb.cell? ⟨w.heap.size, 0, none⟩ = some (.slice A n c) := cellkR hbwb (by assumption); have k1 : Below w4.heap.size w4 wb := below_of (by assumption) hbwb (Below.size (by assumption)))
      | (go_at_call 20; go_split_ands; refine (HP1.out _ (HC4.out.below (by assumption))).mono ?_; rintro e wc ⟨Aa, ca, rfl, howna, hca, hma, hbwc⟩; have CA := Lib.hid (Cells.own howna); have k0 : wc.cell? ⟨w.heap.size, 0, none⟩ = some (.slice A n c) := cellkR hbwc (by assumption); have k1 : Below w4.heap.size w4 wc := below_of (by assumption) hbwc (Below.size (by assumption)))
      | (go_at_call 21; go_split_ands; refine (HP2.out _ (HC4.out.below (by assumption))).mono ?_; rintro e wd ⟨Ab, cb, rfl, hCb, hcb, hmb, hbwd⟩; have CB := Lib.hid hCb; have CA2 := Lib.hid (CA.out.below hbwd); have k0 : wd.cell? ⟨w.heap.size, 0, none⟩ = some (.slice A n c) := cellkR hbwd (by assumption); have k1 : Below w4.heap.size w4 wd := below_of (by assumption) hbwd (Below.size (by assumption)))
      | (go_at_call 19; go_split_ands; refine (HSI.out _ _ _ _ _ CA2.out CB.out).mono ?_; rintro e we ⟨rfl, hbwe⟩; have k0 : we.cell? ⟨w.heap.size, 0, none⟩ = some (.slice A n c) := cellkR hbwe (by assumption); have k1 : Below w4.heap.size w4 we := below_of (by assumption) hbwe (Below.size (by assumption)))
      | (go_at_call 22; go_split_ands; refine (HB1'.out _ (HC4.out.below (by assumption))).mono ?_; rintro e wf ⟨rfl, hbwf⟩; have k0 : wf.cell? ⟨w.heap.size, 0, none⟩ = some (.slice A n c) := cellkR hbwf (by assumption); have k1 : Below w4.heap.size w4 wf := below_of (by assumption) hbwf (Below.size (by assumption)))
      | (go_at_call 23; go_split_ands; refine (HB2'.out _ (HC4.out.below (by assumption))).mono ?_; rintro e wg ⟨rfl, hbwg⟩; have k0 : wg.cell? ⟨w.heap.size, 0, none⟩ = some (.slice A n c) := cellkR hbwg (by assumption); have k1 : Below w4.heap.size w4 wg := below_of (by assumption) hbwg (Below.size (by assumption)))
      | (fail))
  all_goals
    go_wp2_with (fail)
    go_ret
    exact ⟨rfl, below_of HB4.out (by assumption) HB4.out.size⟩
theorem FixturesCheckSpec_walk (w : World) (A : Option Addr) (n c : Nat) (ls : List (List (Int × Int))) (hl : ls.length = n) (hnc : n ≤ c) (hcm : c ≤ maxLen) (hC : RoundsC w A ls) (hwf : ∀ l ∈ ls, ∀ x ∈ l, WfM x) (hs : ∀ l ∈ ls, l.length * 16 ≤ reachBytes)
    (B : Option Addr) (m d : Nat) (cl : List Int) (hcl : cl.length = m) (hmd : m ≤ d) (hdm : d ≤ maxLen) (hK : Cells w B (cl.map (Value.int .i64))) (_hw : ∀ x ∈ cl, (Lit.int .i64 x).wf = true) (dbl : Bool) (club : Int) (_wc : (Lit.int .i64 club).wf = true) :
    Calls Try.prog 4 #[.agg #[.slice A n c], .slice B m d, .bool dbl, .int .i64 club] w (Fine w) := by
  cases hsh : Fix.shortR ls with
  | false => exact check_no w A n c ls hl hnc hcm hC hs B m d hmd hdm dbl club (.inl hsh)
  | true =>
    by_cases hm : 60 < m
    · exact check_no w A n c ls hl hnc hcm hC hs B m d hmd hdm dbl club (.inr hm)
    · exact check_yes w A n c ls hl hnc hcm hC hwf hs B m d cl hcl hmd hdm hK dbl club hsh (by omega)
-- the row
theorem fixturesCheckSpec_own : ownKnob Try.prog.godebug = none := by kernel_rfl
theorem fixturesCheckSpec_laidOut : laidOutB Try.prog = true := by kernel_rfl
theorem fixturesCheckSpec_readable : (Try.f4.params.toList.all fun t => Try.prog.readableRec t && decide (t < Try.prog.types.size)) = true := by kernel_rfl
set_option maxRecDepth 100000 in
theorem fixturesCheckSpec_lifted (os : Os) (started : os.Started) (H : Type) (enc : TypeId × Value → H) :
    ReturnsInHanded {} Try.checked os 4 .any (Rows.fixturesCheckSpecSpec.pre6 enc Try.prog Try.f4 Rows.fixturesCheckSpecRow.domain false) (Rows.fixturesCheckSpecSpec.post enc Try.prog Try.f4 false true false false) := by
  refine returnsInHanded_of_change_sized (C := Try.checked) fixturesCheckSpec_own started (by kernel_rfl) Try.func4
    (ChangeSpec.witness6 (enc := enc) (C := Try.checked) false ⟨#[], #[.agg #[.slice none 0 0], .slice none 0 0, .bool false, .int .i64 0], []⟩ 8 (by kernel_rfl) (by kernel_rfl) (by kernel_rfl) (by kernel_rfl)) ?_
  intro W base args ds gs before hval0 hW hcnd hsz _
  have hval : ∀ (j : Nat) t v, Try.f4.params[j]? = some t → args[j]? = some v → Value.okWide Try.prog W .any base t v := hval0
  have hW' := hW
  obtain ⟨p, q, hA0, hV, rfl, hfz, hnd⟩ := hW
  have hA : DataW.TrodAll enc Try.prog W 0 (fun _ => true) true Try.f4.params.toList args.toList ds p := hA0
  rw [Try.params4] at hA hval
  obtain ⟨v0, vs0, d0, ds0, p0, q0, hargs, rfl, rfl, h0, r0⟩ := trodAll_cons hA
  obtain ⟨v1, vs1, d1, ds1, p1, q1, rfl, rfl, rfl, h1, r1⟩ := trodAll_cons r0
  obtain ⟨v2, vs2, d2, ds2, p2, q2, rfl, rfl, rfl, h2, r2⟩ := trodAll_cons r1
  obtain ⟨v3, vs3, d3, ds3, p3, q3, rfl, rfl, rfl, h3, r3⟩ := trodAll_cons r2
  obtain ⟨rfl, rfl, rfl⟩ := trodAll_nil r3
  obtain rfl : args = #[v0, v1, v2, v3] := by cases args; simp_all
  obtain ⟨rfl, rfl⟩ := trodVars_none hV
  obtain ⟨A0, n0, c0, ls0, rfl, e0, nc0, cm0, g0, w0, z0⟩ := open_list (hval 0 26 v0 rfl rfl) h0
  have z0' := list_reach hsz (j := 0) rfl rfl z0
  obtain ⟨A1, n1, c1, xs1, rfl, l1, nc1, cm1, g1, w1⟩ := open_intslice Try.underlying22 Try.underlying3 (by kernel_rfl) (hval 1 22 v1 rfl rfl) h1
  obtain ⟨a2, rfl, rfl, rfl⟩ := open_bool Try.underlying4 (hval 2 4 v2 rfl rfl) h2
  obtain ⟨a3, rfl, rfl, rfl, w3⟩ := open_int Try.underlying3 (hval 3 3 v3 rfl rfl) h3
  refine (FixturesCheckSpec_walk W A0 n0 c0 ls0 e0 nc0 cm0 g0 w0 z0' A1 n1 c1 xs1 l1 nc1 cm1 g1 w1 a2 a3 w3).mono fun e W' ⟨he, hb⟩ => ?_
  subst he
  simp only [List.append_nil] at hW'
  refine ⟨_, rfl, law_post fixturesCheckSpec_laidOut ?_ (by kernel_rfl) Try.underlying4 rfl hW' rfl rfl rfl hb⟩
  intro t ht
  have hr := List.all_eq_true.1 fixturesCheckSpec_readable t ht
  rw [Bool.and_eq_true] at hr
  exact ⟨hr.1, of_decide_eq_true hr.2⟩
theorem fixturesCheckSpec_over : Rows.fixturesCheckSpecRow.holds Try.pinned (OpenSpec.ofChange Rows.fixturesCheckSpecSpec) :=
  OpenClaim.holds_of_wide 4 Try.f4 rfl rfl rfl rfl rfl rfl rfl ⟨rfl, rfl, rfl, rfl, rfl⟩ rfl rfl rfl rfl rfl (by kernel_rfl) Try.func4 (by kernel_rfl)
    (of_decide_eq_true (by kernel_rfl)) (by unfold Func.isWrapper; rw [if_neg (of_decide_eq_false (by kernel_rfl))]; exact ⟨rfl, rfl⟩)
    (fun os started H enc _ => fixturesCheckSpec_lifted os started H enc)
theorem fixturesCheckSpec_proved : Rows.FixturesCheckSpecSaid := fixturesCheckSpec_over
#print axioms fixturesCheckSpec_proved
end Go.Proofs.Ytpmkebejfnflfaa
