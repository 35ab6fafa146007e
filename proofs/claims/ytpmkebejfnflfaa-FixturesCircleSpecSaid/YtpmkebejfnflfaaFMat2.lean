/- The walk of matches (fixtures): the loops; Check. -/
import Derived.Test.YtpmkebejfnflfaaFMat
namespace Go.Proofs.Ytpmkebejfnflfaa
open Go.RowKit Go.Shelf Go.Lib
/-- What matches answers. -/
def MatPost (cl : List Int) (ls : List (List (Int × Int))) (w : World) (e : Ending) (w' : World) : Prop :=
  (∃ mv, e = .returned (.tuple #[mv, .int .i64 (Fix.checkE cl ls)]) ∧ ((Fix.checkE cl ls = 0 ∧ ∃ M, mv = .map (some M) ∧ MtSet w' M ls.flatten) ∨ (Fix.checkE cl ls ≠ 0 ∧ mv = .map none))) ∧ Below w.heap.size w w'
theorem matPost_bad {cl : List Int} {ls : List (List (Int × Int))} {w w' : World} {E : Int} (h : Fix.checkE cl ls = E) (hE : E ≠ 0) (hb : Below w.heap.size w w') : MatPost cl ls w (.returned (.tuple #[.map none, .int .i64 E])) w' :=
  ⟨⟨_, by rw [h], .inr ⟨by rw [h]; exact hE, rfl⟩⟩, hb⟩
theorem matPost_good {cl : List Int} {ls : List (List (Int × Int))} {w w' : World} {M : Nat} (h : Fix.checkE cl ls = 0) (hM : MtSet w' M ls.flatten) (hb : Below w.heap.size w w') : MatPost cl ls w (.returned (.tuple #[.map (some M), .int .i64 0])) w' :=
  ⟨⟨_, by rw [h], .inl ⟨h, M, rfl, hM⟩⟩, hb⟩
set_option linter.unusedVariables false in
set_option linter.unusedSimpArgs false in
set_option maxRecDepth 100000 in
set_option maxHeartbeats 16000000 in
theorem matches_any (A : Option Addr) (n c : Nat) (ls : List (List (Int × Int))) (B : Option Addr) (m d : Nat) (cl : List Int) (w : World) (hl : ls.length = n) (hn : n ≤ 1000000) (hC : RoundsC w A ls) (hm : cl.length = m) (hA : Ints w B cl) (hs : ls.flatten.length ≤ 1000000) (hwf : ∀ l ∈ ls, ∀ x ∈ l, WfM x) :
    Calls Try.prog 37 #[.agg #[.slice A n c], .slice B m d] w (MatPost cl ls w) := by
  have HV := Lib.hid (fun W (h : Ints W B cl) => fvalid_any B m d cl W hm h)
  have HC := Lib.hid hC
  have HA := Lib.hid hA
  have Hl := Lib.hid hl
  have Hm := Lib.hid hm
  have Hs := Lib.hid hs
  have Hwf := Lib.hid hwf
  clear hC hA hl hm hs hwf
  cases hv : Fix.validC cl with
  | false =>
    have HE := Lib.hid (show Fix.checkE cl ls = 1 by unfold Fix.checkE; rw [hv]; rfl)
    rw [hv] at HV
    clear hv
    go_enter Try.func37, Try.ntmps37
    go_wp2_with (fail)
    refine (HV.out _ (HA.out.below ((Below.refl _ _).alloc (Nat.le_refl _) _))).mono ?_
    rintro e w2 ⟨rfl, hb2⟩
    go_wp2_with (fail)
    go_ret2
    exact matPost_bad HE.out (by decide) (((Below.refl _ _).alloc (Nat.le_refl _) _).trans (hb2.mono (by simp)))
  | true =>
    have Hval := Lib.hid hv
    rw [hv] at HV
    clear hv
    by_cases h46 : 46 < n
    · have q1 : decide ((46 : Int) < (n : Int)) = true := by simp; omega
      have q2 : decide (46 < n) = true := by simpa using h46
      have HE := Lib.hid (show Fix.checkE cl ls = 2 by unfold Fix.checkE; rw [Hval.out, if_pos rfl, if_neg (by rw [Hl.out]; omega)])
      go_enter Try.func37, Try.ntmps37
      go_wp2_with (fail)
      generalize hge : World.alloc _ _ = w1
      have c1 : w1.cell? ⟨w.heap.size, 0, none⟩ = some (.slice A n c) := by subst hge; exact (Blk.new w _ #[.slice A n c]).cell 0
      have hb1 : Below w.heap.size w w1 := by subst hge; exact (Below.refl _ _).alloc (Nat.le_refl _) _
      have hz1 : w1.heap.size = w.heap.size + 1 := by subst hge; simp
      clear hge
      have HB1 := Lib.hid hb1
      refine (HV.out _ (HA.out.below hb1)).mono ?_
      rintro e w2 ⟨rfl, hb2⟩
      have c2 := (hb2.cell (p := ⟨w.heap.size, 0, none⟩) (by show w.heap.size < _; omega)).trans c1
      have HB2 := Lib.hid (HB1.out.trans (hb2.mono (by omega)))
      clear hb2 c1 hb1
      go_wp2_with (fail)
      go_ret2
      exact matPost_bad HE.out (by decide) HB2.out
    · have q1 : decide ((46 : Int) < (n : Int)) = false := by simp; omega
      have q2 : decide (46 < n) = false := by simpa using h46
      have hm1 := (Fix.validC_iff.1 Hval.out).1
      have hm2 := (Fix.validC_iff.1 Hval.out).2.1
      rw [Hm.out] at hm1 hm2
      have Hbad := Lib.hid (fun h => Fix.checkE_bad (ls := ls) Hval.out (by rw [Hl.out]; omega) h)
      have Hgood := Lib.hid (fun h => Fix.checkE_good (ls := ls) Hval.out (by rw [Hl.out]; omega) h)
      have Hrng := Lib.hid (show ∀ x ∈ cl, 0 ≤ x ∧ x < 192 from fun x hx => by
        obtain ⟨j, hj, e⟩ := List.mem_iff_getElem.1 hx
        have := (Fix.validC_iff.1 Hval.out).2.2 j hj
        unfold Fix.goodAt at this
        rw [getD_of (List.getElem?_eq_some_iff.2 ⟨hj, e⟩)] at this
        simp only [Bool.and_eq_true, decide_eq_true_eq] at this
        exact this.1)
      have hmm := @run_makeMap Try.prog
      have hzv : ∀ W, (zeroValue 78).run Try.prog W = .ok (.agg (Array.replicate 192 (.bool false))) W := fun W => by kernel_rfl
      go_enter Try.func37, Try.ntmps37
      go_wp2_with (fail)
      generalize hge : World.alloc _ _ = w1
      have c1 : w1.cell? ⟨w.heap.size, 0, none⟩ = some (.slice A n c) := by subst hge; exact (Blk.new w _ #[.slice A n c]).cell 0
      have hb1 : Below w.heap.size w w1 := by subst hge; exact (Below.refl _ _).alloc (Nat.le_refl _) _
      have hz1 : w1.heap.size = w.heap.size + 1 := by subst hge; simp
      clear hge
      have HB1 := Lib.hid hb1
      refine (HV.out _ (HA.out.below hb1)).mono ?_
      rintro e w2 ⟨rfl, hb2⟩
      have hz2 := hb2.size
      rw [hz1] at hz2
      have c2 := (hb2.cell (p := ⟨w.heap.size, 0, none⟩) (by show w.heap.size < _; omega)).trans c1
      have HB2 := Lib.hid (HB1.out.trans (hb2.mono (by omega)))
      clear hb2 c1 hb1
      go_upto_region 6 with (fail)
      generalize hge : World.alloc _ _ = w3
      have HM3 := Lib.hid (show MtSet w3 w2.heap.size [] by subst hge; exact MtSet.made w2)
      have hb3 : Below w2.heap.size w2 w3 := by subst hge; exact (Below.refl _ _).alloc (Nat.le_refl _) _
      have hz3 : w3.heap.size = w2.heap.size + 1 := by subst hge; simp
      clear hge
      obtain ⟨M, hMs⟩ : ∃ M, w2.heap.size = M := ⟨_, rfl⟩
      rw [hMs] at HM3
      rw [hMs]
      have HC3 := Lib.hid (HC.out.below (HB2.out.trans (hb3.mono HB2.out.size)))
      have HA3 := Lib.hid (HA.out.below (HB2.out.trans (hb3.mono HB2.out.size)))
      have HB3 := Lib.hid (HB2.out.trans (hb3.mono HB2.out.size))
      have HC2 := Lib.hid (HC.out.below HB2.out)
      have HA2 := Lib.hid (HA.out.below HB2.out)
      have Hb23 := Lib.hid (show Below M w2 w3 by rw [← hMs]; exact hb3)
      have c3 := (hb3.cell (p := ⟨w.heap.size, 0, none⟩) (by show w.heap.size < _; omega)).trans c2
      clear hb3 hz3 c2
      go_wp2_with (fail)
      clear c3
      go_loopw [4, 5, 22] (fun v4 v5 i wr => ∃ k : Nat, k ≤ n ∧ i = .int .i64 k ∧ v4 = .map (some M) ∧ v5 = .int .i64 0 ∧ Hid (MtSet wr M (ls.take k).flatten) ∧ Hid (∀ k' l, k' < k → ls[k']? = some l → Fix.okR cl (ls.take k').flatten l = true) ∧ Hid (Below M w2 wr)) (fun _ _ i _ => n - (intOf i).toNat)
      case atStart => exact ⟨0, by omega, rfl, rfl, rfl, (show MtSet _ _ _ by simpa using HM3.out), fun k' l h => absurd h (Nat.not_lt_zero _), Hb23.out⟩
      case round =>
        obtain ⟨k, hk, rfl, rfl, rfl, hM, hok, hB⟩ := hrel
        obtain ⟨wq, rfl⟩ : ∃ wq : World, wq = wr := ⟨_, rfl⟩
        have hB0 := Lib.hid (show Below w.heap.size w wq from HB2.out.trans (hB.out.mono (by omega)))
        by_cases hlt : k < n
        · have hdk : decide ((k : Int) < (n : Int)) = true := by simp; omega
          have hdk2 : decide (k < n) = true := by simp; omega
          have hkI : (k : Int) < (n : Int) := by omega
          obtain ⟨l, hx⟩ := getElem?_lt (l := ls) (k := k) (by rw [Hl.out]; exact hlt)
          obtain ⟨b, off, A1, c1, rfl, hb, hc1, -, -, hI⟩ := HC2.out.at_ hx
          have hbM : b < M := by omega
          have k1 := (hB.out.cell (p := ⟨b, off + k, none⟩) hbM).trans hc1
          have HI := Lib.hid hI
          have HX := Lib.hid hx
          have Hwl := Lib.hid (fun x hx' => Hwf.out l (List.mem_of_getElem? hx) x hx')
          obtain ⟨q, hq⟩ : ∃ q, l.length = q := ⟨_, rfl⟩
          have Hq := Lib.hid hq
          have hlen : (ls.take k).flatten.length + q ≤ 1000000 := by
            have := Hs.out
            rw [← List.take_append_drop k ls, List.flatten_append, drop_cons hx, List.length_append, List.flatten_cons, List.length_append, hq] at this
            omega
          rw [hq] at k1
          clear hc1 hI hx hq
          go_wp2_with (fail)
          generalize hge : World.alloc _ _ = w4
          have HZ4 := Lib.hid (show Blk w4 wq.heap.size 78 (busyV []) by rw [busyV_nil]; subst hge; exact Blk.new wq _ _)
          have hb4 : Below wq.heap.size wq w4 := by subst hge; exact (Below.refl _ _).alloc (Nat.le_refl _) _
          clear hge
          have HM4 := Lib.hid (hM.out.below hb4)
          have HB4 := Lib.hid (below_of hB.out hb4 (by have := hB.out.size; omega))
          have hzM : M < wq.heap.size := hM.out.lt
          obtain ⟨Z, hZ⟩ : ∃ Z, wq.heap.size = Z := ⟨_, rfl⟩
          rw [hZ] at HZ4 hzM
          rw [hZ]
          clear hZ hb4 k1
          go_loopw [4, 5, 28] (fun v4 v5 i wr => ∃ j : Nat, j ≤ q ∧ i = .int .i64 j ∧ v4 = .map (some M) ∧ v5 = .int .i64 0 ∧ Hid (MtSet wr M ((ls.take k).flatten ++ l.take j)) ∧ Hid (Blk wr Z 78 (busyV (Fix.busyM (l.take j)))) ∧ Hid (∀ j' x, j' < j → l[j']? = some x → Fix.okM cl ((ls.take k).flatten ++ l.take j') (Fix.busyM (l.take j')) x = true) ∧ Hid (Below M w2 wr)) (fun _ _ i _ => q - (intOf i).toNat)
          case atStart => exact ⟨0, by omega, rfl, rfl, rfl, (show MtSet _ _ _ by simpa using HM4.out), (show Blk _ _ _ _ by simpa [Fix.busyM] using HZ4.out), fun j' x h => absurd h (Nat.not_lt_zero _), HB4.out⟩
          case round =>
            obtain ⟨j, hj, rfl, rfl, rfl, hMj, hZj, hokj, hBj⟩ := hrel
            obtain ⟨wp, rfl⟩ : ∃ wp : World, wp = wr := ⟨_, rfl⟩
            by_cases hjq : j < q
            · have hdj : decide ((j : Int) < (q : Int)) = true := by simp; omega
              have hdj2 : decide (j < q) = true := by simp; omega
              have hjI : (j : Int) < (q : Int) := by omega
              obtain ⟨⟨x, y⟩, hxy⟩ := getElem?_lt (l := l) (k := j) (by rw [Hq.out]; exact hjq)
              obtain ⟨b3, off3, rfl, hb3, hcs⟩ := HI.out.at_ (by rw [Hq.out]; omega)
              have hb3M : b3 < M := by omega
              have kx := (hBj.out.cell (p := ⟨b3, off3 + j * 2, none⟩) hb3M).trans (hcs j _ hxy).1
              have ky := (hBj.out.cell (p := ⟨b3, off3 + j * 2 + 1, none⟩) hb3M).trans (hcs j _ hxy).2
              simp only [] at kx ky
              have hwx := Lib.hid (Hwl.out (x, y) (List.mem_of_getElem? hxy))
              obtain ⟨S, hS⟩ : ∃ S, (ls.take k).flatten ++ l.take j = S := ⟨_, rfl⟩
              obtain ⟨bz, hbz⟩ : ∃ bz, Fix.busyM (l.take j) = bz := ⟨_, rfl⟩
              have hSl : S.length < 1000001 := by rw [← hS, List.length_append, List.length_take]; omega
              have HSn := Lib.hid (show (ls.take k).flatten ++ l.take (j + 1) = S ++ [(x, y)] by rw [take_snoc hxy, ← List.append_assoc, hS])
              have Hbn := Lib.hid (show Fix.busyM (l.take (j + 1)) = bz ++ [x] ++ [y] by rw [take_snoc hxy, Fix.busyM_snoc, hbz])
              have Hbad2 := Lib.hid (fun h : Fix.okM cl S bz (x, y) = false => Hbad.out (Fix.okL_bad HX.out (Fix.okR_bad hxy (by rw [hS, hbz]; exact h))))
              have Hok2 := Lib.hid (fun h : Fix.okM cl S bz (x, y) = true => show ∀ j' x', j' < j + 1 → l[j']? = some x' → Fix.okM cl ((ls.take k).flatten ++ l.take j') (Fix.busyM (l.take j')) x' = true from fun j' x' h1 h2 => by
                rcases Nat.lt_or_ge j' j with h3 | h3
                · exact hokj.out j' x' h3 h2
                · obtain rfl : j' = j := by omega
                  rw [hxy] at h2
                  cases h2
                  rw [hS, hbz]
                  exact h)
              rw [hS] at hMj
              rw [hbz] at hZj
              obtain ⟨e1, he1⟩ : ∃ e, decide ((x, y) = (y, x)) = e := ⟨_, rfl⟩
              obtain ⟨e2, he2⟩ : ∃ e, decide ((x, y) ∈ S) = e := ⟨_, rfl⟩
              obtain ⟨e3, he3⟩ : ∃ e, decide (x ∈ cl) = e := ⟨_, rfl⟩
              obtain ⟨e4, he4⟩ : ∃ e, decide (y ∈ cl) = e := ⟨_, rfl⟩
              obtain ⟨e5, he5⟩ : ∃ e, decide (x ∈ bz) = e := ⟨_, rfl⟩
              obtain ⟨e6, he6⟩ : ∃ e, decide (y ∈ bz) = e := ⟨_, rfl⟩
              have HOK := Lib.hid (show Fix.okM cl S bz (x, y) = (!e1 && !e2 && e3 && e4 && !e5 && !e6) by
                rw [← he1, ← he2, ← he3, ← he4, ← he5, ← he6]
                unfold Fix.okM
                rw [show decide ((x, y) = (y, x)) = decide (x = y) from decide_eq_decide.2 ⟨fun h => (Prod.ext_iff.1 h).1, fun h => by rw [h]⟩])
              have Hrx := Lib.hid (fun h : e3 = true => Hrng.out x (of_decide_eq_true (he3.trans h)))
              have Hry := Lib.hid (fun h : e4 = true => Hrng.out y (of_decide_eq_true (he4.trans h)))
              have HE := Lib.hid (fun W => by have := run_eqI x y y x W; rwa [he1] at this)
              have HL := Lib.hid (fun W (h : MtSet W M S) => show (Instr.lookup 63 (.map (some M)) (.agg #[.int .i64 x, .int .i64 y]) false).run Try.prog W = .ok (.bool e2) W by have := h.look (x, y) hwx.out; rwa [he2] at this)
              have HH1 := Lib.hid (fun W (h : Below M w2 W) => by
                have := has_any B m d cl x W Hm.out ⟨by omega, by omega⟩ (HA2.out.below (by rw [hMs]; exact h))
                rwa [he3] at this)
              have HH2 := Lib.hid (fun W (h : Below M w2 W) => by
                have := has_any B m d cl y W Hm.out ⟨by omega, by omega⟩ (HA2.out.below (by rw [hMs]; exact h))
                rwa [he4] at this)
              have HZ1 := Lib.hid (fun W (h : Blk W Z 78 (busyV bz)) (h0 : 0 ≤ x ∧ x < 192) => show W.cell? ⟨Z, x.toNat, none⟩ = some (.bool e5) by
                rw [h.cell, busyV_get bz (by omega), show ((x.toNat : Nat) : Int) = x by omega, he5])
              have HZ2 := Lib.hid (fun W (h : Blk W Z 78 (busyV bz)) (h0 : 0 ≤ y ∧ y < 192) => show W.cell? ⟨Z, y.toNat, none⟩ = some (.bool e6) by
                rw [h.cell, busyV_get bz (by omega), show ((y.toNat : Nat) : Int) = y by omega, he6])
              have hzp : Z < wp.heap.size := hZj.out.lt
              clear hcs hxy hS hbz he1 he2 he3 he4 he5 he6 hokj
              go_upto_region 13 with (fail)
              generalize hge : World.alloc _ _ = w5
              have HX5 := Lib.hid (show Blk w5 wp.heap.size 51 #[.int .i64 x, .int .i64 y] by subst hge; exact Blk.new wp _ _)
              have hb5 : Below wp.heap.size wp w5 := by subst hge; exact (Below.refl _ _).alloc (Nat.le_refl _) _
              clear hge
              have HM5 := Lib.hid (hMj.out.below hb5)
              have HZ5 := Lib.hid (hZj.out.below hb5)
              have HB5 := Lib.hid (below_of hBj.out hb5 (by omega))
              have HBw5 := Lib.hid (show Below w.heap.size w w5 from HB2.out.trans (HB5.out.mono (by omega)))
              obtain ⟨P5, hP5⟩ : ∃ P5, wp.heap.size = P5 := ⟨_, rfl⟩
              rw [hP5] at HX5 hzp
              rw [hP5]
              clear hP5 hb5 kx ky
              have kx5 : w5.cell? ⟨P5, 0, none⟩ = some (.int .i64 x) := HX5.out.cell 0
              have ky5 : w5.cell? ⟨P5, 1, none⟩ = some (.int .i64 y) := HX5.out.cell 1
              have hE5 := HE.out
              have hL5 := HL.out w5 HM5.out
              have HC1 := Lib.hid (HH1.out w5 HB5.out)
              have HC2 := Lib.hid (HH2.out w5 HB5.out)
              clear HE HL HH1 HH2
              cases e1 with
              | true =>
                have HX9 := Lib.hid (Hbad2.out (by rw [HOK.out]; simp))
                go_wp2_with (first | (go_at_call 56; with_reducible refine HC1.out.mono ?_; rintro e w' ⟨rfl, rfl⟩) | (go_at_call 56; with_reducible refine HC2.out.mono ?_; rintro e w' ⟨rfl, rfl⟩))
                go_ret2
                exact matPost_bad HX9.out (by decide) HBw5.out
              | false =>
              cases e2 with
              | true =>
                have HX9 := Lib.hid (Hbad2.out (by rw [HOK.out]; simp))
                go_wp2_with (first | (go_at_call 56; with_reducible refine HC1.out.mono ?_; rintro e w' ⟨rfl, rfl⟩) | (go_at_call 56; with_reducible refine HC2.out.mono ?_; rintro e w' ⟨rfl, rfl⟩))
                go_ret2
                exact matPost_bad HX9.out (by decide) HBw5.out
              | false =>
              cases e3 with
              | false =>
                have HX9 := Lib.hid (Hbad2.out (by rw [HOK.out]; simp))
                go_wp2_with (first | (go_at_call 56; with_reducible refine HC1.out.mono ?_; rintro e w' ⟨rfl, rfl⟩) | (go_at_call 56; with_reducible refine HC2.out.mono ?_; rintro e w' ⟨rfl, rfl⟩))
                go_ret2
                exact matPost_bad HX9.out (by decide) HBw5.out
              | true =>
              obtain ⟨hx0, hx1⟩ := Hrx.out rfl
              have hx2 : x.toNat < 192 := by omega
              cases e4 with
              | false =>
                have HX9 := Lib.hid (Hbad2.out (by rw [HOK.out]; simp))
                go_wp2_with (first | (go_at_call 56; with_reducible refine HC1.out.mono ?_; rintro e w' ⟨rfl, rfl⟩) | (go_at_call 56; with_reducible refine HC2.out.mono ?_; rintro e w' ⟨rfl, rfl⟩))
                go_ret2
                exact matPost_bad HX9.out (by decide) HBw5.out
              | true =>
              obtain ⟨hy0, hy1⟩ := Hry.out rfl
              have hy2 : y.toNat < 192 := by omega
              have cz1 := HZ1.out w5 HZ5.out ⟨hx0, hx1⟩
              have cz2 := HZ2.out w5 HZ5.out ⟨hy0, hy1⟩
              cases e5 with
              | true =>
                have HX9 := Lib.hid (Hbad2.out (by rw [HOK.out]; simp))
                go_wp2_with (first | (go_at_call 56; with_reducible refine HC1.out.mono ?_; rintro e w' ⟨rfl, rfl⟩) | (go_at_call 56; with_reducible refine HC2.out.mono ?_; rintro e w' ⟨rfl, rfl⟩))
                go_ret2
                exact matPost_bad HX9.out (by decide) HBw5.out
              | false =>
              cases e6 with
              | true =>
                have HX9 := Lib.hid (Hbad2.out (by rw [HOK.out]; simp))
                go_wp2_with (first | (go_at_call 56; with_reducible refine HC1.out.mono ?_; rintro e w' ⟨rfl, rfl⟩) | (go_at_call 56; with_reducible refine HC2.out.mono ?_; rintro e w' ⟨rfl, rfl⟩))
                go_ret2
                exact matPost_bad HX9.out (by decide) HBw5.out
              | false =>
                have HOK9 := Lib.hid (Hok2.out (by rw [HOK.out]; rfl))
                clear HOK Hbad2 Hok2 HZ1 HZ2 Hrx Hry
                go_upto_region 15 with (first | (go_at_call 56; with_reducible refine HC1.out.mono ?_; rintro e w' ⟨rfl, rfl⟩) | (go_at_call 56; with_reducible refine HC2.out.mono ?_; rintro e w' ⟨rfl, rfl⟩))
                clear cz1 cz2 kx5 ky5 hE5 hL5 HC1 HC2
                refine wp_region_held_drew (S := fun W => Blk W P5 51 #[.int .i64 x, .int .i64 y]) (by kernel_rfl) (HX5.out) (fun Hd => ?_)
                have Hd : Below w2.heap.size w2 w5.drew := by rw [hMs]; exact below_drewN HB5.out 1
                have Zd : w2.heap.size ≤ w5.drew.heap.size := by rw [hMs]; have := HB5.out.size; show M ≤ w5.heap.size; omega
                have fX : Blk w5.drew P5 51 #[.int .i64 x, .int .i64 y] := HX5.out
                have fM : MtSet w5.drew M S := HM5.out.below (below_drewN (Below.refl _ _) 1)
                have fZ : Blk w5.drew Z 78 (busyV bz) := HZ5.out
                generalize World.drew w5 = wd at *
                refine wpAnyH_take (i := 0) (v := ?_) rfl (by kernel_rfl) (by kernel_rfl) (by kernel_rfl) (fun _ _ _ h => h) (Or.inl ⟨by rfl, ?_⟩) fX ?_
                rotate_left
                · intro wS hSw
                  go_simp
                  try with_reducible rfl
                try simp only [List.getElem_toArray, List.getElem_cons_zero, List.getElem_cons_succ, Act.put, List.setIfInBounds_toArray, List.set_cons_zero, List.set_cons_succ]
                refine wpAnyH_take (i := 1) (v := ?_) rfl (by kernel_rfl) (by kernel_rfl) (by kernel_rfl) (fun _ _ _ h => h) (Or.inl ⟨by rfl, ?_⟩) fX ?_
                rotate_left
                · intro wS hSw
                  have kx5 := (show wS.cell? ⟨P5, 0, none⟩ = some (.int .i64 x) from hSw.cell 0)
                  have ky5 := (show wS.cell? ⟨P5, 1, none⟩ = some (.int .i64 y) from hSw.cell 1)
                  go_simp
                  try with_reducible rfl
                try simp only [List.getElem_toArray, List.getElem_cons_zero, List.getElem_cons_succ, Act.put, List.setIfInBounds_toArray, List.set_cons_zero, List.set_cons_succ]
                refine wpAnyH_take (i := 2) (v := ?_) rfl (by kernel_rfl) (by kernel_rfl) (by kernel_rfl) (fun _ _ _ h => h) (Or.inl ⟨by rfl, ?_⟩) fX ?_
                rotate_left
                · intro wS hSw
                  go_simp
                  try with_reducible rfl
                try simp only [List.getElem_toArray, List.getElem_cons_zero, List.getElem_cons_succ, Act.put, List.setIfInBounds_toArray, List.set_cons_zero, List.set_cons_succ]
                refine wpAnyH_take (i := 3) (v := ?_) rfl (by kernel_rfl) (by kernel_rfl) (by kernel_rfl) (fun _ _ _ h => h) (Or.inl ⟨by rfl, ?_⟩) fX ?_
                rotate_left
                · intro wS hSw
                  have kx5 := (show wS.cell? ⟨P5, 0, none⟩ = some (.int .i64 x) from hSw.cell 0)
                  have ky5 := (show wS.cell? ⟨P5, 1, none⟩ = some (.int .i64 y) from hSw.cell 1)
                  go_simp
                  try with_reducible rfl
                try simp only [List.getElem_toArray, List.getElem_cons_zero, List.getElem_cons_succ, Act.put, List.setIfInBounds_toArray, List.set_cons_zero, List.set_cons_succ]
                refine wpAnyH_take (i := 4) (v := ?_) rfl (by kernel_rfl) (by kernel_rfl) (by kernel_rfl) (fun _ _ _ h => h) (Or.inl ⟨by rfl, ?_⟩) fX ?_
                rotate_left
                · intro wS hSw
                  go_simp
                  try with_reducible rfl
                try simp only [List.getElem_toArray, List.getElem_cons_zero, List.getElem_cons_succ, Act.put, List.setIfInBounds_toArray, List.set_cons_zero, List.set_cons_succ]
                refine wpAnyH_take (i := 5) (v := ?_) rfl (by kernel_rfl) (by kernel_rfl) (by kernel_rfl) (fun _ _ _ h => h) (Or.inl ⟨by rfl, ?_⟩) fX ?_
                rotate_left
                · intro wS hSw
                  have kx5 := (show wS.cell? ⟨P5, 0, none⟩ = some (.int .i64 x) from hSw.cell 0)
                  have ky5 := (show wS.cell? ⟨P5, 1, none⟩ = some (.int .i64 y) from hSw.cell 1)
                  go_simp
                  try with_reducible rfl
                try simp only [List.getElem_toArray, List.getElem_cons_zero, List.getElem_cons_succ, Act.put, List.setIfInBounds_toArray, List.set_cons_zero, List.set_cons_succ]
                refine wpAnyH_ready (rs := [6]) (by kernel_rfl) (by simp) (AllReadyH.cons rfl (fun K hK => ?_) AllReadyH.nil)
                refine step_mapUpdate (by rfl) _ _ _ (by rfl) M S fM (x, y) hwx.out (by unfold maxLen; omega) (by rfl) (by rfl) (by rfl) ?_
                intro w1_ fM1 hg1
                have fX1 := fX.grown hg1 (fun e => by cases e; omega)
                have fZ1 := fZ.grown hg1 (fun e => by cases e; omega)
                have Hb1 : Below w2.heap.size w2 w1_ := below_grown Hd hg1 Hd.size (fun k hk => by cases hk; rw [hMs]; exact Nat.le_refl _)
                have Zb1 : w2.heap.size ≤ w1_.heap.size := Hb1.size
                refine hK.out _ _ fX1 fun _ => ?_
                clear hK K
                try simp only [List.getElem_toArray, List.getElem_cons_zero, List.getElem_cons_succ, Act.put, List.setIfInBounds_toArray, List.set_cons_zero, List.set_cons_succ]
                refine wpAnyH_take (i := 7) (v := ?_) rfl (by kernel_rfl) (by kernel_rfl) (by kernel_rfl) (fun _ _ _ h => h) (Or.inl ⟨by rfl, ?_⟩) fX1 ?_
                rotate_left
                · intro wS hSw
                  go_simp
                  try with_reducible rfl
                try simp only [List.getElem_toArray, List.getElem_cons_zero, List.getElem_cons_succ, Act.put, List.setIfInBounds_toArray, List.set_cons_zero, List.set_cons_succ]
                refine wpAnyH_ready (rs := [8]) (by kernel_rfl) (by simp) (AllReadyH.cons rfl (fun K hK => ?_) AllReadyH.nil)
                refine step_put_bool (by rfl) _ _ (by rfl) Z (bz) x hx0 hx1 fZ1 (by rfl) (by rfl) ?_
                intro w2_ fZ2 hg2 hs2
                have fX2 := fX1.grown hg2 (fun e => by cases e; omega)
                have fM2 := fM1.grown hg2 (fun e => by cases e; omega)
                have Hb2 : Below w2.heap.size w2 w2_ := below_grown Hb1 hg2 Hb1.size (fun k hk => by cases hk; rw [hMs]; omega)
                have Zb2 : w2.heap.size ≤ w2_.heap.size := Hb2.size
                refine hK.out _ _ fX2 fun _ => ?_
                clear hK K
                try simp only [List.getElem_toArray, List.getElem_cons_zero, List.getElem_cons_succ, Act.put, List.setIfInBounds_toArray, List.set_cons_zero, List.set_cons_succ]
                refine wpAnyH_take (i := 9) (v := ?_) rfl (by kernel_rfl) (by kernel_rfl) (by kernel_rfl) (fun _ _ _ h => h) (Or.inl ⟨by rfl, ?_⟩) fX2 ?_
                rotate_left
                · intro wS hSw
                  go_simp
                  try with_reducible rfl
                try simp only [List.getElem_toArray, List.getElem_cons_zero, List.getElem_cons_succ, Act.put, List.setIfInBounds_toArray, List.set_cons_zero, List.set_cons_succ]
                refine wpAnyH_ready (rs := [10]) (by kernel_rfl) (by simp) (AllReadyH.cons rfl (fun K hK => ?_) AllReadyH.nil)
                refine step_put_bool (by rfl) _ _ (by rfl) Z (bz ++ [x]) y hy0 hy1 fZ2 (by rfl) (by rfl) ?_
                intro w3_ fZ3 hg3 hs3
                have fX3 := fX2.grown hg3 (fun e => by cases e; omega)
                have fM3 := fM2.grown hg3 (fun e => by cases e; omega)
                have Hb3 : Below w2.heap.size w2 w3_ := below_grown Hb2 hg3 Hb2.size (fun k hk => by cases hk; rw [hMs]; omega)
                have Zb3 : w2.heap.size ≤ w3_.heap.size := Hb3.size
                refine hK.out _ _ fX3 fun _ => ?_
                clear hK K
                try simp only [List.getElem_toArray, List.getElem_cons_zero, List.getElem_cons_succ, Act.put, List.setIfInBounds_toArray, List.set_cons_zero, List.set_cons_succ]
                refine wpAnyH_done (by kernel_rfl) ?_ _
                go_wp2_with (fail)
                go_roundw
                case rel => exact ⟨j + 1, by omega, by go_num, rfl, rfl, (show MtSet _ _ _ by rw [HSn.out]; exact fM3), (show Blk _ _ _ _ by rw [Hbn.out]; exact fZ3), HOK9.out, (by have := Hb3; rwa [hMs] at this)⟩
                case measure => simp [intOf]; omega
            · obtain rfl : j = q := by omega
              have hdj : decide ((j : Int) < (j : Int)) = false := by simp
              have hlq : l.take j = l := List.take_of_length_le (by rw [Hq.out]; exact Nat.le_refl _)
              have HMn := Lib.hid (show MtSet wp M (ls.take (k + 1)).flatten by
                rw [take_snoc HX.out, List.flatten_append, List.flatten_singleton]
                have := hMj.out
                rwa [hlq] at this)
              have HRk := Lib.hid (show Fix.okR cl (ls.take k).flatten l = true from Fix.okR_good fun j' x h => hokj.out j' x (by have := (List.getElem?_eq_some_iff.1 h).1; have := Hq.out; omega) h)
              clear hlq
              go_wp2_with (fail)
              go_roundw
              case rel => exact ⟨k + 1, by omega, by go_num, rfl, rfl, HMn.out, (fun k' l' h1 h2 => by
                rcases Nat.lt_or_ge k' k with h3 | h3
                · exact hok.out k' l' h3 h2
                · obtain rfl : k' = k := by omega
                  rw [HX.out] at h2
                  cases h2
                  exact HRk.out), hBj.out⟩
              case measure => simp [intOf]; omega
        · obtain rfl : k = n := by omega
          have hdk : decide ((k : Int) < (k : Int)) = false := by simp
          have HMf := Lib.hid (show MtSet wq M ls.flatten by have := hM.out; rwa [List.take_of_length_le (by rw [Hl.out]; exact Nat.le_refl _)] at this)
          have HE := Lib.hid (Hgood.out (Fix.okL_good fun k' l h => hok.out k' l (by have := (List.getElem?_eq_some_iff.1 h).1; have := Hl.out; omega) h))
          go_wp2_with (fail)
          go_ret2
          exact matPost_good HE.out HMf.out hB0.out
end Go.Proofs.Ytpmkebejfnflfaa
