/- The walks of Check and Full (fixtures). -/
import Derived.Test.YtpmkebejfnflfaaFMat2
namespace Go.Proofs.Ytpmkebejfnflfaa
open Go.RowKit Go.Shelf Go.Lib
namespace Fix
def okPair (S : List Mt) (double : Bool) (a b : Int) : Bool := if double then (decide ((a, b) ∈ S) && decide ((b, a) ∈ S)) else (decide ((a, b) ∈ S) != decide ((b, a) ∈ S))
def fullB (cl : List Int) (S : List Mt) (double : Bool) : Bool := (List.range cl.length).all fun i => (List.range i).all fun k => okPair S double (cl.getD i 0) (cl.getD k 0)
/-- What Full answers beside the error. -/
def fullR (cl : List Int) (ls : List (List Mt)) (double : Bool) : Bool := decide (checkE cl ls = 0) && fullB cl ls.flatten double
theorem fullB_bad {cl : List Int} {S : List Mt} {double : Bool} {i k : Nat} {a b : Int} (ha : cl[i]? = some a) (hb : cl[k]? = some b) (hk : k < i) (h : okPair S double a b = false) : fullB cl S double = false := by
  unfold fullB
  refine List.all_eq_false.2 ⟨i, List.mem_range.2 (List.getElem?_eq_some_iff.1 ha).1, ?_⟩
  rw [show (List.range i).all (fun k => okPair S double (cl.getD i 0) (cl.getD k 0)) = false from List.all_eq_false.2 ⟨k, List.mem_range.2 hk, by rw [getD_of ha, getD_of hb, h]; simp⟩]
  simp
theorem fullB_good {cl : List Int} {S : List Mt} {double : Bool} (h : ∀ (i k : Nat) (a b : Int), cl[i]? = some a → cl[k]? = some b → k < i → okPair S double a b = true) : fullB cl S double = true := by
  unfold fullB
  refine List.all_eq_true.2 fun i hi => List.all_eq_true.2 fun k hk => ?_
  obtain ⟨a, ha⟩ := getElem?_lt (l := cl) (k := i) (List.mem_range.1 hi)
  obtain ⟨b, hb⟩ := getElem?_lt (l := cl) (k := k) (by have := List.mem_range.1 hi; have := List.mem_range.1 hk; omega)
  rw [getD_of ha, getD_of hb]
  exact h i k a b ha hb (List.mem_range.1 hk)
end Fix
theorem wf_small {a : Int} (h0 : 0 ≤ a) (h1 : a < 192) : (Lit.int .i64 a).wf = true := by
  have := wrap64_wf a
  rwa [IntWalk.wrap64_in a (by omega)] at this
theorem valid_range {cl : List Int} (h : Fix.validC cl = true) : ∀ x ∈ cl, 0 ≤ x ∧ x < 192 := fun x hx => by
  obtain ⟨j, hj, e⟩ := List.mem_iff_getElem.1 hx
  have := (Fix.validC_iff.1 h).2.2 j hj
  unfold Fix.goodAt at this
  rw [getD_of (List.getElem?_eq_some_iff.2 ⟨hj, e⟩)] at this
  simp only [Bool.and_eq_true, decide_eq_true_eq] at this
  exact this.1
theorem check_valid {cl : List Int} {ls : List (List (Int × Int))} (h : Fix.checkE cl ls = 0) : Fix.validC cl = true := by
  unfold Fix.checkE at h
  cases hv : Fix.validC cl with
  | true => rfl
  | false => rw [hv] at h; simp at h
set_option linter.unusedVariables false in
set_option linter.unusedSimpArgs false in
set_option maxRecDepth 100000 in
set_option maxHeartbeats 8000000 in
theorem check30_any (A : Option Addr) (n c : Nat) (ls : List (List (Int × Int))) (B : Option Addr) (m d : Nat) (cl : List Int) (w : World) (hl : ls.length = n) (hn : n ≤ 1000000) (hC : RoundsC w A ls) (hm : cl.length = m) (hA : Ints w B cl) (hs : ls.flatten.length ≤ 1000000) (hwf : ∀ l ∈ ls, ∀ x ∈ l, WfM x) :
    Calls Try.prog 17 #[.agg #[.slice A n c], .slice B m d] w fun e w' => e = .returned (.int .i64 (Fix.checkE cl ls)) ∧ Below w.heap.size w w' := by
  have HP := Lib.hid (fun W (h1 : RoundsC W A ls) h2 => matches_any A n c ls B m d cl W hl hn h1 hm h2 hs hwf)
  have HC := Lib.hid hC
  have HA := Lib.hid hA
  obtain ⟨E, hE⟩ : ∃ E, Fix.checkE cl ls = E := ⟨_, rfl⟩
  have HE := Lib.hid hE
  rw [hE]
  clear hl hC hm hA hs hwf hE
  go_enter Try.func17, Try.ntmps17
  go_wp2_with (fail)
  generalize hge : World.alloc _ _ = w1
  have hb1 : Below w.heap.size w w1 := by subst hge; exact (Below.refl _ _).alloc (Nat.le_refl _) _
  clear hge
  have HB1 := Lib.hid hb1
  refine (HP.out w1 (HC.out.below hb1) (HA.out.below hb1)).mono ?_
  rintro e w2 ⟨⟨mv, rfl, -⟩, hb2⟩
  rw [HE.out]
  have HB2 := Lib.hid (HB1.out.trans (hb2.mono HB1.out.size))
  clear hb1 hb2
  go_wp2_with (fail)
  go_ret
  exact ⟨rfl, HB2.out⟩
set_option linter.unusedVariables false in
set_option linter.unusedSimpArgs false in
set_option maxRecDepth 100000 in
set_option maxHeartbeats 8000000 in
theorem full_any (A : Option Addr) (n c : Nat) (ls : List (List (Int × Int))) (B : Option Addr) (m d : Nat) (cl : List Int) (dbl : Bool) (w : World) (hl : ls.length = n) (hn : n ≤ 1000000) (hC : RoundsC w A ls) (hm : cl.length = m) (hmd : m ≤ d) (hA : Ints w B cl) (hs : ls.flatten.length ≤ 1000000) (hwf : ∀ l ∈ ls, ∀ x ∈ l, WfM x) :
    Calls Try.prog 15 #[.agg #[.slice A n c], .slice B m d, .bool dbl] w fun e w' => e = .returned (.tuple #[.bool (Fix.fullR cl ls dbl), .int .i64 (Fix.checkE cl ls)]) ∧ Below w.heap.size w w' := by
  have HP := Lib.hid (fun W (h1 : RoundsC W A ls) h2 => matches_any A n c ls B m d cl W hl hn h1 hm h2 hs hwf)
  have HC := Lib.hid hC
  have HA := Lib.hid hA
  have Hm := Lib.hid hm
  obtain ⟨E, hE⟩ : ∃ E, Fix.checkE cl ls = E := ⟨_, rfl⟩
  have HE := Lib.hid hE
  obtain ⟨R, hR⟩ : ∃ R, Fix.fullR cl ls dbl = R := ⟨_, rfl⟩
  have HR := Lib.hid hR
  rw [hE, hR]
  clear hl hC hm hA hs hwf hE hR
  by_cases hE0 : E = 0
  · have hv := check_valid (HE.out.trans hE0)
    have Hrng := Lib.hid (valid_range hv)
    have hm24 := (Fix.validC_iff.1 hv).2.1
    rw [Hm.out] at hm24
    have HRb := Lib.hid (show R = Fix.fullB cl ls.flatten dbl by rw [← HR.out]; unfold Fix.fullR; rw [HE.out, decide_eq_true hE0, Bool.true_and])
    subst hE0
    clear hv
    go_enter Try.func15, Try.ntmps15
    go_wp2_with (fail)
    generalize hge : World.alloc _ _ = w1
    have hb1 : Below w.heap.size w w1 := by subst hge; exact (Below.refl _ _).alloc (Nat.le_refl _) _
    clear hge
    have HB1 := Lib.hid hb1
    refine (HP.out w1 (HC.out.below hb1) (HA.out.below hb1)).mono ?_
    rintro e w2 ⟨⟨mv, rfl, ⟨-, M, rfl, hM⟩ | ⟨h, -⟩⟩, hb2⟩
    rotate_left
    · exact absurd HE.out h
    rw [HE.out]
    have HB2 := Lib.hid (HB1.out.trans (hb2.mono HB1.out.size))
    have HA2 := Lib.hid (HA.out.below HB2.out)
    have HM := Lib.hid hM
    generalize ls.flatten = S at *
    clear hb1 hb2 hM
    go_wp2_with (fail)
    go_loopw [6, 7, 26] (fun v6 v7 i wr => ∃ k : Nat, k ≤ m ∧ i = .int .i64 k ∧ v6 = .bool false ∧ v7 = .int .i64 0 ∧ Hid (∀ (i k' : Nat) (a b : Int), i < k → cl[i]? = some a → cl[k']? = some b → k' < i → Fix.okPair S dbl a b = true) ∧ Hid (Below w2.heap.size w2 wr)) (fun _ _ i _ => m - (intOf i).toNat)
    case atStart => exact ⟨0, by omega, rfl, rfl, rfl, (fun i k' a b h => absurd h (Nat.not_lt_zero _)), Below.refl _ _⟩
    case round =>
      obtain ⟨k, hk, rfl, rfl, rfl, hok, hB⟩ := hrel
      obtain ⟨wq, rfl⟩ : ∃ wq : World, wq = wr := ⟨_, rfl⟩
      by_cases hlt : k < m
      · have hdk : decide ((k : Int) < (m : Int)) = true := by simp; omega
        have hdk2 : decide (k < m) = true := by simp; omega
        have hkI : (k : Int) < (m : Int) := by omega
        obtain ⟨a, ha⟩ := getElem?_lt (l := cl) (k := k) (by rw [Hm.out]; exact hlt)
        obtain ⟨b, off, rfl, hb, hcs⟩ := HA2.out.at_ (k := k) (by rw [Hm.out]; exact hlt)
        have k1 := (hB.out.cell (p := ⟨b, off + k, none⟩) hb).trans (hcs k _ ha)
        have Ha := Lib.hid ha
        have Hcs := Lib.hid hcs
        have hkm : (k : Int) ≤ (m : Int) := by omega
        have hkd : (k : Int) ≤ (d : Int) := by omega
        have hmd' : (m : Int) ≤ (d : Int) := by omega
        clear ha hcs
        go_wp2_with (fail)
        clear k1
        go_loopw [6, 7, 35] (fun v6 v7 i wr => ∃ j : Nat, j ≤ k ∧ i = .int .i64 j ∧ v6 = .bool false ∧ v7 = .int .i64 0 ∧ Hid (∀ (k' : Nat) (b' : Int), k' < j → cl[k']? = some b' → Fix.okPair S dbl a b' = true) ∧ Hid (Below w2.heap.size w2 wr)) (fun _ _ i _ => k - (intOf i).toNat)
        case atStart => exact ⟨0, by omega, rfl, rfl, rfl, (fun k' b' h => absurd h (Nat.not_lt_zero _)), hB.out⟩
        case round =>
          obtain ⟨j, hj, rfl, rfl, rfl, hokj, hBj⟩ := hrel
          obtain ⟨wp, rfl⟩ : ∃ wp : World, wp = wr := ⟨_, rfl⟩
          by_cases hjk : j < k
          · have hdj : decide ((j : Int) < (k : Int)) = true := by simp; omega
            have hdj2 : decide (j < k) = true := by simp; omega
            have hjI : (j : Int) < (k : Int) := by omega
            obtain ⟨b', hb'⟩ := getElem?_lt (l := cl) (k := j) (by rw [Hm.out]; omega)
            have k2 := (hBj.out.cell (p := ⟨b, off + j, none⟩) hb).trans (Hcs.out j _ hb')
            have ra := Hrng.out a (List.mem_of_getElem? Ha.out)
            have rb := Hrng.out b' (List.mem_of_getElem? hb')
            have wfa := wf_small ra.1 ra.2
            have wfb := wf_small rb.1 rb.2
            have HMp := Lib.hid (HM.out.below hBj.out)
            obtain ⟨e1, he1⟩ : ∃ e, decide ((a, b') ∈ S) = e := ⟨_, rfl⟩
            obtain ⟨e2, he2⟩ : ∃ e, decide ((b', a) ∈ S) = e := ⟨_, rfl⟩
            have HL1 := Lib.hid (fun W (h : MtSet W M S) => show (Instr.lookup 63 (.map (some M)) (.agg #[.int .i64 a, .int .i64 b']) false).run Try.prog W = .ok (.bool e1) W by have := h.look (a, b') ⟨wfa, wfb⟩; rwa [he1] at this)
            have HL2 := Lib.hid (fun W (h : MtSet W M S) => show (Instr.lookup 63 (.map (some M)) (.agg #[.int .i64 b', .int .i64 a]) false).run Try.prog W = .ok (.bool e2) W by have := h.look (b', a) ⟨wfb, wfa⟩; rwa [he2] at this)
            have HOK := Lib.hid (show Fix.okPair S dbl a b' = if dbl then (e1 && e2) else (e1 != e2) by unfold Fix.okPair; rw [he1, he2])
            have Hbad := Lib.hid (fun h : Fix.okPair S dbl a b' = false => show R = false by rw [HRb.out]; exact Fix.fullB_bad Ha.out hb' hjk h)
            have Hgood := Lib.hid (fun h : Fix.okPair S dbl a b' = true => show ∀ (k' : Nat) (b2 : Int), k' < j + 1 → cl[k']? = some b2 → Fix.okPair S dbl a b2 = true from fun k' b2 h1 h2 => by
              rcases Nat.lt_or_ge k' j with h3 | h3
              · exact hokj.out k' b2 h3 h2
              · obtain rfl : k' = j := by omega
                rw [hb'] at h2
                cases h2
                exact h)
            clear hb' he1 he2 hokj ra rb wfa wfb
            go_upto_region 10 with (fail)
            clear k2
            refine wp_region_held_drew (S := fun W => MtSet W M S) (by kernel_rfl) (HMp.out.below (below_drewN (Below.refl _ _) 1)) (fun Hd => ?_)
            have Hd : Below w2.heap.size w2 wp.drew := below_drewN hBj.out 1
            have Zd : w2.heap.size ≤ wp.drew.heap.size := hBj.out.size
            have hMd : MtSet wp.drew M S := HMp.out.below (below_drewN (Below.refl _ _) 1)
            generalize World.drew wp = wd at *
            refine wpAnyH_take (i := 0) (v := ?_) rfl (by kernel_rfl) (by kernel_rfl) (by kernel_rfl) (fun _ _ _ h => h) (Or.inl ⟨by rfl, ?_⟩) hMd ?_
            rotate_left
            · intro wS hSw
              go_simp
              try with_reducible rfl
            try simp only [List.getElem_toArray, List.getElem_cons_zero, List.getElem_cons_succ, Act.put, List.setIfInBounds_toArray, List.set_cons_zero, List.set_cons_succ]
            refine wpAnyH_take (i := 1) (v := ?_) rfl (by kernel_rfl) (by kernel_rfl) (by kernel_rfl) (fun _ _ _ h => h) (Or.inl ⟨by rfl, ?_⟩) hMd ?_
            rotate_left
            · intro wS hSw
              go_simp
              try with_reducible rfl
            try simp only [List.getElem_toArray, List.getElem_cons_zero, List.getElem_cons_succ, Act.put, List.setIfInBounds_toArray, List.set_cons_zero, List.set_cons_succ]
            refine wpAnyH_take (i := 2) (v := ?_) rfl (by kernel_rfl) (by kernel_rfl) (by kernel_rfl) (fun _ _ _ h => h) (Or.inl ⟨by rfl, ?_⟩) hMd ?_
            rotate_left
            · intro wS hSw
              go_simp
              try with_reducible rfl
            try simp only [List.getElem_toArray, List.getElem_cons_zero, List.getElem_cons_succ, Act.put, List.setIfInBounds_toArray, List.set_cons_zero, List.set_cons_succ]
            refine wpAnyH_take (i := 3) (v := ?_) rfl (by kernel_rfl) (by kernel_rfl) (by kernel_rfl) (fun _ _ _ h => h) (Or.inl ⟨by rfl, ?_⟩) hMd ?_
            rotate_left
            · intro wS hSw
              go_simp
              try with_reducible rfl
            try simp only [List.getElem_toArray, List.getElem_cons_zero, List.getElem_cons_succ, Act.put, List.setIfInBounds_toArray, List.set_cons_zero, List.set_cons_succ]
            refine wpAnyH_take (i := 4) (v := ?_) rfl (by kernel_rfl) (by kernel_rfl) (by kernel_rfl) (fun _ _ _ h => h) (Or.inl ⟨by rfl, ?_⟩) hMd ?_
            rotate_left
            · intro wS hSw
              have hL := HL1.out wS hSw
              go_simp
              try with_reducible rfl
            try simp only [List.getElem_toArray, List.getElem_cons_zero, List.getElem_cons_succ, Act.put, List.setIfInBounds_toArray, List.set_cons_zero, List.set_cons_succ]
            refine wpAnyH_take (i := 5) (v := ?_) rfl (by kernel_rfl) (by kernel_rfl) (by kernel_rfl) (fun _ _ _ h => h) (Or.inl ⟨by rfl, ?_⟩) hMd ?_
            rotate_left
            · intro wS hSw
              go_simp
              try with_reducible rfl
            try simp only [List.getElem_toArray, List.getElem_cons_zero, List.getElem_cons_succ, Act.put, List.setIfInBounds_toArray, List.set_cons_zero, List.set_cons_succ]
            refine wpAnyH_take (i := 6) (v := ?_) rfl (by kernel_rfl) (by kernel_rfl) (by kernel_rfl) (fun _ _ _ h => h) (Or.inl ⟨by rfl, ?_⟩) hMd ?_
            rotate_left
            · intro wS hSw
              go_simp
              try with_reducible rfl
            try simp only [List.getElem_toArray, List.getElem_cons_zero, List.getElem_cons_succ, Act.put, List.setIfInBounds_toArray, List.set_cons_zero, List.set_cons_succ]
            refine wpAnyH_take (i := 7) (v := ?_) rfl (by kernel_rfl) (by kernel_rfl) (by kernel_rfl) (fun _ _ _ h => h) (Or.inl ⟨by rfl, ?_⟩) hMd ?_
            rotate_left
            · intro wS hSw
              go_simp
              try with_reducible rfl
            try simp only [List.getElem_toArray, List.getElem_cons_zero, List.getElem_cons_succ, Act.put, List.setIfInBounds_toArray, List.set_cons_zero, List.set_cons_succ]
            refine wpAnyH_take (i := 8) (v := ?_) rfl (by kernel_rfl) (by kernel_rfl) (by kernel_rfl) (fun _ _ _ h => h) (Or.inl ⟨by rfl, ?_⟩) hMd ?_
            rotate_left
            · intro wS hSw
              go_simp
              try with_reducible rfl
            try simp only [List.getElem_toArray, List.getElem_cons_zero, List.getElem_cons_succ, Act.put, List.setIfInBounds_toArray, List.set_cons_zero, List.set_cons_succ]
            refine wpAnyH_take (i := 9) (v := ?_) rfl (by kernel_rfl) (by kernel_rfl) (by kernel_rfl) (fun _ _ _ h => h) (Or.inl ⟨by rfl, ?_⟩) hMd ?_
            rotate_left
            · intro wS hSw
              have hL := HL2.out wS hSw
              go_simp
              try with_reducible rfl
            try simp only [List.getElem_toArray, List.getElem_cons_zero, List.getElem_cons_succ, Act.put, List.setIfInBounds_toArray, List.set_cons_zero, List.set_cons_succ]
            refine wpAnyH_take (i := 10) (v := ?_) rfl (by kernel_rfl) (by kernel_rfl) (by kernel_rfl) (fun _ _ _ h => h) (Or.inl ⟨by rfl, ?_⟩) hMd ?_
            rotate_left
            · intro wS hSw
              go_simp
              try with_reducible rfl
            try simp only [List.getElem_toArray, List.getElem_cons_zero, List.getElem_cons_succ, Act.put, List.setIfInBounds_toArray, List.set_cons_zero, List.set_cons_succ]
            refine wpAnyH_take (i := 11) (v := ?_) rfl (by kernel_rfl) (by kernel_rfl) (by kernel_rfl) (fun _ _ _ h => h) (Or.inl ⟨by rfl, ?_⟩) hMd ?_
            rotate_left
            · intro wS hSw
              go_simp
              try with_reducible rfl
            try simp only [List.getElem_toArray, List.getElem_cons_zero, List.getElem_cons_succ, Act.put, List.setIfInBounds_toArray, List.set_cons_zero, List.set_cons_succ]
            refine wpAnyH_done (by kernel_rfl) ?_ _
            have hBd := Lib.hid Hd
            clear Hd
            cases dbl <;> cases e1 <;> cases e2
            all_goals
              first
              | (have HX9 := Lib.hid (Hbad.out (by rw [HOK.out]; rfl))
                 go_wp2_with (fail)
                 go_ret2
                 exact ⟨by rw [HX9.out]; rfl, HB2.out.trans (hBd.out.mono HB2.out.size)⟩)
              | (have HX9 := Lib.hid (Hgood.out (by rw [HOK.out]; rfl))
                 go_wp2_with (fail)
                 go_roundw
                 case rel => exact ⟨j + 1, by omega, by go_num, rfl, rfl, HX9.out, hBd.out⟩
                 case measure => simp [intOf]; omega)
          · obtain rfl : j = k := by omega
            have hdj : decide ((j : Int) < (j : Int)) = false := by simp
            go_wp2_with (fail)
            go_roundw
            case rel => exact ⟨j + 1, by omega, by go_num, rfl, rfl, (fun i k' a2 b2 h1 h2 h3 h4 => by
              rcases Nat.lt_or_ge i j with h5 | h5
              · exact hok.out i k' a2 b2 h5 h2 h3 h4
              · obtain rfl : i = j := by omega
                rw [Ha.out] at h2
                cases h2
                exact hokj.out k' b2 h4 h3), hBj.out⟩
            case measure => simp [intOf]; omega
      · obtain rfl : k = m := by omega
        have hdk : decide ((k : Int) < (k : Int)) = false := by simp
        have HG := Lib.hid (show R = true by rw [HRb.out]; exact Fix.fullB_good fun i k' a b h1 h2 h3 => hok.out i k' a b (by have := (List.getElem?_eq_some_iff.1 h1).1; have := Hm.out; omega) h1 h2 h3)
        go_wp2_with (fail)
        go_ret2
        exact ⟨by rw [HG.out]; rfl, HB2.out.trans (hB.out.mono HB2.out.size)⟩
  · have HRb := Lib.hid (show R = false by rw [← HR.out]; unfold Fix.fullR; rw [HE.out, decide_eq_false hE0, Bool.false_and])
    have q1 : (E != 0) = true := by simpa using hE0
    clear hE0
    go_enter Try.func15, Try.ntmps15
    go_wp2_with (fail)
    generalize hge : World.alloc _ _ = w1
    have hb1 : Below w.heap.size w w1 := by subst hge; exact (Below.refl _ _).alloc (Nat.le_refl _) _
    clear hge
    have HB1 := Lib.hid hb1
    refine (HP.out w1 (HC.out.below hb1) (HA.out.below hb1)).mono ?_
    rintro e w2 ⟨⟨mv, rfl, -⟩, hb2⟩
    rw [HE.out]
    have HB2 := Lib.hid (HB1.out.trans (hb2.mono HB1.out.size))
    clear hb1 hb2
    go_wp2_with (fail)
    go_ret2
    exact ⟨by rw [HRb.out]; rfl, HB2.out⟩
end Go.Proofs.Ytpmkebejfnflfaa
