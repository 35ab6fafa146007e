/- The statement LotsFairSaid: for up to six different clubs, each comes to each place for equally many numbers, and each order comes from exactly one; no condition beside the row's own. -/
import Derived.Test.YtbccdjaeopfalaaW16
namespace Go.Proofs.Ytbccdjaeopfalaa
open Go.RowKit Go.WideShapes Go.ChangeShapes Go.ChangeAt

/-- The search for a club: not met yet, or met. -/
def Inner (s q : Nat) (f key : Value) (wr w0 wS : World) (K0 K1 : Value) : Prop := (s ≤ q ∧ f = .bool false ∧ key = K0 ∧ wr = w0) ∨ (q < s ∧ f = .bool true ∧ key = K1 ∧ wr = wS)

set_option maxRecDepth 100000 in
set_option maxHeartbeats 8000000 in
theorem LotsFair_walk (w : World) (A : Option Addr) (n c : Nat) (cl : List Int) (hl : cl.length = n) (hnc : n ≤ c) (hcm : c ≤ maxLen)
    (hA : Cells w A (cl.map (Value.int .i64))) (_wx : ∀ x ∈ cl, (Lit.int .i64 x).wf = true) : Calls Try.prog 7 #[.slice A n c] w (Fine w) := by
  have hA : Ints w A cl := hA
  have Hl := Lib.hid hl
  clear hl
  have Hcm := Lib.hid hcm
  unfold maxLen at hcm
  by_cases h1 : n < 1
  · go_enter Try.func7, Try.ntmps7
    go_wp2_with (fail)
    refine (sane_any _).mono ?_
    rintro e w1 ⟨rfl, hb1⟩
    go_wp2_with (fail)
    go_ret
    exact ⟨rfl, hb1⟩
  by_cases h6 : 6 < n
  · go_enter Try.func7, Try.ntmps7
    go_wp2_with (fail)
    refine (sane_any _).mono ?_
    rintro e w1 ⟨rfl, hb1⟩
    go_wp2_with (fail)
    go_ret
    exact ⟨rfl, hb1⟩
  have hn1 : 1 ≤ n := by omega
  have hn6 : n ≤ 6 := by omega
  have hn1I : (1 : Int) ≤ (n : Int) := by omega
  have hn6I : (n : Int) ≤ 6 := by omega
  clear h1 h6
  have hf720 : (fact n : Int) ≤ 720 := by
    have h : ∀ m, m ≤ 6 → fact m ≤ 720 := by decide
    have := h n hn6
    omega
  have hfp : (1 : Int) ≤ (fact n : Int) := by have := fact_pos n; omega
  have hml : n ≤ maxLen := by unfold maxLen; omega
  have Hmk23 := Lib.hid (show ∀ W : World, (Instr.makeSlice 23 (.int .i64 (n : Int)) (.int .i64 (n : Int))).run Try.prog W = .ok (.slice (some ⟨W.heap.size, 0, none⟩) n n) (W.alloc (.cells (rowC n (fun _ => 0)) 3)) from
    fun W => by rw [rowC_zero]; exact run_make1 23 3 (.int .i64 0) 8 Try.underlying23 Try.info3 rfl n (by omega) (by omega) W)
  have Hmk37 := Lib.hid (show ∀ W : World, (Instr.makeSlice 37 (.int .i64 (n : Int)) (.int .i64 (n : Int))).run Try.prog W = .ok (.slice (some ⟨W.heap.size, 0, none⟩) n n) (W.alloc (.cells (outer W.heap.size n 0) 23)) from
    fun W => by rw [outer_zero]; exact run_make1 37 23 (.slice none 0 0) 24 Try.underlying37 Try.info23 rfl n (by omega) (by omega) W)
  have hmk23 := Hmk23.out
  have hmk37 := Hmk37.out
  have hmm := @run_makeMap Try.prog
  go_enter Try.func7, Try.ntmps7
  go_wp2_with (fail)
  refine (sane_any _).mono ?_
  rintro e w1 ⟨rfl, H1⟩
  go_wp2_with (fail)
  refine (Factorial_good n _ (by omega)).mono ?_
  rintro e w' ⟨rfl, rfl⟩
  go_wp2_with (fail)
  go_loopw [49] (fun i wr => ∃ t : Nat, t ≤ n ∧ i = .int .i64 t ∧ Hid (Blk wr w1.heap.size 23 (outer w1.heap.size n t)) ∧ Hid (∀ i, i < t → Blk wr (w1.heap.size + 1 + i) 3 (rowC n (fun _ => 0))) ∧ Hid (wr.heap.size = w1.heap.size + 1 + t) ∧ Below w1.heap.size w1 wr) (fun i _ => n - (intOf i).toNat)
  case atStart => exact ⟨0, by omega, rfl, Blk.new w1 23 _, (fun i hi => absurd hi (by omega)), by simp [Hid], (Below.refl _ _).alloc (Nat.le_refl _) _⟩
  case round =>
    obtain ⟨t, ht, rfl, HO, HR, Hsz, hb⟩ := hrel
    by_cases hlt : t < n
    · have e1 : (wr.alloc (.cells (rowC n (fun _ => 0)) 3)).cell? ⟨w1.heap.size, t, none⟩ = some (.slice none 0 0) := by
        rw [(HO.out.alloc _).cell t, outer_get hlt]
        simp
      have e2 := (HO.out.alloc (.cells (rowC n (fun _ => 0)) 3)).frozen t
      go_wp2_with (fail)
      go_roundw
      case rel =>
        refine ⟨t + 1, by omega, by go_num, ?_, ?_, ?_, (hb.alloc (by have := Hsz.out; omega) _).setCell (by simp) _⟩
        · have h := (HO.out.alloc (.cells (rowC n (fun _ => 0)) 3)).set_ t (.slice (some ⟨w1.heap.size + 1 + t, 0, none⟩) n n)
          rw [outer_step] at h
          show Blk _ _ _ _
          rw [Hsz.out]
          exact h
        · intro i hi
          refine Blk.far ?_ (by simp; omega) _
          by_cases hit : i < t
          · exact (HR.out i hit).alloc _
          · obtain rfl : i = t := by omega
            have h := Blk.new wr 3 (rowC n (fun _ => 0))
            rw [Hsz.out] at h
            exact h
        · show _ = _
          have := Hsz.out
          simp [World.setCell]
          omega
      case measure => simp [intOf]; omega
    · have htn : Hid (t = n) := by show t = n; omega
      have HF := Lib.hid (show Fair (wr.alloc (.map #[] 0)) w1.heap.size n wr.heap.size (cnt n 0) [] from by
        have hs := Hsz.out
        have ht := htn.out
        refine ⟨?_, fun i hi => (HR.out i (by omega)).alloc _, ?_, by omega⟩
        · have := HO.out.alloc (.map #[] 0)
          rwa [ht] at this
        · exact BoolSet.made wr)
      have Hszn := Lib.hid (show wr.heap.size = w1.heap.size + 1 + n by rw [Hsz.out, htn.out])
      have hb' := hb.alloc (B := w1.heap.size) (by have := Hsz.out; omega) (.map #[] 0)
      clear HO HR hb
      obtain ⟨wo, rfl⟩ : ∃ wo : World, wo = wr := ⟨_, rfl⟩
      have HA1 := Lib.hid (Ints.below hA H1)
      by_cases hnd : cl.Nodup
      · have Hnd := Lib.hid hnd
        have Hok := Lib.hid (show ∀ k, k < fact n → okOrder cl k = true by
          intro k hk
          unfold okOrder okN
          rw [Hl.out, decide_eq_true (by omega : n ≤ 18), decide_eq_true hnd, Bool.and_self, Bool.true_and, decide_eq_true_eq]
          exact ⟨by omega, by omega, by simpa using hk⟩)
        clear hnd
        have Hmk37 := Lib.hid hmk37
        clear hmk23 hmk37
        go_wp2_with (fail)
        clear hmm
        go_loopw [61] (fun i wr => ∃ k : Nat, k ≤ fact n ∧ i = .int .u64 k ∧ Fair wr w1.heap.size n wo.heap.size (cnt n k) (keys n k) ∧ Below w1.heap.size w1 wr) (fun i _ => fact n - (intOf i).toNat)
        case atStart => exact ⟨0, by omega, rfl, HF.out, hb'⟩
        case round =>
          obtain ⟨k, hk, rfl, hF, hb⟩ := hrel
          by_cases hlt : k < fact n
          · have I1 := Lib.hid (Ints.below HA1.out hb)
            have hkI : (k : Int) < (fact n : Int) := by omega
            have hnn : ((n : Int) != (n : Int)) = false := by simp
            have Hul := Lib.hid (unrank_length n k)
            have Hur := Lib.hid (unr_range n k hlt)
            obtain ⟨wp, rfl⟩ : ∃ wp : World, wp = wr := ⟨_, rfl⟩
            go_wp2_with (fail)
            refine (Order_own A n c cl k _ Hl.out hnc Hcm.out I1.out (Hok.out k hlt)).mono ?_
            rintro e w2 ⟨B, d, rfl, hown, hb2⟩
            have hF2 := hF.below hb2
            have hb12 := below_of hb hb2 hb.size
            have hMle := hF.size
            have Hown := Lib.hid hown
            clear hown hF hb
            go_wp2_with (fail)
            go_loopw [13, 90] (fun key i wr => ∃ (a : Nat) (ks : ByteArray), a ≤ n ∧ i = .int .i64 a ∧ key = .string ks ∧ Hid (ks.data.toList = keyL ((unrank n k).take a)) ∧ Fair wr w1.heap.size n wo.heap.size (cntP n k a) (keys n k) ∧
              Hid (wr.ownsRow wp.heap.size 3 1 (.slice B n d) n (((unrank n k).map (nth cl)).map (Value.int .i64))) ∧ Below w1.heap.size w1 wr) (fun _ i _ => n - (intOf i).toNat)
            case atStart => exact ⟨0, ⟨#[]⟩, by omega, rfl, rfl, rfl, hF2.congr (fun i a _ _ => (cntP_zero n k i a).symm), Hown.out, hb12⟩
            case round =>
              obtain ⟨a, ks, ha, rfl, rfl, Hks, hF, Hown, hb⟩ := hrel
              by_cases hlta : a < n
              · obtain ⟨x, hx⟩ := getElem?_lt (l := unrank n k) (k := a) (by rw [Hul.out]; exact hlta)
                obtain ⟨hx0, hx1⟩ := Hur.out x (List.mem_of_getElem? hx)
                obtain ⟨q, rfl⟩ := Int.eq_ofNat_of_zero_le hx0
                have hqn : q < n := by omega
                obtain ⟨y, hy⟩ := getElem?_lt (l := cl) (k := q) (by rw [Hl.out]; exact hqn)
                obtain ⟨b, off, rfl, hbB, hcl⟩ := (Ints.own Hown.out).at_ (k := a) (by rw [List.length_map, Hul.out]; exact hlta)
                obtain ⟨b0, off0, rfl, hb0, hcl0⟩ := HA1.out.at_ (k := 0) (by rw [Hl.out]; omega)
                have e1 : wr.cell? ⟨b, off + a, none⟩ = some (.int .i64 y) := hcl a _ (by simp [hx, nth, hy])
                have Hcl0 := Lib.hid hcl0
                have Hx := Lib.hid hx
                have Hy := Lib.hid hy
                clear hcl hcl0 hx hy hx0 hx1
                obtain ⟨w0, rfl⟩ : ∃ w0 : World, w0 = wr := ⟨_, rfl⟩
                have HF := Lib.hid hF
                clear hF
                have Hrow := Lib.hid (HF.out.rows q hqn)
                have HC := Lib.hid (cnt_le n k q a)
                go_wp2_with (fail)
                go_loopw [13, 16, 97] (fun key f i wr => ∃ s : Nat, s ≤ n ∧ i = .int .i64 s ∧
                  Inner s q f key wr w0 (w0.setCell ⟨w1.heap.size + 1 + q, a, none⟩ (.int .i64 ((cntP n k a q a : Int) + 1))) (.string ks) (.string (ks ++ Utf8.encode (97 + (q : Int)))))
                  (fun _ _ i _ => n - (intOf i).toNat)
                case atStart => exact ⟨0, by omega, rfl, .inl ⟨by omega, rfl, rfl, rfl⟩⟩
                case round =>
                  obtain ⟨s, hs, rfl, hcase⟩ := hrel
                  rcases hcase with ⟨hsq, rfl, rfl, rfl⟩ | ⟨hsq, rfl, rfl, rfl⟩
                  · obtain ⟨z, hz⟩ := getElem?_lt (l := cl) (k := s) (by rw [Hl.out]; omega)
                    have e2 : wr.cell? ⟨b0, off0 + s, none⟩ = some (.int .i64 z) := (hb.cell hb0).trans (Hcl0.out s _ hz)
                    have hsn : s < n := by omega
                    by_cases hsq2 : s < q
                    · have hne : (y == z) = false := by
                        rw [beq_eq_false_iff_ne]
                        intro e
                        subst e
                        have := (List.getElem?_inj (by rw [Hl.out]; exact hsn) Hnd.out).1 (hz.trans Hy.out.symm)
                        omega
                      clear hz
                      go_wp2_with (fail)
                      go_roundw
                      case rel => exact ⟨s + 1, by omega, by go_num, .inl ⟨by omega, rfl, rfl, rfl⟩⟩
                      case measure => simp [intOf]; omega
                    · obtain rfl : s = q := by omega
                      obtain rfl : y = z := by
                        have := Hy.out
                        rw [hz] at this
                        injection this with this
                        exact this.symm
                      have hne : (y == y) = true := by simp
                      have e3 : wr.cell? ⟨w1.heap.size, s, none⟩ = some (.slice (some ⟨w1.heap.size + 1 + s, 0, none⟩) n n) := by
                        rw [HF.out.outer.cell s, outer_get hsn, if_pos hsn]
                      have e4 : wr.cell? ⟨w1.heap.size + 1 + s, a, none⟩ = some (.int .i64 (cntP n k a s a : Int)) := by
                        rw [Hrow.out.cell a, rowC_get hlta]
                      have e5 := Hrow.out.frozen a
                      have hcb : (cntP n k a s a : Int) ≤ 1000 := by
                        have h1 := HC.out
                        have h2 : cntP n k a s a ≤ cnt n k s a + 1 := by unfold cntP; split <;> omega
                        omega
                      have hrs := Lib.hid (rune_str (i := s) (by omega))
                      clear hz
                      obtain ⟨eb, heb⟩ : ∃ eb, Utf8.encode (97 + (s : Int)) = eb := ⟨_, rfl⟩
                      have heb1 : eb.size ≤ 1 := by rw [← heb, hrs.out]; exact Nat.le_refl _
                      have hks1 : ks.size ≤ 6 := by
                        have h := congrArg List.length Hks.out
                        simp only [keyL, List.length_map, List.length_take, Hul.out] at h
                        have : ks.data.toList.length = ks.size := rfl
                        omega
                      go_wp2_with (fail)
                      go_roundw
                      case rel => exact ⟨s + 1, by omega, by go_num, .inr ⟨by omega, rfl, by rw [heb], rfl⟩⟩
                      case measure => simp [intOf]; omega
                  · by_cases hlts : s < n
                    · obtain ⟨z, hz⟩ := getElem?_lt (l := cl) (k := s) (by rw [Hl.out]; omega)
                      have e2 : (w0.setCell ⟨w1.heap.size + 1 + q, a, none⟩ (.int .i64 ((cntP n k a q a : Int) + 1))).cell? ⟨b0, off0 + s, none⟩ = some (.int .i64 z) := by
                        rw [World.cell?_setCell_other _ _ _ _ (by simp <;> omega)]
                        exact (hb.cell hb0).trans (Hcl0.out s _ hz)
                      have hne : (y == z) = false := by
                        rw [beq_eq_false_iff_ne]
                        intro e
                        subst e
                        have := (List.getElem?_inj (by rw [Hl.out]; exact hlts) Hnd.out).1 (hz.trans Hy.out.symm)
                        omega
                      clear hz
                      go_wp2_with (fail)
                      go_roundw
                      case rel => exact ⟨s + 1, by omega, by go_num, .inr ⟨by omega, rfl, rfl, rfl⟩⟩
                      case measure => simp [intOf]; omega
                    · have hF' := (HF.out.bump_ (a := a) hqn).congr (C' := cntP n k (a + 1)) (fun i b _ _ => cntP_step Hx.out i b)
                      have hks' := Lib.hid (show (ks ++ Utf8.encode (97 + (q : Int))).data.toList = keyL ((unrank n k).take (a + 1)) by
                        rw [rune_str (by omega), take_snoc Hx.out]
                        simp [keyL, Hks.out])
                      have hown' := ownsRow_setCell_below Hown.out (a := ⟨w1.heap.size + 1 + q, a, none⟩) (by have := HF.out.le; simp; omega) (.int .i64 ((cntP n k a q a : Int) + 1))
                      have hb' := hb.setCell (p := ⟨w1.heap.size + 1 + q, a, none⟩) (by simp; omega) (.int .i64 ((cntP n k a q a : Int) + 1))
                      go_wp2_with (fail)
                      go_roundw
                      case rel => exact ⟨a + 1, _, by omega, by go_num, rfl, hks', hF', hown', hb'⟩
                      case measure => simp [intOf]; omega
              · have Hks2 := Lib.hid (show ks.data.toList = keyL (unrank n k) by
                  have h := Hks.out
                  rwa [List.take_of_length_le (by rw [Hul.out]; omega)] at h)
                have hks1 : ks.size ≤ 6 := by
                  have h := congrArg List.length Hks2.out
                  simp only [keyL, List.length_map, Hul.out] at h
                  have : ks.data.toList.length = ks.size := rfl
                  omega
                have hF3 : Fair wr w1.heap.size n wo.heap.size (cnt n (k + 1)) (keys n k) := hF.congr (fun i b _ hb => by
                  obtain rfl : a = n := by omega
                  exact cntP_full hb)
                have hnew : ks.data.toList ∉ keys n k := by rw [Hks2.out]; exact keys_new hn6 hlt
                have hlook : (Instr.lookup 38 (.map (some wo.heap.size)) (.string ks) false).run Try.prog wr = .ok (.bool false) wr := by
                  have h := hF.set_.look Try.underlying9 Try.underlying38 Try.underlying4 (by kernel_rfl) ks (by unfold maxLen; omega)
                  rwa [decide_eq_false hnew] at h
                obtain ⟨w4, hst, hF4, hg4⟩ := hF3.store ks (by unfold maxLen; omega) (by rw [keys_length]; unfold maxLen; omega) hnew
                have hb4 := hb.grown hg4 (by have := hF.size; have := hF.le; omega) (fun j hj => by injection hj with hj; have := hF.le; omega)
                have HF4 := Lib.hid (show Fair w4 w1.heap.size n wo.heap.size (cnt n (k + 1)) (keys n (k + 1)) by
                  rw [keys_succ, ← Hks2.out]; exact hF4)
                clear hF hF3 hF4 hnew
                go_wp2_with (fail)
                go_roundw
                case rel => exact ⟨k + 1, by omega, by go_num, HF4.out, hb4⟩
                case measure => simp [intOf]; omega
          · obtain rfl : k = fact n := by omega
            obtain ⟨wp, rfl⟩ : ∃ wp : World, wp = wr := ⟨_, rfl⟩
            have HF := Lib.hid hF
            have Hlen := Lib.hid (hF.set_.len (t := 38) Try.underlying38)
            clear hF
            go_wp2_with (fail)
            go_loop [136] (fun i => ∃ t : Nat, t ≤ n ∧ i = .int .i64 t) (fun i => n - (intOf i).toNat)
            case atStart => exact ⟨0, by omega, rfl⟩
            case round =>
              obtain ⟨t, ht, rfl⟩ := hrel
              by_cases hltt : t < n
              · have e1 : wp.cell? ⟨w1.heap.size, t, none⟩ = some (.slice (some ⟨w1.heap.size + 1 + t, 0, none⟩) n n) := by
                  rw [HF.out.outer.cell t, outer_get hltt, if_pos hltt]
                have Hrow := Lib.hid (HF.out.rows t hltt)
                go_wp2_with (fail)
                go_loop [144] (fun i => ∃ a : Nat, a ≤ n ∧ i = .int .i64 a) (fun i => n - (intOf i).toNat)
                case atStart => exact ⟨0, by omega, rfl⟩
                case round =>
                  obtain ⟨a, ha, rfl⟩ := hrel
                  by_cases hlta : a < n
                  · have e2 : wp.cell? ⟨w1.heap.size + 1 + t, a, none⟩ = some (.int .i64 (cnt n (fact n) t a : Int)) := by
                      rw [Hrow.out.cell a, rowC_get hlta]
                    have hfair := fair hn1 hn6 hltt hlta
                    have hmul : ((cnt n (fact n) t a : Int) * (n : Int)) = (fact n : Int) := by rw [← Int.natCast_mul, hfair]
                    have hne : ((fact n : Int) != (fact n : Int)) = false := by simp
                    clear hfair
                    go_wp2_with (fail)
                    go_round
                    case rel => exact ⟨a + 1, by omega, by go_num⟩
                    case measure => simp [intOf]; omega
                  · go_wp2_with (fail)
                    go_round
                    case rel => exact ⟨t + 1, by omega, by go_num⟩
                    case measure => simp [intOf]; omega
              · have hlen := Hlen.out
                rw [keys_length] at hlen
                have hne : ((fact n : Int) == (fact n : Int)) = true := by simp
                go_wp2_with (fail)
                go_ret
                exact ⟨rfl, below_of H1 hb H1.size⟩
      · have Hbad := Lib.hid (show ∀ k, okOrder cl k = false by
          intro k
          unfold okOrder
          rw [decide_eq_false hnd, Bool.and_false, Bool.false_and])
        have HB := Lib.hid (fun (W : World) (k : Nat) (hI : Ints W A cl) => Order_res A n c cl k W Hl.out hnc Hcm.out hI)
        clear hnd HF
        have hmk23 := True.intro
        clear hmk37
        go_wp2_with (fail)
        go_loopw [61] (fun i wr => i = .int .u64 0 ∧ Below w1.heap.size w1 wr) (fun i _ => 0)
        case atStart => exact ⟨rfl, hb'⟩
        case round =>
          obtain ⟨rfl, hb⟩ := hrel
          have I1 := Lib.hid (Ints.below HA1.out hb)
          go_wp2_with (fail)
          refine (HB.out _ 0 I1.out).mono ?_
          rintro e w2 ⟨A2, m2, c2, rfl, hl2, hm2, hc2, hI2, hb2⟩
          rw [errOf_false (Hbad.out 0)]
          have hb12 := below_of hb hb2 hb.size
          have I2 := Lib.hid (Ints.below HA1.out hb12)
          clear hl2
          go_wp2_with (fail)
          refine (HB.out _ 0 I2.out).mono ?_
          rintro e w3 ⟨A3, m3, c3, rfl, hl3, hm3, hc3, hI3, hb3⟩
          rw [errOf_false (Hbad.out 0)]
          have hb13 := below_of hb12 hb3 hb12.size
          clear hl3
          go_wp2_with (fail)
          go_ret
          exact ⟨rfl, below_of H1 hb13 H1.size⟩

theorem lotsFair_own : ownKnob Try.prog.godebug = none := by kernel_rfl
theorem lotsFair_laidOut : laidOutB Try.prog = true := by kernel_rfl
theorem lotsFair_readable : (Try.f7.params.toList.all fun t => Try.prog.readableRec t && decide (t < Try.prog.types.size)) = true := by kernel_rfl
set_option maxRecDepth 100000 in
theorem lotsFair_lifted (os : Os) (started : os.Started) (H : Type) (enc : TypeId × Value → H) :
    ReturnsInHanded {} Try.checked os 7 .any (Rows.lotsFairSpec.pre6 enc Try.prog Try.f7 Rows.lotsFairRow.domain false) (Rows.lotsFairSpec.post enc Try.prog Try.f7 false true false false) := by
  refine returnsInHanded_of_change (C := Try.checked) lotsFair_own started (by kernel_rfl) Try.func7
    (ChangeSpec.witness6 (enc := enc) (C := Try.checked) false ⟨#[], #[.slice none 0 0], []⟩ 8 (by kernel_rfl) (by kernel_rfl) (by kernel_rfl) (by kernel_rfl)) ?_
  intro W base args ds gs before hval0 hW hcnd _
  have hval : ∀ (j : Nat) t v, Try.f7.params[j]? = some t → args[j]? = some v → Value.okWide Try.prog W .any base t v := hval0
  have hW' := hW
  obtain ⟨p, q, hA0, hV, rfl, hfz, hnd⟩ := hW
  have hA : DataW.TrodAll enc Try.prog W 0 (fun _ => true) true Try.f7.params.toList args.toList ds p := hA0
  rw [Try.params7] at hA hval
  obtain ⟨v0, vs0, d0, ds0, p0, q0, hargs, rfl, rfl, h0, r0⟩ := trodAll_cons hA
  obtain ⟨rfl, rfl, rfl⟩ := trodAll_nil r0
  obtain rfl : args = #[v0] := by cases args; simp_all
  obtain ⟨rfl, rfl⟩ := trodVars_none hV
  obtain ⟨A0, n0, c0, xs0, rfl, l0, nc0, cm0, g0, w0⟩ := open_intslice Try.underlying23 Try.underlying3 (by kernel_rfl) (hval 0 23 v0 rfl rfl) h0
  refine (LotsFair_walk W A0 n0 c0 xs0 l0 nc0 cm0 g0 w0).mono fun e W' ⟨he, hb⟩ => ?_
  subst he
  simp only [List.append_nil] at hW'
  refine ⟨_, rfl, law_post lotsFair_laidOut ?_ (by kernel_rfl) Try.underlying4 rfl hW' rfl rfl rfl hb⟩
  intro t ht
  have hr := List.all_eq_true.1 lotsFair_readable t ht
  rw [Bool.and_eq_true] at hr
  exact ⟨hr.1, of_decide_eq_true hr.2⟩
theorem lotsFair_over : Rows.lotsFairRow.holds Try.pinned (OpenSpec.ofChange Rows.lotsFairSpec) :=
  OpenClaim.holds_of_wide 7 Try.f7 rfl rfl rfl rfl rfl rfl rfl ⟨rfl, rfl, rfl, rfl, rfl⟩ rfl rfl rfl rfl rfl (by kernel_rfl) Try.func7 (by kernel_rfl)
    (of_decide_eq_true (by kernel_rfl)) (by unfold Func.isWrapper; rw [if_neg (of_decide_eq_false (by kernel_rfl))]; exact ⟨rfl, rfl⟩)
    (fun os started H enc _ => lotsFair_lifted os started H enc)
theorem lotsFair_proved : Rows.LotsFairSaid := lotsFair_over
#print axioms lotsFair_proved
end Go.Proofs.Ytbccdjaeopfalaa
