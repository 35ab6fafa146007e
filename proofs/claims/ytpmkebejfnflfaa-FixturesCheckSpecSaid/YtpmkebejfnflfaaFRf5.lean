/- The walks of the reference's Full (fixtures). -/
import Derived.Test.YtpmkebejfnflfaaFRf4
import Derived.Deep.RegionHeld3
namespace Go.Proofs.Ytpmkebejfnflfaa
open Go.RowKit Go.Shelf Go.Lib
set_option linter.unusedVariables false
set_option linter.unusedSimpArgs false
namespace Fix
theorem pair_count {S : List Mt} (hn : S.Nodup) (d : Bool) (a b : Int) : okPair S d a b = decide (S.count (a, b) + S.count (b, a) = if d then 2 else 1) := by
  rw [count_nodup hn, count_nodup hn]
  unfold okPair
  by_cases h1 : (a, b) ∈ S <;> by_cases h2 : (b, a) ∈ S <;> cases d <;> simp [h1, h2]
end Fix
set_option maxRecDepth 100000 in
set_option maxHeartbeats 16000000 in
theorem rfull_any (A : Option Addr) (n c : Nat) (ls : List (List (Int × Int))) (B : Option Addr) (m d : Nat) (cl : List Int) (dbl : Bool) (w : World) (hl : ls.length = n) (hn : n ≤ 1000000) (hC : RoundsC w A ls) (hm : cl.length = m) (hmd : m ≤ d) (hdm : d ≤ maxLen) (hK : Ints w B cl) (hs : ls.flatten.length ≤ 1000000) :
    Calls Try.prog 16 #[.agg #[.slice A n c], .slice B m d, .bool dbl] w fun e w' => e = .returned (.tuple #[.bool (Fix.fullR cl ls dbl), .int .i64 (Fix.checkE cl ls)]) ∧ Below w.heap.size w w' := by
  have HCK := Lib.hid (fun W h h' => rcheck_any A n c ls B m d cl W hl hn h hm hmd hdm h' hs)
  have HC := Lib.hid hC
  have HK := Lib.hid hK
  have HN := Lib.hid (fun a b W h => count_any A n c ls a b W hl hn h hs)
  have Hcm := Lib.hid hm
  have hcb : ∀ a : Int × Int, ls.flatten.count a ≤ 1000000 := fun a => Nat.le_trans (Fix.count_le _ _) hs
  have Hcb := Lib.hid hcb
  unfold maxLen at hdm
  by_cases hck : Fix.checkE cl ls = 0
  · have hf : Fix.fullR cl ls dbl = Fix.fullB cl ls.flatten dbl := by unfold Fix.fullR; rw [decide_eq_true hck, Bool.true_and]
    have hnd := (Fix.okL_iff.1 (Fix.checkE_zero.1 hck).2.2).2.1
    have Hnd := Lib.hid (fun a b => Fix.pair_count hnd dbl a b)
    rw [hf, hck]
    rw [hck] at HCK
    have hmb : m ≤ 24 := by rw [← hm]; exact (Fix.validC_iff.1 (Fix.checkE_zero.1 hck).1).2.1
    clear hC hK hl hs hm hf hnd hck hcb
    obtain ⟨R, hR⟩ : ∃ R, Fix.fullB cl ls.flatten dbl = R := ⟨_, rfl⟩
    have HR := Lib.hid hR
    rw [hR]
    clear hR
    obtain ⟨want, hwant⟩ : ∃ want : Nat, want = if dbl then 2 else 1 := ⟨_, rfl⟩
    rw [← hwant] at Hnd
    have hw2 : want ≤ 2 := by rw [hwant]; split <;> omega
    cases dbl with
    | false =>
      simp only [Bool.false_eq_true, if_false, if_true] at hwant
      go_enter Try.func16, Try.ntmps16
      go_upto_region 1 with (fail)
      generalize hge : World.alloc _ _ = w0
      have H0 := Lib.hid (show Blk w0 w.heap.size 26 #[.slice A n c] by subst hge; exact Blk.new w _ _)
      have HB0 := Lib.hid (show Below w.heap.size w w0 by subst hge; exact (Below.refl _ _).alloc (Nat.le_refl _) _)
      clear hge
      have q0 : w0.cell? ⟨w.heap.size, 0, none⟩ = some (.slice A n c) := H0.out.cell 0
      go_wp2_with (fail)
      refine (HCK.out w0 (HC.out.below HB0.out) (HK.out.below HB0.out)).mono ?_
      rintro e w1 ⟨rfl, hb1⟩
      have H1 := Lib.hid (cellkR hb1 q0)
      have HB1 := Lib.hid (below_of HB0.out hb1 HB0.out.size)
      have HCw := Lib.hid (HC.out.below HB1.out)
      have HKw := Lib.hid (HK.out.below HB1.out)
      clear hb1 q0 HCK HC HK H0
      go_wp2_with (fail)
      go_loopw [10] (fun i W => ∃ k : Nat, k ≤ m ∧ i = .int .i64 k ∧ Hid (∀ (i' k' : Nat) (a b : Int), i' < k → cl[i']? = some a → cl[k']? = some b → k' < i' → Fix.okPair ls.flatten false a b = true) ∧ Hid (Below w1.heap.size w1 W)) (fun i _ => m - (intOf i).toNat)
      case atStart => exact ⟨0, Nat.zero_le _, rfl, Lib.hid (fun i' k' a b h => by omega), Below.refl _ _⟩
      case round =>
        obtain ⟨wk, rfl⟩ : ∃ wk : World, wk = wr := ⟨_, rfl⟩
        obtain ⟨i, hi, rfl, Hg, hB⟩ := hrel
        by_cases hlt : i < m
        · obtain ⟨x, hx⟩ := getElem?_lt (l := cl) (k := i) (by rw [Hcm.out]; exact hlt)
          obtain ⟨b1, off1, rfl, hb, hcs⟩ := (HKw.out.below hB.out).at_ (k := i) (by rw [Hcm.out]; exact hlt)
          have Hx := Lib.hid hx
          have Hcs := Lib.hid hcs
          have Hc1 := Lib.hid (hcs i x hx)
          have Hq0 := Lib.hid (cellkR hB.out H1.out)
          clear hx hcs
          go_wp2_with (fail)
          go_loopw [11] (fun j W => ∃ k : Nat, k ≤ i ∧ j = .int .i64 k ∧ Hid (∀ (k' : Nat) (b : Int), k' < k → cl[k']? = some b → Fix.okPair ls.flatten false x b = true) ∧ Hid (Below wk.heap.size wk W)) (fun j _ => i - (intOf j).toNat)
          case atStart => exact ⟨0, Nat.zero_le _, rfl, Lib.hid (fun k' b h => by omega), Below.refl _ _⟩
          case round =>
            obtain ⟨wj, rfl⟩ : ∃ wj : World, wj = wr := ⟨_, rfl⟩
            obtain ⟨k, hk, rfl, Hgk, hBj⟩ := hrel
            by_cases hkl : k < i
            · obtain ⟨y, hy⟩ := getElem?_lt (l := cl) (k := k) (by rw [Hcm.out]; omega)
              have q0 := cellkR hBj.out Hq0.out
              have q1 := cellkR hBj.out Hc1.out
              have q2 := cellkR hBj.out (Hcs.out k y hy)
              have Hy := Lib.hid hy
              have HN1 := Lib.hid (fun W h => HN.out x y W h)
              have HN2 := Lib.hid (fun W h => HN.out y x W h)
              have HCj := Lib.hid ((HCw.out.below hB.out).below hBj.out)
              have hpc := Hnd.out x y
              have t1b := Hcb.out (x, y)
              have t2b := Hcb.out (y, x)
              generalize ls.flatten.count (x, y) = t1 at *
              generalize ls.flatten.count (y, x) = t2 at *
              have s1 : IntKind.i64.wrap ((t1 : Int) + (t2 : Int)) = (t1 : Int) + (t2 : Int) := IntWalk.i64_in _ (by omega)
              clear hy
              have hkm : (k : Int) < (m : Int) := by omega
              have hkm2 : k < m := by omega
              go_wp2_with (fail)
              by_cases hw : t1 + t2 = want
              · have dw : decide ((t1 : Int) + (t2 : Int) = (want : Int)) = true := by simp; omega
                have dw' : ((t1 : Int) + (t2 : Int) == (want : Int)) = true := by simp; omega
                rw [decide_eq_true hw] at hpc
                have Hpc := Lib.hid hpc
                subst hwant
                clear hpc hw
                go_region_held3 (fun W => W.cell? ⟨w.heap.size, 0, none⟩ = some (.slice A n c) ∧ W.cell? ⟨b1, off1 + i, none⟩ = some (.int .i64 x) ∧ W.cell? ⟨b1, off1 + k, none⟩ = some (.int .i64 y) ∧ Below wj.heap.size wj W)
                  (first
                    | exact ⟨by assumption, by assumption, by assumption, by assumption⟩
                    | exact ⟨q0, q1, q2, below_drewN (Below.refl _ _) 1⟩)
                  (first
                    | (go_at_call 38; go_split_ands; (first | (with_reducible refine (HN1.out _ (HCj.out.below (by assumption))).mono ?_) | (with_reducible refine (HN2.out _ (HCj.out.below (by assumption))).mono ?_)); rintro e wc ⟨rfl, hbwc⟩; have k0 : wc.cell? ⟨w.heap.size, 0, none⟩ = some (.slice A n c) := cellkR hbwc (by assumption); have k1 : wc.cell? ⟨b1, off1 + i, none⟩ = some (.int .i64 x) := cellkR hbwc (by assumption); have k2 : wc.cell? ⟨b1, off1 + k, none⟩ = some (.int .i64 y) := cellkR hbwc (by assumption); have k4 : Below wj.heap.size wj wc := below_of (by assumption) hbwc (Below.size (by assumption)))
                    | (fail))
                all_goals
                  go_wp2_with (fail)
                  go_roundw
                  case rel => exact ⟨k + 1, by omega, by go_num, Lib.hid (fun k' b h1 h2 => by
                    rcases Nat.lt_or_ge k' k with h | h
                    · exact Hgk.out k' b h h2
                    · obtain rfl : k' = k := by omega
                      rw [Hy.out] at h2
                      injection h2 with h2
                      rw [← h2]; exact Hpc.out), below_of hBj.out (by assumption) hBj.out.size⟩
                  case measure => simp [intOf]; omega
              · have dw : decide ((t1 : Int) + (t2 : Int) = (want : Int)) = false := by simp; omega
                have dw' : ((t1 : Int) + (t2 : Int) == (want : Int)) = false := by simp; omega
                rw [decide_eq_false hw] at hpc
                have hRf : R = false := by rw [← HR.out]; exact Fix.fullB_bad Hx.out Hy.out hkl hpc
                subst hRf
                subst hwant
                clear hpc hw
                go_region_held3 (fun W => W.cell? ⟨w.heap.size, 0, none⟩ = some (.slice A n c) ∧ W.cell? ⟨b1, off1 + i, none⟩ = some (.int .i64 x) ∧ W.cell? ⟨b1, off1 + k, none⟩ = some (.int .i64 y) ∧ Below wj.heap.size wj W)
                  (first
                    | exact ⟨by assumption, by assumption, by assumption, by assumption⟩
                    | exact ⟨q0, q1, q2, below_drewN (Below.refl _ _) 1⟩)
                  (first
                    | (go_at_call 38; go_split_ands; (first | (with_reducible refine (HN1.out _ (HCj.out.below (by assumption))).mono ?_) | (with_reducible refine (HN2.out _ (HCj.out.below (by assumption))).mono ?_)); rintro e wc ⟨rfl, hbwc⟩; have k0 : wc.cell? ⟨w.heap.size, 0, none⟩ = some (.slice A n c) := cellkR hbwc (by assumption); have k1 : wc.cell? ⟨b1, off1 + i, none⟩ = some (.int .i64 x) := cellkR hbwc (by assumption); have k2 : wc.cell? ⟨b1, off1 + k, none⟩ = some (.int .i64 y) := cellkR hbwc (by assumption); have k4 : Below wj.heap.size wj wc := below_of (by assumption) hbwc (Below.size (by assumption)))
                    | (fail))
                all_goals
                  go_wp2_with (fail)
                  go_ret2
                  exact ⟨rfl, below_of HB1.out (below_of (below_of hB.out hBj.out hB.out.size) (by assumption) (below_of hB.out hBj.out hB.out.size).size) HB1.out.size⟩
            · obtain rfl : i = k := by omega
              go_wp2_with (fail)
              go_roundw
              case rel => exact ⟨i + 1, by omega, by go_num, Lib.hid (fun i' k' a b h1 h2 h3 h4 => by
                rcases Nat.lt_or_ge i' i with h | h
                · exact Hg.out i' k' a b h h2 h3 h4
                · obtain rfl : i' = i := by omega
                  rw [Hx.out] at h2
                  injection h2 with h2
                  rw [← h2]
                  exact Hgk.out k' b h4 h3), below_of hB.out hBj.out hB.out.size⟩
              case measure => simp [intOf]; omega
        · obtain rfl : m = i := by omega
          have hRt : R = true := by
            rw [← HR.out]
            exact Fix.fullB_good fun i' k' a b h1 h2 h3 => Hg.out i' k' a b (by rw [← Hcm.out]; exact (List.getElem?_eq_some_iff.1 h1).1) h1 h2 h3
          subst hRt
          go_wp2_with (fail)
          go_ret2
          exact ⟨rfl, below_of HB1.out hB.out HB1.out.size⟩
    | true =>
      simp only [Bool.false_eq_true, if_false, if_true] at hwant
      go_enter Try.func16, Try.ntmps16
      go_upto_region 1 with (fail)
      generalize hge : World.alloc _ _ = w0
      have H0 := Lib.hid (show Blk w0 w.heap.size 26 #[.slice A n c] by subst hge; exact Blk.new w _ _)
      have HB0 := Lib.hid (show Below w.heap.size w w0 by subst hge; exact (Below.refl _ _).alloc (Nat.le_refl _) _)
      clear hge
      have q0 : w0.cell? ⟨w.heap.size, 0, none⟩ = some (.slice A n c) := H0.out.cell 0
      go_wp2_with (fail)
      refine (HCK.out w0 (HC.out.below HB0.out) (HK.out.below HB0.out)).mono ?_
      rintro e w1 ⟨rfl, hb1⟩
      have H1 := Lib.hid (cellkR hb1 q0)
      have HB1 := Lib.hid (below_of HB0.out hb1 HB0.out.size)
      have HCw := Lib.hid (HC.out.below HB1.out)
      have HKw := Lib.hid (HK.out.below HB1.out)
      clear hb1 q0 HCK HC HK H0
      go_wp2_with (fail)
      go_loopw [10] (fun i W => ∃ k : Nat, k ≤ m ∧ i = .int .i64 k ∧ Hid (∀ (i' k' : Nat) (a b : Int), i' < k → cl[i']? = some a → cl[k']? = some b → k' < i' → Fix.okPair ls.flatten true a b = true) ∧ Hid (Below w1.heap.size w1 W)) (fun i _ => m - (intOf i).toNat)
      case atStart => exact ⟨0, Nat.zero_le _, rfl, Lib.hid (fun i' k' a b h => by omega), Below.refl _ _⟩
      case round =>
        obtain ⟨wk, rfl⟩ : ∃ wk : World, wk = wr := ⟨_, rfl⟩
        obtain ⟨i, hi, rfl, Hg, hB⟩ := hrel
        by_cases hlt : i < m
        · obtain ⟨x, hx⟩ := getElem?_lt (l := cl) (k := i) (by rw [Hcm.out]; exact hlt)
          obtain ⟨b1, off1, rfl, hb, hcs⟩ := (HKw.out.below hB.out).at_ (k := i) (by rw [Hcm.out]; exact hlt)
          have Hx := Lib.hid hx
          have Hcs := Lib.hid hcs
          have Hc1 := Lib.hid (hcs i x hx)
          have Hq0 := Lib.hid (cellkR hB.out H1.out)
          clear hx hcs
          go_wp2_with (fail)
          go_loopw [11] (fun j W => ∃ k : Nat, k ≤ i ∧ j = .int .i64 k ∧ Hid (∀ (k' : Nat) (b : Int), k' < k → cl[k']? = some b → Fix.okPair ls.flatten true x b = true) ∧ Hid (Below wk.heap.size wk W)) (fun j _ => i - (intOf j).toNat)
          case atStart => exact ⟨0, Nat.zero_le _, rfl, Lib.hid (fun k' b h => by omega), Below.refl _ _⟩
          case round =>
            obtain ⟨wj, rfl⟩ : ∃ wj : World, wj = wr := ⟨_, rfl⟩
            obtain ⟨k, hk, rfl, Hgk, hBj⟩ := hrel
            by_cases hkl : k < i
            · obtain ⟨y, hy⟩ := getElem?_lt (l := cl) (k := k) (by rw [Hcm.out]; omega)
              have q0 := cellkR hBj.out Hq0.out
              have q1 := cellkR hBj.out Hc1.out
              have q2 := cellkR hBj.out (Hcs.out k y hy)
              have Hy := Lib.hid hy
              have HN1 := Lib.hid (fun W h => HN.out x y W h)
              have HN2 := Lib.hid (fun W h => HN.out y x W h)
              have HCj := Lib.hid ((HCw.out.below hB.out).below hBj.out)
              have hpc := Hnd.out x y
              have t1b := Hcb.out (x, y)
              have t2b := Hcb.out (y, x)
              generalize ls.flatten.count (x, y) = t1 at *
              generalize ls.flatten.count (y, x) = t2 at *
              have s1 : IntKind.i64.wrap ((t1 : Int) + (t2 : Int)) = (t1 : Int) + (t2 : Int) := IntWalk.i64_in _ (by omega)
              clear hy
              have hkm : (k : Int) < (m : Int) := by omega
              have hkm2 : k < m := by omega
              go_wp2_with (fail)
              by_cases hw : t1 + t2 = want
              · have dw : decide ((t1 : Int) + (t2 : Int) = (want : Int)) = true := by simp; omega
                have dw' : ((t1 : Int) + (t2 : Int) == (want : Int)) = true := by simp; omega
                rw [decide_eq_true hw] at hpc
                have Hpc := Lib.hid hpc
                subst hwant
                clear hpc hw
                go_region_held3 (fun W => W.cell? ⟨w.heap.size, 0, none⟩ = some (.slice A n c) ∧ W.cell? ⟨b1, off1 + i, none⟩ = some (.int .i64 x) ∧ W.cell? ⟨b1, off1 + k, none⟩ = some (.int .i64 y) ∧ Below wj.heap.size wj W)
                  (first
                    | exact ⟨by assumption, by assumption, by assumption, by assumption⟩
                    | exact ⟨q0, q1, q2, below_drewN (Below.refl _ _) 1⟩)
                  (first
                    | (go_at_call 38; go_split_ands; (first | (with_reducible refine (HN1.out _ (HCj.out.below (by assumption))).mono ?_) | (with_reducible refine (HN2.out _ (HCj.out.below (by assumption))).mono ?_)); rintro e wc ⟨rfl, hbwc⟩; have k0 : wc.cell? ⟨w.heap.size, 0, none⟩ = some (.slice A n c) := cellkR hbwc (by assumption); have k1 : wc.cell? ⟨b1, off1 + i, none⟩ = some (.int .i64 x) := cellkR hbwc (by assumption); have k2 : wc.cell? ⟨b1, off1 + k, none⟩ = some (.int .i64 y) := cellkR hbwc (by assumption); have k4 : Below wj.heap.size wj wc := below_of (by assumption) hbwc (Below.size (by assumption)))
                    | (fail))
                all_goals
                  go_wp2_with (fail)
                  go_roundw
                  case rel => exact ⟨k + 1, by omega, by go_num, Lib.hid (fun k' b h1 h2 => by
                    rcases Nat.lt_or_ge k' k with h | h
                    · exact Hgk.out k' b h h2
                    · obtain rfl : k' = k := by omega
                      rw [Hy.out] at h2
                      injection h2 with h2
                      rw [← h2]; exact Hpc.out), below_of hBj.out (by assumption) hBj.out.size⟩
                  case measure => simp [intOf]; omega
              · have dw : decide ((t1 : Int) + (t2 : Int) = (want : Int)) = false := by simp; omega
                have dw' : ((t1 : Int) + (t2 : Int) == (want : Int)) = false := by simp; omega
                rw [decide_eq_false hw] at hpc
                have hRf : R = false := by rw [← HR.out]; exact Fix.fullB_bad Hx.out Hy.out hkl hpc
                subst hRf
                subst hwant
                clear hpc hw
                go_region_held3 (fun W => W.cell? ⟨w.heap.size, 0, none⟩ = some (.slice A n c) ∧ W.cell? ⟨b1, off1 + i, none⟩ = some (.int .i64 x) ∧ W.cell? ⟨b1, off1 + k, none⟩ = some (.int .i64 y) ∧ Below wj.heap.size wj W)
                  (first
                    | exact ⟨by assumption, by assumption, by assumption, by assumption⟩
                    | exact ⟨q0, q1, q2, below_drewN (Below.refl _ _) 1⟩)
                  (first
                    | (go_at_call 38; go_split_ands; (first | (with_reducible refine (HN1.out _ (HCj.out.below (by assumption))).mono ?_) | (with_reducible refine (HN2.out _ (HCj.out.below (by assumption))).mono ?_)); rintro e wc ⟨rfl, hbwc⟩; have k0 : wc.cell? ⟨w.heap.size, 0, none⟩ = some (.slice A n c) := cellkR hbwc (by assumption); have k1 : wc.cell? ⟨b1, off1 + i, none⟩ = some (.int .i64 x) := cellkR hbwc (by assumption); have k2 : wc.cell? ⟨b1, off1 + k, none⟩ = some (.int .i64 y) := cellkR hbwc (by assumption); have k4 : Below wj.heap.size wj wc := below_of (by assumption) hbwc (Below.size (by assumption)))
                    | (fail))
                all_goals
                  go_wp2_with (fail)
                  go_ret2
                  exact ⟨rfl, below_of HB1.out (below_of (below_of hB.out hBj.out hB.out.size) (by assumption) (below_of hB.out hBj.out hB.out.size).size) HB1.out.size⟩
            · obtain rfl : i = k := by omega
              go_wp2_with (fail)
              go_roundw
              case rel => exact ⟨i + 1, by omega, by go_num, Lib.hid (fun i' k' a b h1 h2 h3 h4 => by
                rcases Nat.lt_or_ge i' i with h | h
                · exact Hg.out i' k' a b h h2 h3 h4
                · obtain rfl : i' = i := by omega
                  rw [Hx.out] at h2
                  injection h2 with h2
                  rw [← h2]
                  exact Hgk.out k' b h4 h3), below_of hB.out hBj.out hB.out.size⟩
              case measure => simp [intOf]; omega
        · obtain rfl : m = i := by omega
          have hRt : R = true := by
            rw [← HR.out]
            exact Fix.fullB_good fun i' k' a b h1 h2 h3 => Hg.out i' k' a b (by rw [← Hcm.out]; exact (List.getElem?_eq_some_iff.1 h1).1) h1 h2 h3
          subst hRt
          go_wp2_with (fail)
          go_ret2
          exact ⟨rfl, below_of HB1.out hB.out HB1.out.size⟩
  · have hf : Fix.fullR cl ls dbl = false := by unfold Fix.fullR; rw [decide_eq_false hck]; rfl
    have hE : Fix.checkE cl ls = 1 ∨ Fix.checkE cl ls = 2 ∨ Fix.checkE cl ls = 300 := by
      rcases Fix.checkE_cases cl ls with h | h | h | h
      · exact absurd h hck
      · exact .inl h
      · exact .inr (.inl h)
      · exact .inr (.inr h)
    rw [hf]
    generalize Fix.checkE cl ls = er at *
    clear hC hK hl hs hm hf hck HN hcb
    rcases hE with rfl | rfl | rfl
    all_goals
      go_enter Try.func16, Try.ntmps16
      go_upto_region 1 with (fail)
      generalize hge : World.alloc _ _ = w0
      have H0 := Lib.hid (show Blk w0 w.heap.size 26 #[.slice A n c] by subst hge; exact Blk.new w _ _)
      have HB0 := Lib.hid (show Below w.heap.size w w0 by subst hge; exact (Below.refl _ _).alloc (Nat.le_refl _) _)
      clear hge
      have q0 : w0.cell? ⟨w.heap.size, 0, none⟩ = some (.slice A n c) := H0.out.cell 0
      go_wp2_with (fail)
      refine (HCK.out w0 (HC.out.below HB0.out) (HK.out.below HB0.out)).mono ?_
      rintro e w1 ⟨rfl, hb1⟩
      have HB1 := Lib.hid (below_of HB0.out hb1 HB0.out.size)
      clear hb1 q0
      go_wp2_with (fail)
      go_ret2
      exact ⟨rfl, HB1.out⟩
end Go.Proofs.Ytpmkebejfnflfaa
