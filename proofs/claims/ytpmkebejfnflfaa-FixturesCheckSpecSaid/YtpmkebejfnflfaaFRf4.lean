/- The walks of the reference's Check and Full (fixtures). -/
import Derived.Test.YtpmkebejfnflfaaFRf3
import Derived.Deep.RegionHeld3
namespace Go.Proofs.Ytpmkebejfnflfaa
open Go.RowKit Go.Shelf Go.Lib
set_option linter.unusedVariables false
set_option linter.unusedSimpArgs false
namespace Fix
theorem nodup_count {l : List Mt} (h : ∀ x ∈ l, l.count x ≤ 1) : l.Nodup := List.nodup_iff_count.2 fun a => by
  by_cases ha : a ∈ l
  · exact h a ha
  · rw [List.count_eq_zero.2 ha]; omega
theorem count_nodup {l : List Mt} (h : l.Nodup) (a : Mt) : l.count a = if a ∈ l then 1 else 0 := by
  have h1 := List.nodup_iff_count.1 h a
  by_cases ha : a ∈ l
  · rw [if_pos ha]
    have := List.count_pos_iff.2 ha
    omega
  · rw [if_neg ha]
    exact List.count_eq_zero.2 ha
/-- A match that may not stand in its round. -/
def badB (cl : List Int) (busy : List Int) (x : Mt) : Prop := x.1 = x.2 ∨ x.1 ∉ cl ∨ x.2 ∉ cl ∨ x.1 ∈ busy ∨ x.2 ∈ busy
theorem bad_okL {cl : List Int} {ls : List (List Mt)} {k j : Nat} {l : List Mt} {x : Mt} (hk : ls[k]? = some l) (hj : l[j]? = some x) (hb : badB cl (busyM (l.take j)) x) : okL cl ls = false := by
  refine okL_bad hk (okR_bad hj ?_)
  cases ho : okM cl ((ls.take k).flatten ++ l.take j) (busyM (l.take j)) x with
  | false => rfl
  | true =>
    obtain ⟨h1, -, ⟨h2, h3⟩, h4, h5⟩ := okM_iff.1 ho
    rcases hb with h | h | h | h | h
    · exact absurd h h1
    · exact absurd h2 h
    · exact absurd h3 h
    · exact absurd h h4
    · exact absurd h h5
theorem count_okL {cl : List Int} {ls : List (List Mt)} {x : Mt} (h : 1 < ls.flatten.count x) : okL cl ls = false := by
  cases ho : okL cl ls with
  | false => rfl
  | true =>
    have := List.nodup_iff_count.1 (okL_iff.1 ho).2.1 x
    omega
theorem checkE_ok {cl : List Int} {ls : List (List Mt)} (h : validC cl = true) (h2 : ls.length ≤ 46) : checkE cl ls = if okL cl ls then 0 else 300 := by
  unfold checkE; rw [h, if_pos rfl, if_pos h2]
end Fix
theorem ints_two (w : World) (x y : Int) (t : TypeId) : Cells (w.alloc (.cells #[.int .i64 x, .int .i64 y] t)) (some ⟨w.heap.size, 0, none⟩) (intV [x, y]) := by
  refine .inr ⟨w.heap.size, 0, rfl, by simp, fun j u hu => ?_⟩
  rw [Nat.zero_add, (Blk.new w t #[.int .i64 x, .int .i64 y]).cell j, ← Array.getElem?_toList]
  exact hu
theorem intV_one : ∀ l, ∀ u ∈ intV l, u.oneCell' = true := fun l u hu => by
  obtain ⟨x, -, rfl⟩ := List.mem_map.1 hu
  rfl
theorem cellkR {W W' : World} {a : Addr} {v : Value} (hb : Below W.heap.size W W') (h : W.cell? a = some v) : W'.cell? a = some v := (hb.cell (World.block_lt_of_cell? W a h)).trans h
theorem mem_flat {ls : List (List (Int × Int))} {l : List (Int × Int)} {k j : Nat} {x : Int × Int} (h : ls[k]? = some l) (hj : l[j]? = some x) : x ∈ ls.flatten := List.mem_flatten.2 ⟨l, List.mem_of_getElem? h, List.mem_of_getElem? hj⟩
set_option maxRecDepth 100000 in
set_option maxHeartbeats 16000000 in
theorem rcheck_any (A : Option Addr) (n c : Nat) (ls : List (List (Int × Int))) (B : Option Addr) (m d : Nat) (cl : List Int) (w : World) (hl : ls.length = n) (hn : n ≤ 1000000) (hC : RoundsC w A ls) (hm : cl.length = m) (hmd : m ≤ d) (hdm : d ≤ maxLen) (hK : Ints w B cl) (hs : ls.flatten.length ≤ 1000000) :
    Calls Try.prog 18 #[.agg #[.slice A n c], .slice B m d] w fun e w' => e = .returned (.int .i64 (Fix.checkE cl ls)) ∧ Below w.heap.size w w' := by
  have HV := Lib.hid (fun W h => rvalid_any B m d cl W hm hmd hdm h)
  have HC := Lib.hid hC
  have HK := Lib.hid hK
  have Hl := Lib.hid hl
  have HM := Lib.hid (fun x W (h : Ints W B cl) => member_any B m d cl x W hm (by unfold maxLen at hdm; omega) h)
  have HN := Lib.hid (fun a b W h => count_any A n c ls a b W hl hn h hs)
  have Hll := Lib.hid (fun l (h : l ∈ ls) => Nat.le_trans (Fix.len_in h) hs)
  unfold maxLen at hdm
  cases hv : Fix.validC cl with
  | false =>
    have hR : Fix.checkE cl ls = 1 := by unfold Fix.checkE; rw [hv]; rfl
    rw [hR]
    rw [hv] at HV
    clear hC hK hl hs hR hv HM HN Hll hm
    go_enter Try.func18, Try.ntmps18
    go_upto_region 1 with (fail)
    generalize hge : World.alloc _ _ = w0
    have H0 := Lib.hid (show Blk w0 w.heap.size 26 #[.slice A n c] by subst hge; exact Blk.new w _ _)
    have HB0 := Lib.hid (show Below w.heap.size w w0 by subst hge; exact (Below.refl _ _).alloc (Nat.le_refl _) _)
    clear hge
    go_wp2_with (fail)
    refine (HV.out w0 (HK.out.below HB0.out)).mono ?_
    rintro e w1 ⟨rfl, hb1⟩
    have H1 := Lib.hid (H0.out.below hb1)
    have HB1 := Lib.hid (below_of HB0.out hb1 HB0.out.size)
    clear hb1 H0
    have q0 : w1.cell? ⟨w.heap.size, 0, none⟩ = some (.slice A n c) := H1.out.cell 0
    go_wp2_with (fail)
    go_ret
    exact ⟨rfl, HB1.out⟩
  | true =>
  rw [hv] at HV
  by_cases h46 : 46 < n
  · have hR : Fix.checkE cl ls = 2 := by unfold Fix.checkE; rw [hv, if_pos rfl, if_neg (by rw [hl]; omega)]
    have d1 : decide ((46 : Int) < (n : Int)) = true := by simp; omega
    rw [hR]
    clear hC hK hl hs hR hv HM HN Hll hm
    go_enter Try.func18, Try.ntmps18
    go_upto_region 1 with (fail)
    generalize hge : World.alloc _ _ = w0
    have H0 := Lib.hid (show Blk w0 w.heap.size 26 #[.slice A n c] by subst hge; exact Blk.new w _ _)
    have HB0 := Lib.hid (show Below w.heap.size w w0 by subst hge; exact (Below.refl _ _).alloc (Nat.le_refl _) _)
    clear hge
    go_wp2_with (fail)
    refine (HV.out w0 (HK.out.below HB0.out)).mono ?_
    rintro e w1 ⟨rfl, hb1⟩
    have H1 := Lib.hid (H0.out.below hb1)
    have HB1 := Lib.hid (below_of HB0.out hb1 HB0.out.size)
    clear hb1 H0
    have q0 : w1.cell? ⟨w.heap.size, 0, none⟩ = some (.slice A n c) := H1.out.cell 0
    go_wp2_with (fail)
    go_ret
    exact ⟨rfl, HB1.out⟩
  have d1 : decide ((46 : Int) < (n : Int)) = false := by simp; omega
  have HR := Lib.hid (Fix.checkE_ok hv (show ls.length ≤ 46 by rw [hl]; omega))
  have Hcm := Lib.hid hm
  clear hC hK hl hs hv hm
  obtain ⟨R, hRR⟩ : ∃ R, Fix.checkE cl ls = R := ⟨_, rfl⟩
  rw [hRR] at HR ⊢
  clear hRR
  go_enter Try.func18, Try.ntmps18
  go_upto_region 1 with (fail)
  generalize hge : World.alloc _ _ = w0
  have H0 := Lib.hid (show Blk w0 w.heap.size 26 #[.slice A n c] by subst hge; exact Blk.new w _ _)
  have HB0 := Lib.hid (show Below w.heap.size w w0 by subst hge; exact (Below.refl _ _).alloc (Nat.le_refl _) _)
  clear hge
  go_wp2_with (fail)
  refine (HV.out w0 (HK.out.below HB0.out)).mono ?_
  rintro e w1 ⟨rfl, hb1⟩
  have H1 := Lib.hid (H0.out.below hb1)
  have HB1 := Lib.hid (below_of HB0.out hb1 HB0.out.size)
  clear hb1 H0
  have q0 : w1.cell? ⟨w.heap.size, 0, none⟩ = some (.slice A n c) := H1.out.cell 0
  have HCw := Lib.hid (HC.out.below HB1.out)
  have HKw := Lib.hid (HK.out.below HB1.out)
  clear HV HC HK
  go_wp2_with (fail)
  go_loopw [5] (fun i W => ∃ k : Nat, k ≤ n ∧ i = .int .i64 k ∧ Hid (∀ l ∈ ls.take k, (Fix.busyM l).Nodup ∧ ∀ x ∈ l, x.1 ∈ cl ∧ x.2 ∈ cl) ∧ Hid (Below w1.heap.size w1 W)) (fun i _ => n - (intOf i).toNat)
  case atStart => exact ⟨0, Nat.zero_le _, rfl, Lib.hid (by simp), Below.refl _ _⟩
  case round =>
    obtain ⟨wk, rfl⟩ : ∃ wk : World, wk = wr := ⟨_, rfl⟩
    clear q0
    obtain ⟨k, hk, rfl, Hg, hB⟩ := hrel
    have q0 : wk.cell? ⟨w.heap.size, 0, none⟩ = some (.slice A n c) := (H1.out.below hB.out).cell 0
    by_cases hlt : k < n
    · obtain ⟨l, hx⟩ := getElem?_lt (l := ls) (k := k) (by rw [Hl.out]; exact hlt)
      obtain ⟨b1, off1, A', c', rfl, hb, hcell, hlc, hcm', hI⟩ := (HCw.out.below hB.out).at_ hx
      have hll := Hll.out l (List.mem_of_getElem? hx)
      obtain ⟨nl, hm⟩ : ∃ nl, nl = l.length := ⟨_, rfl⟩
      rw [← hm] at hcell hlc hll
      have Hm := Lib.hid hm
      have Hx := Lib.hid hx
      have HI := Lib.hid hI
      have Hk0 := Lib.hid q0
      have Hcell := Lib.hid hcell
      have HKk := Lib.hid (HKw.out.below hB.out)
      unfold maxLen at hcm'
      clear hx hm hI
      go_upto_region 9 with (fail)
      generalize hge : World.alloc _ _ = w2
      have HO := Lib.hid (show w2.ownsRow wk.heap.size 3 1 (.slice (some ⟨wk.heap.size, 0, none⟩) 0 0) 0 (intV []) by subst hge; exact World.ownsRow_lit (size := 1) wk #[] 0 (Nat.le_refl _) (Nat.zero_le _) rfl)
      have HB2 := Lib.hid (show Below wk.heap.size wk w2 by subst hge; exact (Below.refl _ _).alloc (Nat.le_refl _) _)
      clear hge q0 hcell
      go_wp2_with (fail)
      go_loopw [7, 6] (fun i v W => ∃ (j : Nat) (A5 : Option Addr) (c5 : Nat), j ≤ nl ∧ i = .int .i64 j ∧ v = .slice A5 (2 * j) c5 ∧ Hid ((Fix.busyM (l.take j)).Nodup ∧ ∀ x ∈ l.take j, x.1 ∈ cl ∧ x.2 ∈ cl) ∧ Hid (W.ownsRow wk.heap.size 3 1 (.slice A5 (2 * j) c5) (2 * j) (intV (Fix.busyM (l.take j)))) ∧ Hid (Below wk.heap.size wk W)) (fun i _ _ => nl - (intOf i).toNat)
      case atStart => exact ⟨0, _, 0, Nat.zero_le _, rfl, rfl, Lib.hid (by simp [Fix.busyM]), HO, HB2⟩
      case round =>
        obtain ⟨wj, rfl⟩ : ∃ wj : World, wj = wr := ⟨_, rfl⟩
        clear HO HB2
        obtain ⟨j, A5, c5, hj, rfl, rfl, Hgj, hown, hBj⟩ := hrel
        have q0 : wj.cell? ⟨w.heap.size, 0, none⟩ = some (.slice (some ⟨b1, off1, none⟩) n c) := (hBj.out.cell (World.block_lt_of_cell? wk _ Hk0.out)).trans Hk0.out
        have q1 : wj.cell? ⟨b1, off1 + k, none⟩ = some (.slice A' nl c') := (hBj.out.cell hb).trans Hcell.out
        by_cases hjl : j < nl
        · obtain ⟨⟨x, y⟩, hxy⟩ := getElem?_lt (l := l) (k := j) (by rw [← Hm.out]; exact hjl)
          obtain ⟨b2, off2, rfl, hb2, hcs⟩ := HI.out.at_ (by rw [← Hm.out]; omega)
          have hc1 := (hBj.out.cell (p := ⟨b2, off2 + j * 2, none⟩) hb2).trans (hcs j _ hxy).1
          have hc2 := (hBj.out.cell (p := ⟨b2, off2 + j * 2 + 1, none⟩) hb2).trans (hcs j _ hxy).2
          have Hxy := Lib.hid hxy
          obtain ⟨busy, hbz⟩ : ∃ busy, busy = Fix.busyM (l.take j) := ⟨_, rfl⟩
          have Hbl := Lib.hid (show busy.length = 2 * j by
            have h1 := hown.out.1
            rw [hbz]
            simpa [intV, Nat.mul_comm] using h1)
          have Hbz := Lib.hid hbz
          clear hcs hxy hbz
          go_upto_region 13 with (fail)
          generalize hge : World.alloc _ _ = WX
          have bX : Blk WX wj.heap.size 51 #[.int .i64 x, .int .i64 y] := by subst hge; exact Blk.new wj _ _
          have hbX : Below wj.heap.size wj WX := by subst hge; exact (Below.refl _ _).alloc (Nat.le_refl _) _
          clear hge
          have x0 : WX.cell? ⟨wj.heap.size, 0, none⟩ = some (.int .i64 x) := bX.cell 0
          have x1 : WX.cell? ⟨wj.heap.size, 1, none⟩ = some (.int .i64 y) := bX.cell 1
          have HownX := Lib.hid (own_below hown.out hbX)
          have HBXk := Lib.hid (below_of hBj.out hbX hBj.out.size)
          have HBX := Lib.hid (below_of hB.out HBXk.out hB.out.size)
          have HKX := Lib.hid (HKk.out.below HBXk.out)
          have HCB := Lib.hid (show Ints WX A5 busy by rw [Hbz.out]; exact Cells.own HownX.out)
          have HMx := Lib.hid (fun W h => HM.out x W h)
          have HMy := Lib.hid (fun W h => HM.out y W h)
          have HBx := Lib.hid (fun W (h : Ints W A5 busy) => member_any A5 (2 * j) c5 busy x W Hbl.out (by omega) h)
          have HBy := Lib.hid (fun W (h : Ints W A5 busy) => member_any A5 (2 * j) c5 busy y W Hbl.out (by omega) h)
          clear hc1 hc2 hbX bX q0 q1
          by_cases e0 : x = y
          · have m0 : decide (x = y) = true := by simpa using e0
            have m0' : (x == y) = true := by simpa using e0
            go_wp2_with (fail)
            go_ret
            exact ⟨by rw [HR.out, Fix.bad_okL Hx.out Hxy.out (.inl e0)]; rfl, below_of HB1.out HBX.out HB1.out.size⟩
          · have m0 : decide (x = y) = false := by simpa using e0
            have m0' : (x == y) = false := by simpa using e0
            by_cases e1 : x ∈ cl
            · have m1 : decide (x ∈ cl) = true := by simpa using e1
              by_cases e2 : y ∈ cl
              · have m2 : decide (y ∈ cl) = true := by simpa using e2
                by_cases e3 : x ∈ busy
                · have m3 : decide (x ∈ busy) = true := by simpa using e3
                  go_wp2_with (fail)
                  refine (HMx.out WX HKX.out).mono ?_
                  rintro e w' ⟨rfl, rfl⟩
                  rw [m1]
                  go_wp2_with (fail)
                  refine (HMy.out WX HKX.out).mono ?_
                  rintro e w' ⟨rfl, rfl⟩
                  rw [m2]
                  go_wp2_with (fail)
                  refine (HBx.out WX HCB.out).mono ?_
                  rintro e w' ⟨rfl, rfl⟩
                  rw [m3]
                  go_wp2_with (fail)
                  go_ret
                  exact ⟨by rw [HR.out, Fix.bad_okL Hx.out Hxy.out (.inr (.inr (.inr (.inl (by rw [← Hbz.out]; exact e3)))))]; rfl, below_of HB1.out HBX.out HB1.out.size⟩
                · have m3 : decide (x ∈ busy) = false := by simpa using e3
                  by_cases e4 : y ∈ busy
                  · have m4 : decide (y ∈ busy) = true := by simpa using e4
                    go_wp2_with (fail)
                    refine (HMx.out WX HKX.out).mono ?_
                    rintro e w' ⟨rfl, rfl⟩
                    rw [m1]
                    go_wp2_with (fail)
                    refine (HMy.out WX HKX.out).mono ?_
                    rintro e w' ⟨rfl, rfl⟩
                    rw [m2]
                    go_wp2_with (fail)
                    refine (HBx.out WX HCB.out).mono ?_
                    rintro e w' ⟨rfl, rfl⟩
                    rw [m3]
                    go_wp2_with (fail)
                    refine (HBy.out WX HCB.out).mono ?_
                    rintro e w' ⟨rfl, rfl⟩
                    rw [m4]
                    go_wp2_with (fail)
                    go_ret
                    exact ⟨by rw [HR.out, Fix.bad_okL Hx.out Hxy.out (.inr (.inr (.inr (.inr (by rw [← Hbz.out]; exact e4)))))]; rfl, below_of HB1.out HBX.out HB1.out.size⟩
                  · have m4 : decide (y ∈ busy) = false := by simpa using e4
                    go_wp2_with (fail)
                    refine (HMx.out WX HKX.out).mono ?_
                    rintro e w' ⟨rfl, rfl⟩
                    rw [m1]
                    go_wp2_with (fail)
                    refine (HMy.out WX HKX.out).mono ?_
                    rintro e w' ⟨rfl, rfl⟩
                    rw [m2]
                    go_wp2_with (fail)
                    refine (HBx.out WX HCB.out).mono ?_
                    rintro e w' ⟨rfl, rfl⟩
                    rw [m3]
                    go_wp2_with (fail)
                    refine (HBy.out WX HCB.out).mono ?_
                    rintro e w' ⟨rfl, rfl⟩
                    rw [m4]
                    have Hnn := Lib.hid (show (Fix.busyM (l.take (j + 1))).Nodup ∧ ∀ z ∈ l.take (j + 1), z.1 ∈ cl ∧ z.2 ∈ cl by
                      rw [take_snoc Hxy.out, Fix.busyM_snoc, Fix.nodup_snoc2, ← Hbz.out]
                      refine ⟨⟨by rw [Hbz.out]; exact Hgj.out.1, e3, e4, e0⟩, fun z hz => ?_⟩
                      rcases List.mem_append.1 hz with hz | hz
                      · exact Hgj.out.2 z hz
                      · simp at hz
                        subst hz
                        exact ⟨e1, e2⟩)
                    have HbA := Lib.hid (HBXk.out.alloc HBXk.out.size (.cells #[.int .i64 x, .int .i64 y] 3))
                    go_wp2_with (at_builtin; refine wpList_append_cells rfl (.tmp 75) (.tmp 80) 22 rfl wk.heap.size 3 (.int .i64 0) 1 8 (by kernel_rfl) (by kernel_rfl) rfl (by omega) (.slice A5 (2 * j) c5) (2 * j) (intV (Fix.busyM (l.take j))) (HownX.out.alloc (.cells #[.int .i64 x, .int .i64 y] 3)) rfl (some ⟨WX.heap.size, 0, none⟩) 2 2 (intV [x, y]) rfl rfl (ints_two WX x y 3) (intV_one _) (by unfold maxLen; omega) (by omega) HbA.out.size ?_; intro v5 w5 hown5 hg5 _; have HB5 := Lib.hid (below_grown HbA.out hg5 HbA.out.size (own_base (HownX.out.alloc (.cells #[.int .i64 x, .int .i64 y] 3)))); obtain ⟨A7, c7, rfl, -, -, -⟩ := own_form hown5; have Hown5 := Lib.hid hown5; clear hown5 hg5)
                    go_roundw
                    case rel => exact ⟨j + 1, A7, c7, by omega, by go_num, rfl, Hnn, (show World.ownsRow _ _ _ _ _ _ _ by rw [take_snoc Hxy.out, Fix.busyM_snoc, show 2 * (j + 1) = 2 * j + 2 by omega]; have := Hown5.out; simpa [intV] using this), HB5.out⟩
                    case measure => simp [intOf]; omega
              · have m2 : decide (y ∈ cl) = false := by simpa using e2
                go_wp2_with (fail)
                refine (HMx.out WX HKX.out).mono ?_
                rintro e w' ⟨rfl, rfl⟩
                rw [m1]
                go_wp2_with (fail)
                refine (HMy.out WX HKX.out).mono ?_
                rintro e w' ⟨rfl, rfl⟩
                rw [m2]
                go_wp2_with (fail)
                go_ret
                exact ⟨by rw [HR.out, Fix.bad_okL Hx.out Hxy.out (.inr (.inr (.inl e2)))]; rfl, below_of HB1.out HBX.out HB1.out.size⟩
            · have m1 : decide (x ∈ cl) = false := by simpa using e1
              go_wp2_with (fail)
              refine (HMx.out WX HKX.out).mono ?_
              rintro e w' ⟨rfl, rfl⟩
              rw [m1]
              go_wp2_with (fail)
              go_ret
              exact ⟨by rw [HR.out, Fix.bad_okL Hx.out Hxy.out (.inr (.inl e1))]; rfl, below_of HB1.out HBX.out HB1.out.size⟩
        · obtain rfl : nl = j := by omega
          have htl : l.take nl = l := List.take_of_length_le (by rw [← Hm.out]; exact Nat.le_refl _)
          have Hend := Lib.hid (show ∀ l' ∈ ls.take (k + 1), (Fix.busyM l').Nodup ∧ ∀ x ∈ l', x.1 ∈ cl ∧ x.2 ∈ cl by
            rw [take_snoc Hx.out]
            intro l' hl'
            rcases List.mem_append.1 hl' with hl' | hl'
            · exact Hg.out l' hl'
            · simp at hl'
              subst hl'
              have := Hgj.out
              rwa [htl] at this)
          clear htl
          go_wp2_with (fail)
          go_roundw
          case rel => exact ⟨k + 1, by omega, by go_num, Hend, below_of hB.out hBj.out hB.out.size⟩
          case measure => simp [intOf]; omega
    · obtain rfl : n = k := by omega
      have Hall := Lib.hid (show ∀ l ∈ ls, (Fix.busyM l).Nodup ∧ ∀ x ∈ l, x.1 ∈ cl ∧ x.2 ∈ cl by have := Hg.out; rwa [List.take_of_length_le (by rw [Hl.out]; exact Nat.le_refl _)] at this)
      clear Hg
      have HCk := Lib.hid (HCw.out.below hB.out)
      have Hbox := Lib.hid q0
      have HBk := Lib.hid (below_of HB1.out hB.out HB1.out.size)
      clear HCw H1 hB HB1
      go_wp2_with (fail)
      go_loopw [9] (fun i W => ∃ p : Nat, p ≤ n ∧ i = .int .i64 p ∧ Hid (∀ l ∈ ls.take p, ∀ x ∈ l, ls.flatten.count x ≤ 1) ∧ Hid (Below wk.heap.size wk W)) (fun i _ => n - (intOf i).toNat)
      case atStart => exact ⟨0, Nat.zero_le _, rfl, Lib.hid (by simp), Below.refl _ _⟩
      case round =>
        obtain ⟨wp, rfl⟩ : ∃ wp : World, wp = wr := ⟨_, rfl⟩
        clear q0
        obtain ⟨p, hp, rfl, Hc, hBp⟩ := hrel
        have q0 : wp.cell? ⟨w.heap.size, 0, none⟩ = some (.slice A n c) := (hBp.out.cell (World.block_lt_of_cell? wk _ Hbox.out)).trans Hbox.out
        by_cases hlt : p < n
        · obtain ⟨l, hx⟩ := getElem?_lt (l := ls) (k := p) (by rw [Hl.out]; exact hlt)
          obtain ⟨b1, off1, A', c', rfl, hb, hcell, hlc, hcm', hI⟩ := (HCk.out.below hBp.out).at_ hx
          have hll := Hll.out l (List.mem_of_getElem? hx)
          obtain ⟨nl, hm⟩ : ∃ nl, nl = l.length := ⟨_, rfl⟩
          rw [← hm] at hcell hlc hll
          have Hm := Lib.hid hm
          have Hx := Lib.hid hx
          have HI := Lib.hid hI
          have Hk0 := Lib.hid q0
          have Hcell := Lib.hid hcell
          have HCp := Lib.hid (HCk.out.below hBp.out)
          unfold maxLen at hcm'
          clear hx hm hI
          go_wp2_with (fail)
          go_loopw [10] (fun i W => ∃ j : Nat, j ≤ nl ∧ i = .int .i64 j ∧ Hid (∀ x ∈ l.take j, ls.flatten.count x ≤ 1) ∧ Hid (Below wp.heap.size wp W)) (fun i _ => nl - (intOf i).toNat)
          case atStart => exact ⟨0, Nat.zero_le _, rfl, Lib.hid (by simp), Below.refl _ _⟩
          case round =>
            obtain ⟨wj, rfl⟩ : ∃ wj : World, wj = wr := ⟨_, rfl⟩
            clear q0 hcell
            obtain ⟨j, hj, rfl, Hcj, hBj⟩ := hrel
            have q0 : wj.cell? ⟨w.heap.size, 0, none⟩ = some (.slice (some ⟨b1, off1, none⟩) n c) := (hBj.out.cell (World.block_lt_of_cell? wp _ Hk0.out)).trans Hk0.out
            have q1 : wj.cell? ⟨b1, off1 + p, none⟩ = some (.slice A' nl c') := (hBj.out.cell hb).trans Hcell.out
            by_cases hjl : j < nl
            · obtain ⟨⟨x, y⟩, hxy⟩ := getElem?_lt (l := l) (k := j) (by rw [← Hm.out]; exact hjl)
              obtain ⟨b2, off2, rfl, hb2, hcs⟩ := HI.out.at_ (by rw [← Hm.out]; omega)
              have hc1 : wj.cell? ⟨b2, off2 + j * 2, none⟩ = some (.int .i64 x) := (hBj.out.cell (p := ⟨b2, off2 + j * 2, none⟩) hb2).trans (hcs j _ hxy).1
              have hc2 : wj.cell? ⟨b2, off2 + j * 2 + 1, none⟩ = some (.int .i64 y) := (hBj.out.cell (p := ⟨b2, off2 + j * 2 + 1, none⟩) hb2).trans (hcs j _ hxy).2
              have Hxy := Lib.hid hxy
              have HNc := Lib.hid (fun W h => HN.out x y W h)
              have HCj := Lib.hid (HCp.out.below hBj.out)
              obtain ⟨t, ht⟩ : ∃ t, t = ls.flatten.count (x, y) := ⟨_, rfl⟩
              rw [← ht] at HNc
              have Ht := Lib.hid ht
              clear hcs hxy ht
              go_wp2_with (fail)
              by_cases ht1 : 1 < t
              · have dt : decide ((1 : Int) < (t : Int)) = true := by simp; omega
                go_region_held3 (fun W => W.cell? ⟨w.heap.size, 0, none⟩ = some (.slice (some ⟨b1, off1, none⟩) n c) ∧ W.cell? ⟨b1, off1 + p, none⟩ = some (.slice (some ⟨b2, off2, none⟩) nl c') ∧ W.cell? ⟨b2, off2 + j * 2, none⟩ = some (.int .i64 x) ∧ W.cell? ⟨b2, off2 + j * 2 + 1, none⟩ = some (.int .i64 y) ∧ Below wj.heap.size wj W)
                  (first
                    | exact ⟨by assumption, by assumption, by assumption, by assumption, by assumption⟩
                    | exact ⟨q0, q1, hc1, hc2, below_drewN (Below.refl _ _) 1⟩)
                  (first
                    | (go_at_call 38; go_split_ands; refine (HNc.out _ (HCj.out.below (by assumption))).mono ?_; rintro e wc ⟨rfl, hbwc⟩; have k0 : wc.cell? ⟨w.heap.size, 0, none⟩ = some (.slice (some ⟨b1, off1, none⟩) n c) := cellkR hbwc (by assumption); have k1 : wc.cell? ⟨b1, off1 + p, none⟩ = some (.slice (some ⟨b2, off2, none⟩) nl c') := cellkR hbwc (by assumption); have k2 : wc.cell? ⟨b2, off2 + j * 2, none⟩ = some (.int .i64 x) := cellkR hbwc (by assumption); have k3 : wc.cell? ⟨b2, off2 + j * 2 + 1, none⟩ = some (.int .i64 y) := cellkR hbwc (by assumption); have k4 : Below wj.heap.size wj wc := below_of (by assumption) hbwc (Below.size (by assumption)))
                    | (fail))
                all_goals
                  go_wp2_with (fail)
                  go_ret
                  exact ⟨by rw [HR.out, Fix.count_okL (show 1 < ls.flatten.count (x, y) by rw [← Ht.out]; exact ht1)]; rfl, below_of HBk.out (below_of (below_of hBp.out hBj.out hBp.out.size) (by assumption) (below_of hBp.out hBj.out hBp.out.size).size) HBk.out.size⟩
              · have dt : decide ((1 : Int) < (t : Int)) = false := by simp; omega
                go_region_held3 (fun W => W.cell? ⟨w.heap.size, 0, none⟩ = some (.slice (some ⟨b1, off1, none⟩) n c) ∧ W.cell? ⟨b1, off1 + p, none⟩ = some (.slice (some ⟨b2, off2, none⟩) nl c') ∧ W.cell? ⟨b2, off2 + j * 2, none⟩ = some (.int .i64 x) ∧ W.cell? ⟨b2, off2 + j * 2 + 1, none⟩ = some (.int .i64 y) ∧ Below wj.heap.size wj W)
                  (first
                    | exact ⟨by assumption, by assumption, by assumption, by assumption, by assumption⟩
                    | exact ⟨q0, q1, hc1, hc2, below_drewN (Below.refl _ _) 1⟩)
                  (first
                    | (go_at_call 38; go_split_ands; refine (HNc.out _ (HCj.out.below (by assumption))).mono ?_; rintro e wc ⟨rfl, hbwc⟩; have k0 : wc.cell? ⟨w.heap.size, 0, none⟩ = some (.slice (some ⟨b1, off1, none⟩) n c) := cellkR hbwc (by assumption); have k1 : wc.cell? ⟨b1, off1 + p, none⟩ = some (.slice (some ⟨b2, off2, none⟩) nl c') := cellkR hbwc (by assumption); have k2 : wc.cell? ⟨b2, off2 + j * 2, none⟩ = some (.int .i64 x) := cellkR hbwc (by assumption); have k3 : wc.cell? ⟨b2, off2 + j * 2 + 1, none⟩ = some (.int .i64 y) := cellkR hbwc (by assumption); have k4 : Below wj.heap.size wj wc := below_of (by assumption) hbwc (Below.size (by assumption)))
                    | (fail))
                all_goals
                  go_wp2_with (fail)
                  go_roundw
                  case rel => exact ⟨j + 1, by omega, by go_num, Lib.hid (by rw [take_snoc Hxy.out]; intro z hz; rcases List.mem_append.1 hz with hz | hz; (· exact Hcj.out z hz); (· simp at hz; subst hz; rw [← Ht.out]; omega)), below_of hBj.out (by assumption) hBj.out.size⟩
                  case measure => simp [intOf]; omega
            · obtain rfl : nl = j := by omega
              have htl : l.take nl = l := List.take_of_length_le (by rw [← Hm.out]; exact Nat.le_refl _)
              have Hend := Lib.hid (show ∀ l' ∈ ls.take (p + 1), ∀ x ∈ l', ls.flatten.count x ≤ 1 by
                rw [take_snoc Hx.out]
                intro l' hl'
                rcases List.mem_append.1 hl' with hl' | hl'
                · exact Hc.out l' hl'
                · simp at hl'
                  subst hl'
                  have := Hcj.out
                  rwa [htl] at this)
              clear htl
              go_wp2_with (fail)
              go_roundw
              case rel => exact ⟨p + 1, by omega, by go_num, Hend, below_of hBp.out hBj.out hBp.out.size⟩
              case measure => simp [intOf]; omega
        · obtain rfl : n = p := by omega
          have hok : Fix.okL cl ls = true := Fix.okL_iff.2 ⟨fun l hl => (Hall.out l hl).1, Fix.nodup_count fun x hx => by
            obtain ⟨l, hl, hx⟩ := List.mem_flatten.1 hx
            have := Hc.out
            rw [List.take_of_length_le (by rw [Hl.out]; exact Nat.le_refl _)] at this
            exact this l hl x hx, fun l hl => (Hall.out l hl).2⟩
          have hR0 : R = 0 := by rw [HR.out, hok]; rfl
          subst hR0
          go_wp2_with (fail)
          go_ret
          exact ⟨rfl, below_of HBk.out hBp.out HBk.out.size⟩
end Go.Proofs.Ytpmkebejfnflfaa
