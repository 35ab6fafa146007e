/- The walks of the reference's Pattern and Breaks (fixtures). -/
import Derived.Test.YtpmkebejfnflfaaFRf2
namespace Go.Proofs.Ytpmkebejfnflfaa
open Go.RowKit Go.Shelf Go.Lib
set_option linter.unusedVariables false
set_option linter.unusedSimpArgs false
namespace Fix
theorem patM_cons (c : Int) (x : Mt) (t : List Mt) : patM c (x :: t) = if x.1 = c then 1 else if x.2 = c then -1 else patM c t := by
  unfold patM
  rw [List.find?_cons]
  by_cases h1 : x.1 = c
  · have : inM c x = true := by unfold inM; rw [decide_eq_true h1]; rfl
    rw [this, if_pos h1]
    exact if_pos h1
  · by_cases h2 : x.2 = c
    · have : inM c x = true := by unfold inM; rw [decide_eq_true h2, Bool.or_true]
      rw [this, if_neg h1, if_pos h2]
      exact if_neg h1
    · have : inM c x = false := by unfold inM; rw [decide_eq_false h1, decide_eq_false h2]; rfl
      rw [this, if_neg h1, if_neg h2]
theorem patM_nil (c : Int) : patM c [] = 0 := rfl
theorem patM_drop {c : Int} {l : List Mt} {j : Nat} {x : Mt} (h : l[j]? = some x) : patM c (l.drop j) = if x.1 = c then 1 else if x.2 = c then -1 else patM c (l.drop (j + 1)) := by
  rw [drop_cons h, patM_cons]
def lastP (q : List Int) : Int := q.getD (q.length - 1) 0
theorem brkTo_left (q : List Int) (x : Int) : ∀ j, j ≤ q.length → brkTo (q ++ [x]) j = brkTo q j
  | 0, _ => rfl
  | j + 1, h => by
    have g : ∀ i, i < q.length → (q ++ [x]).getD i 0 = q.getD i 0 := fun i hi => by
      rw [List.getD_eq_getElem?_getD, List.getElem?_append_left hi, List.getD_eq_getElem?_getD]
    rw [brkTo, brkTo, brkTo_left q x j (by omega), g j (by omega), g (j - 1) (by omega)]
theorem brk_snoc (q : List Int) (x : Int) (hx : x ≠ 0) : brkTo (q ++ [x]) (q ++ [x]).length = brkTo q q.length + (if x = lastP q then 1 else 0) := by
  have e1 : (q ++ [x]).getD q.length 0 = x := by rw [List.getD_eq_getElem?_getD]; simp
  rw [List.length_append, List.length_singleton, brkTo, brkTo_left q x _ (Nat.le_refl _), e1]
  congr 1
  unfold lastP
  by_cases h : q = []
  · subst h
    rw [if_neg (by simp), if_neg (by simpa using hx)]
  · have hl : 1 ≤ q.length := Nat.pos_of_ne_zero fun e => h (List.eq_nil_of_length_eq_zero e)
    have g : (q ++ [x]).getD (q.length - 1) 0 = q.getD (q.length - 1) 0 := by
      rw [List.getD_eq_getElem?_getD, List.getElem?_append_left (by omega), List.getD_eq_getElem?_getD]
    rw [g]
    by_cases h2 : x = q.getD (q.length - 1) 0
    · rw [if_pos ⟨hl, h2⟩, if_pos h2]
    · rw [if_neg (fun h => h2 h.2), if_neg h2]
theorem last_snoc (q : List Int) (x : Int) : lastP (q ++ [x]) = x := by
  unfold lastP
  rw [List.length_append, List.length_singleton, Nat.add_sub_cancel, List.getD_eq_getElem?_getD]
  simp
theorem plays_snoc (p : List Int) (x : Int) : playsP (p ++ [x]) = playsP p ++ (if x = 0 then [] else [x]) := by
  unfold playsP
  rw [List.filter_append]
  congr 1
  by_cases h : x = 0 <;> simp [h]
theorem brkTo_bound (q : List Int) : brkTo q q.length ≤ q.length := brkTo_le q q.length
theorem plays_len (p : List Int) : (playsP p).length ≤ p.length := List.length_filter_le _ _
end Fix
set_option maxRecDepth 100000 in
set_option maxHeartbeats 8000000 in
theorem rpattern_any (A : Option Addr) (n c : Nat) (ls : List (List (Int × Int))) (club : Int) (w : World) (hl : ls.length = n) (hn : n ≤ 1000000) (hC : RoundsC w A ls) (hs : ∀ l ∈ ls, l.length ≤ 1000000) :
    Calls Try.prog 21 #[.agg #[.slice A n c], .int .i64 club] w fun e w' => ∃ A' c', e = .returned (.slice A' n c') ∧ Cells w' A' (intV (ls.map (Fix.patM club))) ∧ n ≤ c' ∧ c' ≤ maxLen ∧ Below w.heap.size w w' := by
  have HC := Lib.hid hC
  have Hl := Lib.hid hl
  have Hs := Lib.hid hs
  clear hC hl hs
  go_enter Try.func21, Try.ntmps21
  go_upto_region 1 with (fail)
  generalize hge : World.alloc _ _ = w0
  have H0 := Lib.hid (show Blk w0 w.heap.size 26 #[.slice A n c] by subst hge; exact Blk.new w _ _)
  have HB0 := Lib.hid (show Below w.heap.size w w0 by subst hge; exact (Below.refl _ _).alloc (Nat.le_refl _) _)
  clear hge
  go_upto_region 2 with (fail)
  generalize hge : World.alloc _ _ = w1
  have HO := Lib.hid (show w1.ownsRow w0.heap.size 3 1 (.slice (some ⟨w0.heap.size, 0, none⟩) 0 0) 0 (intV []) by subst hge; exact World.ownsRow_lit (size := 1) w0 #[] 0 (Nat.le_refl _) (Nat.zero_le _) rfl)
  have HB1 := Lib.hid (show Below w0.heap.size w0 w1 by subst hge; exact (Below.refl _ _).alloc (Nat.le_refl _) _)
  clear hge
  go_wp2_with (fail)
  go_loopw [6, 5] (fun i v W => ∃ (k : Nat) (A5 : Option Addr) (c5 : Nat), k ≤ n ∧ i = .int .i64 k ∧ v = .slice A5 k c5 ∧ Hid (W.ownsRow w0.heap.size 3 1 (.slice A5 k c5) k (intV ((ls.take k).map (Fix.patM club)))) ∧ Hid (Below w0.heap.size w0 W)) (fun i _ _ => n - (intOf i).toNat)
  case atStart => exact ⟨0, _, 0, Nat.zero_le _, rfl, rfl, HO, HB1⟩
  case round =>
    obtain ⟨wk, rfl⟩ : ∃ wk : World, wk = wr := ⟨_, rfl⟩
    obtain ⟨k, A5, c5, hk, rfl, rfl, hown, hB⟩ := hrel
    have q0 : wk.cell? ⟨w.heap.size, 0, none⟩ = some (.slice A n c) := (H0.out.below hB.out).cell 0
    by_cases hlt : k < n
    · obtain ⟨l, hx⟩ := getElem?_lt (l := ls) (k := k) (by rw [Hl.out]; exact hlt)
      obtain ⟨b1, off1, A', c', rfl, hb, hcell, hlc, hcm', hI⟩ := ((HC.out.below HB0.out).below hB.out).at_ hx
      have hll := Hs.out l (List.mem_of_getElem? hx)
      obtain ⟨m, hm⟩ : ∃ m, m = l.length := ⟨_, rfl⟩
      rw [← hm] at hcell hlc hll
      have Hm := Lib.hid hm
      have Hx := Lib.hid hx
      have HI := Lib.hid hI
      have Hk0 := Lib.hid q0
      have Hcell := Lib.hid hcell
      unfold maxLen at hcm'
      clear hx hm hI
      have e0 : IntKind.i64.wrap ((m : Int) - 1) = (m : Int) - 1 := IntWalk.i64_in _ (by omega)
      go_wp2_with (fail)
      go_loopw [8, 7] (fun i v W => ∃ j : Nat, j ≤ m ∧ i = .int .i64 ((j : Int) - 1) ∧ v = .int .i64 (Fix.patM club (l.drop j)) ∧ W = wk) (fun i _ _ => (intOf i + 1).toNat)
      case atStart => exact ⟨m, Nat.le_refl _, rfl, by rw [List.drop_eq_nil_of_le (by rw [← Hm.out]; exact Nat.le_refl _)]; rfl, rfl⟩
      case round =>
        obtain ⟨j, hj, rfl, rfl, rfl⟩ := hrel
        rcases Nat.eq_zero_or_pos j with rfl | hjp
        · rw [show (((0 : Nat) : Int) - 1) = -1 from rfl, List.drop_zero]
          have HN := Lib.hid (show (ls.take (k + 1)).map (Fix.patM club) = (ls.take k).map (Fix.patM club) ++ [Fix.patM club l] by rw [take_snoc Hx.out, List.map_append]; rfl)
          generalize Fix.patM club l = pv at *
          go_wp2_with (at_builtin; refine push1 rfl (.tmp 50) (.tmp 52) 22 rfl w0.heap.size 3 (.int .i64 0) 8 (by kernel_rfl) (by kernel_rfl) rfl (.slice A5 k c5) k (intV ((ls.take k).map (Fix.patM club))) (.int .i64 pv) hown.out rfl rfl rfl (by unfold maxLen; omega) (by omega) hB.out.size ?_; intro v2 w2 hown3 hg2 hat2; obtain ⟨A6, c6, rfl, -, -, -⟩ := own_form hown3; have Hown3 := Lib.hid hown3; have HB3 := Lib.hid (below_grown hB.out hg2 hB.out.size (own_base hown.out)); clear hown3 hg2 hat2)
          go_roundw
          case rel => exact ⟨k + 1, A6, c6, by omega, by go_num, rfl, (show World.ownsRow _ _ _ _ _ _ _ by rw [HN.out, intV_snoc]; exact Hown3.out), HB3⟩
          case measure => simp [intOf]; omega
        · obtain ⟨j', rfl⟩ : ∃ j', j = j' + 1 := ⟨j - 1, by omega⟩
          obtain ⟨⟨x, y⟩, hxy⟩ := getElem?_lt (l := l) (k := j') (by rw [← Hm.out]; omega)
          obtain ⟨b2, off2, rfl, hb2, hcs⟩ := HI.out.at_ (by rw [← Hm.out]; omega)
          have hc1 := (hcs j' _ hxy).1
          have hc2 := (hcs j' _ hxy).2
          have HP := Lib.hid (Fix.patM_drop (c := club) hxy)
          have ej : (((j' + 1 : Nat) : Int) - 1) = (j' : Int) := by omega
          have ej0 : decide ((0 : Int) ≤ (j' : Int)) = true := by simp
          have ej1 : IntKind.i64.wrap ((j' : Int) - 1) = (j' : Int) - 1 := IntWalk.i64_in _ (by omega)
          rw [ej]
          clear hcs hxy ej
          by_cases h1 : x = club
          · have d1 : decide (x = club) = true := by simpa using h1
            have hp := HP.out
            rw [if_pos h1] at hp
            by_cases h2 : y = club
            · have d2 : decide (y = club) = true := by simpa using h2
              have Hp := Lib.hid hp
              clear hp HP
              go_wp2_with (fail)
              go_roundw
              case rel => exact ⟨j', by omega, rfl, by rw [Hp.out], trivial⟩
              case measure => simp [intOf]
            · have d2 : decide (y = club) = false := by simpa using h2
              have Hp := Lib.hid hp
              clear hp HP
              go_wp2_with (fail)
              go_roundw
              case rel => exact ⟨j', by omega, rfl, by rw [Hp.out], trivial⟩
              case measure => simp [intOf]
          · have d1 : decide (x = club) = false := by simpa using h1
            have hp := HP.out
            rw [if_neg h1] at hp
            by_cases h2 : y = club
            · have d2 : decide (y = club) = true := by simpa using h2
              rw [if_pos h2] at hp
              have Hp := Lib.hid hp
              clear hp HP
              go_wp2_with (fail)
              go_roundw
              case rel => exact ⟨j', by omega, rfl, by rw [Hp.out], trivial⟩
              case measure => simp [intOf]
            · have d2 : decide (y = club) = false := by simpa using h2
              rw [if_neg h2] at hp
              have Hp := Lib.hid hp
              clear hp HP
              go_wp2_with (fail)
              go_roundw
              case rel => exact ⟨j', by omega, rfl, by rw [Hp.out], trivial⟩
              case measure => simp [intOf]
    · obtain rfl : n = k := by omega
      obtain ⟨A6, c6, he6, hc6, hm6, -⟩ := own_form hown.out
      injection he6 with e6a e6b e6c
      subst e6a; subst e6c
      have HN := Lib.hid (show ls.take n = ls from List.take_of_length_le (by rw [Hl.out]; exact Nat.le_refl _))
      go_wp2_with (fail)
      go_ret
      exact ⟨_, _, rfl, by have := Cells.own hown.out; rwa [HN.out] at this, hc6, hm6, below_of HB0.out hB.out HB0.out.size⟩
set_option maxRecDepth 100000 in
set_option maxHeartbeats 8000000 in
theorem rbreaks_any (A : Option Addr) (n c : Nat) (ls : List (List (Int × Int))) (club : Int) (w : World) (hl : ls.length = n) (hn : n ≤ 1000000) (hC : RoundsC w A ls) (hs : ∀ l ∈ ls, l.length ≤ 1000000) :
    Calls Try.prog 23 #[.agg #[.slice A n c], .int .i64 club] w fun e w' => e = .returned (.int .i64 (Fix.breaksP (ls.map (Fix.patM club)) : Nat)) ∧ Below w.heap.size w w' := by
  have HP := Lib.hid (fun W h => rpattern_any A n c ls club W hl hn h hs)
  have HC := Lib.hid hC
  have Hpl := Lib.hid (show (ls.map (Fix.patM club)).length = n by rw [List.length_map, hl])
  clear hl hC hs
  generalize ls.map (Fix.patM club) = p at *
  obtain ⟨R, hR⟩ : ∃ R, Fix.breaksP p = R := ⟨_, rfl⟩
  have HR := Lib.hid hR
  rw [hR]
  clear hR
  go_enter Try.func23, Try.ntmps23
  go_upto_region 1 with (fail)
  generalize hge : World.alloc _ _ = w0
  have H0 := Lib.hid (show Blk w0 w.heap.size 26 #[.slice A n c] by subst hge; exact Blk.new w _ _)
  have HB0 := Lib.hid (show Below w.heap.size w w0 by subst hge; exact (Below.refl _ _).alloc (Nat.le_refl _) _)
  clear hge
  have q0 : w0.cell? ⟨w.heap.size, 0, none⟩ = some (.slice A n c) := H0.out.cell 0
  go_wp2_with (fail)
  refine (HP.out w0 (HC.out.below HB0.out)).mono ?_
  rintro e w1 ⟨Ap, cp, rfl, hCp, hcp, hmp, hb1⟩
  have HCp := Lib.hid (show Ints w1 Ap p from hCp)
  have HB1 := Lib.hid (below_of HB0.out hb1 HB0.out.size)
  clear hCp hb1 q0
  unfold maxLen at hmp
  go_wp2_with (fail)
  go_loopw [8, 6, 7] (fun i bv nv W => ∃ k u : Nat, k ≤ n ∧ i = .int .i64 k ∧ bv = .int .i64 (Fix.lastP (Fix.playsP (p.take k))) ∧ nv = .int .i64 u ∧ u ≤ k ∧ Hid (u = Fix.brkTo (Fix.playsP (p.take k)) (Fix.playsP (p.take k)).length) ∧ W = w1) (fun i _ _ _ => n - (intOf i).toNat)
  case atStart => exact ⟨0, 0, Nat.zero_le _, rfl, by simp [Fix.playsP, Fix.lastP], rfl, Nat.le_refl _, Lib.hid (by simp [Fix.playsP, Fix.brkTo]), rfl⟩
  case round =>
    obtain ⟨k, u, hk, rfl, rfl, rfl, hu, hbk, rfl⟩ := hrel
    by_cases hlt : k < n
    · obtain ⟨x, hx⟩ := getElem?_lt (l := p) (k := k) (by rw [Hpl.out]; exact hlt)
      obtain ⟨b1, off1, rfl, hb, hcs⟩ := HCp.out.at_ (k := k) (by rw [Hpl.out]; exact hlt)
      have hc1 := hcs k x hx
      have Hsn := Lib.hid (show Fix.playsP (p.take (k + 1)) = Fix.playsP (p.take k) ++ (if x = 0 then [] else [x]) by rw [take_snoc hx, Fix.plays_snoc])
      clear hcs hx
      by_cases h0 : x = 0
      · subst h0
        have hsn := Hsn.out
        rw [if_pos rfl, List.append_nil] at hsn
        have Hs2 := Lib.hid hsn
        clear hsn Hsn
        go_wp2_with (fail)
        go_roundw
        case rel => exact ⟨k + 1, u, by omega, by go_num, by rw [Hs2.out], rfl, by omega, Lib.hid (by rw [Hs2.out]; exact hbk.out), trivial⟩
        case measure => simp [intOf]; omega
      · have d0 : decide (x = 0) = false := by simpa using h0
        have d0' : (x == 0) = false := by simpa using h0
        have hsn := Hsn.out
        rw [if_neg h0] at hsn
        have hsb := Fix.brk_snoc (Fix.playsP (p.take k)) x h0
        rw [← hsn, ← hbk.out] at hsb
        have hla := Fix.last_snoc (Fix.playsP (p.take k)) x
        rw [← hsn] at hla
        have Hla := Lib.hid hla
        clear hsn Hsn hla hbk
        generalize Fix.lastP (Fix.playsP (p.take k)) = la at *
        by_cases h2 : x = la
        · subst h2
          rw [if_pos rfl] at hsb
          have Hsb := Lib.hid hsb
          clear hsb
          go_wp2_with (fail)
          go_roundw
          case rel => exact ⟨k + 1, u + 1, by omega, by go_num, by rw [Hla.out], by go_num, by omega, Lib.hid Hsb.out.symm, trivial⟩
          case measure => simp [intOf]; omega
        · have d2 : decide (x = la) = false := by simpa using h2
          have d2' : (x == la) = false := by simpa using h2
          rw [if_neg h2, Nat.add_zero] at hsb
          have Hsb := Lib.hid hsb
          clear hsb
          go_wp2_with (fail)
          go_roundw
          case rel => exact ⟨k + 1, u, by omega, by go_num, by rw [Hla.out], rfl, by omega, Lib.hid Hsb.out.symm, trivial⟩
          case measure => simp [intOf]; omega
    · obtain rfl : n = k := by omega
      have hfin : u = R := by
        rw [← HR.out, hbk.out, List.take_of_length_le (by rw [Hpl.out]; exact Nat.le_refl _)]
        rfl
      subst hfin
      go_wp2_with (fail)
      go_ret
      exact ⟨rfl, HB1.out⟩
end Go.Proofs.Ytpmkebejfnflfaa
