/- The walks of Dates (fixtures) and of the reference's Dates and SameInts. -/
import Derived.Test.YtpmkebejfnflfaaFVal
import Derived.Deep.RegionHeld3
import Derived.Deep.DeepCutAuto
namespace Go.Proofs.Ytpmkebejfnflfaa
open Go.RowKit
theorem sameInts_step {l m : List Int} {k : Nat} {x : Int} (h : l.take k = m.take k) (hx : l[k]? = some x) (hy : m[k]? = some x) : l.take (k + 1) = m.take (k + 1) := by
  rw [take_snoc hx, take_snoc hy, h]
def intV (l : List Int) : List Value := l.map (Value.int .i64)
theorem intV_snoc (l : List Int) (x : Int) : intV (l ++ [x]) = intV l ++ [.int .i64 x] := by simp [intV]
namespace Fix
/-- Days and the next day to try, after so many rounds. -/
def days (from_ upto rest wd : Int) : Nat → Option (List Int × Int)
  | 0 => some ([], from_)
  | k + 1 => match days from_ upto rest wd k with
    | none => none
    | some s => if nextE s.2 wd = 0 ∧ nextN s.2 wd ≤ upto then some (s.1 ++ [nextN s.2 wd], nextN s.2 wd + rest) else none
def okDates (rounds a b rest wd : Int) : Bool := decide (0 ≤ rounds ∧ rounds ≤ 46) && Iv.okI (a, b) && decide (1 ≤ rest ∧ rest ≤ 366) && decide (0 ≤ wd ∧ wd ≤ 6)
def datesL (rounds a b rest wd : Int) : List Int := if okDates rounds a b rest wd then (match days a b rest wd rounds.toNat with | some s => s.1 | none => []) else []
def datesE (rounds a b rest wd : Int) : Int := if okDates rounds a b rest wd then (match days a b rest wd rounds.toNat with | some _ => 0 | none => 2) else 1
theorem days_step {a b rest wd : Int} {k : Nat} {l : List Int} {fr : Int} (h : days a b rest wd k = some (l, fr)) (h1 : nextE fr wd = 0) (h2 : nextN fr wd ≤ b) : days a b rest wd (k + 1) = some (l ++ [nextN fr wd], nextN fr wd + rest) := by
  rw [days, h]; simp only []; rw [if_pos ⟨h1, h2⟩]
theorem days_stop {a b rest wd : Int} {k : Nat} {l : List Int} {fr : Int} (h : days a b rest wd k = some (l, fr)) (h1 : ¬ (nextE fr wd = 0 ∧ nextN fr wd ≤ b)) : days a b rest wd (k + 1) = none := by
  rw [days, h]; simp only []; rw [if_neg h1]
theorem days_none {a b rest wd : Int} {k : Nat} (h : days a b rest wd k = none) : ∀ j, days a b rest wd (k + j) = none
  | 0 => h
  | j + 1 => by rw [← Nat.add_assoc, days, days_none h j]
theorem days_len {a b rest wd : Int} : ∀ {k : Nat} {l : List Int} {fr : Int}, days a b rest wd k = some (l, fr) → l.length = k
  | 0, l, fr, h => by simp [days] at h; rw [h.1]; rfl
  | k + 1, l, fr, h => by
    rw [days] at h
    cases hd : days a b rest wd k with
    | none => rw [hd] at h; simp at h
    | some s =>
      rw [hd] at h
      simp only [] at h
      split at h
      · simp at h
        rw [← h.1]
        simp [days_len (l := s.1) (fr := s.2) hd]
      · simp at h
theorem dates_bad {rounds a b rest wd : Int} (h : okDates rounds a b rest wd = false) : datesL rounds a b rest wd = [] ∧ datesE rounds a b rest wd = 1 := by
  unfold datesL datesE; rw [h]; exact ⟨rfl, rfl⟩
theorem dates_none {n : Nat} {a b rest wd : Int} (h : okDates n a b rest wd = true) (hd : days a b rest wd n = none) : datesL n a b rest wd = [] ∧ datesE n a b rest wd = 2 := by
  unfold datesL datesE; rw [h, Int.toNat_natCast, hd]; exact ⟨rfl, rfl⟩
theorem dates_some {n : Nat} {a b rest wd : Int} {l : List Int} {fr : Int} (h : okDates n a b rest wd = true) (hd : days a b rest wd n = some (l, fr)) : datesL n a b rest wd = l ∧ datesE n a b rest wd = 0 := by
  unfold datesL datesE; rw [h, Int.toNat_natCast, hd]; exact ⟨rfl, rfl⟩
theorem okDates_parts (rounds a b rest wd : Int) : okDates rounds a b rest wd = true ↔ (0 ≤ rounds ∧ rounds ≤ 46) ∧ Iv.okI (a, b) = true ∧ (1 ≤ rest ∧ rest ≤ 366) ∧ (0 ≤ wd ∧ wd ≤ 6) := by
  unfold okDates; simp [and_assoc]
end Fix
theorem nextN_range (n wd : Int) : 0 ≤ nextN n wd ∧ nextN n wd ≤ 1048576 := by
  unfold nextN
  split
  · rename_i h
    simp only [Bool.and_eq_true] at h
    exact (validB_iff _).1 h.2
  · omega
set_option linter.unusedVariables false in
set_option linter.unusedSimpArgs false in
set_option maxRecDepth 100000 in
set_option maxHeartbeats 8000000 in
theorem dates_any (rounds a b rest wd : Int) (w : World) :
    Calls Try.prog 24 #[.int .i64 rounds, .agg #[.int .i64 a, .int .i64 b], .int .i64 rest, .int .i64 wd] w fun e w' => ∃ A q c, e = .returned (.tuple #[.slice A q c, .int .i64 (Fix.datesE rounds a b rest wd)]) ∧ (Fix.datesL rounds a b rest wd).length = q ∧ q ≤ c ∧ c ≤ maxLen ∧ q ≤ 46 ∧ Cells w' A (intV (Fix.datesL rounds a b rest wd)) ∧ Below w.heap.size w w' := by
  have HK := Lib.hid (fun W => Check_any a b W)
  cases hok : Fix.okDates rounds a b rest wd with
  | false =>
    obtain ⟨z1, z2⟩ := Fix.dates_bad hok
    rw [z1, z2]
    have hb : rounds < 0 ∨ (0 ≤ rounds ∧ 46 < rounds) ∨ ((0 ≤ rounds ∧ rounds ≤ 46) ∧ chkE (a, b) = 10) ∨ ((0 ≤ rounds ∧ rounds ≤ 46) ∧ chkE (a, b) = 0 ∧ (rest < 1 ∨ (1 ≤ rest ∧ 366 < rest) ∨ (1 ≤ rest ∧ rest ≤ 366 ∧ (wd < 0 ∨ (0 ≤ wd ∧ 6 < wd))))) := by
      have h := mt (Fix.okDates_parts rounds a b rest wd).2 (by rw [hok]; simp)
      unfold chkE
      cases hI : Iv.okI (a, b) with
      | true =>
        have h' : ¬ ((0 ≤ rounds ∧ rounds ≤ 46) ∧ (1 ≤ rest ∧ rest ≤ 366) ∧ (0 ≤ wd ∧ wd ≤ 6)) := fun ⟨p, q, r⟩ => h ⟨p, hI, q, r⟩
        rw [if_pos rfl]
        omega
      | false =>
        rw [if_neg (by simp)]
        omega
    clear hok z1 z2
    rcases hb with h | ⟨h1, h⟩ | ⟨⟨h1, h2⟩, h⟩ | ⟨⟨h1, h2⟩, h, h3 | ⟨h3, h4⟩ | ⟨h3, h4, h5 | ⟨h5, h6⟩⟩⟩
    · have d1 : decide (rounds < 0) = true := by simpa using h
      go_enter Try.func24, Try.ntmps24
      go_wp2_with (fail)
      go_ret2
      exact ⟨none, 0, 0, rfl, rfl, Nat.le_refl _, Nat.zero_le _, Nat.zero_le _, .inl rfl, (Below.refl _ _).alloc (Nat.le_refl _) _⟩
    · have d1 : decide (rounds < 0) = false := by simpa using h1
      have d2 : decide (46 < rounds) = true := by simpa using h
      go_enter Try.func24, Try.ntmps24
      go_wp2_with (fail)
      go_ret2
      exact ⟨none, 0, 0, rfl, rfl, Nat.le_refl _, Nat.zero_le _, Nat.zero_le _, .inl rfl, (Below.refl _ _).alloc (Nat.le_refl _) _⟩
    all_goals
      have d1 : decide (rounds < 0) = false := by simpa using h1
      have d2 : decide (46 < rounds) = false := by simpa using h2
      rw [h] at HK
      clear h
    · go_enter Try.func24, Try.ntmps24
      go_wp2_with (fail)
      refine (HK.out _).mono ?_
      rintro e w' ⟨rfl, rfl⟩
      go_wp2_with (fail)
      go_ret2
      exact ⟨none, 0, 0, rfl, rfl, Nat.le_refl _, Nat.zero_le _, Nat.zero_le _, .inl rfl, ((Below.refl _ _).alloc (Nat.le_refl _) _).alloc (by simp) _⟩
    · have d3 : decide (rest < 1) = true := by simpa using h3
      go_enter Try.func24, Try.ntmps24
      go_wp2_with (fail)
      refine (HK.out _).mono ?_
      rintro e w' ⟨rfl, rfl⟩
      go_wp2_with (fail)
      go_ret2
      exact ⟨none, 0, 0, rfl, rfl, Nat.le_refl _, Nat.zero_le _, Nat.zero_le _, .inl rfl, ((Below.refl _ _).alloc (Nat.le_refl _) _).alloc (by simp) _⟩
    · have d3 : decide (rest < 1) = false := by simpa using h3
      have d4 : decide (366 < rest) = true := by simpa using h4
      go_enter Try.func24, Try.ntmps24
      go_wp2_with (fail)
      refine (HK.out _).mono ?_
      rintro e w' ⟨rfl, rfl⟩
      go_wp2_with (fail)
      go_ret2
      exact ⟨none, 0, 0, rfl, rfl, Nat.le_refl _, Nat.zero_le _, Nat.zero_le _, .inl rfl, ((Below.refl _ _).alloc (Nat.le_refl _) _).alloc (by simp) _⟩
    · have d3 : decide (rest < 1) = false := by simpa using h3
      have d4 : decide (366 < rest) = false := by simpa using h4
      have d5 : decide (wd < 0) = true := by simpa using h5
      go_enter Try.func24, Try.ntmps24
      go_wp2_with (fail)
      refine (HK.out _).mono ?_
      rintro e w' ⟨rfl, rfl⟩
      go_wp2_with (fail)
      go_ret2
      exact ⟨none, 0, 0, rfl, rfl, Nat.le_refl _, Nat.zero_le _, Nat.zero_le _, .inl rfl, ((Below.refl _ _).alloc (Nat.le_refl _) _).alloc (by simp) _⟩
    · have d3 : decide (rest < 1) = false := by simpa using h3
      have d4 : decide (366 < rest) = false := by simpa using h4
      have d5 : decide (wd < 0) = false := by simpa using h5
      have d6 : decide (6 < wd) = true := by simpa using h6
      go_enter Try.func24, Try.ntmps24
      go_wp2_with (fail)
      refine (HK.out _).mono ?_
      rintro e w' ⟨rfl, rfl⟩
      go_wp2_with (fail)
      go_ret2
      exact ⟨none, 0, 0, rfl, rfl, Nat.le_refl _, Nat.zero_le _, Nat.zero_le _, .inl rfl, ((Below.refl _ _).alloc (Nat.le_refl _) _).alloc (by simp) _⟩
  | true =>
    obtain ⟨⟨h1, h2⟩, hI, ⟨h3, h4⟩, h5, h6⟩ := (Fix.okDates_parts rounds a b rest wd).1 hok
    obtain ⟨n, rfl⟩ := Int.eq_ofNat_of_zero_le h1
    have d1 : decide ((n : Int) < 0) = false := by simp
    have d2 : decide (46 < (n : Int)) = false := by simpa using h2
    have d2' : decide (46 < n) = false := by simp; omega
    have d3 : decide (rest < 1) = false := by simpa using h3
    have d4 : decide (366 < rest) = false := by simpa using h4
    have d5 : decide (wd < 0) = false := by simpa using h5
    have d6 : decide (6 < wd) = false := by simpa using h6
    rw [show chkE (a, b) = 0 by unfold chkE; rw [hI]; rfl] at HK
    have Hok := Lib.hid hok
    obtain ⟨L, hLr⟩ : ∃ L, Fix.datesL n a b rest wd = L := ⟨_, rfl⟩
    obtain ⟨ε, hEr⟩ : ∃ ε, Fix.datesE n a b rest wd = ε := ⟨_, rfl⟩
    have HLr := Lib.hid hLr
    have HEr := Lib.hid hEr
    rw [hLr, hEr]
    have HNx := Lib.hid (fun fr W => Next_any fr wd W)
    clear hok hI hLr hEr
    go_enter Try.func24, Try.ntmps24
    go_wp2_with (fail)
    refine (HK.out _).mono ?_
    rintro e w' ⟨rfl, rfl⟩
    go_wp2_with (fail)
    generalize hge : World.alloc _ _ = w1
    have hall : w1.cell? ⟨w.heap.size, 0, none⟩ = some (.int .i64 a) ∧ w1.cell? ⟨w.heap.size, 1, none⟩ = some (.int .i64 b) ∧ Below w.heap.size w w1 ∧ w1.heap.size = w.heap.size + 2 := by
      subst hge
      refine ⟨((Blk.new w 41 #[.int .i64 a, .int .i64 b]).alloc _).cell 0, ((Blk.new w 41 #[.int .i64 a, .int .i64 b]).alloc _).cell 1, ((Below.refl _ _).alloc (Nat.le_refl _) _).alloc (by simp) _, by simp⟩
    have c0 := Lib.hid hall.1
    have c1 := Lib.hid hall.2.1
    have HB1 := Lib.hid hall.2.2.1
    have hsz := hall.2.2.2
    have HO := Lib.hid (show w1.ownsRow (w.heap.size + 1) 3 1 (.slice none 0 0) 0 (intV []) from World.ownsRow_nil _ _ _ _)
    clear hall
    clear hge
    go_loopw [8, 10, 43] (fun v f i wr => ∃ (k : Nat) (A5 : Option Addr) (c5 : Nat) (l : List Int) (fr : Int), k ≤ n ∧ i = .int .i64 k ∧ v = .slice A5 k c5 ∧ f = .int .i64 fr ∧ Hid (Fix.days a b rest wd k = some (l, fr)) ∧ Hid (wr.ownsRow (w.heap.size + 1) 3 1 (.slice A5 k c5) k (intV l)) ∧ Hid (Below (w.heap.size + 1) w1 wr)) (fun _ _ i _ => n - (intOf i).toNat)
    case atStart => exact ⟨0, none, 0, [], a, by omega, rfl, rfl, rfl, (show Fix.days a b rest wd 0 = _ from rfl), HO.out, Below.refl _ _⟩
    case round =>
      obtain ⟨k, A5, c5, l, fr, hk, rfl, rfl, rfl, hst, hown, hB⟩ := hrel
      obtain ⟨wq, rfl⟩ : ∃ wq : World, wq = wr := ⟨_, rfl⟩
      by_cases hlt : k < n
      · have hdk : decide ((k : Int) < (n : Int)) = true := by simp; omega
        have hdk2 : decide (k < n) = true := by simp; omega
        have cx := (hB.out.cell (p := ⟨w.heap.size, 0, none⟩) (Nat.lt_succ_self _)).trans c0.out
        have cy := (hB.out.cell (p := ⟨w.heap.size, 1, none⟩) (Nat.lt_succ_self _)).trans c1.out
        have hB0 := Lib.hid (show Below w.heap.size w wq from HB1.out.trans (hB.out.mono (Nat.le_succ _)))
        have HNk := Lib.hid (fun W => HNx.out fr W)
        have hr := nextN_range fr wd
        by_cases hgo : nextE fr wd = 0 ∧ nextN fr wd ≤ b
        · have HS := Lib.hid (Fix.days_step hst.out hgo.1 hgo.2)
          rw [hgo.1] at HNk
          have hle := hgo.2
          generalize nextN fr wd = d at *
          have e1 : decide (b < d) = false := by simp; omega
          have e2 : IntKind.i64.wrap (d + rest) = d + rest := IntWalk.i64_in _ (by omega)
          clear hgo hst
          go_wp2_with (fail)
          refine (HNk.out _).mono ?_
          rintro e w' ⟨rfl, rfl⟩
          go_wp2_with (at_builtin; refine push1 rfl (.tmp 59) (.tmp 61) 22 rfl (w.heap.size + 1) 3 (.int .i64 0) 8 (by kernel_rfl) (by kernel_rfl) rfl (.slice A5 k c5) k (intV l) (.int .i64 d) hown.out rfl rfl rfl (by unfold maxLen; omega) (by omega) (by have := hB.out.size; omega) ?_; intro v2 w2 hown2 hg2 hat2; obtain ⟨A6, c6, rfl, -, -, -⟩ := own_form hown2; have Hown2 := Lib.hid hown2; have HB2 := Lib.hid (below_grown hB.out hg2 (by have := hB.out.size; omega) (own_base hown.out)); clear hown2 hg2 hat2)
          go_roundw
          case rel => exact ⟨k + 1, A6, c6, l ++ [d], d + rest, by omega, by go_num, rfl, rfl, HS.out, (show World.ownsRow _ _ _ _ _ _ _ by rw [intV_snoc]; exact Hown2.out), HB2.out⟩
          case measure => simp [intOf]; omega
        · obtain ⟨j, hj⟩ : ∃ j, n = k + 1 + j := ⟨n - (k + 1), by omega⟩
          have HS := Lib.hid (Fix.dates_none (n := n) Hok.out (by rw [hj]; exact Fix.days_none (Fix.days_stop hst.out hgo) j))
          have HR := Lib.hid (show ε = 2 by rw [← HEr.out]; exact HS.out.2)
          have HRL := Lib.hid (show L = [] by rw [← HLr.out]; exact HS.out.1)
          clear HS hj hst
          by_cases hE : nextE fr wd = 0
          · have hb2 : b < nextN fr wd := Int.not_le.1 fun h => hgo ⟨hE, h⟩
            rw [hE] at HNk
            have e1 : decide (b < nextN fr wd) = true := by simpa using hb2
            generalize nextN fr wd = d at *
            clear hgo hb2
            go_wp2_with (fail)
            refine (HNk.out _).mono ?_
            rintro e w' ⟨rfl, rfl⟩
            go_wp2_with (fail)
            go_ret2
            exact ⟨none, 0, 0, by rw [HR.out]; rfl, by rw [HRL.out]; rfl, Nat.le_refl _, Nat.zero_le _, Nat.zero_le _, by rw [HRL.out]; exact .inl rfl, hB0.out⟩
          · have e1 : (nextE fr wd != 0) = true := by simpa using hE
            generalize nextN fr wd = d at *
            generalize nextE fr wd = ee at *
            clear hgo hE
            go_wp2_with (fail)
            refine (HNk.out _).mono ?_
            rintro e w' ⟨rfl, rfl⟩
            go_wp2_with (fail)
            go_ret2
            exact ⟨none, 0, 0, by rw [HR.out]; rfl, by rw [HRL.out]; rfl, Nat.le_refl _, Nat.zero_le _, Nat.zero_le _, by rw [HRL.out]; exact .inl rfl, hB0.out⟩
      · obtain rfl : k = n := by omega
        have hdk : decide ((k : Int) < (k : Int)) = false := by simp
        have hB0 := Lib.hid (show Below w.heap.size w wq from HB1.out.trans (hB.out.mono (Nat.le_succ _)))
        have HS := Lib.hid (Fix.dates_some Hok.out hst.out)
        have HR := Lib.hid (show ε = 0 by rw [← HEr.out]; exact HS.out.2)
        have HRL := Lib.hid (show L = l by rw [← HLr.out]; exact HS.out.1)
        have HLn := Lib.hid (Fix.days_len hst.out)
        clear HS hst
        go_wp2_with (fail)
        go_ret2
        obtain ⟨A7, c7, hv, g1, g2, -⟩ := own_form hown.out
        cases hv
        exact ⟨A5, k, c5, by rw [HR.out]; rfl, by rw [HRL.out]; exact HLn.out, g1, g2, by omega, by rw [HRL.out]; exact Cells.own hown.out, hB0.out⟩
set_option linter.unusedVariables false in
set_option linter.unusedSimpArgs false in
set_option maxRecDepth 100000 in
set_option maxHeartbeats 8000000 in
theorem rdates_any (rounds a b rest wd : Int) (w : World) :
    Calls Try.prog 25 #[.int .i64 rounds, .agg #[.int .i64 a, .int .i64 b], .int .i64 rest, .int .i64 wd] w fun e w' => ∃ A q c, e = .returned (.tuple #[.slice A q c, .int .i64 (Fix.datesE rounds a b rest wd)]) ∧ (Fix.datesL rounds a b rest wd).length = q ∧ q ≤ c ∧ c ≤ maxLen ∧ q ≤ 46 ∧ Cells w' A (intV (Fix.datesL rounds a b rest wd)) ∧ Below w.heap.size w w' := by
  have HK := Lib.hid (fun W => rCheck_any a b W)
  cases hok : Fix.okDates rounds a b rest wd with
  | false =>
    obtain ⟨z1, z2⟩ := Fix.dates_bad hok
    rw [z1, z2]
    have hb : rounds < 0 ∨ (0 ≤ rounds ∧ 46 < rounds) ∨ ((0 ≤ rounds ∧ rounds ≤ 46) ∧ chkE (a, b) = 10) ∨ ((0 ≤ rounds ∧ rounds ≤ 46) ∧ chkE (a, b) = 0 ∧ (rest < 1 ∨ (1 ≤ rest ∧ 366 < rest) ∨ (1 ≤ rest ∧ rest ≤ 366 ∧ (wd < 0 ∨ (0 ≤ wd ∧ 6 < wd))))) := by
      have h := mt (Fix.okDates_parts rounds a b rest wd).2 (by rw [hok]; simp)
      unfold chkE
      cases hI : Iv.okI (a, b) with
      | true =>
        have h' : ¬ ((0 ≤ rounds ∧ rounds ≤ 46) ∧ (1 ≤ rest ∧ rest ≤ 366) ∧ (0 ≤ wd ∧ wd ≤ 6)) := fun ⟨p, q, r⟩ => h ⟨p, hI, q, r⟩
        rw [if_pos rfl]
        omega
      | false =>
        rw [if_neg (by simp)]
        omega
    clear hok z1 z2
    rcases hb with h | ⟨h1, h⟩ | ⟨⟨h1, h2⟩, h⟩ | ⟨⟨h1, h2⟩, h, h3 | ⟨h3, h4⟩ | ⟨h3, h4, h5 | ⟨h5, h6⟩⟩⟩
    · have d1 : decide (rounds < 0) = true := by simpa using h
      go_enter Try.func25, Try.ntmps25
      go_wp2_with (fail)
      go_ret2
      exact ⟨none, 0, 0, rfl, rfl, Nat.le_refl _, Nat.zero_le _, Nat.zero_le _, .inl rfl, (Below.refl _ _).alloc (Nat.le_refl _) _⟩
    · have d1 : decide (rounds < 0) = false := by simpa using h1
      have d2 : decide (46 < rounds) = true := by simpa using h
      go_enter Try.func25, Try.ntmps25
      go_wp2_with (fail)
      go_ret2
      exact ⟨none, 0, 0, rfl, rfl, Nat.le_refl _, Nat.zero_le _, Nat.zero_le _, .inl rfl, (Below.refl _ _).alloc (Nat.le_refl _) _⟩
    all_goals
      have d1 : decide (rounds < 0) = false := by simpa using h1
      have d2 : decide (46 < rounds) = false := by simpa using h2
      rw [h] at HK
      clear h
    · go_enter Try.func25, Try.ntmps25
      go_wp2_with (fail)
      refine (HK.out _).mono ?_
      rintro e w' ⟨rfl, rfl⟩
      go_wp2_with (fail)
      go_ret2
      exact ⟨none, 0, 0, rfl, rfl, Nat.le_refl _, Nat.zero_le _, Nat.zero_le _, .inl rfl, ((Below.refl _ _).alloc (Nat.le_refl _) _).alloc (by simp) _⟩
    · have d3 : decide (rest < 1) = true := by simpa using h3
      go_enter Try.func25, Try.ntmps25
      go_wp2_with (fail)
      refine (HK.out _).mono ?_
      rintro e w' ⟨rfl, rfl⟩
      go_wp2_with (fail)
      go_ret2
      exact ⟨none, 0, 0, rfl, rfl, Nat.le_refl _, Nat.zero_le _, Nat.zero_le _, .inl rfl, ((Below.refl _ _).alloc (Nat.le_refl _) _).alloc (by simp) _⟩
    · have d3 : decide (rest < 1) = false := by simpa using h3
      have d4 : decide (366 < rest) = true := by simpa using h4
      go_enter Try.func25, Try.ntmps25
      go_wp2_with (fail)
      refine (HK.out _).mono ?_
      rintro e w' ⟨rfl, rfl⟩
      go_wp2_with (fail)
      go_ret2
      exact ⟨none, 0, 0, rfl, rfl, Nat.le_refl _, Nat.zero_le _, Nat.zero_le _, .inl rfl, ((Below.refl _ _).alloc (Nat.le_refl _) _).alloc (by simp) _⟩
    · have d3 : decide (rest < 1) = false := by simpa using h3
      have d4 : decide (366 < rest) = false := by simpa using h4
      have d5 : decide (wd < 0) = true := by simpa using h5
      go_enter Try.func25, Try.ntmps25
      go_wp2_with (fail)
      refine (HK.out _).mono ?_
      rintro e w' ⟨rfl, rfl⟩
      go_wp2_with (fail)
      go_ret2
      exact ⟨none, 0, 0, rfl, rfl, Nat.le_refl _, Nat.zero_le _, Nat.zero_le _, .inl rfl, ((Below.refl _ _).alloc (Nat.le_refl _) _).alloc (by simp) _⟩
    · have d3 : decide (rest < 1) = false := by simpa using h3
      have d4 : decide (366 < rest) = false := by simpa using h4
      have d5 : decide (wd < 0) = false := by simpa using h5
      have d6 : decide (6 < wd) = true := by simpa using h6
      go_enter Try.func25, Try.ntmps25
      go_wp2_with (fail)
      refine (HK.out _).mono ?_
      rintro e w' ⟨rfl, rfl⟩
      go_wp2_with (fail)
      go_ret2
      exact ⟨none, 0, 0, rfl, rfl, Nat.le_refl _, Nat.zero_le _, Nat.zero_le _, .inl rfl, ((Below.refl _ _).alloc (Nat.le_refl _) _).alloc (by simp) _⟩
  | true =>
    obtain ⟨⟨h1, h2⟩, hI, ⟨h3, h4⟩, h5, h6⟩ := (Fix.okDates_parts rounds a b rest wd).1 hok
    obtain ⟨n, rfl⟩ := Int.eq_ofNat_of_zero_le h1
    have d1 : decide ((n : Int) < 0) = false := by simp
    have d2 : decide (46 < (n : Int)) = false := by simpa using h2
    have d2' : decide (46 < n) = false := by simp; omega
    have d3 : decide (rest < 1) = false := by simpa using h3
    have d4 : decide (366 < rest) = false := by simpa using h4
    have d5 : decide (wd < 0) = false := by simpa using h5
    have d6 : decide (6 < wd) = false := by simpa using h6
    rw [show chkE (a, b) = 0 by unfold chkE; rw [hI]; rfl] at HK
    have Hok := Lib.hid hok
    obtain ⟨L, hLr⟩ : ∃ L, Fix.datesL n a b rest wd = L := ⟨_, rfl⟩
    obtain ⟨ε, hEr⟩ : ∃ ε, Fix.datesE n a b rest wd = ε := ⟨_, rfl⟩
    have HLr := Lib.hid hLr
    have HEr := Lib.hid hEr
    rw [hLr, hEr]
    have HNx := Lib.hid (fun fr W => rNext_any fr wd W)
    clear hok hI hLr hEr
    go_enter Try.func25, Try.ntmps25
    go_wp2_with (fail)
    refine (HK.out _).mono ?_
    rintro e w' ⟨rfl, rfl⟩
    go_wp2_with (fail)
    generalize hge : World.alloc _ _ = w1
    have hall : w1.cell? ⟨w.heap.size, 0, none⟩ = some (.int .i64 a) ∧ w1.cell? ⟨w.heap.size, 1, none⟩ = some (.int .i64 b) ∧ Below w.heap.size w w1 ∧ w1.heap.size = w.heap.size + 3 ∧ w1.ownsRow (w.heap.size + 1) 3 1 (.slice (some ⟨w.heap.size + 1 + 1, 0, none⟩) 0 0) 0 (intV []) := by
      subst hge
      refine ⟨(((Blk.new w 41 #[.int .i64 a, .int .i64 b]).alloc _).alloc _).cell 0, (((Blk.new w 41 #[.int .i64 a, .int .i64 b]).alloc _).alloc _).cell 1, (((Below.refl _ _).alloc (Nat.le_refl _) _).alloc (by simp) _).alloc (by simp; omega) _, by simp, ?_⟩
      have := World.ownsRow_lit (base := w.heap.size + 1) (e := 3) (size := 1) ((w.alloc (.cells #[.int .i64 a, .int .i64 b] 41)).alloc (.cells #[.int .i64 a, .int .i64 b] 41)) #[] 0 (by simp) (Nat.zero_le _) rfl
      simpa [intV] using this
    have c0 := Lib.hid hall.1
    have c1 := Lib.hid hall.2.1
    have HB1 := Lib.hid hall.2.2.1
    have hsz := hall.2.2.2.1
    have HO := Lib.hid hall.2.2.2.2
    clear hall
    clear hge
    go_loopw [10, 11, 12] (fun v f i wr => ∃ (k : Nat) (A5 : Option Addr) (c5 : Nat) (l : List Int) (fr : Int), k ≤ n ∧ i = .int .i64 k ∧ v = .slice A5 k c5 ∧ f = .int .i64 fr ∧ Hid (Fix.days a b rest wd k = some (l, fr)) ∧ Hid (wr.ownsRow (w.heap.size + 1) 3 1 (.slice A5 k c5) k (intV l)) ∧ Hid (Below (w.heap.size + 1) w1 wr)) (fun _ _ i _ => n - (intOf i).toNat)
    case atStart => exact ⟨0, some ⟨w.heap.size + 1 + 1, 0, none⟩, 0, [], a, by omega, rfl, rfl, rfl, (show Fix.days a b rest wd 0 = _ from rfl), HO.out, Below.refl _ _⟩
    case round =>
      obtain ⟨k, A5, c5, l, fr, hk, rfl, rfl, rfl, hst, hown, hB⟩ := hrel
      obtain ⟨wq, rfl⟩ : ∃ wq : World, wq = wr := ⟨_, rfl⟩
      by_cases hlt : k < n
      · have hdk : decide ((k : Int) < (n : Int)) = true := by simp; omega
        have hdk2 : decide (k < n) = true := by simp; omega
        have cx := (hB.out.cell (p := ⟨w.heap.size, 0, none⟩) (Nat.lt_succ_self _)).trans c0.out
        have cy := (hB.out.cell (p := ⟨w.heap.size, 1, none⟩) (Nat.lt_succ_self _)).trans c1.out
        have hB0 := Lib.hid (show Below w.heap.size w wq from HB1.out.trans (hB.out.mono (Nat.le_succ _)))
        have HNk := Lib.hid (fun W => HNx.out fr W)
        have hr := nextN_range fr wd
        by_cases hgo : nextE fr wd = 0 ∧ nextN fr wd ≤ b
        · have HS := Lib.hid (Fix.days_step hst.out hgo.1 hgo.2)
          rw [hgo.1] at HNk
          have hle := hgo.2
          generalize nextN fr wd = d at *
          have e1 : decide (b < d) = false := by simp; omega
          have e2 : IntKind.i64.wrap (d + rest) = d + rest := IntWalk.i64_in _ (by omega)
          clear hgo hst
          go_wp2_with (fail)
          refine (HNk.out _).mono ?_
          rintro e w' ⟨rfl, rfl⟩
          go_wp2_with (at_builtin; refine push1 rfl (.tmp 64) (.tmp 66) 22 rfl (w.heap.size + 1) 3 (.int .i64 0) 8 (by kernel_rfl) (by kernel_rfl) rfl (.slice A5 k c5) k (intV l) (.int .i64 d) hown.out rfl rfl rfl (by unfold maxLen; omega) (by omega) (by have := hB.out.size; omega) ?_; intro v2 w2 hown2 hg2 hat2; obtain ⟨A6, c6, rfl, -, -, -⟩ := own_form hown2; have Hown2 := Lib.hid hown2; have HB2 := Lib.hid (below_grown hB.out hg2 (by have := hB.out.size; omega) (own_base hown.out)); clear hown2 hg2 hat2)
          go_roundw
          case rel => exact ⟨k + 1, A6, c6, l ++ [d], d + rest, by omega, by go_num, rfl, rfl, HS.out, (show World.ownsRow _ _ _ _ _ _ _ by rw [intV_snoc]; exact Hown2.out), HB2.out⟩
          case measure => simp [intOf]; omega
        · obtain ⟨j, hj⟩ : ∃ j, n = k + 1 + j := ⟨n - (k + 1), by omega⟩
          have HS := Lib.hid (Fix.dates_none (n := n) Hok.out (by rw [hj]; exact Fix.days_none (Fix.days_stop hst.out hgo) j))
          have HR := Lib.hid (show ε = 2 by rw [← HEr.out]; exact HS.out.2)
          have HRL := Lib.hid (show L = [] by rw [← HLr.out]; exact HS.out.1)
          clear HS hj hst
          by_cases hE : nextE fr wd = 0
          · have hb2 : b < nextN fr wd := Int.not_le.1 fun h => hgo ⟨hE, h⟩
            rw [hE] at HNk
            have e1 : decide (b < nextN fr wd) = true := by simpa using hb2
            generalize nextN fr wd = d at *
            clear hgo hb2
            go_wp2_with (fail)
            refine (HNk.out _).mono ?_
            rintro e w' ⟨rfl, rfl⟩
            go_wp2_with (fail)
            go_ret2
            exact ⟨none, 0, 0, by rw [HR.out]; rfl, by rw [HRL.out]; rfl, Nat.le_refl _, Nat.zero_le _, Nat.zero_le _, by rw [HRL.out]; exact .inl rfl, hB0.out⟩
          · have e1 : (nextE fr wd != 0) = true := by simpa using hE
            generalize nextN fr wd = d at *
            generalize nextE fr wd = ee at *
            clear hgo hE
            go_wp2_with (fail)
            refine (HNk.out _).mono ?_
            rintro e w' ⟨rfl, rfl⟩
            go_wp2_with (fail)
            go_ret2
            exact ⟨none, 0, 0, by rw [HR.out]; rfl, by rw [HRL.out]; rfl, Nat.le_refl _, Nat.zero_le _, Nat.zero_le _, by rw [HRL.out]; exact .inl rfl, hB0.out⟩
      · obtain rfl : k = n := by omega
        have hdk : decide ((k : Int) < (k : Int)) = false := by simp
        have hB0 := Lib.hid (show Below w.heap.size w wq from HB1.out.trans (hB.out.mono (Nat.le_succ _)))
        have HS := Lib.hid (Fix.dates_some Hok.out hst.out)
        have HR := Lib.hid (show ε = 0 by rw [← HEr.out]; exact HS.out.2)
        have HRL := Lib.hid (show L = l by rw [← HLr.out]; exact HS.out.1)
        have HLn := Lib.hid (Fix.days_len hst.out)
        clear HS hst
        go_wp2_with (fail)
        go_ret2
        obtain ⟨A7, c7, hv, g1, g2, -⟩ := own_form hown.out
        cases hv
        exact ⟨A5, k, c5, by rw [HR.out]; rfl, by rw [HRL.out]; exact HLn.out, g1, g2, by omega, by rw [HRL.out]; exact Cells.own hown.out, hB0.out⟩
set_option linter.unusedVariables false in
set_option linter.unusedSimpArgs false in
set_option maxRecDepth 100000 in
set_option maxHeartbeats 8000000 in
theorem sameInts_any (A : Option Addr) (n c : Nat) (l : List Int) (B : Option Addr) (m d : Nat) (l' : List Int) (w : World) (hl : l.length = n) (hl' : l'.length = m) (hn : n ≤ 1000000) (hm : m ≤ 1000000) (hC : Cells w A (intV l)) (hC' : Cells w B (intV l')) :
    Calls Try.prog 19 #[.slice A n c, .slice B m d] w fun e w' => e = .returned (.bool (decide (l = l'))) ∧ Below w.heap.size w w' := by
  have HC := Lib.hid (show Ints w A l from hC)
  have HC' := Lib.hid (show Ints w B l' from hC')
  have Hl := Lib.hid hl
  have Hl' := Lib.hid hl'
  obtain ⟨R, hR⟩ : ∃ R, decide (l = l') = R := ⟨_, rfl⟩
  have HR := Lib.hid hR
  rw [hR]
  clear hC hC' hl hl' hR
  by_cases hnm : n = m
  · subst hnm
    go_enter Try.func19, Try.ntmps19
    go_wp2_with (fail)
    go_loopw [5] (fun i wr => ∃ k : Nat, k ≤ n ∧ i = .int .i64 k ∧ Hid (l.take k = l'.take k) ∧ Hid (Below w.heap.size w wr)) (fun i _ => n - (intOf i).toNat)
    case atStart => exact ⟨0, by omega, rfl, (show _ = _ by simp), Below.refl _ _⟩
    case round =>
      obtain ⟨k, hk, rfl, hsm, hB⟩ := hrel
      by_cases hlt : k < n
      · obtain ⟨x, hx⟩ := getElem?_lt (l := l) (k := k) (by rw [Hl.out]; exact hlt)
        obtain ⟨x', hx'⟩ := getElem?_lt (l := l') (k := k) (by rw [Hl'.out]; exact hlt)
        obtain ⟨b, off, rfl, hb, hcs⟩ := HC.out.at_ (k := k) (by rw [Hl.out]; omega)
        obtain ⟨b', off', rfl, hb', hcs'⟩ := HC'.out.at_ (k := k) (by rw [Hl'.out]; omega)
        have hc1 := (hB.out.cell (p := ⟨b, off + k, none⟩) hb).trans (hcs k _ hx)
        have hc2 := (hB.out.cell (p := ⟨b', off' + k, none⟩) hb').trans (hcs' k _ hx')
        have Hx := Lib.hid hx
        have Hx' := Lib.hid hx'
        clear hx hcs hx' hcs'
        by_cases he : x = x'
        · subst he
          have e1 : (x != x) = false := by simp
          go_wp2_with (fail)
          go_quiet (fail)
          go_wp2_with (fail)
          go_roundw
          case rel => exact ⟨k + 1, by omega, by go_num, sameInts_step hsm.out Hx.out Hx'.out, below_drewN hB.out _⟩
          case measure => simp [intOf]; omega
        · have e1 : (x != x') = true := by simpa using he
          have HN := Lib.hid (show R = false by
            rw [← HR.out, decide_eq_false_iff_not]
            rintro rfl
            exact he (Option.some.inj (Hx.out.symm.trans Hx'.out)))
          clear he
          go_wp2_with (fail)
          go_quiet (fail)
          go_wp2_with (fail)
          go_ret
          exact ⟨ret_bool HN.out.symm, below_drewN hB.out _⟩
      · obtain rfl : k = n := by omega
        have HN := Lib.hid (show R = true by
          rw [← HR.out, decide_eq_true_iff]
          have := hsm.out
          rwa [List.take_of_length_le (by rw [Hl.out]; omega), List.take_of_length_le (by rw [Hl'.out]; omega)] at this)
        go_wp2_with (fail)
        go_ret
        exact ⟨ret_bool HN.out.symm, hB.out⟩
  · have HN := Lib.hid (show R = false by
      rw [← HR.out, decide_eq_false_iff_not]
      rintro rfl
      exact hnm (Hl.out.symm.trans Hl'.out))
    have e1 : ((n : Int) != (m : Int)) = true := by simp; omega
    have e2 : (n != m) = true := by simpa using hnm
    go_enter Try.func19, Try.ntmps19
    go_wp2_with (fail)
    go_ret
    exact ⟨ret_bool HN.out.symm, Below.refl _ _⟩
end Go.Proofs.Ytpmkebejfnflfaa
