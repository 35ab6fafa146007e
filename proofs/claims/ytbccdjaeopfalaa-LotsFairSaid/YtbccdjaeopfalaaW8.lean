import Derived.Test.YtbccdjaeopfalaaW7
namespace Go.Proofs.Ytbccdjaeopfalaa
open Go.RowKit

theorem tup_vi {v v' : Value} {c d : Int} (h : v = v') (h' : c = d) : Ending.returned (.tuple #[v, .int .i64 c]) = .returned (.tuple #[v', .int .i64 d]) := by rw [h, h']
theorem okN_bad_n {n : Int} (k : Nat) (h : n < 0 ∨ 18 < n) : okN n k = false := by
  unfold okN; rw [decide_eq_false]; omega
set_option maxHeartbeats 400000 in
theorem Unrank_bad (n : Int) (k : Nat) (w : World) (h : okN n k = false) :
    Calls Try.prog 13 #[.int .i64 n, .int .u64 k] w fun e w' => e = .returned (.tuple #[.slice none 0 0, .int .i64 220]) ∧ w = w' := by
  by_cases hn : n < 0 ∨ 18 < n
  · have Hc := Lib.hid (Factorial_bad n w hn)
    clear h hn
    go_enter Try.func13, Try.ntmps13
    go_wp2_with (go_at_call 11; refine (Hc.out).mono ?_; rintro e w' ⟨rfl, rfl⟩)
    go_ret2
    exact ⟨rfl, rfl⟩
  · obtain ⟨m, rfl⟩ := Int.eq_ofNat_of_zero_le (by omega : 0 ≤ n)
    have Hc := Lib.hid (Factorial_good m w (by omega))
    have hk : ((fact m : Nat) : Int) ≤ (k : Int) := by
      unfold okN at h
      have := of_decide_eq_false h
      rw [Int.toNat_natCast] at this
      omega
    clear h hn
    go_enter Try.func13, Try.ntmps13
    go_wp2_with (go_at_call 11; refine (Hc.out).mono ?_; rintro e w' ⟨rfl, rfl⟩)
    go_ret2
    exact ⟨rfl, rfl⟩

def fillTo (k : Nat) : Array Value := ((List.range 18).map fun (i : Nat) => Value.int .i64 (if i < k then (i : Int) else 0)).toArray
theorem fillTo_set {k : Nat} : (fillTo k).setIfInBounds k (.int .i64 (k : Int)) = fillTo (k + 1) := by
  apply Array.ext
  · simp [fillTo]
  · intro j h1 h2
    have hj : j < 18 := by simpa [fillTo] using h2
    by_cases e : k = j
    · subst e; simp [fillTo]
    · rw [Array.getElem_setIfInBounds_ne (by simpa [fillTo] using hj) e]
      simp only [fillTo, List.getElem_toArray, List.getElem_map, List.getElem_range]
      congr 1
      by_cases h : j < k
      · rw [if_pos h, if_pos (by omega)]
      · rw [if_neg h, if_neg (by omega)]
theorem fillTo_get {k i : Nat} (hi : i < 18) : (fillTo k)[i]? = some (.int .i64 (if i < k then (i : Int) else 0)) := by
  simp [fillTo, hi]

theorem rel_fill {w wr : World} {B k : Nat} (hb : Below B w wr) (h : Blk wr B 42 (fillTo k)) :
    Blk (wr.setCell ⟨B, k, none⟩ (.int .i64 (k : Int))) B 42 (fillTo (k + 1)) ∧ Below B w (wr.setCell ⟨B, k, none⟩ (.int .i64 (k : Int))) := by
  refine ⟨?_, hb.setCell (Nat.le_refl _) _⟩
  have := h.set_ k (.int .i64 (k : Int))
  rwa [fillTo_set] at this

theorem holds_full {w : World} {B n : Nat} (h : Blk w B 42 (fillTo 18)) (hn : n ≤ 18) : HoldsI w B (iota n) := by
  intro j x hx
  have hj : j < n := by simpa using (List.getElem?_eq_some_iff.1 hx).1
  refine ⟨?_, h.frozen j⟩
  rw [h.cell j, fillTo_get (by omega), if_pos (by omega)]
  have : (iota n)[j]? = some (j : Int) := by simp [iota, hj]
  rw [this] at hx
  injection hx with hx
  rw [hx]

theorem div_fact {t : Nat} (ht : t + 1 ≤ 18) : IntKind.u64.wrap ((fact (t + 1) : Int) / ((t : Int) + 1)) = (fact t : Int) := by
  have hb := fact_le t (by omega)
  have e : (fact (t + 1) : Int) / ((t : Int) + 1) = (fact t : Int) := by
    show (((t + 1) * fact t : Nat) : Int) / _ = _
    rw [Int.natCast_mul]
    exact Int.mul_ediv_cancel_left _ (by omega)
  rw [e]
  exact IntWalk.u64_in _ (by omega)
theorem quo_cast {k f : Nat} (hk : k ≤ 6402373705728000) : IntKind.u64.wrap ((k : Int) / (f : Int)) = ((k / f : Nat) : Int) := by
  have := Nat.div_le_self k f
  rw [← Int.natCast_ediv]
  generalize k / f = z at *
  exact IntWalk.u64_in _ (by omega)
set_option maxHeartbeats 2000000 in
theorem Unrank_good (n k : Nat) (w : World) (hn : n ≤ 18) (hk : k < fact n) :
    Calls Try.prog 13 #[.int .i64 n, .int .u64 k] w fun e w' => ∃ v, e = .returned (.tuple #[v, .int .i64 0]) ∧ w'.ownsRow (w.heap.size + 1) 3 1 v n ((unrank n k).map (Value.int .i64)) ∧ Below w.heap.size w w' := by
  have Hc := Lib.hid (Factorial_good n w hn)
  have hfl := fact_le n hn
  have hdec : decide (fact n ≤ k) = false := by rw [decide_eq_false]; omega
  go_enter Try.func13, Try.ntmps13
  go_wp2_with (go_at_call 11; refine (Hc.out).mono ?_; rintro e w' ⟨rfl, rfl⟩)
  go_loopw [23] (fun i wr => ∃ j : Nat, j ≤ 18 ∧ i = .int .i64 j ∧ Hid (Blk wr w.heap.size 42 (fillTo j)) ∧ Below w.heap.size w wr) (fun i _ => 18 - (intOf i).toNat)
  case atStart => exact ⟨0, by omega, rfl, Blk.new w 42 (fillTo 0), (Below.refl _ _).alloc (Nat.le_refl _) _⟩
  case round =>
    obtain ⟨j, hj, rfl, Hbl, hb⟩ := hrel
    by_cases hlt : j < 18
    · have e1 := Hbl.out.cell j
      rw [fillTo_get hlt] at e1
      have e2 := Hbl.out.frozen j
      have Hr := Lib.hid (rel_fill hb Hbl.out)
      go_wp2
      go_roundw
      case rel => exact ⟨j + 1, by omega, by go_num, Hr.out.1, Hr.out.2⟩
      case measure => simp [intOf]; omega
    · have Hj : Hid (j = 18) := by show j = 18; omega
      have Hh := Lib.hid (holds_full (by have := Hbl.out; rwa [Hj.out] at this) hn)
      have hsz : w.heap.size < wr.heap.size := Hbl.out.lt
      obtain ⟨wo, rfl⟩ : ∃ wo : World, wo = wr := ⟨_, rfl⟩
      have hnI : (n : Int) ≤ 18 := by omega
      go_wp2_with (fail)
      go_loopw [1, 4, 6, 9] (fun kv v m lv wr => ∃ (t kk : Nat) (L out : List Int), t ≤ n ∧ kv = .int .u64 kk ∧ m = .int .u64 (fact t) ∧ lv = .slice (some ⟨w.heap.size, 0, none⟩) t 18 ∧ kk < fact t ∧
          Hid (L.length = t) ∧ Hid (out ++ unr t L kk = unrank n k) ∧ Hid (HoldsI wr w.heap.size L) ∧ Hid (wr.ownsRow (w.heap.size + 1) 3 1 v (n - t) (out.map (Value.int .i64))) ∧ w.heap.size < wr.heap.size ∧ Below w.heap.size w wr)
        (fun _ _ _ lv _ => lenV lv)
      case atStart => exact ⟨n, k, iota n, [], by omega, rfl, rfl, rfl, hk, iota_length n, rfl, Hh.out, by rw [Nat.sub_self]; exact World.ownsRow_nil _ _ _ _, hsz, hb⟩
      case round =>
        obtain ⟨t, kk, L, out, ht, rfl, rfl, rfl, hkk, HL, Hun, HH, Hown, hsz, hb⟩ := hrel
        obtain _ | t := t
        · go_wp2
          go_ret2
          have h1 := Hun.out
          have h2 := Hown.out
          rw [Nat.sub_zero] at h2
          simp only [unr, List.append_nil] at h1
          rw [h1] at h2
          exact ⟨_, rfl, h2, hb⟩
        · have hdiv := div_fact (t := t) (by omega)
          have hkb : kk ≤ 6402373705728000 := by have := fact_le (t + 1) (by omega); omega
          obtain ⟨d, hd⟩ : ∃ d, kk / fact t = d := ⟨_, rfl⟩
          obtain ⟨r, hr⟩ : ∃ r, kk % fact t = r := ⟨_, rfl⟩
          have hq : IntKind.u64.wrap ((kk : Int) / (fact t : Int)) = (d : Int) := by rw [quo_cast hkb, hd]
          have Hm := Lib.hid (show ((kk : Int) % (fact t : Int)) = (r : Int) by rw [← Int.natCast_emod, hr])
          have hdt : d < t + 1 := by rw [← hd]; exact div_lt_fact hkk
          have hrt : r < fact t := by rw [← hr]; exact Nat.mod_lt _ (fact_pos t)
          have hf1 : (1 : Int) ≤ (fact t : Int) := by have := fact_pos t; omega
          obtain ⟨x, hx⟩ := getElem?_lt (l := L) (k := d) (by rw [HL.out]; exact hdt)
          have Hun2 := Lib.hid (show unr (t + 1) L kk = x :: unr t (L.eraseIdx d) r by rw [← hd] at hx; rw [unr_cons hx, hd, hr])
          have Hx := Lib.hid hx
          clear hx hd hr
          go_wp2_with (first
            | (go_at_call 22; refine (take_any w.heap.size 18 d (t + 1) L x _ HL.out HH.out (by omega) (by omega) Hx.out hdt).mono ?_; rintro e w1 ⟨rfl, hH1, hg1⟩)
            | (at_builtin; refine push1 rfl (.tmp 52) (.tmp 54) 23 rfl (w.heap.size + 1) 3 _ 8 Try.underlying23 Try.info3 rfl u4 (n - (t + 1)) (out.map (Value.int .i64)) (.int .i64 x) (Hown.out.kept hg1 (own_ne Hown.out (Nat.lt_succ_self _))) rfl rfl rfl (by unfold maxLen; omega) (by omega) (Nat.le_trans hsz hg1.size) ?_; intro v2 w2 hown2 hg2 hat2))
          go_roundw
          case rel =>
            have hne : u4.ownBlock ≠ some w.heap.size := by
              rcases own_ne Hown.out (Nat.lt_succ_self _) with h | h
              · rw [h]; simp
              · exact h
            refine ⟨t, r, L.eraseIdx d, out ++ [x], by omega, u64_eq Hm.out, rfl, rfl, hrt, ?_, ?_, ?_, ?_, ?_, ?_⟩
            · show List.length _ = _
              rw [List.length_eraseIdx_of_lt (by rw [HL.out]; exact hdt), HL.out]; rfl
            · show _ = _
              rw [List.append_assoc]
              have := Hun.out
              rw [Hun2.out] at this
              exact this
            · exact hH1.grown hg2 (Nat.lt_of_lt_of_le hsz hg1.size) (Ne.symm hne)
            · show World.ownsRow _ _ _ _ _ _ _
              rw [show n - t = n - (t + 1) + 1 by omega, List.map_append]
              exact hown2
            · exact Nat.lt_of_lt_of_le hsz (Nat.le_trans hg1.size hg2.size)
            · exact (hb.grown hg1 (Nat.le_of_lt hsz) (fun k hk => by injection hk with hk; omega)).grown hg2 (Nat.le_trans (Nat.le_of_lt hsz) hg1.size) (fun k hk => by have := (Hown.out.lt k hk).1; omega)
          case measure => simp [lenV]
end Go.Proofs.Ytbccdjaeopfalaa
