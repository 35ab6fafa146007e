import Derived.Test.YtbccdjaeopfalaaW8
namespace Go.Proofs.Ytbccdjaeopfalaa
open Go.RowKit

set_option maxHeartbeats 400000 in
theorem RUnrank_bad (n : Int) (k : Nat) (w : World) (h : okN n k = false) :
    Calls Try.prog 14 #[.int .i64 n, .int .u64 k] w fun e w' => e = .returned (.tuple #[.slice none 0 0, .int .i64 220]) ∧ w = w' := by
  by_cases hn : n < 0 ∨ 18 < n
  · have Hc := Lib.hid (RFactorial_bad n w hn)
    clear h hn
    go_enter Try.func14, Try.ntmps14
    go_wp2_with (go_at_call 12; refine (Hc.out).mono ?_; rintro e w' ⟨rfl, rfl⟩)
    go_ret2
    exact ⟨rfl, rfl⟩
  · obtain ⟨m, rfl⟩ := Int.eq_ofNat_of_zero_le (by omega : 0 ≤ n)
    have Hc := Lib.hid (RFactorial_good m w (by omega))
    have hk : ((fact m : Nat) : Int) ≤ (k : Int) := by
      unfold okN at h
      have := of_decide_eq_false h
      rw [Int.toNat_natCast] at this
      omega
    clear h hn
    go_enter Try.func14, Try.ntmps14
    go_wp2_with (go_at_call 12; refine (Hc.out).mono ?_; rintro e w' ⟨rfl, rfl⟩)
    go_ret2
    exact ⟨rfl, rfl⟩

theorem own_lit0 {w : World} {base : Nat} {e : TypeId} (hb : base ≤ w.heap.size) : (w.alloc (.cells #[] e)).ownsRow base e 1 (.slice (some ⟨w.heap.size, 0, none⟩) 0 0) 0 [] :=
  World.ownsRow_lit (size := 1) w #[] 0 hb (Nat.zero_le _) rfl
theorem iota_succ (k : Nat) : iota (k + 1) = iota k ++ [(k : Int)] := by simp [iota, List.range_succ]

set_option maxHeartbeats 2000000 in
theorem RUnrank_good (n k : Nat) (w : World) (hn : n ≤ 18) (hk : k < fact n) :
    Calls Try.prog 14 #[.int .i64 n, .int .u64 k] w fun e w' => ∃ v, e = .returned (.tuple #[v, .int .i64 0]) ∧ w'.ownsRow w.heap.size 3 1 v n ((unrank n k).map (Value.int .i64)) ∧ Below w.heap.size w w' := by
  have Hc := Lib.hid (RFactorial_good n w hn)
  have hfl := fact_le n hn
  have hdec : decide (fact n ≤ k) = false := by rw [decide_eq_false]; omega
  go_enter Try.func14, Try.ntmps14
  go_wp2_with (go_at_call 12; refine (Hc.out).mono ?_; rintro e w' ⟨rfl, rfl⟩)
  go_loopw [8, 9] (fun v i wr => ∃ j : Nat, j ≤ n ∧ i = .int .i64 j ∧ Hid (wr.ownsRow w.heap.size 3 1 v j ((iota j).map (Value.int .i64))) ∧ w.heap.size ≤ wr.heap.size ∧ Below w.heap.size w wr) (fun _ i _ => n - (intOf i).toNat)
  case atStart => exact ⟨0, by omega, rfl, own_lit0 (Nat.le_refl _), by simp, (Below.refl _ _).alloc (Nat.le_refl _) _⟩
  case round =>
    obtain ⟨j, hj, rfl, Hown, hsz, hb⟩ := hrel
    by_cases hlt : j < n
    · go_wp2_with (at_builtin; refine push1 rfl (.tmp 33) (.tmp 35) 23 rfl w.heap.size 3 _ 8 Try.underlying23 Try.info3 rfl u8 j ((iota j).map (Value.int .i64)) (.int .i64 j) Hown.out rfl rfl rfl (by unfold maxLen; omega) (by omega) hsz ?_; intro v2 w2 hown2 hg2 hat2)
      go_roundw
      case rel =>
        refine ⟨j + 1, by omega, by go_num, ?_, Nat.le_trans hsz hg2.size, hb.grown hg2 hsz (own_base Hown.out)⟩
        show World.ownsRow _ _ _ _ _ _ _
        rw [iota_succ, List.map_append]
        exact hown2
      case measure => simp [intOf]; omega
    · have Hj : Hid (j = n) := by show j = n; omega
      obtain ⟨A, c, rfl, hnc, hcm, -⟩ := own_form Hown.out
      have Hh := Lib.hid (Ints.own Hown.out)
      obtain ⟨wo, rfl⟩ : ∃ wo : World, wo = wr := ⟨_, rfl⟩
      go_wp2_with (fail)
      go_loopw [1, 8, 10, 11] (fun kv lv v iv wr => ∃ (t kk : Nat) (A : Option Addr) (c : Nat) (L out : List Int), t ≤ n ∧ kv = .int .u64 kk ∧ iv = .int .i64 ((t : Int) - 1) ∧ lv = .slice A t c ∧ kk < fact t ∧ t ≤ c ∧ c ≤ maxLen ∧
          Hid (L.length = t) ∧ Hid (out ++ unr t L kk = unrank n k) ∧ Hid (Ints wr A L) ∧ Hid (wr.ownsRow wo.heap.size 3 1 v (n - t) (out.map (Value.int .i64))) ∧ w.heap.size ≤ wo.heap.size ∧ wo.heap.size ≤ wr.heap.size ∧ Below w.heap.size w wr ∧ Hid (∀ b off, A = some ⟨b, off, none⟩ → L ≠ [] → v.ownBlock ≠ some b))
        (fun _ lv _ _ _ => lenV lv)
      case atStart =>
        have hj := Hj.out
        subst hj
        refine ⟨j, k, A, c, iota j, [], by omega, rfl, rfl, rfl, hk, hnc, hcm, iota_length j, rfl, Cells.alloc Hh.out _, by rw [Nat.sub_self]; exact own_lit0 (Nat.le_refl _), hsz, by simp, hb.alloc hsz _, ?_⟩
        intro b off he hne
        rcases Hh.out with h0 | ⟨b', off', he', hlt', _⟩
        · exact absurd (by simpa using h0) hne
        · rw [he] at he'
          injection he' with he'
          injection he' with he'
          simp [Value.ownBlock]
          omega
      case round =>
        obtain ⟨t, kk, A, c, L, out, ht, rfl, rfl, rfl, hkk, htc, hcm, HL, Hun, HH, Hown, hww, hsz, hb, Hne⟩ := hrel
        obtain _ | t := t
        · go_wp2
          go_ret2
          have h1 := Hun.out
          have h2 := Hown.out
          rw [Nat.sub_zero] at h2
          simp only [unr, List.append_nil] at h1
          rw [h1] at h2
          exact ⟨_, rfl, own_mono h2 hww, hb⟩
        · have hti := Lib.hid (show ((t + 1 : Nat) : Int) - 1 = (t : Int) by omega)
          have hkb : kk ≤ 6402373705728000 := by have := fact_le (t + 1) (by omega); omega
          obtain ⟨d, hd⟩ : ∃ d, kk / fact t = d := ⟨_, rfl⟩
          obtain ⟨r, hr⟩ : ∃ r, kk % fact t = r := ⟨_, rfl⟩
          have hq : IntKind.u64.wrap ((kk : Int) / (fact t : Int)) = (d : Int) := by rw [quo_cast hkb, hd]
          have Hm := Lib.hid (show ((kk : Int) % (fact t : Int)) = (r : Int) by rw [← Int.natCast_emod, hr])
          have hdt : d < t + 1 := by rw [← hd]; exact div_lt_fact hkk
          have hrt : r < fact t := by rw [← hr]; exact Nat.mod_lt _ (fact_pos t)
          have hf1 : (1 : Int) ≤ (fact t : Int) := by have := fact_pos t; omega
          obtain ⟨x, hx⟩ := getElem?_lt (l := L) (k := d) (by rw [HL.out]; exact hdt)
          have Hun2 := Lib.hid (show unr (t + 1) L kk = x :: unr t (L.eraseIdx d) r by rw [← hd] at hx; rw [unr_cons hx, hd, hr])
          obtain ⟨b, off, rfl, hbl, hcl⟩ := Ints.at_ HH.out (k := d) (by rw [HL.out]; exact hdt)
          have e1 : wr.cell? ⟨b, off + d, none⟩ = some (.int .i64 x) := hcl d x hx
          have Hx := Lib.hid hx
          clear hx hd hr hcl
          go_wp2_with (first
            | (go_at_call 12; refine (RFactorial_good t _ (by omega)).mono ?_; rintro e w1 ⟨rfl, rfl⟩)
            | (at_builtin; refine push1 rfl (.tmp 56) (.tmp 61) 23 rfl wo.heap.size 3 _ 8 Try.underlying23 Try.info3 rfl u10 (n - (t + 1)) (out.map (Value.int .i64)) (.int .i64 x) Hown.out rfl rfl rfl (by unfold maxLen; omega) (by omega) hsz ?_; intro v2 w2 hown2 hg2 hat2))
          have hLn : L ≠ [] := fun e => by have := HL.out; rw [e] at this; simp at this
          have hbne := Lib.hid (Hne.out b off rfl hLn)
          have Hc2 := Lib.hid (show Ints w2 (some ⟨b, off, none⟩) L from Cells.grown HH.out hg2 (fun b' off' he hh => by
            injection he with he; injection he with he _; subst he; exact hbne.out hh.symm))
          have hbl2 : b < w2.heap.size := Nat.lt_of_lt_of_le hbl hg2.size
          have hv2 : v2.ownBlock ≠ some b := by
            rcases hat2 with h | ⟨g, h, hg⟩
            · rw [h]; exact hbne.out
            · rw [h]; intro e; injection e with e; omega
          have Hv2 := Lib.hid hv2
          have Hg2 := Lib.hid hg2
          have Hown2 := Lib.hid hown2
          have Hat2 := Lib.hid hat2
          clear hv2 hg2 hown2 hat2 e1
          have hi1 : (d : Int) ≤ (c : Int) := by omega
          have hi2 : (d : Int) + 1 ≤ (t : Int) + 1 := by omega
          have hi3 : (d : Int) ≤ (t : Int) + 1 := by omega
          have hi4 : (0 : Int) ≤ (d : Int) + 1 := by omega
          have hcs := Lib.hid (show Cells w2 (if c = d + 1 then some ⟨b, off, none⟩ else some ⟨b, off + (d + 1), none⟩) ((L.drop (d + 1)).map (Value.int .i64)) by
            rw [List.map_drop]; exact Cells.cutIf Hc2.out (by simp [HL.out]; omega))
          have hl1 := Lib.hid (show ((L.take d).map (Value.int .i64)).length = d * 1 by simp [HL.out]; omega)
          have hl2 := Lib.hid (show ((L.drop (d + 1)).map (Value.int .i64)).length = (t + 1 - (d + 1)) * 1 by simp [HL.out])
          have hl3 := Lib.hid (show d + (t + 1 - (d + 1)) ≤ maxLen by unfold maxLen; omega)
          have hl4 := Lib.hid (show (d + (t + 1 - (d + 1))) * 8 ≤ 140737488355328 by omega)
          have hl5 := Lib.hid (show d + (t + 1 - (d + 1)) = t by omega)
          have hw1 : IntKind.i64.wrap ((d : Int) + 1) = (d : Int) + 1 := IntWalk.i64_in _ (by omega)
          have hw2 : ((d : Int) + 1).toNat = d + 1 := by omega
          go_region_law (first | (refine step_append_full rfl (.tmp 66) (.tmp 70) 23 rfl 3 _ 1 8 Try.underlying23 Try.info3 rfl (by decide) (some ⟨b, off, none⟩) d ((L.take d).map (Value.int .i64)) (by simp [Act.eval, Act.put]) hl1.out (by rw [List.map_take]; exact Cells.take_ Hc2.out d) (if c = d + 1 then some ⟨b, off, none⟩ else some ⟨b, off + (d + 1), none⟩) (t + 1 - (d + 1)) (c - (d + 1)) ((L.drop (d + 1)).map (Value.int .i64)) (by simp [Act.eval, Act.put]) hl2.out hcs.out (oneCell_ints _ _) (oneCell_ints _ _) hl3.out hl4.out ?_; intro B' d' w3 hc3 hd3 hm3 hb3 hs3))
          clear hw1 hw2 hi1 hi2 hi3 hi4
          have hb3' : Below w2.heap.size w2 w3 := ⟨hb3.os, hb3.tape, hb3.output, hb3.size, hb3.block⟩
          go_wp2
          go_roundw
          case rel =>
            refine ⟨t, r, B', d', L.eraseIdx d, out ++ [x], by omega, u64_eq Hm.out, rfl, by rw [show d + (t - d) = t from by omega], hrt, by have := hl5.out; omega, hm3, ?_, ?_, ?_, ?_, hww, ?_, ?_, ?_⟩
            · show List.length _ = _
              rw [List.length_eraseIdx_of_lt (by rw [HL.out]; exact hdt), HL.out]; rfl
            · show _ = _
              rw [List.append_assoc]
              have := Hun.out
              rw [Hun2.out] at this
              exact this
            · show Cells _ _ _
              rw [← eraseIdx_eq, List.map_append]
              exact hc3
            · show World.ownsRow _ _ _ _ _ _ _
              rw [show n - t = n - (t + 1) + 1 by omega, List.map_append]
              exact own_below Hown2.out hb3'
            · exact Nat.le_trans hsz (Nat.le_trans Hg2.out.size hb3.size)
            · exact below_of (hb.grown Hg2.out (Nat.le_trans hww hsz) (fun k hk => Nat.le_trans hww (own_base Hown.out k hk))) hb3' (Nat.le_trans (Nat.le_trans hww hsz) Hg2.out.size)
            · intro b' off' he hne hv
              rcases hs3 b' off' he with h | h
              · rw [he] at h; injection h with h; injection h with h _; subst h; exact Hv2.out hv
              · have := (Hown2.out.lt b' hv).2
                simp at h; omega
          case measure => simp [lenV]; omega
end Go.Proofs.Ytbccdjaeopfalaa
