import Derived.Test.YtbccdjaeopfalaaW5
namespace Go.Proofs.Ytbccdjaeopfalaa
open Go.RowKit

theorem tup_ue {a b : Int} {c d : Int} (h : a = b) (h' : c = d) : Ending.returned (.tuple #[.int .u64 a, .int .i64 c]) = .returned (.tuple #[.int .u64 b, .int .i64 d]) := by rw [h, h']
theorem isPerm_len {p : List Int} {n : Nat} (hp : p.length = n) : isPerm p = (permB p && decide (n ≤ 18)) := by subst hp; rfl

set_option maxHeartbeats 400000 in
theorem Rank_bad (A : Option Addr) (n c : Nat) (p : List Int) (w : World) (hp : p.length = n) (hm : n ≤ maxLen) (hA : Ints w A p) (hP : isPerm p = false) :
    Calls Try.prog 15 #[.slice A n c] w fun e w' => e = .returned (.tuple #[.int .u64 0, .int .i64 220]) ∧ Below w.heap.size w w' := by
  have Hp := Lib.hid hp; clear hp
  have HP := Lib.hid hP; clear hP
  have hc : Calls Try.prog 23 #[.slice A n c] w fun e w' => e = .returned (.int .i64 220) ∧ Below w.heap.size w w' := by
    by_cases hn : n ≤ 18
    · have := check_any A n c p w Hp.out hn hA
      have e : permB p = false := by
        have := HP.out
        rw [isPerm_len Hp.out] at this
        simpa [hn] using this
      rwa [e] at this
    · exact check_long A n c w hm (by omega)
  have Hc := Lib.hid hc; clear hc
  go_enter Try.func15, Try.ntmps15
  go_wp2_with (go_at_call 23; refine (Hc.out).mono ?_; rintro e w' ⟨rfl, hb⟩)
  go_ret2
  exact ⟨rfl, ‹_›⟩

theorem hor_cast {h n k : Nat} (hk : k ≤ n) : (h : Int) * ((n : Int) - (k : Int)) = ((h * (n - k) : Nat) : Int) := by
  rw [Int.natCast_mul, Int.natCast_sub hk]
theorem hor_eq {h n k m : Nat} (hk : k ≤ n) (hb : h * (n - k) + m ≤ 6402373705728000) :
    IntKind.u64.wrap (IntKind.u64.wrap ((h : Int) * ((n : Int) - (k : Int))) + (m : Int)) = ((h * (n - k) + m : Nat) : Int) := by
  rw [hor_cast hk]
  generalize h * (n - k) = z at *
  rw [IntWalk.u64_in (z : Int) (by omega), IntWalk.u64_in ((z : Int) + (m : Int)) (by omega)]
  omega
theorem hor_eq0 {h n k : Nat} (hk : k ≤ n) (hb : h * (n - k) ≤ 6402373705728000) :
    IntKind.u64.wrap (IntKind.u64.wrap ((h : Int) * ((n : Int) - (k : Int)))) = ((h * (n - k) : Nat) : Int) := by
  rw [hor_cast hk]
  generalize h * (n - k) = z at *
  rw [IntWalk.u64_in (z : Int) (by omega), IntWalk.u64_in (z : Int) (by omega)]

set_option maxHeartbeats 1000000 in
theorem Rank_good (A : Option Addr) (n c : Nat) (p : List Int) (w : World) (hp : p.length = n) (hnc : n ≤ c) (hcm : c ≤ maxLen) (hA : Ints w A p) (hP : isPerm p = true) :
    Calls Try.prog 15 #[.slice A n c] w fun e w' => e = .returned (.tuple #[.int .u64 (rk p), .int .i64 0]) ∧ Below w.heap.size w w' := by
  have hP' := hP
  rw [isPerm_len hp, Bool.and_eq_true] at hP'
  have hn : n ≤ 18 := of_decide_eq_true hP'.2
  have hc : Calls Try.prog 23 #[.slice A n c] w fun e w' => e = .returned (.int .i64 0) ∧ Below w.heap.size w w' := by
    have := check_any A n c p w hp hn hA
    rwa [hP'.1] at this
  have Hp := Lib.hid hp; clear hp hP hP'
  have Hc := Lib.hid hc; clear hc
  unfold maxLen at hcm
  go_enter Try.func15, Try.ntmps15
  go_wp2_with (go_at_call 23; refine (Hc.out).mono ?_; rintro e w1 ⟨rfl, hb1⟩)
  go_loop [2, 17] (fun s i => ∃ (k h : Nat), k ≤ n ∧ i = .int .i64 k ∧ s = .int .u64 h ∧ Hid (h * fact (n - k) + rk (p.drop k) = rk p)) (fun _ i => n - (intOf i).toNat)
  case atStart => exact ⟨0, 0, by omega, rfl, rfl, by simp [Hid]⟩
  case round =>
    obtain ⟨k, h, hk, rfl, rfl, Hh⟩ := hrel
    by_cases hlt : k < n
    · obtain ⟨b, off, rfl, hbl, hcl⟩ := hA.at_ (k := k) (by rw [Hp.out]; exact hlt)
      obtain ⟨x, hxk⟩ := getElem?_lt (l := p) (k := k) (by rw [Hp.out]; exact hlt)
      have e1 : w1.cell? ⟨b, off + k, none⟩ = some (.int .i64 x) := (hb1.cell hbl).trans (hcl k x hxk)
      have Hst := Lib.hid (show (h * (n - k) + lessN x (p.drop (k + 1))) * fact (n - (k + 1)) + rk (p.drop (k + 1)) = rk p by
        have := rk_step hxk h; rw [Hp.out] at this; exact this Hh.out)
      have Hbd := Lib.hid (show h * (n - k) + lessN x (p.drop (k + 1)) ≤ 6402373705728000 ∧ h ≤ 6402373705728000 ∧ h * (n - k) ≤ 6402373705728000 by
        have := rk_step_le hxk h (by rw [Hp.out]; exact hn); rw [Hp.out] at this; exact this Hh.out)
      have Hxk := Lib.hid hxk; have Hcl := Lib.hid hcl; clear hcl hxk hA
      by_cases hck : c = k + 1
      · subst hck
        have Hz := Lib.hid (show p.drop (k + 1) = [] from List.drop_of_length_le (by rw [Hp.out]; omega))
        go_wp2
        go_rounds 1
        go_round
        case rel =>
          refine ⟨k + 1, h * (n - k), by omega, by go_num, u64_eq (hor_eq0 (by omega) Hbd.out.2.2), ?_⟩
          have := Hst.out
          rw [Hz.out] at this ⊢
          simpa [Hid, lessN] using this
        case measure => simp [intOf]; omega
      · go_wp2
        go_loop [7, 27] (fun s j => ∃ q : Nat, q ≤ n - (k + 1) ∧ j = .int .i64 q ∧ s = .int .i64 (lessN x ((p.drop (k + 1)).take q))) (fun _ j => n - (k + 1) - (intOf j).toNat)
        case atStart => exact ⟨0, by omega, rfl, rfl⟩
        case round =>
          obtain ⟨q, hq, rfl, rfl⟩ := hrel
          by_cases hlt2 : q < n - (k + 1)
          · obtain ⟨y, hy⟩ := getElem?_lt (l := p) (k := k + 1 + q) (by rw [Hp.out]; omega)
            have e2 : w1.cell? ⟨b, off + (k + 1) + q, none⟩ = some (.int .i64 y) := by
              have := (hb1.cell (p := ⟨b, off + (k + 1 + q), none⟩) hbl).trans (Hcl.out _ y hy)
              rwa [← Nat.add_assoc off (k + 1) q] at this
            have Hs := Lib.hid (show lessN x ((p.drop (k + 1)).take (q + 1)) = lessN x ((p.drop (k + 1)).take q) + if y < x then 1 else 0 by
              rw [take_snoc (x := y) (by rw [List.getElem?_drop]; exact hy), lessN_snoc])
            have hle : lessN x ((p.drop (k + 1)).take q) ≤ q := Nat.le_trans (lessN_le _ _) (List.length_take_le _ _)
            clear hy
            by_cases hyx : y < x
            · go_wp2
              go_round
              case rel => exact ⟨q + 1, by omega, by go_num, by rw [Hs.out, if_pos hyx]; go_num⟩
              case measure => simp [intOf]; omega
            · go_wp2
              go_round
              case rel => exact ⟨q + 1, by omega, by go_num, by rw [Hs.out, if_neg hyx]; go_num⟩
              case measure => simp [intOf]; omega
          · have hle : lessN x ((p.drop (k + 1)).take q) ≤ q := Nat.le_trans (lessN_le _ _) (List.length_take_le _ _)
            have Hq := Lib.hid (show (p.drop (k + 1)).take q = p.drop (k + 1) from List.take_of_length_le (by simp [Hp.out]; omega))
            go_wp2
            go_round
            case rel =>
              refine ⟨k + 1, h * (n - k) + lessN x (p.drop (k + 1)), by omega, by go_num, u64_eq ?_, Hst.out⟩
              rw [Hq.out]
              exact hor_eq (by omega) Hbd.out.1
            case measure => simp [intOf]; omega
    · go_wp2
      go_ret2
      obtain rfl : k = n := by omega
      refine ⟨tup_ue ?_ rfl, hb1⟩
      have := Hh.out
      rw [Nat.sub_self, List.drop_of_length_le (by rw [Hp.out]; omega)] at this
      simp [fact, rk] at this
      omega

set_option maxHeartbeats 400000 in
theorem RRank_bad (A : Option Addr) (n c : Nat) (p : List Int) (w : World) (hp : p.length = n) (hm : n ≤ maxLen) (hA : Ints w A p) (hP : isPerm p = false) :
    Calls Try.prog 16 #[.slice A n c] w fun e w' => e = .returned (.tuple #[.int .u64 0, .int .i64 220]) ∧ Below w.heap.size w w' := by
  have Hm := Lib.hid hm
  unfold maxLen at hm
  by_cases hn : n ≤ 18
  · have hc := Permutation_any A n c p w hp Hm.out hA
    have e : (permB p && decide (n ≤ 18)) = false := by rwa [isPerm_len hp] at hP
    rw [e] at hc
    have Hc := Lib.hid hc; clear hc hp hA hP e
    go_enter Try.func16, Try.ntmps16
    go_wp2_with (go_at_call 24; refine (Hc.out).mono ?_; rintro e w' ⟨rfl, hb⟩)
    go_ret2
    exact ⟨rfl, hb.below _⟩
  · clear hp hA hP
    go_enter Try.func16, Try.ntmps16
    go_wp2
    go_ret2
    exact ⟨rfl, Below.refl _ _⟩

theorem mul_add_u64 {s l f : Nat} (hb : s + l * f ≤ 6402373705728000) : IntKind.u64.wrap ((s : Int) + IntKind.u64.wrap ((l : Int) * (f : Int))) = ((s + l * f : Nat) : Int) := by
  rw [← Int.natCast_mul]
  generalize l * f = z at *
  rw [IntWalk.u64_in (z : Int) (by omega), IntWalk.u64_in ((s : Int) + (z : Int)) (by omega)]
  omega

set_option maxHeartbeats 1000000 in
theorem RRank_good (A : Option Addr) (n c : Nat) (p : List Int) (w : World) (hp : p.length = n) (hm : n ≤ maxLen) (hA : Ints w A p) (hP : isPerm p = true) :
    Calls Try.prog 16 #[.slice A n c] w fun e w' => e = .returned (.tuple #[.int .u64 (rk p), .int .i64 0]) ∧ Below w.heap.size w w' := by
  have hP' := hP
  rw [isPerm_len hp] at hP'
  have hc := Permutation_any A n c p w hp hm hA
  rw [hP'] at hc
  rw [Bool.and_eq_true] at hP'
  have hn : n ≤ 18 := of_decide_eq_true hP'.2
  have Hp := Lib.hid hp
  have Hc := Lib.hid hc; clear hc hp hP hP'
  have hlt := rk_lt p
  have hfl := fact_le p.length (by rw [Hp.out]; exact hn)
  unfold maxLen at hm
  go_enter Try.func16, Try.ntmps16
  go_wp2_with (go_at_call 24; refine (Hc.out).mono ?_; rintro e w1 ⟨rfl, hb1⟩)
  go_loopw [4, 5] (fun s i wr => ∃ (k h : Nat), k ≤ n ∧ i = .int .i64 k ∧ s = .int .u64 h ∧ Hid (h + rk (p.drop k) = rk p) ∧ Drawn w wr) (fun _ i _ => n - (intOf i).toNat)
  case atStart => exact ⟨0, 0, by omega, rfl, rfl, by simp [Hid], hb1⟩
  case round =>
    obtain ⟨k, h, hk, rfl, rfl, Hh, hw⟩ := hrel
    by_cases hlt : k < n
    · obtain ⟨b, off, rfl, hbl, hcl⟩ := hA.at_ (k := k) (by rw [Hp.out]; exact hlt)
      obtain ⟨x, hxk⟩ := getElem?_lt (l := p) (k := k) (by rw [Hp.out]; exact hlt)
      have e1 : wr.cell? ⟨b, off + k, none⟩ = some (.int .i64 x) := (hw.cell _).trans (hcl k x hxk)
      have Hst := Lib.hid (show (h + lessN x (p.drop (k + 1)) * fact (n - 1 - k)) + rk (p.drop (k + 1)) = rk p by
        have := rk_sum hxk h; rw [Hp.out] at this; exact this Hh.out)
      have Hxk := Lib.hid hxk; have Hcl := Lib.hid hcl; clear hcl hxk hA
      have hcast := Lib.hid (show (n : Int) - 1 - (k : Int) = ((n - 1 - k : Nat) : Int) by omega)
      obtain ⟨wo, rfl⟩ : ∃ wo : World, wo = wr := ⟨_, rfl⟩
      go_wp2_with (go_at_call 12; rw [hcast.out]; refine (RFactorial_good (n - 1 - k) _ (by omega)).mono ?_; rintro e w' ⟨rfl, rfl⟩)
      go_loopw [8, 9] (fun s j wr => ∃ q : Nat, q ≤ n - (k + 1) ∧ j = .int .i64 ((k : Int) + 1 + q) ∧ s = .int .u64 (lessN x ((p.drop (k + 1)).take q)) ∧ Drawn w wr) (fun _ j _ => n - (intOf j).toNat)
      case atStart => exact ⟨0, by omega, by go_num, rfl, hw⟩
      case round =>
        obtain ⟨q, hq, rfl, rfl, hwr⟩ := hrel
        by_cases hlt2 : q < n - (k + 1)
        · obtain ⟨y, hy⟩ := getElem?_lt (l := p) (k := k + 1 + q) (by rw [Hp.out]; omega)
          have e2 : wr.cell? ⟨b, off + (k + 1 + q), none⟩ = some (.int .i64 y) := (hwr.cell _).trans (Hcl.out _ y hy)
          have e3 : wr.cell? ⟨b, off + k, none⟩ = some (.int .i64 x) := (hwr.cell _).trans (Hcl.out _ x Hxk.out)
          have Hs := Lib.hid (show lessN x ((p.drop (k + 1)).take (q + 1)) = lessN x ((p.drop (k + 1)).take q) + if y < x then 1 else 0 by
            rw [take_snoc (x := y) (by rw [List.getElem?_drop]; exact hy), lessN_snoc])
          have hle : lessN x ((p.drop (k + 1)).take q) ≤ q := Nat.le_trans (lessN_le _ _) (List.length_take_le _ _)
          clear hy e1
          by_cases hyx : y < x
          · go_wp2
            go_quiet (fail)
            go_wp2
            go_roundw
            case rel => exact ⟨q + 1, by omega, by go_num, by rw [Hs.out, if_pos hyx]; go_num, hwr.drewN _⟩
            case measure => simp [intOf]; omega
          · go_wp2
            go_quiet (fail)
            go_wp2
            go_roundw
            case rel => exact ⟨q + 1, by omega, by go_num, by rw [Hs.out, if_neg (by omega)]; go_num, hwr.drewN _⟩
            case measure => simp [intOf]; omega
        · have hle : lessN x ((p.drop (k + 1)).take q) ≤ q := Nat.le_trans (lessN_le _ _) (List.length_take_le _ _)
          have Hq := Lib.hid (show (p.drop (k + 1)).take q = p.drop (k + 1) from List.take_of_length_le (by simp [Hp.out]; omega))
          go_wp2
          go_roundw
          case rel =>
            refine ⟨k + 1, h + lessN x (p.drop (k + 1)) * fact (n - 1 - k), by omega, by go_num, u64_eq ?_, Hst.out, hwr⟩
            rw [Hq.out]
            have := Hst.out
            exact mul_add_u64 (by omega)
          case measure => simp [intOf]; omega
    · go_wp2
      go_ret2
      obtain rfl : k = n := by omega
      refine ⟨tup_ue ?_ rfl, hw.below _⟩
      have := Hh.out
      rw [List.drop_of_length_le (by rw [Hp.out]; omega)] at this
      simp [rk] at this
      omega
end Go.Proofs.Ytbccdjaeopfalaa
