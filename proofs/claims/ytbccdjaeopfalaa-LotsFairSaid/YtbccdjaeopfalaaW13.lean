import Derived.Test.YtbccdjaeopfalaaW12
import Derived.Test.YtbccdjaeopfalaaW9
namespace Go.Proofs.Ytbccdjaeopfalaa
open Go.RowKit

theorem RUnrank_sl (n k : Nat) (w : World) (hn : n ≤ 18) (hk : k < fact n) :
    Calls Try.prog 14 #[.int .i64 n, .int .u64 k] w fun e w' => ∃ A c, e = .returned (.tuple #[.slice A n c, .int .i64 0]) ∧ n ≤ c ∧ c ≤ maxLen ∧ Ints w' A (unrank n k) ∧ Below w.heap.size w w' :=
  (RUnrank_good n k w hn hk).mono fun e w' ⟨v, he, hown, hb⟩ => by
    obtain ⟨A, c, rfl, hn, hm, -⟩ := own_form hown
    exact ⟨A, c, he, hn, hm, Ints.own hown, hb⟩

set_option maxHeartbeats 1000000 in
theorem ROrder_any (A : Option Addr) (n c : Nat) (cl : List Int) (kk : Nat) (w : World) (hp : cl.length = n) (hnc : n ≤ c) (hm : c ≤ maxLen) (hA : Ints w A cl) :
    Calls Try.prog 19 #[.slice A n c, .int .u64 kk] w fun e w' =>
      (okOrder cl kk = false → e = .returned (.tuple #[.slice none 0 0, .int .i64 220])) ∧
      (okOrder cl kk = true → ∃ v, e = .returned (.tuple #[v, .int .i64 0]) ∧ w'.ownsRow w.heap.size 3 1 v n ((order cl kk).map (Value.int .i64))) ∧ Below w.heap.size w w' := by
  have Hp := Lib.hid hp
  have Hm := Lib.hid hm
  unfold maxLen at hm
  by_cases hn : 18 < n
  · have hf := Lib.hid (show okOrder cl kk = false by unfold okOrder; rw [hp, decide_eq_false (by omega : ¬ n ≤ 18)]; rfl)
    clear hp
    go_enter Try.func19, Try.ntmps19
    go_wp2
    go_ret2
    exact ⟨fun _ => rfl, fun h => (by rw [hf.out] at h; cases h), Below.refl _ _⟩
  clear hp
  have hn' : n ≤ 18 := by omega
  have hnI : (n : Int) ≤ 18 := by omega
  clear hn
  go_enter Try.func19, Try.ntmps19
  go_wp2
  go_loopw [6] (fun i wr => ∃ k : Nat, k ≤ n ∧ i = .int .i64 k ∧ Hid ((cl.take k).Nodup) ∧ Drawn w wr) (fun i _ => n - (intOf i).toNat)
  case atStart => exact ⟨0, by omega, rfl, by simp [Hid], Drawn.refl _⟩
  case round =>
    obtain ⟨k, hk, rfl, Hnd, hw⟩ := hrel
    obtain ⟨wo, rfl⟩ : ∃ wo : World, wo = wr := ⟨_, rfl⟩
    by_cases hlt : k < n
    · obtain ⟨b, off, rfl, hbl, hcl⟩ := hA.at_ (k := k) (by rw [Hp.out]; exact hlt)
      obtain ⟨x, hxk⟩ := getElem?_lt (l := cl) (k := k) (by rw [Hp.out]; exact hlt)
      have Hxk := Lib.hid hxk
      have Hcl := Lib.hid hcl
      clear hcl hxk
      go_wp2
      go_loopw [7] (fun i wr => ∃ j : Nat, j ≤ k ∧ i = .int .i64 j ∧ Hid (x ∉ cl.take j) ∧ Drawn w wr) (fun i _ => k - (intOf i).toNat)
      case atStart => exact ⟨0, by omega, rfl, by simp [Hid], hw⟩
      case round =>
        obtain ⟨j, hj, rfl, Hnj, hw2⟩ := hrel
        by_cases hlt2 : j < k
        · obtain ⟨y, hyj⟩ := getElem?_lt (l := cl) (k := j) (by rw [Hp.out]; omega)
          have e2 : wr.cell? ⟨b, off + j, none⟩ = some (.int .i64 y) := (hw2.cell _).trans (Hcl.out j y hyj)
          have e3 : wr.cell? ⟨b, off + k, none⟩ = some (.int .i64 x) := (hw2.cell _).trans (Hcl.out k x Hxk.out)
          have Hyj := Lib.hid hyj
          clear hyj hA
          by_cases hxy : x = y
          · subst hxy
            have hb : (x == x) = true := by simp
            have hf := Lib.hid (show okOrder cl kk = false by
              unfold okOrder
              rw [decide_eq_false (not_nodup Hxk.out (mem_take_of Hyj.out hlt2)), Bool.and_false, Bool.false_and])
            go_wp2
            go_quiet (fail)
            go_wp2
            go_ret2
            exact ⟨fun _ => rfl, fun h => (by rw [hf.out] at h; cases h), (hw2.drewN _).below _⟩
          · have hb : (x == y) = false := by simpa using hxy
            go_wp2
            go_quiet (fail)
            go_wp2
            go_roundw
            case rel => exact ⟨j + 1, by omega, by go_num, by
              show x ∉ _
              rw [take_snoc Hyj.out]; simp [Hnj.out, hxy], hw2.drewN _⟩
            case measure => simp [intOf]; omega
        · go_wp2
          go_roundw
          case rel => exact ⟨k + 1, by omega, by go_num, by
            obtain rfl : j = k := by omega
            show List.Nodup _
            rw [take_snoc Hxk.out]; exact nodup_snoc Hnd.out Hnj.out, hw2⟩
          case measure => simp [intOf]; omega
    · have hkn : Hid (k = n) := by show k = n; omega
      have hnd : cl.Nodup := by
        have := Hnd.out
        rwa [List.take_of_length_le (by rw [Hp.out]; omega)] at this
      have Hok := Lib.hid (show okOrder cl kk = okN n kk by
        unfold okOrder
        rw [Hp.out, decide_eq_true hn', decide_eq_true hnd]; rfl)
      clear hnd
      cases hokn : okN n kk with
      | false =>
        have Hu := Lib.hid (RUnrank_bad n kk wo hokn)
        have Hf := Lib.hid (Hok.out.trans hokn)
        clear hokn
        go_wp2_with (go_at_call 14; (with_reducible refine (Hu.out).mono ?_); rintro e w1 ⟨rfl, rfl⟩)
        go_ret2
        exact ⟨fun _ => rfl, fun h => (by rw [Hf.out] at h; cases h), hw.below _⟩
      | true =>
        have hkf : kk < fact n := by
          unfold okN at hokn
          have := of_decide_eq_true hokn
          rw [Int.toNat_natCast] at this
          exact this.2.2
        have Hu := Lib.hid (RUnrank_sl n kk wo hn' hkf)
        have Ht := Lib.hid (Hok.out.trans hokn)
        have Hul := Lib.hid (unrank_length n kk)
        have Hur := Lib.hid (show ∀ x ∈ unrank n kk, 0 ≤ x ∧ x < n from unr_range n kk hkf)
        have hA1 := hA.drawn hw
        have hb0 := hw.below w.heap.size
        clear hokn hA hw
        go_wp2_with (go_at_call 14; (with_reducible refine (Hu.out).mono ?_); rintro e w1 ⟨A1, c1, rfl, hn1, hm1, hI, hb1⟩)
        have HI := Lib.hid hI
        clear hI
        go_loopw [10, 11] (fun v i wr => ∃ k : Nat, k ≤ n ∧ i = .int .i64 k ∧ Hid (wr.ownsRow w1.heap.size 3 1 v k ((((unrank n kk).take k).map (nth cl)).map (Value.int .i64))) ∧ w1.heap.size ≤ wr.heap.size ∧ Below w1.heap.size w1 wr) (fun _ i _ => n - (intOf i).toNat)
        case atStart => exact ⟨0, by omega, rfl, own_lit0 (Nat.le_refl _), by simp, (Below.refl _ _).alloc (Nat.le_refl _) _⟩
        case round =>
          obtain ⟨k, hk, rfl, Hown, hsz, hb⟩ := hrel
          by_cases hlt : k < n
          · obtain ⟨b, off, rfl, hbl, hcl⟩ := HI.out.at_ (k := k) (by rw [Hul.out]; exact hlt)
            obtain ⟨x, hxk⟩ := getElem?_lt (l := unrank n kk) (k := k) (by rw [Hul.out]; exact hlt)
            obtain ⟨hx0, hx1⟩ := Hur.out x (List.mem_of_getElem? hxk)
            obtain ⟨i, rfl⟩ := Int.eq_ofNat_of_zero_le hx0
            obtain ⟨b2, off2, rfl, hbl2, hcl2⟩ := hA1.at_ (k := i) (by rw [Hp.out]; omega)
            obtain ⟨y, hy⟩ := getElem?_lt (l := cl) (k := i) (by rw [Hp.out]; omega)
            have e1 : wr.cell? ⟨b, off + k, none⟩ = some (.int .i64 i) := (hb.cell hbl).trans (hcl k _ hxk)
            have e2 : wr.cell? ⟨b2, off2 + i, none⟩ = some (.int .i64 y) := (hb.cell (p := ⟨b2, off2 + i, none⟩) (Nat.lt_of_lt_of_le hbl2 hb1.size)).trans ((hb1.cell hbl2).trans (hcl2 i _ hy))
            have Hst := Lib.hid (show ((unrank n kk).take (k + 1)).map (nth cl) = ((unrank n kk).take k).map (nth cl) ++ [y] by
              rw [take_snoc hxk]
              simp [nth, hy])
            clear hcl hcl2 hxk hy hA1
            go_wp2_with (at_builtin; refine push1 rfl (.tmp 52) (.tmp 60) 23 rfl w1.heap.size 3 _ 8 Try.underlying23 Try.info3 rfl u10 k _ (.int .i64 y) Hown.out rfl rfl rfl (by unfold maxLen; omega) (by omega) hsz ?_; intro v2 w2 hown2 hg2 hat2)
            go_roundw
            case rel =>
              refine ⟨k + 1, by omega, by go_num, ?_, Nat.le_trans hsz hg2.size, hb.grown hg2 hsz (own_base Hown.out)⟩
              show World.ownsRow _ _ _ _ _ _ _
              rw [Hst.out, List.map_append]
              exact hown2
            case measure => simp [intOf]; omega
          · go_wp2
            go_ret2
            obtain rfl : k = n := by omega
            have h2 := Hown.out
            rw [List.take_of_length_le (by rw [Hul.out]; omega)] at h2
            refine ⟨fun h => (by rw [Ht.out] at h; cases h), fun _ => ⟨_, rfl, ?_⟩, below_of (below_of hb0 hb1 hb0.size) hb (Nat.le_trans hb0.size hb1.size)⟩
            have h3 := own_mono h2 (Nat.le_trans hb0.size hb1.size)
            unfold order
            rw [Hp.out]
            exact h3
end Go.Proofs.Ytbccdjaeopfalaa
