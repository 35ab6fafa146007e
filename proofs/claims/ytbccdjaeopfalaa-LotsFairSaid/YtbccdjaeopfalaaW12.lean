import Derived.Test.YtbccdjaeopfalaaW10
import Derived.Test.YtbccdjaeopfalaaW8
namespace Go.Proofs.Ytbccdjaeopfalaa
open Go.RowKit

def okOrder (cl : List Int) (k : Nat) : Bool := decide (cl.length ≤ 18) && decide cl.Nodup && okN cl.length k
def order (cl : List Int) (k : Nat) : List Int := (unrank cl.length k).map (nth cl)
def orderL (cl : List Int) (k : Nat) : List Int := if okOrder cl k then order cl k else []

theorem Contains_any (A : Option Addr) (n c : Nat) (xs : List Int) (x : Int) (w : World) (hx : xs.length = n) (hm : n ≤ maxLen) (hA : Ints w A xs) :
    Calls Try.prog 25 #[.slice A n c, .int .i64 x] w fun e w' => e = .returned (.bool (xs.contains x)) ∧ w = w' := by
  unfold maxLen at hm
  rcases Nat.eq_zero_or_pos n with rfl | h0
  · have : xs = [] := List.eq_nil_of_length_eq_zero hx
    subst this
    exact (Try.slices_Contains_int_empty A c x w).mono fun _ _ ⟨h1, h2⟩ => ⟨h1, h2.symm⟩
  · obtain ⟨b, off, rfl, hbl, hcl⟩ := hA.at_ (k := 0) (by omega)
    have h := Try.slices_Contains_int b off n c xs x w (by omega) (by omega) (fun j hj => hcl j _ (by rw [List.getD_eq_getElem?_getD, List.getElem?_eq_getElem hj]; rfl))
    rw [List.take_of_length_le (by omega)] at h
    exact h.mono fun _ _ ⟨h1, h2⟩ => ⟨h1, h2.symm⟩

theorem Unrank_sl (n k : Nat) (w : World) (hn : n ≤ 18) (hk : k < fact n) :
    Calls Try.prog 13 #[.int .i64 n, .int .u64 k] w fun e w' => ∃ A c, e = .returned (.tuple #[.slice A n c, .int .i64 0]) ∧ n ≤ c ∧ c ≤ maxLen ∧ Ints w' A (unrank n k) ∧ Below w.heap.size w w' :=
  (Unrank_good n k w hn hk).mono fun e w' ⟨v, he, hown, hb⟩ => by
    obtain ⟨A, c, rfl, hn, hm, -⟩ := own_form hown
    exact ⟨A, c, he, hn, hm, Ints.own hown, hb⟩

theorem nodup_snoc {p : List Int} {x : Int} (h : p.Nodup) (hx : x ∉ p) : (p ++ [x]).Nodup := by
  rw [List.nodup_append]
  exact ⟨h, by simp, fun a ha b hb e => hx (by simp at hb; subst hb; subst e; exact ha)⟩
theorem not_nodup {p : List Int} {k : Nat} {x : Int} (hx : p[k]? = some x) (h : x ∈ p.take k) : ¬ p.Nodup := fun hn => by
  have h1 : (p.take (k + 1)).Nodup := hn.sublist (List.take_sublist _ _)
  rw [take_snoc hx, List.nodup_append] at h1
  exact h1.2.2 x h x (by simp) rfl

set_option maxHeartbeats 1000000 in
theorem Order_any (A : Option Addr) (n c : Nat) (cl : List Int) (kk : Nat) (w : World) (hp : cl.length = n) (hnc : n ≤ c) (hm : c ≤ maxLen) (hA : Ints w A cl) :
    Calls Try.prog 18 #[.slice A n c, .int .u64 kk] w fun e w' =>
      (okOrder cl kk = false → e = .returned (.tuple #[.slice none 0 0, .int .i64 220])) ∧
      (okOrder cl kk = true → ∃ v, e = .returned (.tuple #[v, .int .i64 0]) ∧ w'.ownsRow w.heap.size 3 1 v n ((order cl kk).map (Value.int .i64))) ∧ Below w.heap.size w w' := by
  have Hp := Lib.hid hp
  have Hm := Lib.hid hm
  unfold maxLen at hm
  by_cases hn : 18 < n
  · have hf := Lib.hid (show okOrder cl kk = false by unfold okOrder; rw [hp, decide_eq_false (by omega : ¬ n ≤ 18)]; rfl)
    clear hp
    go_enter Try.func18, Try.ntmps18
    go_wp2
    go_ret2
    exact ⟨fun _ => rfl, fun h => (by rw [hf.out] at h; cases h), Below.refl _ _⟩
  clear hp
  have hn' : n ≤ 18 := by omega
  have hnI : (n : Int) ≤ 18 := by omega
  clear hn
  go_enter Try.func18, Try.ntmps18
  go_wp2
  go_loop [4, 16] (fun v i => ∃ k : Nat, k ≤ n ∧ v = .slice none 0 0 ∧ i = .int .i64 k ∧ Hid ((cl.take k).Nodup)) (fun _ i => n - (intOf i).toNat)
  case atStart => exact ⟨0, by omega, rfl, rfl, by simp [Hid]⟩
  case round =>
    obtain ⟨k, hk, rfl, rfl, Hnd⟩ := hrel
    by_cases hlt : k < n
    · obtain ⟨b, off, rfl, hbl, hcl⟩ := hA.at_ (k := k) (by rw [Hp.out]; exact hlt)
      obtain ⟨x, hxk⟩ := getElem?_lt (l := cl) (k := k) (by rw [Hp.out]; exact hlt)
      have e1 : w.cell? ⟨b, off + k, none⟩ = some (.int .i64 x) := hcl k x hxk
      have Hxk := Lib.hid hxk
      have Hc := Lib.hid (Contains_any (some ⟨b, off, none⟩) k c (cl.take k) x w (by rw [List.length_take, Hp.out]; omega) (by unfold maxLen; omega) (by
        show Cells _ _ _
        rw [List.map_take]; exact Cells.take_ hA k))
      clear hcl hxk
      have hkc : (k : Int) ≤ (c : Int) := by omega
      cases hmem : (cl.take k).contains x with
      | true =>
        have Hc' := Lib.hid (by have := Hc.out; rw [hmem] at this; exact this : Calls Try.prog 25 #[.slice (some ⟨b, off, none⟩) k c, .int .i64 x] w fun e w' => e = .returned (.bool true) ∧ w = w')
        have hf := Lib.hid (show okOrder cl kk = false by
          unfold okOrder
          rw [decide_eq_false (not_nodup Hxk.out (by simpa using hmem)), Bool.and_false, Bool.false_and])
        clear hmem Hc hA
        go_wp2_with (go_at_call 25; (with_reducible refine (Hc'.out).mono ?_); rintro e w1 ⟨rfl, rfl⟩)
        go_ret2
        exact ⟨fun _ => rfl, fun h => (by rw [hf.out] at h; cases h), Below.refl _ _⟩
      | false =>
        have Hc' := Lib.hid (by have := Hc.out; rw [hmem] at this; exact this : Calls Try.prog 25 #[.slice (some ⟨b, off, none⟩) k c, .int .i64 x] w fun e w' => e = .returned (.bool false) ∧ w = w')
        have Hnm := Lib.hid (show x ∉ cl.take k by
          intro h
          have : (cl.take k).contains x = true := by simpa using h
          rw [hmem] at this; cases this)
        clear hmem Hc hA
        go_wp2_with (go_at_call 25; (with_reducible refine (Hc'.out).mono ?_); rintro e w1 ⟨rfl, rfl⟩)
        go_round
        case rel => exact ⟨k + 1, by omega, rfl, by go_num, by
          show List.Nodup _
          rw [take_snoc Hxk.out]; exact nodup_snoc Hnd.out Hnm.out⟩
        case measure => simp [intOf]; omega
    · have hkn : Hid (k = n) := by show k = n; omega
      have hnd : cl.Nodup := by
        have := Hnd.out
        rwa [List.take_of_length_le (by rw [Hp.out]; omega)] at this
      have Hok := Lib.hid (show okOrder cl kk = okN n kk by
        unfold okOrder
        rw [Hp.out, decide_eq_true hn', decide_eq_true hnd]; rfl)
      clear hnd
      cases hokn : okN n kk with
      | false =>
        have Hu := Lib.hid (Unrank_bad n kk w hokn)
        have Hf := Lib.hid (Hok.out.trans hokn)
        clear hokn
        go_wp2_with (go_at_call 13; (with_reducible refine (Hu.out).mono ?_); rintro e w1 ⟨rfl, rfl⟩)
        go_ret2
        exact ⟨fun _ => rfl, fun h => (by rw [Hf.out] at h; cases h), Below.refl _ _⟩
      | true =>
        have hkf : kk < fact n := by
          unfold okN at hokn
          have := of_decide_eq_true hokn
          rw [Int.toNat_natCast] at this
          exact this.2.2
        have Hu := Lib.hid (Unrank_sl n kk w hn' hkf)
        have Ht := Lib.hid (Hok.out.trans hokn)
        have Hul := Lib.hid (unrank_length n kk)
        have Hur := Lib.hid (show ∀ x ∈ unrank n kk, 0 ≤ x ∧ x < n from unr_range n kk hkf)
        clear hokn
        go_wp2_with (go_at_call 13; (with_reducible refine (Hu.out).mono ?_); rintro e w1 ⟨A1, c1, rfl, hn1, hm1, hI, hb1⟩)
        have HI := Lib.hid hI
        clear hI
        go_loopw [4, 39] (fun v i wr => ∃ k : Nat, k ≤ n ∧ i = .int .i64 k ∧ Hid (wr.ownsRow w1.heap.size 3 1 v k ((((unrank n kk).take k).map (nth cl)).map (Value.int .i64))) ∧ w1.heap.size ≤ wr.heap.size ∧ Below w1.heap.size w1 wr) (fun _ i _ => n - (intOf i).toNat)
        case atStart => exact ⟨0, by omega, rfl, World.ownsRow_nil _ _ _ _, Nat.le_refl _, Below.refl _ _⟩
        case round =>
          obtain ⟨k, hk, rfl, Hown, hsz, hb⟩ := hrel
          by_cases hlt : k < n
          · obtain ⟨b, off, rfl, hbl, hcl⟩ := HI.out.at_ (k := k) (by rw [Hul.out]; exact hlt)
            obtain ⟨x, hxk⟩ := getElem?_lt (l := unrank n kk) (k := k) (by rw [Hul.out]; exact hlt)
            obtain ⟨hx0, hx1⟩ := Hur.out x (List.mem_of_getElem? hxk)
            obtain ⟨i, rfl⟩ := Int.eq_ofNat_of_zero_le hx0
            obtain ⟨b2, off2, rfl, hbl2, hcl2⟩ := hA.at_ (k := i) (by rw [Hp.out]; omega)
            obtain ⟨y, hy⟩ := getElem?_lt (l := cl) (k := i) (by rw [Hp.out]; omega)
            have e1 : wr.cell? ⟨b, off + k, none⟩ = some (.int .i64 i) := (hb.cell hbl).trans (hcl k _ hxk)
            have e2 : wr.cell? ⟨b2, off2 + i, none⟩ = some (.int .i64 y) := (hb.cell (p := ⟨b2, off2 + i, none⟩) (Nat.lt_of_lt_of_le hbl2 hb1.size)).trans ((hb1.cell hbl2).trans (hcl2 i _ hy))
            have Hst := Lib.hid (show ((unrank n kk).take (k + 1)).map (nth cl) = ((unrank n kk).take k).map (nth cl) ++ [y] by
              rw [take_snoc hxk]
              simp [nth, hy])
            clear hcl hcl2 hxk hy hA
            go_wp2_with (at_builtin; refine push1 rfl (.tmp 43) (.tmp 48) 23 rfl w1.heap.size 3 _ 8 Try.underlying23 Try.info3 rfl u4 k _ (.int .i64 y) Hown.out rfl rfl rfl (by unfold maxLen; omega) (by omega) hsz ?_; intro v2 w2 hown2 hg2 hat2)
            go_roundw
            case rel =>
              refine ⟨k + 1, by omega, by go_num, ?_, Nat.le_trans hsz hg2.size, hb.grown hg2 hsz (own_base Hown.out)⟩
              show World.ownsRow _ _ _ _ _ _ _
              rw [Hst.out, List.map_append]
              exact hown2
            case measure => simp [intOf]; omega
          · go_wp2
            go_ret2
            obtain rfl : k = n := by omega
            have h2 := Hown.out
            rw [List.take_of_length_le (by rw [Hul.out]; omega)] at h2
            refine ⟨fun h => (by rw [Ht.out] at h; cases h), fun _ => ⟨_, rfl, ?_⟩, below_of hb1 hb hb1.size⟩
            have h3 := own_mono h2 hb1.size
            unfold order
            rw [Hp.out]
            exact h3
end Go.Proofs.Ytbccdjaeopfalaa
