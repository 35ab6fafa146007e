import Derived.Test.YtbccdjaeopfalaaW10
import Derived.Test.YtbccdjaeopfalaaW9
namespace Go.Proofs.Ytbccdjaeopfalaa
open Go.RowKit

theorem perm_of (A : Option Addr) (n c : Nat) (p : List Int) (w : World) (hp : p.length = n) (hm : n ≤ maxLen) (hA : Ints w A p) :
    Calls Try.prog 24 #[.slice A n c] w fun e w' => e = .returned (.bool (isPerm p)) ∧ Drawn w w' := by
  rw [isPerm_len hp]
  exact Permutation_any A n c p w hp hm hA

set_option maxHeartbeats 1000000 in
theorem RCompose_good (A B : Option Addr) (n c d : Nat) (p q : List Int) (w : World) (hp : p.length = n) (hq : q.length = n) (hA : Ints w A p) (hB : Ints w B q)
    (h1 : isPerm p = true) (h2 : isPerm q = true) :
    Calls Try.prog 21 #[.slice A n c, .slice B n d] w fun e w' => ∃ v, e = .returned (.tuple #[v, .int .i64 0]) ∧ w'.ownsRow w.heap.size 3 1 v n ((comp p q).map (Value.int .i64)) ∧ Below w.heap.size w w' := by
  have hn : n ≤ 18 := by
    rw [isPerm_len hp, Bool.and_eq_true] at h1
    exact of_decide_eq_true h1.2
  have hr := Lib.hid (fun (x : Int) (hx : x ∈ p) => perm_range hp h1 hx)
  have hm : n ≤ maxLen := by unfold maxLen; omega
  have hc1 := perm_of A n c p w hp hm hA
  rw [h1] at hc1
  have hc2 := fun (w1 : World) (hb : Drawn w w1) => perm_of B n d q w1 hq hm (hB.drawn hb)
  rw [h2] at hc2
  have Hc1 := Lib.hid hc1; have Hc2 := Lib.hid hc2; have Hp := Lib.hid hp; have Hq := Lib.hid hq
  clear hc1 hc2 hp hq h1 h2 hm
  have hd : ((n : Int) != (n : Int)) = false := by simp
  have hd2 : (n : Int) ≤ 18 := by omega
  go_enter Try.func21, Try.ntmps21
  go_wp2_with (first
    | (go_at_call 24; (with_reducible refine (Hc1.out).mono ?_); rintro e w1 ⟨rfl, hb1⟩)
    | (go_at_call 24; (with_reducible refine (Hc2.out _ hb1).mono ?_); rintro e w2 ⟨rfl, hb2⟩))
  have hb12 : Below w.heap.size w w2 := (hb1.trans hb2).below _
  go_loopw [6, 7] (fun v i wr => ∃ k : Nat, k ≤ n ∧ i = .int .i64 k ∧ Hid (wr.ownsRow w.heap.size 3 1 v k ((comp (p.take k) q).map (Value.int .i64))) ∧ w.heap.size ≤ wr.heap.size ∧ Below w.heap.size w wr) (fun _ i _ => n - (intOf i).toNat)
  case atStart => exact ⟨0, by omega, rfl, own_lit0 hb12.size, Nat.le_trans hb12.size (by simp), hb12.alloc hb12.size _⟩
  case round =>
    obtain ⟨k, hk, rfl, Hown, hsz, hb⟩ := hrel
    by_cases hlt : k < n
    · obtain ⟨b, off, rfl, hbl, hcl⟩ := hA.at_ (k := k) (by rw [Hp.out]; exact hlt)
      obtain ⟨x, hxk⟩ := getElem?_lt (l := p) (k := k) (by rw [Hp.out]; exact hlt)
      obtain ⟨hx0, hx1⟩ := hr.out x (List.mem_of_getElem? hxk)
      obtain ⟨i, rfl⟩ := Int.eq_ofNat_of_zero_le hx0
      obtain ⟨b2, off2, rfl, hbl2, hcl2⟩ := hB.at_ (k := i) (by rw [Hq.out]; omega)
      obtain ⟨y, hy⟩ := getElem?_lt (l := q) (k := i) (by rw [Hq.out]; omega)
      have e1 : wr.cell? ⟨b, off + k, none⟩ = some (.int .i64 i) := (hb.cell hbl).trans (hcl k _ hxk)
      have e2 : wr.cell? ⟨b2, off2 + i, none⟩ = some (.int .i64 y) := (hb.cell hbl2).trans (hcl2 i _ hy)
      have Hst := Lib.hid (show comp (p.take (k + 1)) q = comp (p.take k) q ++ [y] by
        rw [take_snoc hxk]
        simp [comp, nth, hy])
      clear hcl hcl2 hxk hy hA hB
      go_wp2_with (at_builtin; refine push1 rfl (.tmp 35) (.tmp 43) 23 rfl w.heap.size 3 _ 8 Try.underlying23 Try.info3 rfl u6 k _ (.int .i64 y) Hown.out rfl rfl rfl (by unfold maxLen; omega) (by omega) hsz ?_; intro v2 w2 hown2 hg2 hat2)
      go_roundw
      case rel =>
        refine ⟨k + 1, by omega, by go_num, ?_, Nat.le_trans hsz hg2.size, hb.grown hg2 hsz (own_base Hown.out)⟩
        show World.ownsRow _ _ _ _ _ _ _
        rw [Hst.out, List.map_append]
        exact hown2
      case measure => simp [intOf]; omega
    · go_wp2
      go_ret2
      obtain rfl : k = n := by omega
      have h2 := Hown.out
      rw [List.take_of_length_le (by rw [Hp.out]; omega)] at h2
      exact ⟨_, rfl, h2, hb⟩

set_option maxHeartbeats 1000000 in
theorem RCompose_bad (A B : Option Addr) (n m c d : Nat) (p q : List Int) (w : World) (hp : p.length = n) (hq : q.length = m) (hn : n ≤ maxLen) (hm : m ≤ maxLen) (hA : Ints w A p) (hB : Ints w B q)
    (h : okComp p q = false) :
    Calls Try.prog 21 #[.slice A n c, .slice B m d] w fun e w' => e = .returned (.tuple #[.slice none 0 0, .int .i64 220]) ∧ Below w.heap.size w w' := by
  have hc1 := perm_of A n c p w hp hn hA
  have hc2 := fun (w1 : World) (hb : Drawn w w1) => perm_of B m d q w1 hq hm (hB.drawn hb)
  rcases bad_cases hp hq h with hne | ⟨rfl, h1⟩ | ⟨rfl, h1, h2⟩
  · have hd : ((n : Int) != (m : Int)) = true := by simp; omega
    clear hc1 hc2 hp hq h hA hB
    go_enter Try.func21, Try.ntmps21
    go_wp2
    go_ret2
    exact ⟨rfl, Below.refl _ _⟩
  · rw [h1] at hc1
    have Hc1 := Lib.hid hc1
    clear hc1 hc2 hp hq h1 h hA hB
    have hd : ((n : Int) != (n : Int)) = false := by simp
    by_cases h18 : (n : Int) ≤ 18
    · go_enter Try.func21, Try.ntmps21
      go_wp2_with (go_at_call 24; (with_reducible refine (Hc1.out).mono ?_); rintro e w1 ⟨rfl, hb1⟩)
      go_ret2
      exact ⟨rfl, hb1.below _⟩
    · go_enter Try.func21, Try.ntmps21
      go_wp2
      go_ret2
      exact ⟨rfl, Below.refl _ _⟩
  · have h18 : (n : Int) ≤ 18 := by
      rw [isPerm_len hp, Bool.and_eq_true] at h1
      have := of_decide_eq_true h1.2
      omega
    rw [h1] at hc1
    rw [h2] at hc2
    have Hc1 := Lib.hid hc1
    have Hc2 := Lib.hid hc2
    clear hc1 hc2 hp hq h1 h2 h hA hB
    have hd : ((n : Int) != (n : Int)) = false := by simp
    go_enter Try.func21, Try.ntmps21
    go_wp2_with (first
      | (go_at_call 24; (with_reducible refine (Hc1.out).mono ?_); rintro e w1 ⟨rfl, hb1⟩)
      | (go_at_call 24; (with_reducible refine (Hc2.out _ hb1).mono ?_); rintro e w2 ⟨rfl, hb2⟩))
    go_ret2
    exact ⟨rfl, (hb1.trans hb2).below _⟩
end Go.Proofs.Ytbccdjaeopfalaa
