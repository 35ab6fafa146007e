/- New and Bits, one contract each; the laws' same of equal lists (signing). -/
import Derived.Test.YtcijhakofoklcaaSigR3
namespace Go.Proofs.Ytcijhakofoklcaa
open Go.RowKit
def newS (n : Nat) (m : Int) (s : List Nat) : List Nat := if okKey n m 0 then s else []
def newM (n : Nat) (m : Int) : Int := if okKey n m 0 then m else 0
def bitsI (root : List Nat) (i : Int) (msg : List Nat) : List Bool := if 0 ≤ i ∧ i < 4096 then bitL (msgS root i.toNat msg) 64 else []
theorem bitsI_le (root : List Nat) (i : Int) (msg : List Nat) : (bitsI root i msg).length ≤ 64 := by
  unfold bitsI
  split
  · rw [bitL_length]; exact Nat.le_refl _
  · simp
theorem New_any (A : Option Addr) (n c : Nat) (m : Int) (s : List Nat) (w : World) (hA : Cells w A (bytesV s)) (hs : s.length = n) (hn : n ≤ 200) (hnc : n ≤ c) (hcm : c ≤ maxLen) :
    Calls Try.prog 23 #[.slice A n c, .int .i64 m] w fun e w' => ∃ A' c', e = .returned (.tuple #[.agg #[.slice A' (newS n m s).length c', .int .i64 (newM n m), .int .i64 0], .int .i64 (errKey (okKey n m 0))]) ∧ Cells w' A' (bytesV (newS n m s)) ∧ Below w.heap.size w w' := by
  cases hk : okKey n m 0 with
  | false =>
    have e1 : newS n m s = [] := by unfold newS; rw [hk]; rfl
    have e2 : newM n m = 0 := by unfold newM; rw [hk]; rfl
    rw [e1, e2]
    exact (New_bad A n c m s w hA hs hn hnc hcm hk).mono fun e w' ⟨h1, h2⟩ => ⟨none, 0, h1, .inl (by unfold bytesV; rfl), h2⟩
  | true =>
    have e1 : newS n m s = s := by unfold newS; rw [hk]; rfl
    have e2 : newM n m = m := by unfold newM; rw [hk]; rfl
    rw [e1, e2, hs]
    exact (New_good A n c m s w hA hs hn hnc hcm hk).mono fun e w' ⟨A2, c2, h1, _, _, h2, h3⟩ => ⟨A2, c2, h1, h2, h3⟩
theorem rNew_any (A : Option Addr) (n c : Nat) (m : Int) (s : List Nat) (w : World) (hA : Cells w A (bytesV s)) (hs : s.length = n) (hn : n ≤ 200) (hnc : n ≤ c) (hcm : c ≤ maxLen) :
    Calls Try.prog 24 #[.slice A n c, .int .i64 m] w fun e w' => ∃ A' c', e = .returned (.tuple #[.agg #[.slice A' (newS n m s).length c', .int .i64 (newM n m), .int .i64 0], .int .i64 (errKey (okKey n m 0))]) ∧ Cells w' A' (bytesV (newS n m s)) ∧ Below w.heap.size w w' := by
  cases hk : okKey n m 0 with
  | false =>
    have e1 : newS n m s = [] := by unfold newS; rw [hk]; rfl
    have e2 : newM n m = 0 := by unfold newM; rw [hk]; rfl
    rw [e1, e2]
    exact (rNew_bad A n c m s w hA hs hn hnc hcm hk).mono fun e w' ⟨h1, h2⟩ => ⟨none, 0, h1, .inl (by unfold bytesV; rfl), h2⟩
  | true =>
    have e1 : newS n m s = s := by unfold newS; rw [hk]; rfl
    have e2 : newM n m = m := by unfold newM; rw [hk]; rfl
    rw [e1, e2, hs]
    exact (rNew_good A n c m s w hA hs hn hnc hcm hk).mono fun e w' ⟨A2, c2, h1, _, _, h2, h3⟩ => ⟨A2, c2, h1, h2, h3⟩
theorem arrB_list (x : List Bool) : (arrB x).toList = x.map Value.bool := by simp [arrB]
theorem Bits_any (root : List Nat) (i : Int) (msg : List Nat) (A : Option Addr) (n c : Nat) (w : World) (hr : IsD root) (hA : Cells w A (bytesV msg)) (hm : msg.length = n) (hn : n ≤ 70000) (h8 : ByteL msg) :
    Calls Try.prog 26 #[.agg (arrK .u8 root), .int .i64 i, .slice A n c] w fun e w' => ∃ A' c', e = .returned (.slice A' (bitsI root i msg).length c') ∧ Cells w' A' ((bitsI root i msg).map Value.bool) ∧ Below w.heap.size w w' := by
  by_cases hi : 0 ≤ i ∧ i < 4096
  · obtain ⟨k, rfl⟩ := Int.eq_ofNat_of_zero_le hi.1
    have e : bitsI root k msg = bitL (msgS root k msg) 64 := by unfold bitsI; rw [if_pos hi]; rfl
    rw [e, bitL_length]
    exact (Bits_good root k msg A n c w hr (by omega) hA hm hn h8).mono fun e w' ⟨B, h1, h2, h3⟩ => ⟨_, _, h1, (by have := cells_blk h2; rwa [arrB_list] at this), h3⟩
  · have e : bitsI root i msg = [] := by unfold bitsI; rw [if_neg hi]
    rw [e]
    exact (Bits_bad root i A n c w (by omega)).mono fun e w' ⟨h1, h2⟩ => ⟨none, 0, h1, .inl rfl, h2⟩
theorem rBits_any (root : List Nat) (i : Int) (msg : List Nat) (A : Option Addr) (n c : Nat) (w : World) (hr : IsD root) (hA : Cells w A (bytesV msg)) (hm : msg.length = n) (hn : n ≤ 70000) (h8 : ByteL msg) :
    Calls Try.prog 27 #[.agg (arrK .u8 root), .int .i64 i, .slice A n c] w fun e w' => ∃ A' c', e = .returned (.slice A' (bitsI root i msg).length c') ∧ Cells w' A' ((bitsI root i msg).map Value.bool) ∧ Below w.heap.size w w' := by
  by_cases hi : 0 ≤ i ∧ i < 4096
  · obtain ⟨k, rfl⟩ := Int.eq_ofNat_of_zero_le hi.1
    have e : bitsI root k msg = bitL (msgS root k msg) 64 := by unfold bitsI; rw [if_pos hi]; rfl
    rw [e, bitL_length]
    exact (rBits_good root k msg A n c w hr (by omega) hA hm hn h8).mono fun e w' ⟨B, c', h1, h2, h3⟩ => ⟨_, _, h1, h2, h3⟩
  · have e : bitsI root i msg = [] := by unfold bitsI; rw [if_neg hi]
    rw [e]
    exact (rBits_bad root i A n c w (by omega)).mono fun e w' ⟨h1, h2⟩ => ⟨none, 0, h1, .inl rfl, h2⟩
set_option linter.unusedSimpArgs false in
set_option maxRecDepth 100000 in
set_option maxHeartbeats 4000000 in
theorem bsameC_any (x : List Bool) (m : Nat) (A B : Option Addr) (c d : Nat) (w : World) (hx : x.length = m) (hm : m ≤ 64) (hA : Cells w A (x.map Value.bool)) (hB : Cells w B (x.map Value.bool)) :
    Calls Try.prog 25 #[.slice A m c, .slice B m d] w fun e w' => e = .returned (.bool true) ∧ Below w.heap.size w w' := by
  have HA := Lib.hid hA; have HB := Lib.hid hB; have Hx := Lib.hid hx
  have g1 : ((m : Int) != (m : Int)) = false := by simp
  have g2 : (m != m) = false := by simp
  clear hA hB hx
  go_enter Try.func25, Try.ntmps25
  go_wp2
  go_loopw [5] (fun i wr => ∃ k : Nat, k ≤ m ∧ i = .int .i64 k ∧ Drawn w wr) (fun i _ => m - (intOf i).toNat)
  case atStart => exact ⟨0, by omega, rfl, Drawn.refl _⟩
  case round =>
    obtain ⟨k, hk, rfl, hw⟩ := hrel
    by_cases hlt : k < m
    · obtain ⟨b, off, rfl, -, hc⟩ := HA.out.addr (by rw [List.length_map, Hx.out]; omega)
      obtain ⟨b2, off2, rfl, -, hc2⟩ := HB.out.addr (by rw [List.length_map, Hx.out]; omega)
      obtain ⟨a, ha⟩ := getElem?_lt (l := x) (k := k) (by rw [Hx.out]; exact hlt)
      have e1 : wr.cell? ⟨b, off + k, none⟩ = some (.bool a) := (hw.cell _).trans (hc k _ (by rw [List.getElem?_map, ha]; rfl))
      have e2 : wr.cell? ⟨b2, off2 + k, none⟩ = some (.bool a) := (hw.cell _).trans (hc2 k _ (by rw [List.getElem?_map, ha]; rfl))
      have hkI : (k : Int) < (m : Int) := by omega
      clear hc hc2 ha
      cases a
      all_goals
        go_wp2
        go_quiet (fail)
        go_wp2
        go_roundw
        case rel => exact ⟨k + 1, by omega, by go_num, hw.drewN _⟩
        case measure => simp [intOf]; omega
    · go_wp2
      go_ret
      exact ⟨rfl, hw.below _⟩
end Go.Proofs.Ytcijhakofoklcaa
