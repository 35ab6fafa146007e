/- The walks of the reference's Same and In (intervals). -/
import Derived.Test.YtlijdbgknbeefaaDoorIvI
namespace Go.Proofs.YtlijdbgknbeefaaDoor
open Go.RowKit
set_option maxHeartbeats 2000000 in
theorem rIn_any (n : Int) (A : Option Addr) (len c : Nat) (l : List (Int × Int)) (w : World) (hl : l.length = len) (hlen : len ≤ 1000000) (hC : IvC w A l) :
    Calls Tryd.prog 28 #[.int .i64 n, .slice A len c] w fun e w' => e = .returned (.bool (Iv.inU n l)) ∧ w = w' := by
  have HC := Lib.hid hC
  have Hl := Lib.hid hl
  clear hC hl
  go_enter Tryd.func28, Tryd.ntmps28
  go_wp2_with (fail)
  go_loop [5] (fun i => ∃ k : Nat, k ≤ len ∧ i = .int .i64 k ∧ Hid (Iv.inU n (l.take k) = false)) (fun i => len - (intOf i).toNat)
  case atStart => exact ⟨0, by omega, rfl, (show Iv.inU n _ = false by simp [Iv.inU])⟩
  case round =>
    obtain ⟨k, hk, rfl, hno⟩ := hrel
    by_cases hlt : k < len
    · obtain ⟨⟨x, y⟩, hx⟩ := getElem?_lt (l := l) (k := k) (by rw [Hl.out]; exact hlt)
      obtain ⟨b, off, rfl, hb, hcs⟩ := HC.out.at_ (by rw [Hl.out]; omega)
      have hc1 := (hcs k _ hx).1
      have hc2 := (hcs k _ hx).2
      have Hx := Lib.hid hx
      have Hs := Lib.hid (take_snoc hx)
      clear hx hcs
      by_cases h1 : x ≤ n
      · by_cases h2 : n ≤ y
        · have HR := Lib.hid (show Iv.inU n l = true from (Iv.inU_iff n l).2 ⟨(x, y), List.mem_of_getElem? Hx.out, h1, h2⟩)
          go_wp2_with (fail)
          go_ret
          exact ⟨ret_bool HR.out.symm, rfl⟩
        · go_wp2_with (fail)
          go_round
          case rel => exact ⟨k + 1, by omega, by go_num, (show Iv.inU n _ = false by rw [Hs.out, Iv.inU_append, hno.out]; simp [Iv.inU, Iv.inI]; omega)⟩
          case measure => simp [intOf]; omega
      · have h2 : True := trivial
        go_wp2_with (fail)
        go_round
        case rel => exact ⟨k + 1, by omega, by go_num, (show Iv.inU n _ = false by rw [Hs.out, Iv.inU_append, hno.out]; simp [Iv.inU, Iv.inI]; omega)⟩
        case measure => simp [intOf]; omega
    · obtain rfl : k = len := by omega
      have HR := Lib.hid (show Iv.inU n l = false by have := hno.out; rwa [List.take_of_length_le (by rw [Hl.out]; omega)] at this)
      go_wp2_with (fail)
      go_ret
      exact ⟨ret_bool HR.out.symm, rfl⟩
theorem take_eq_succ {l m : List (Int × Int)} {k : Nat} {x y : Int × Int} (h : l.take k = m.take k) (hx : l[k]? = some x) (hy : m[k]? = some y) (e : x = y) : l.take (k + 1) = m.take (k + 1) := by
  rw [take_snoc hx, take_snoc hy, h, e]
set_option maxHeartbeats 4000000 in
theorem Same_any (A : Option Addr) (n c : Nat) (l : List (Int × Int)) (B : Option Addr) (m d : Nat) (l' : List (Int × Int)) (w : World) (hl : l.length = n) (hl' : l'.length = m) (hn : n ≤ 1000000) (hm : m ≤ 1000000) (hC : IvC w A l) (hC' : IvC w B l') :
    Calls Tryd.prog 23 #[.slice A n c, .slice B m d] w fun e w' => e = .returned (.bool (decide (l = l'))) ∧ Below w.heap.size w w' := by
  have HC := Lib.hid hC
  have HC' := Lib.hid hC'
  have Hl := Lib.hid hl
  have Hl' := Lib.hid hl'
  clear hC hC' hl hl'
  by_cases hnm : n = m
  · subst hnm
    obtain ⟨R, hR⟩ : ∃ R, decide (l = l') = R := ⟨_, rfl⟩
    have HR := Lib.hid hR
    rw [hR]
    clear hR
    go_enter Tryd.func23, Tryd.ntmps23
    go_wp2_with (fail)
    go_loopw [5] (fun i wr => ∃ k : Nat, k ≤ n ∧ i = .int .i64 k ∧ Hid (l.take k = l'.take k) ∧ Hid (Below w.heap.size w wr)) (fun i _ => n - (intOf i).toNat)
    case atStart => exact ⟨0, by omega, rfl, (show _ = _ by simp), Below.refl _ _⟩
    case round =>
      obtain ⟨k, hk, rfl, hsm, hB⟩ := hrel
      by_cases hlt : k < n
      · obtain ⟨⟨x, y⟩, hx⟩ := getElem?_lt (l := l) (k := k) (by rw [Hl.out]; exact hlt)
        obtain ⟨⟨x', y'⟩, hx'⟩ := getElem?_lt (l := l') (k := k) (by rw [Hl'.out]; exact hlt)
        obtain ⟨b, off, rfl, hb, hcs⟩ := HC.out.at_ (by rw [Hl.out]; omega)
        obtain ⟨b', off', rfl, hb', hcs'⟩ := HC'.out.at_ (by rw [Hl'.out]; omega)
        have hc1 := (hB.out.cell (p := ⟨b, off + k * 2, none⟩) hb).trans (hcs k _ hx).1
        have hc2 := (hB.out.cell (p := ⟨b, off + k * 2 + 1, none⟩) hb).trans (hcs k _ hx).2
        have hc3 := (hB.out.cell (p := ⟨b', off' + k * 2, none⟩) hb').trans (hcs' k _ hx').1
        have hc4 := (hB.out.cell (p := ⟨b', off' + k * 2 + 1, none⟩) hb').trans (hcs' k _ hx').2
        have hE := fun W => run_eqI x y x' y' W
        have Hx := Lib.hid hx
        have Hx' := Lib.hid hx'
        clear hx hcs hx' hcs'
        by_cases he : (x, y) = (x', y')
        · rw [show decide ((x, y) = (x', y')) = true by simpa using he] at hE
          have He := Lib.hid he
          clear he
          go_wp2_with (fail)
          go_quiet (fail)
          go_wp2_with (fail)
          go_roundw
          case rel => exact ⟨k + 1, by omega, by go_num, take_eq_succ hsm.out Hx.out Hx'.out He.out, below_drewN hB.out _⟩
          case measure => simp [intOf]; omega
        · rw [show decide ((x, y) = (x', y')) = false by simpa using he] at hE
          have HN := Lib.hid (show R = false by
            rw [← HR.out, decide_eq_false_iff_not]
            rintro rfl
            exact he (Option.some.inj (Hx.out.symm.trans Hx'.out)))
          clear he
          go_wp2_with (fail)
          go_quiet (fail)
          go_wp2_with (fail)
          go_ret
          exact ⟨ret_bool HN.out.symm, below_drewN hB.out _⟩
      · obtain rfl : k = n := by omega
        have HN := Lib.hid (show R = true by
          rw [← HR.out, decide_eq_true_iff]
          have := hsm.out
          rwa [List.take_of_length_le (by rw [Hl.out]; omega), List.take_of_length_le (by rw [Hl'.out]; omega)] at this)
        go_wp2_with (fail)
        go_ret
        exact ⟨ret_bool HN.out.symm, hB.out⟩
  · have HN := Lib.hid (show decide (l = l') = false by
      rw [decide_eq_false_iff_not]
      rintro rfl
      exact hnm (Hl.out.symm.trans Hl'.out))
    obtain ⟨R, hR⟩ : ∃ R, decide (l = l') = R := ⟨_, rfl⟩
    rw [hR] at HN ⊢
    clear hR
    go_enter Tryd.func23, Tryd.ntmps23
    go_wp2_with (fail)
    go_ret
    exact ⟨ret_bool HN.out.symm, Below.refl _ _⟩
end Go.Proofs.YtlijdbgknbeefaaDoor
