import Derived.Test.YtbccdjaeopfalaaW4
import Derived.Test.YtbccdjaeopfalaaP1
namespace Go.Proofs.Ytbccdjaeopfalaa
open Go.RowKit


theorem check_long (A : Option Addr) (n c : Nat) (w : World) (hm : n ≤ maxLen) (hn : 18 < n) :
    Calls Try.prog 23 #[.slice A n c] w fun e w' => e = .returned (.int .i64 220) ∧ Below w.heap.size w w' := by
  unfold maxLen at hm
  go_enter Try.func23, Try.ntmps23
  go_wp2
  go_ret
  exact ⟨rfl, (Below.refl _ _).alloc (Nat.le_refl _) _⟩



set_option maxHeartbeats 1000000 in
theorem check_any (A : Option Addr) (n c : Nat) (p : List Int) (w : World) (hp : p.length = n) (hn : n ≤ 18) (hA : Ints w A p) :
    Calls Try.prog 23 #[.slice A n c] w fun e w' => e = .returned (.int .i64 (errOf (permB p))) ∧ Below w.heap.size w w' := by
  have Hp := Lib.hid hp; clear hp
  have hmf : ∀ (fn : Fn) (first cap : Array Value) (w : World), (Instr.makeFunc fn first cap).run Try.prog w = .ok (.func fn first cap) w := fun _ _ _ _ => rfl
  go_enter Try.func23, Try.ntmps23
  go_wp2
  go_loopw [13] (fun i wr => ∃ k : Nat, k ≤ n ∧ i = .int .i64 k ∧ Hid (Pre n (p.take k)) ∧ Hid (wr.cell? ⟨w.heap.size, 0, none⟩ = some (.slice A n c)) ∧ Hid (Marks wr (w.heap.size + 1) (p.take k)) ∧ Below w.heap.size w wr) (fun i _ => n - (intOf i).toNat)
  case atStart =>
    refine ⟨0, by omega, rfl, ⟨by simp, by simp⟩, ?_, ?_, ((Below.refl _ _).alloc (Nat.le_refl _) _).alloc (by simp) _⟩
    · show World.cell? _ _ = _
      rw [World.cell?_alloc_past _ _ _ (by simp), World.cell?_alloc_at _ _ _ _ rfl]; rfl
    · show Blk _ _ _ _
      have h := Blk.new (w.alloc (.cells #[.slice A n c] 23)) 48 (marks (p.take 0))
      simp only [World.size_alloc] at h
      exact h
  case round =>
    obtain ⟨k, hk, rfl, Htk, Hcp, HM, hb⟩ := hrel
    by_cases hlt : k < n
    · obtain ⟨b, off, rfl, hbl, hc⟩ := hA.at_ (k := k) (by rw [Hp.out]; exact hlt)
      obtain ⟨x, hxk⟩ := getElem?_lt (l := p) (k := k) (by rw [Hp.out]; exact hlt)
      have e1 : wr.cell? ⟨b, off + k, none⟩ = some (.int .i64 x) := (hb.cell hbl).trans (hc k x hxk)
      have Hxk := Lib.hid hxk; clear hc hxk hA
      by_cases hx : 0 ≤ x ∧ x < n ∧ x ∉ p.take k
      · obtain ⟨hx0, hx1, hx2⟩ := hx
        have Hx2 := Lib.hid hx2; clear hx2
        go_wp2_with (go_at_call 27; refine (mark_yes x _ _ n c _ (p.take k) _ Hcp.out hn HM.out hx0 hx1 Hx2.out).mono ?_; rintro e w' ⟨rfl, rfl⟩)
        go_roundw
        case rel =>
          obtain ⟨i, rfl⟩ := Int.eq_ofNat_of_zero_le hx0
          refine ⟨k + 1, by omega, by go_num, ?_, ?_, ?_, hb.setCell (by simp) _⟩
          · show Pre _ _
            rw [take_snoc Hxk.out]; exact Htk.out.snoc Hx2.out hx0 hx1
          · show World.cell? _ _ = _
            rw [World.cell?_setCell_other _ _ _ _ (by simp)]; exact Hcp.out
          · show Marks _ _ _
            rw [take_snoc Hxk.out]; exact HM.out.set i
        case measure => simp [intOf]; omega
      · have hP : permB p = false := permB_not Hp.out fun hP => hx (by
          refine ⟨(hP.2 x (List.mem_of_getElem? Hxk.out)).1, (hP.2 x (List.mem_of_getElem? Hxk.out)).2, fun hmem => ?_⟩
          have h1 := (hP.take (k + 1)).1
          rw [take_snoc Hxk.out, List.nodup_append] at h1
          exact h1.2.2 x hmem x (by simp) rfl)
        have HP := Lib.hid hP; clear hP
        have Hx := Lib.hid hx; clear hx
        go_wp2_with (go_at_call 27; refine (mark_no x _ _ n c _ (p.take k) _ Hcp.out hn HM.out Hx.out).mono ?_; rintro e w' ⟨rfl, rfl⟩)
        go_ret
        exact ⟨ret_int (by rw [HP.out]; rfl), hb⟩
    · go_wp2
      go_ret
      obtain rfl : k = n := by omega
      have hP : Pre k p := by have := Htk.out; rwa [List.take_of_length_le (by rw [Hp.out]; omega)] at this
      exact ⟨ret_int (by rw [permB_of Hp.out hP]; rfl), hb⟩

end Go.Proofs.Ytbccdjaeopfalaa
