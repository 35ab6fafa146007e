/- Walks and plain laws that the statement rests on: MVal. -/
import Derived.BigQuiet
import Derived.Deep.QuietTactic
import Derived.Test.YtkflpoiobpblhaaP00
import Derived.Test.YtkflpoiobpblhaaP24
namespace Go.Proofs.Ytkflpoiobpblhaa
open Go.RowKit
set_option linter.unusedVariables false
set_option linter.unusedSimpArgs false
namespace Mir
def chAt (l : List Ch) (i : Nat) : Bool := incAt (l.map chN) i && (match l[i]? with | some x => !(x.2 && decide (0 < x.1.2.length)) | none => true)
def chS (l : List Ch) : Bool := (List.range l.length).all (chAt l)
def chOk (l : List Ch) : Bool := chS l && decide (l.length ≤ 65536)
theorem chS_bad {l : List Ch} {k : Nat} (hk : k < l.length) (h : chAt l k = false) : chS l = false := List.all_eq_false.2 ⟨k, List.mem_range.2 hk, by rw [h]; simp⟩
theorem chS_good {l : List Ch} (h : ∀ k, k < l.length → chAt l k = true) : chS l = true := List.all_eq_true.2 fun k hk => h k (List.mem_range.1 hk)
end Mir
set_option maxRecDepth 100000 in
set_option maxHeartbeats 8000000 in
theorem mvalid_any (A : Option Addr) (n c : Nat) (l : List Mir.Ch) (w : World) (hl : l.length = n) (hn : n ≤ 1000000) (hC : ChangesC w A l) :
    Calls Try.prog 29 #[.slice A n c] w fun e w' => e = .returned (.bool (Mir.chOk l)) ∧ Below w.heap.size w w' := by
  have HC := Lib.hid hC
  have Hl := Lib.hid hl
  clear hC hl
  obtain ⟨R, hR⟩ : ∃ R, Mir.chOk l = R := ⟨_, rfl⟩
  have HR := Lib.hid hR
  rw [hR]
  clear hR
  go_enter Try.func29, Try.ntmps29
  go_wp2_with (fail)
  go_loopw [8] (fun i W => ∃ k : Nat, k ≤ n ∧ i = .int .i64 k ∧ Hid (∀ j, j < k → Mir.chAt l j = true) ∧ Hid (Below w.heap.size w W)) (fun i _ => n - (intOf i).toNat)
  case atStart => exact ⟨0, Nat.zero_le _, rfl, Lib.hid (fun j h => by omega), Below.refl _ _⟩
  case round =>
    obtain ⟨wk, rfl⟩ : ∃ wk : World, wk = wr := ⟨_, rfl⟩
    obtain ⟨k, hk, rfl, Hg, hB⟩ := hrel
    by_cases hlt : k < n
    · obtain ⟨⟨⟨s, dat⟩, gon⟩, hx⟩ := getElem?_lt (l := l) (k := k) (by rw [Hl.out]; exact hlt)
      obtain ⟨b, off, rfl, hb, hcs⟩ := (HC.out.below hB.out).at_ (by rw [Hl.out]; omega)
      obtain ⟨D, cd, hc1, hc2, hc3, -, -, -, -⟩ := hcs k _ hx
      have Gx := Lib.hid (chNames_get hx)
      have Hx := Lib.hid hx
      obtain ⟨md, hmd⟩ : ∃ md, md = dat.length := ⟨_, rfl⟩
      simp only [] at hc1 hc2 hc3
      rw [← hmd] at hc2
      have Hmd := Lib.hid hmd
      clear hmd
      obtain ⟨z, hz⟩ : ∃ z, s.size = z := ⟨_, rfl⟩
      have Hz := Lib.hid hz
      have hAt : Mir.chAt l k = ((decide ((0 : Int) < (z : Int)) && decide ((z : Int) ≤ 64)) && (decide (k = 0) || Mir.nlt ((l.map Mir.chN).getD (k - 1) ⟨#[]⟩) s) && !(gon && decide (0 < md))) := by
        unfold Mir.chAt Mir.incAt Mir.nameB
        rw [Gx.out, hx, ← hz, Hmd.out]
      have HAt := Lib.hid hAt
      clear hAt
      by_cases h1 : (0 : Int) < (z : Int)
      · by_cases h2 : (z : Int) ≤ 64
        · have d1 : decide ((z : Int) < 1) = false := decide_eq_false (by omega)
          have d2 : decide ((64 : Int) < (z : Int)) = false := decide_eq_false (by omega)
          have n1 := decide_eq_true h1
          have n2 := decide_eq_true h2
          clear h1 h2
          cases gon with
          | false =>
            rcases Nat.eq_zero_or_pos k with h0 | h0
            · have hT : Mir.chAt l k = true := by rw [HAt.out, n1, n2, decide_eq_true h0]; rfl
              have HT := Lib.hid hT
              have dk : decide ((0 : Int) < (k : Int)) = false := decide_eq_false (by omega)
              have dk' : decide (0 < k) = false := decide_eq_false (by omega)
              clear h0 hT n1 n2 hcs hx
              go_upto_region 5 with (fail)
              try rw [hz]
              generalize hge : World.alloc _ _ = wx
              have bX : Blk wx wk.heap.size 90 #[.string s, .slice D md cd, .bool false] := by subst hge; exact Blk.new wk _ _
              have hbX : Below wk.heap.size wk wx := by subst hge; exact (Below.refl _ _).alloc (Nat.le_refl _) _
              clear hge
              have x0 : wx.cell? ⟨wk.heap.size, 0, none⟩ = some (.string s) := bX.cell 0
              have x1 : wx.cell? ⟨wk.heap.size, 1, none⟩ = some (.slice D md cd) := bX.cell 1
              have x2 : wx.cell? ⟨wk.heap.size, 2, none⟩ = some (.bool false) := bX.cell 2
              have HBX := Lib.hid (below_of hB.out hbX hB.out.size)
              clear bX hbX
              go_quiet (fail)
              go_wp2_with (fail)
              go_roundw
              case rel => exact ⟨k + 1, by omega, by go_num, Lib.hid (fun j hj => by
                rcases Nat.lt_or_ge j k with h | h
                · exact Hg.out j h
                · obtain rfl : j = k := by omega
                  exact HT.out), below_drewN HBX.out _⟩
              case measure => simp [intOf]; omega
            · obtain ⟨k', rfl⟩ : ∃ k', k = k' + 1 := ⟨k - 1, by omega⟩
              obtain ⟨⟨⟨s0, dat0⟩, gon0⟩, hx0⟩ := getElem?_lt (l := l) (k := k') (by rw [Hl.out]; omega)
              obtain ⟨D0, cd0, hd1, hd2, hd3, -, -, -, -⟩ := hcs k' _ hx0
              have Gx0 := Lib.hid (chNames_get hx0)
              simp only [] at hd1
              have Hd1 := Lib.hid hd1
              have e1 : ((k' + 1 : Nat) : Int) - 1 = (k' : Int) := by omega
              have e2 : (k' : Int) + 1 - 1 = (k' : Int) := by omega
              have e3 : IntKind.i64.wrap (k' : Int) = (k' : Int) := IntWalk.i64_in _ (by omega)
              have hkI : (k' : Int) < (n : Int) := by omega
              have hkN : k' < n := by omega
              have dk : decide ((0 : Int) < ((k' + 1 : Nat) : Int)) = true := decide_eq_true (by omega)
              have dk2 : decide ((0 : Int) < (k' : Int) + 1) = true := decide_eq_true (by omega)
              have hinc : Mir.chAt l (k' + 1) = Op.bytesLess s0.toList s.toList := by
                rw [HAt.out, n1, n2, Nat.add_sub_cancel, Gx0.out]
                unfold Mir.nlt
                simp
              obtain ⟨q, hq⟩ : ∃ q, Op.bytesLess s0.toList s.toList = q := ⟨_, rfl⟩
              rw [hq] at hinc
              have HT := Lib.hid hinc
              clear hinc h0 hcs hx hx0 hd1 hd2 hd3 n1 n2
              cases q with
              | false =>
                have hf : R = false := by
                  rw [← HR.out]
                  unfold Mir.chOk
                  rw [Mir.chS_bad (k := k' + 1) (by rw [Hl.out]; exact hlt) HT.out]
                  rfl
                subst hf
                go_upto_region 5 with (fail)
                try rw [hz]
                generalize hge : World.alloc _ _ = wx
                have bX : Blk wx wk.heap.size 90 #[.string s, .slice D md cd, .bool false] := by subst hge; exact Blk.new wk _ _
                have hbX : Below wk.heap.size wk wx := by subst hge; exact (Below.refl _ _).alloc (Nat.le_refl _) _
                clear hge
                have x0 : wx.cell? ⟨wk.heap.size, 0, none⟩ = some (.string s) := bX.cell 0
                have x1 : wx.cell? ⟨wk.heap.size, 1, none⟩ = some (.slice D md cd) := bX.cell 1
                have x2 : wx.cell? ⟨wk.heap.size, 2, none⟩ = some (.bool false) := bX.cell 2
                have HBX := Lib.hid (below_of hB.out hbX hB.out.size)
                have y0 := cellkM hbX Hd1.out
                clear bX hbX
                go_quiet (fail)
                go_wp2_with (fail)
                go_ret
                exact ⟨rfl, below_drewN HBX.out _⟩
              | true =>
                go_upto_region 5 with (fail)
                try rw [hz]
                generalize hge : World.alloc _ _ = wx
                have bX : Blk wx wk.heap.size 90 #[.string s, .slice D md cd, .bool false] := by subst hge; exact Blk.new wk _ _
                have hbX : Below wk.heap.size wk wx := by subst hge; exact (Below.refl _ _).alloc (Nat.le_refl _) _
                clear hge
                have x0 : wx.cell? ⟨wk.heap.size, 0, none⟩ = some (.string s) := bX.cell 0
                have x1 : wx.cell? ⟨wk.heap.size, 1, none⟩ = some (.slice D md cd) := bX.cell 1
                have x2 : wx.cell? ⟨wk.heap.size, 2, none⟩ = some (.bool false) := bX.cell 2
                have HBX := Lib.hid (below_of hB.out hbX hB.out.size)
                have y0 := cellkM hbX Hd1.out
                clear bX hbX
                go_quiet (fail)
                go_wp2_with (fail)
                go_roundw
                case rel => exact ⟨k' + 1 + 1, by omega, by go_num, Lib.hid (fun j hj => by
                  rcases Nat.lt_or_ge j (k' + 1) with h | h
                  · exact Hg.out j h
                  · obtain rfl : j = k' + 1 := by omega
                    exact HT.out), below_drewN HBX.out _⟩
                case measure => simp [intOf]; omega
          | true =>
            rcases Nat.eq_zero_or_pos md with hm | hm
            · have dm : decide ((0 : Int) < (md : Int)) = false := decide_eq_false (by omega)
              have dm' : decide (0 < md) = false := decide_eq_false (by omega)
              clear hm
              rcases Nat.eq_zero_or_pos k with h0 | h0
              · have hT : Mir.chAt l k = true := by rw [HAt.out, n1, n2, decide_eq_true h0]; simp [dm']
                have HT := Lib.hid hT
                have dk : decide ((0 : Int) < (k : Int)) = false := decide_eq_false (by omega)
                have dk' : decide (0 < k) = false := decide_eq_false (by omega)
                clear h0 hT n1 n2 hcs hx
                go_upto_region 5 with (fail)
                try rw [hz]
                generalize hge : World.alloc _ _ = wx
                have bX : Blk wx wk.heap.size 90 #[.string s, .slice D md cd, .bool true] := by subst hge; exact Blk.new wk _ _
                have hbX : Below wk.heap.size wk wx := by subst hge; exact (Below.refl _ _).alloc (Nat.le_refl _) _
                clear hge
                have x0 : wx.cell? ⟨wk.heap.size, 0, none⟩ = some (.string s) := bX.cell 0
                have x1 : wx.cell? ⟨wk.heap.size, 1, none⟩ = some (.slice D md cd) := bX.cell 1
                have x2 : wx.cell? ⟨wk.heap.size, 2, none⟩ = some (.bool true) := bX.cell 2
                have HBX := Lib.hid (below_of hB.out hbX hB.out.size)
                clear bX hbX
                go_quiet (fail)
                go_wp2_with (fail)
                go_roundw
                case rel => exact ⟨k + 1, by omega, by go_num, Lib.hid (fun j hj => by
                  rcases Nat.lt_or_ge j k with h | h
                  · exact Hg.out j h
                  · obtain rfl : j = k := by omega
                    exact HT.out), below_drewN HBX.out _⟩
                case measure => simp [intOf]; omega
              · obtain ⟨k', rfl⟩ : ∃ k', k = k' + 1 := ⟨k - 1, by omega⟩
                obtain ⟨⟨⟨s0, dat0⟩, gon0⟩, hx0⟩ := getElem?_lt (l := l) (k := k') (by rw [Hl.out]; omega)
                obtain ⟨D0, cd0, hd1, hd2, hd3, -, -, -, -⟩ := hcs k' _ hx0
                have Gx0 := Lib.hid (chNames_get hx0)
                simp only [] at hd1
                have Hd1 := Lib.hid hd1
                have e1 : ((k' + 1 : Nat) : Int) - 1 = (k' : Int) := by omega
                have e2 : (k' : Int) + 1 - 1 = (k' : Int) := by omega
                have e3 : IntKind.i64.wrap (k' : Int) = (k' : Int) := IntWalk.i64_in _ (by omega)
                have hkI : (k' : Int) < (n : Int) := by omega
                have hkN : k' < n := by omega
                have dk : decide ((0 : Int) < ((k' + 1 : Nat) : Int)) = true := decide_eq_true (by omega)
                have dk2 : decide ((0 : Int) < (k' : Int) + 1) = true := decide_eq_true (by omega)
                have hinc : Mir.chAt l (k' + 1) = Op.bytesLess s0.toList s.toList := by
                  rw [HAt.out, n1, n2, Nat.add_sub_cancel, Gx0.out]
                  unfold Mir.nlt
                  simp [dm']
                obtain ⟨q, hq⟩ : ∃ q, Op.bytesLess s0.toList s.toList = q := ⟨_, rfl⟩
                rw [hq] at hinc
                have HT := Lib.hid hinc
                clear hinc h0 hcs hx hx0 hd1 hd2 hd3 n1 n2
                cases q with
                | false =>
                  have hf : R = false := by
                    rw [← HR.out]
                    unfold Mir.chOk
                    rw [Mir.chS_bad (k := k' + 1) (by rw [Hl.out]; exact hlt) HT.out]
                    rfl
                  subst hf
                  go_upto_region 5 with (fail)
                  try rw [hz]
                  generalize hge : World.alloc _ _ = wx
                  have bX : Blk wx wk.heap.size 90 #[.string s, .slice D md cd, .bool true] := by subst hge; exact Blk.new wk _ _
                  have hbX : Below wk.heap.size wk wx := by subst hge; exact (Below.refl _ _).alloc (Nat.le_refl _) _
                  clear hge
                  have x0 : wx.cell? ⟨wk.heap.size, 0, none⟩ = some (.string s) := bX.cell 0
                  have x1 : wx.cell? ⟨wk.heap.size, 1, none⟩ = some (.slice D md cd) := bX.cell 1
                  have x2 : wx.cell? ⟨wk.heap.size, 2, none⟩ = some (.bool true) := bX.cell 2
                  have HBX := Lib.hid (below_of hB.out hbX hB.out.size)
                  have y0 := cellkM hbX Hd1.out
                  clear bX hbX
                  go_quiet (fail)
                  go_wp2_with (fail)
                  go_ret
                  exact ⟨rfl, below_drewN HBX.out _⟩
                | true =>
                  go_upto_region 5 with (fail)
                  try rw [hz]
                  generalize hge : World.alloc _ _ = wx
                  have bX : Blk wx wk.heap.size 90 #[.string s, .slice D md cd, .bool true] := by subst hge; exact Blk.new wk _ _
                  have hbX : Below wk.heap.size wk wx := by subst hge; exact (Below.refl _ _).alloc (Nat.le_refl _) _
                  clear hge
                  have x0 : wx.cell? ⟨wk.heap.size, 0, none⟩ = some (.string s) := bX.cell 0
                  have x1 : wx.cell? ⟨wk.heap.size, 1, none⟩ = some (.slice D md cd) := bX.cell 1
                  have x2 : wx.cell? ⟨wk.heap.size, 2, none⟩ = some (.bool true) := bX.cell 2
                  have HBX := Lib.hid (below_of hB.out hbX hB.out.size)
                  have y0 := cellkM hbX Hd1.out
                  clear bX hbX
                  go_quiet (fail)
                  go_wp2_with (fail)
                  go_roundw
                  case rel => exact ⟨k' + 1 + 1, by omega, by go_num, Lib.hid (fun j hj => by
                    rcases Nat.lt_or_ge j (k' + 1) with h | h
                    · exact Hg.out j h
                    · obtain rfl : j = k' + 1 := by omega
                      exact HT.out), below_drewN HBX.out _⟩
                  case measure => simp [intOf]; omega
            · have dm : decide ((0 : Int) < (md : Int)) = true := decide_eq_true (by omega)
              have dm' : decide (0 < md) = true := decide_eq_true hm
              have hf : R = false := by
                rw [← HR.out]
                unfold Mir.chOk
                rw [Mir.chS_bad (k := k) (by rw [Hl.out]; exact hlt) (by rw [HAt.out]; rw [dm']; simp)]
                rfl
              subst hf
              clear hcs hx n1 n2 hm
              go_upto_region 5 with (fail)
              try rw [hz]
              generalize hge : World.alloc _ _ = wx
              have bX : Blk wx wk.heap.size 90 #[.string s, .slice D md cd, .bool true] := by subst hge; exact Blk.new wk _ _
              have hbX : Below wk.heap.size wk wx := by subst hge; exact (Below.refl _ _).alloc (Nat.le_refl _) _
              clear hge
              have x0 : wx.cell? ⟨wk.heap.size, 0, none⟩ = some (.string s) := bX.cell 0
              have x1 : wx.cell? ⟨wk.heap.size, 1, none⟩ = some (.slice D md cd) := bX.cell 1
              have x2 : wx.cell? ⟨wk.heap.size, 2, none⟩ = some (.bool true) := bX.cell 2
              have HBX := Lib.hid (below_of hB.out hbX hB.out.size)
              clear bX hbX
              go_quiet (fail)
              go_wp2_with (fail)
              go_ret
              exact ⟨rfl, below_drewN HBX.out _⟩
        · have d1 : decide ((z : Int) < 1) = false := decide_eq_false (by omega)
          have d2 : decide ((64 : Int) < (z : Int)) = true := decide_eq_true (by omega)
          have n2 := decide_eq_false h2
          have hf : R = false := by
            rw [← HR.out]
            unfold Mir.chOk
            rw [Mir.chS_bad (k := k) (by rw [Hl.out]; exact hlt) (by rw [HAt.out]; rw [n2]; simp)]
            rfl
          subst hf
          clear hcs hx n2 h1 h2
          go_upto_region 5 with (fail)
          try rw [hz]
          generalize hge : World.alloc _ _ = wx
          have bX : Blk wx wk.heap.size 90 #[.string s, .slice D md cd, .bool gon] := by subst hge; exact Blk.new wk _ _
          have hbX : Below wk.heap.size wk wx := by subst hge; exact (Below.refl _ _).alloc (Nat.le_refl _) _
          clear hge
          have x0 : wx.cell? ⟨wk.heap.size, 0, none⟩ = some (.string s) := bX.cell 0
          have x1 : wx.cell? ⟨wk.heap.size, 1, none⟩ = some (.slice D md cd) := bX.cell 1
          have x2 : wx.cell? ⟨wk.heap.size, 2, none⟩ = some (.bool gon) := bX.cell 2
          have HBX := Lib.hid (below_of hB.out hbX hB.out.size)
          clear bX hbX
          go_quiet (fail)
          go_wp2_with (fail)
          go_ret
          exact ⟨rfl, below_drewN HBX.out _⟩
      · have d1 : decide ((z : Int) < 1) = true := decide_eq_true (by omega)
        have n1 := decide_eq_false h1
        have hf : R = false := by
          rw [← HR.out]
          unfold Mir.chOk
          rw [Mir.chS_bad (k := k) (by rw [Hl.out]; exact hlt) (by rw [HAt.out]; rw [n1]; simp)]
          rfl
        subst hf
        clear hcs hx n1 h1
        go_upto_region 5 with (fail)
        try rw [hz]
        generalize hge : World.alloc _ _ = wx
        have bX : Blk wx wk.heap.size 90 #[.string s, .slice D md cd, .bool gon] := by subst hge; exact Blk.new wk _ _
        have hbX : Below wk.heap.size wk wx := by subst hge; exact (Below.refl _ _).alloc (Nat.le_refl _) _
        clear hge
        have x0 : wx.cell? ⟨wk.heap.size, 0, none⟩ = some (.string s) := bX.cell 0
        have x1 : wx.cell? ⟨wk.heap.size, 1, none⟩ = some (.slice D md cd) := bX.cell 1
        have x2 : wx.cell? ⟨wk.heap.size, 2, none⟩ = some (.bool gon) := bX.cell 2
        have HBX := Lib.hid (below_of hB.out hbX hB.out.size)
        clear bX hbX
        go_quiet (fail)
        go_wp2_with (fail)
        go_ret
        exact ⟨rfl, below_drewN HBX.out _⟩
    · obtain rfl : n = k := by omega
      have hc : Mir.chS l = true := Mir.chS_good fun j hj => Hg.out j (by rw [Hl.out] at hj; exact hj)
      have hf : R = decide ((n : Int) ≤ 65536) := by
        rw [← HR.out]
        unfold Mir.chOk
        rw [hc, Hl.out, Bool.true_and]
        exact decide_eq_decide.2 (by omega)
      subst hf
      go_wp2_with (fail)
      go_ret
      exact ⟨rfl, hB.out⟩
end Go.Proofs.Ytkflpoiobpblhaa
