/- Walks and plain laws that the statement rests on: MR1. -/
import Derived.Test.YtkflpoiobpblhaaGreatP00
import Derived.Test.YtkflpoiobpblhaaGreatP25
import Derived.Test.YtkflpoiobpblhaaGreatP44
set_option maxRecDepth 100000
set_option maxHeartbeats 16000000
set_option linter.unusedVariables false
set_option linter.unusedSimpArgs false
namespace Go.Proofs.YtkflpoiobpblhaaGreat
open Go.RowKit
theorem turned {P : Program} {f : FuncId} {args : Array Value} {w : World} {v : Value} (h : Calls P f args w fun e w' => e = .returned v ∧ w = w') : Calls P f args w fun e w' => e = .returned v ∧ w' = w :=
 h.mono fun _ _ ⟨he, hw⟩ => ⟨he, hw.symm⟩
theorem rname_any (s : ByteArray) (w : World) : Calls Tryz.prog 68 #[.string s] w fun e w' => e = .returned (.bool (Mir.nameB s)) ∧ w = w' := by
 unfold Mir.nameB
 by_cases h1 : (0 : Int) < (s.size : Int)
 · have d1 : decide ((0 : Int) < (s.size : Int)) = true := by simpa using h1
   have d1' : decide (0 < s.size) = true := by simpa using h1
   have d3 : decide ((1 : Int) ≤ (s.size : Int)) = true := decide_eq_true (by omega)
   have d3' : decide (1 ≤ s.size) = true := decide_eq_true (by omega)
   by_cases h2 : (s.size : Int) ≤ 64
   · have d2 : decide ((s.size : Int) ≤ 64) = true := by simpa using h2
     rw [d1, d2]
     go_enter Tryz.func68, Tryz.ntmps68
     go_wp2_with fail
     go_ret
     exact ⟨rfl, rfl⟩
   have d2 : decide ((s.size : Int) ≤ 64) = false := by simpa using h2
   rw [d1, d2]
   go_enter Tryz.func68, Tryz.ntmps68
   go_wp2_with fail
   go_ret
   exact ⟨rfl, rfl⟩
 have d1 : decide ((0 : Int) < (s.size : Int)) = false := by simpa using h1
 have d1' : decide (0 < s.size) = false := by simpa using h1
 have d3 : decide ((1 : Int) ≤ (s.size : Int)) = false := decide_eq_false (by omega)
 have d3' : decide (1 ≤ s.size) = false := decide_eq_false (by omega)
 rw [d1]
 go_enter Tryz.func68, Tryz.ntmps68
 go_wp2_with fail
 go_ret
 exact ⟨rfl, rfl⟩
theorem rcheck_any (A : Option Addr) (n c : Nat) (l : List Mir.It) (w : World) (hl : l.length = n) (hn : n ≤ 1000000) (hC : ItemsC w A l) :
    Calls Tryz.prog 50 #[.slice A n c] w fun e w' => e = .returned (.int .i64 (Mir.itE l)) ∧ Below w.heap.size w w' := by
 have HC := θ hC
 have Hl := θ hl
 obtain ⟨R, hR⟩ := exq (Mir.itE l)
 have HR := θ hR
 rw [hR]
 clear hC hl hR
 by_cases h6 : 65536 < n
 · have d6 : decide ((65536 : Int) < (n : Int)) = true := decide_eq_true (by omega)
   have d6' : decide (65536 < n) = true := decide_eq_true h6
   have hr : R = 2 := by rw [← HR.out]; unfold Mir.itE; rw [if_neg (by rw [Hl.out]; omega)]
   subst hr
   go_enter Tryz.func50, Tryz.ntmps50
   go_wp2_with fail
   go_ret
   exact ⟨rfl, Below.refl _ _⟩
 have d6 : decide ((65536 : Int) < (n : Int)) = false := decide_eq_false (by omega)
 have d6' : decide (65536 < n) = false := decide_eq_false h6
 have HRe : Hid (R = if Mir.incS (l.map Prod.fst) = true then 0 else 430) := θ (by rw [← HR.out]; unfold Mir.itE; rw [if_pos (by rw [Hl.out]; omega)])
 go_enter Tryz.func50, Tryz.ntmps50
 go_wp2_with fail
 go_loopw [3] (fun i wr => ∃ k : Nat, k ≤ n ∧ i = .int .i64 (k : Int) ∧ Hid (∀ j, j < k → Mir.incAt (l.map Prod.fst) j = true) ∧ Hid (Below w.heap.size w wr)) (fun i _ => n - (intOf i).toNat)
 case atStart => exact ⟨0, by omega, rfl, θ (fun j h => by omega), θ (Below.refl _ _)⟩
 obtain ⟨wk, rfl⟩ : ∃ wk : World, wk = wr := ⟨_, rfl⟩
 obtain ⟨k, hk, rfl, Hg, hB⟩ := hrel
 by_cases hlt : k < n
 · obtain ⟨⟨s, dat⟩, hx⟩ := getElem?_lt (l := l) (k := k) (by rw [Hl.out]; exact hlt)
   obtain ⟨b, off, rfl, hb, hcs⟩ := HC.out.at_ (by rw [Hl.out]; omega)
   obtain ⟨D, cd, hc1, -⟩ := hcs _ _ hx
   have Gx := θ (names_get hx)
   simp only [] at hc1
   have x0 := cellkM hB.out hc1
   have HNs := θ (fun W => rname_any s W)
   obtain ⟨nb, hnb⟩ := exq (Mir.nameB s)
   have HAt := θ (show Mir.incAt (l.map Prod.fst) k = (nb && (decide (k = 0) || Mir.nlt ((l.map Prod.fst).getD (k - 1) ⟨#[]⟩) s)) by unfold Mir.incAt; rw [Gx.out, hnb])
   have HBad := θ (fun (h : Mir.incAt (l.map Prod.fst) k = false) => show R = 430 by rw [HRe.out, if_neg (by rw [Mir.incS_bad (k := k) (by rw [List.length_map, Hl.out]; exact hlt) h]; simp)])
   rw [hnb] at HNs
   clear hc1 hnb
   cases nb with
   | false =>
     have hr : R = 430 := HBad.out (by rw [HAt.out]; rfl)
     subst hr
     go_upto_region 6 with fail
     go_quiet ((go_at_call 68; exact Calls.quiet_of_same (turned (HNs.out _))))
     go_wp2_with fail
     go_ret
     exact ⟨rfl, below_drewN hB.out _⟩
   | true =>
     rcases Nat.eq_zero_or_pos k with h0 | h0
     · have HT := θ (show Mir.incAt (l.map Prod.fst) k = true by rw [HAt.out, decide_eq_true h0]; rfl)
       have dk : decide ((0 : Int) < (k : Int)) = false := decide_eq_false (by omega)
       have dk' : decide (0 < k) = false := decide_eq_false (by omega)
       clear h0 hcs hx HBad
       go_upto_region 6 with fail
       go_quiet ((go_at_call 68; exact Calls.quiet_of_same (turned (HNs.out _))))
       go_wp2_with fail
       go_roundw
       case rel => exact ⟨k + 1, by omega, by go_num, θ (fun j hj => by
        rcases Nat.lt_or_ge j (k) with h | h
        · exact Hg.out j h
        · obtain rfl : j = k := by omega
          exact HT.out), below_drewN hB.out _⟩
       case measure => simp [intOf]; omega
     obtain ⟨k', rfl⟩ : ∃ k', k = k' + 1 := ⟨k - 1, by omega⟩
     obtain ⟨⟨s0, dat0⟩, hx0⟩ := getElem?_lt (l := l) (k := k') (by rw [Hl.out]; omega)
     obtain ⟨D0, cd0, hd1, -⟩ := hcs k' _ hx0
     have Gx0 := θ (names_get hx0)
     simp only [] at hd1
     have y0 := cellkM hB.out hd1
     have e1 : ((k' + 1 : Nat) : Int) - 1 = (k' : Int) := by omega
     have e2 : (k' : Int) + 1 - 1 = (k' : Int) := by omega
     have e3 : IntKind.i64.wrap (k' : Int) = (k' : Int) := IntWalk.i64_in _ (by omega)
     have hkI : (k' : Int) < (n : Int) := by omega
     have hkN : k' < n := by omega
     have dk : decide ((0 : Int) < ((k' + 1 : Nat) : Int)) = true := decide_eq_true (by omega)
     have dk2 : decide ((0 : Int) < (k' : Int) + 1) = true := decide_eq_true (by omega)
     have hinc : Mir.incAt (l.map Prod.fst) (k' + 1) = Op.bytesLess s0.toList s.toList := by
      rw [HAt.out, Nat.add_sub_cancel, Gx0.out]
      unfold Mir.nlt
      simp
     obtain ⟨q, hq⟩ := exq (Op.bytesLess s0.toList s.toList)
     rw [hq] at hinc
     have HT := θ hinc
     clear hinc h0 hcs hx hx0 hd1
     cases q with
     | false =>
       have hr : R = 430 := HBad.out HT.out
       subst hr
       clear HBad
       go_upto_region 6 with fail
       go_quiet ((go_at_call 68; exact Calls.quiet_of_same (turned (HNs.out _))))
       go_wp2_with fail
       go_ret
       exact ⟨rfl, below_drewN hB.out _⟩
     | true =>
       clear HBad
       go_upto_region 6 with fail
       go_quiet ((go_at_call 68; exact Calls.quiet_of_same (turned (HNs.out _))))
       go_wp2_with fail
       go_roundw
       case rel => exact ⟨k' + 1 + 1, by omega, by go_num, θ (fun j hj => by
        rcases Nat.lt_or_ge j (k' + 1) with h | h
        · exact Hg.out j h
        · obtain rfl : j = k' + 1 := by omega
          exact HT.out), below_drewN hB.out _⟩
       case measure => simp [intOf]; omega
 obtain rfl : k = n := by omega
 go_wp2_with fail
 go_ret
 refine ⟨?_, hB.out⟩
 rw [HRe.out, if_pos (Mir.incS_good (fun j hj => Hg.out j (by rw [List.length_map, Hl.out] at hj; exact hj)))]
 rfl
theorem rchanges_any (A : Option Addr) (n c : Nat) (l : List Mir.Ch) (w : World) (hl : l.length = n) (hn : n ≤ 1000000) (hC : ChangesC w A l) :
    Calls Tryz.prog 34 #[.slice A n c] w fun e w' => e = .returned (.bool (Mir.chOk l)) ∧ Below w.heap.size w w' := by
 have HC := θ hC
 have Hl := θ hl
 obtain ⟨R, hR⟩ := exq (Mir.chOk l)
 have HR := θ hR
 rw [hR]
 clear hC hl hR
 go_enter Tryz.func34, Tryz.ntmps34
 go_wp2_with fail
 go_loopw [3] (fun i wr => ∃ k : Nat, k ≤ n ∧ i = .int .i64 (k : Int) ∧ Hid (∀ j, j < k → Mir.chAt l j = true) ∧ Hid (Below w.heap.size w wr)) (fun i _ => n - (intOf i).toNat)
 case atStart => exact ⟨0, by omega, rfl, θ (fun j h => by omega), θ (Below.refl _ _)⟩
 obtain ⟨wk, rfl⟩ : ∃ wk : World, wk = wr := ⟨_, rfl⟩
 obtain ⟨k, hk, rfl, Hg, hB⟩ := hrel
 by_cases hlt : k < n
 · obtain ⟨⟨⟨s, dat⟩, gon⟩, hx⟩ := getElem?_lt (l := l) (k := k) (by rw [Hl.out]; exact hlt)
   obtain ⟨b, off, rfl, hb, hcs⟩ := HC.out.at_ (by rw [Hl.out]; omega)
   obtain ⟨D, cd, hc1, hc2, hc3, -⟩ := hcs _ _ hx
   have Gx := θ (chNames_get hx)
   simp only [] at hc1 hc2 hc3
   obtain ⟨md, hmd⟩ := exq dat.length
   rw [hmd] at hc2
   have x0 := cellkM hB.out hc1
   have x1 := cellkM hB.out hc2
   have x2 := cellkM hB.out hc3
   have HNs := θ (fun W => rname_any s W)
   obtain ⟨nb, hnb⟩ := exq (Mir.nameB s)
   have HAt := θ (show Mir.chAt l k = (nb && (decide (k = 0) || Mir.nlt ((l.map Mir.chN).getD (k - 1) ⟨#[]⟩) s) && !(gon && decide (0 < md))) by
    unfold Mir.chAt Mir.incAt
    rw [Gx.out, hx, hnb, ← hmd])
   have HBad := θ (fun (h : Mir.chAt l k = false) => show R = false by rw [← HR.out]; unfold Mir.chOk; rw [Mir.chS_bad (k := k) (by rw [Hl.out]; exact hlt) h]; rfl)
   rw [hnb] at HNs
   clear hc1 hc2 hc3 hnb hmd
   cases nb with
   | false =>
     have hr : R = false := HBad.out (by rw [HAt.out]; rfl)
     subst hr
     go_upto_region 4 with fail
     go_quiet ((go_at_call 68; exact Calls.quiet_of_same (turned (HNs.out _))))
     go_wp2_with fail
     go_ret
     exact ⟨rfl, below_drewN hB.out _⟩
   | true =>
     obtain ⟨gz, hgz⟩ := exq ((gon && decide (0 < md)))
     rw [hgz] at HAt
     have hcase : (gon = false ∧ gz = false) ∨ (gon = true ∧ md = 0 ∧ gz = false) ∨ (gon = true ∧ 0 < md ∧ gz = true) := by
      cases gon with
      | false => exact .inl ⟨rfl, by rw [← hgz]; rfl⟩
      | true =>
        rcases Nat.eq_zero_or_pos md with h | h
        · exact .inr (.inl ⟨rfl, h, by rw [← hgz, h]; rfl⟩)
        exact .inr (.inr ⟨rfl, h, by rw [← hgz]; simpa using h⟩)
     clear hgz
     rcases Nat.eq_zero_or_pos k with h0 | h0
     · have HT := θ (show Mir.chAt l k = !gz by rw [HAt.out, decide_eq_true h0]; rfl)
       have dk : decide ((0 : Int) < (k : Int)) = false := decide_eq_false (by omega)
       have dk' : decide (0 < k) = false := decide_eq_false (by omega)
       clear h0 hcs hx
       rcases hcase with ⟨rfl, rfl⟩ | ⟨rfl, hm, rfl⟩ | ⟨rfl, hm, rfl⟩
       · go_upto_region 4 with fail
         go_quiet ((go_at_call 68; exact Calls.quiet_of_same (turned (HNs.out _))))
         go_wp2_with fail
         go_roundw
         case rel => exact ⟨k + 1, by omega, by go_num, θ (fun j hj => by
          rcases Nat.lt_or_ge j (k) with h | h
          · exact Hg.out j h
          · obtain rfl : j = k := by omega
            exact HT.out), below_drewN hB.out _⟩
         case measure => simp [intOf]; omega
       · have dm : ((md : Int) == 0) = true := by simp [hm]
         have dm2 : ((md : Int) != 0) = false := by simp [hm]
         have dm3 : decide ((md : Int) = 0) = true := by simp [hm]
         have dm4 : decide (md = 0) = true := by simp [hm]
         clear hm
         go_upto_region 4 with fail
         go_quiet ((go_at_call 68; exact Calls.quiet_of_same (turned (HNs.out _))))
         go_wp2_with fail
         go_roundw
         case rel => exact ⟨k + 1, by omega, by go_num, θ (fun j hj => by
          rcases Nat.lt_or_ge j (k) with h | h
          · exact Hg.out j h
          · obtain rfl : j = k := by omega
            exact HT.out), below_drewN hB.out _⟩
         case measure => simp [intOf]; omega
       have dm : ((md : Int) == 0) = false := by simp; omega
       have dm2 : ((md : Int) != 0) = true := by simp; omega
       have dm3 : decide ((md : Int) = 0) = false := by simp; omega
       have dm4 : decide (md = 0) = false := by simp; omega
       clear hm
       have hr : R = false := HBad.out HT.out
       subst hr
       go_upto_region 4 with fail
       go_quiet ((go_at_call 68; exact Calls.quiet_of_same (turned (HNs.out _))))
       go_wp2_with fail
       go_ret
       exact ⟨rfl, below_drewN hB.out _⟩
     obtain ⟨k', rfl⟩ : ∃ k', k = k' + 1 := ⟨k - 1, by omega⟩
     obtain ⟨⟨⟨s0, dat0⟩, gon0⟩, hx0⟩ := getElem?_lt (l := l) (k := k') (by rw [Hl.out]; omega)
     obtain ⟨D0, cd0, hd1, -⟩ := hcs k' _ hx0
     have Gx0 := θ (chNames_get hx0)
     simp only [] at hd1
     have y0 := cellkM hB.out hd1
     have e1 : ((k' + 1 : Nat) : Int) - 1 = (k' : Int) := by omega
     have e2 : (k' : Int) + 1 - 1 = (k' : Int) := by omega
     have e3 : IntKind.i64.wrap (k' : Int) = (k' : Int) := IntWalk.i64_in _ (by omega)
     have hkI : (k' : Int) < (n : Int) := by omega
     have hkN : k' < n := by omega
     have dk : decide ((0 : Int) < ((k' + 1 : Nat) : Int)) = true := decide_eq_true (by omega)
     have dk2 : decide ((0 : Int) < (k' : Int) + 1) = true := decide_eq_true (by omega)
     have hinc : Mir.chAt l (k' + 1) = (Op.bytesLess s0.toList s.toList && !gz) := by
      rw [HAt.out, Nat.add_sub_cancel, Gx0.out]
      unfold Mir.nlt
      simp
     obtain ⟨q, hq⟩ := exq (Op.bytesLess s0.toList s.toList)
     rw [hq] at hinc
     have HT := θ hinc
     clear hinc h0 hcs hx hx0 hd1
     cases q with
     | false =>
       have hr : R = false := HBad.out HT.out
       subst hr
       clear HBad
       go_upto_region 4 with fail
       go_quiet ((go_at_call 68; exact Calls.quiet_of_same (turned (HNs.out _))))
       go_wp2_with fail
       go_ret
       exact ⟨rfl, below_drewN hB.out _⟩
     | true =>
       rcases hcase with ⟨rfl, rfl⟩ | ⟨rfl, hm, rfl⟩ | ⟨rfl, hm, rfl⟩
       · go_upto_region 4 with fail
         go_quiet ((go_at_call 68; exact Calls.quiet_of_same (turned (HNs.out _))))
         go_wp2_with fail
         go_roundw
         case rel => exact ⟨k' + 1 + 1, by omega, by go_num, θ (fun j hj => by
          rcases Nat.lt_or_ge j (k' + 1) with h | h
          · exact Hg.out j h
          · obtain rfl : j = k' + 1 := by omega
            exact HT.out), below_drewN hB.out _⟩
         case measure => simp [intOf]; omega
       · have dm : ((md : Int) == 0) = true := by simp [hm]
         have dm2 : ((md : Int) != 0) = false := by simp [hm]
         have dm3 : decide ((md : Int) = 0) = true := by simp [hm]
         have dm4 : decide (md = 0) = true := by simp [hm]
         clear hm
         go_upto_region 4 with fail
         go_quiet ((go_at_call 68; exact Calls.quiet_of_same (turned (HNs.out _))))
         go_wp2_with fail
         go_roundw
         case rel => exact ⟨k' + 1 + 1, by omega, by go_num, θ (fun j hj => by
          rcases Nat.lt_or_ge j (k' + 1) with h | h
          · exact Hg.out j h
          · obtain rfl : j = k' + 1 := by omega
            exact HT.out), below_drewN hB.out _⟩
         case measure => simp [intOf]; omega
       have dm : ((md : Int) == 0) = false := by simp; omega
       have dm2 : ((md : Int) != 0) = true := by simp; omega
       have dm3 : decide ((md : Int) = 0) = false := by simp; omega
       have dm4 : decide (md = 0) = false := by simp; omega
       clear hm
       have hr : R = false := HBad.out HT.out
       subst hr
       go_upto_region 4 with fail
       go_quiet ((go_at_call 68; exact Calls.quiet_of_same (turned (HNs.out _))))
       go_wp2_with fail
       go_ret
       exact ⟨rfl, below_drewN hB.out _⟩
 obtain rfl : k = n := by omega
 have hch : R = decide ((k : Int) ≤ 65536) := by
  rw [← HR.out]
  unfold Mir.chOk
  rw [Mir.chS_good (fun j hj => Hg.out j (by rw [Hl.out] at hj; exact hj)), Hl.out, Bool.true_and]
  by_cases h : k ≤ 65536 <;> simp [h] <;> omega
 go_wp2_with fail
 go_ret
 refine ⟨?_, hB.out⟩
 rw [hch]
 first | rfl | (congr 1; simp)
end Go.Proofs.YtkflpoiobpblhaaGreat
