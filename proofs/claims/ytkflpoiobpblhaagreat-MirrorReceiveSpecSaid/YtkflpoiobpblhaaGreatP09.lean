/- Walks and plain laws that the statement rests on: Conc. -/
import Derived.Test.YtkflpoiobpblhaaGreatRows
import Derived.Test.YtkflpoiobpblhaaGreatP00
import Derived.Test.YtkflpoiobpblhaaGreatP01
import Derived.Test.YtkflpoiobpblhaaGreatP08
namespace Go.Proofs.YtkflpoiobpblhaaGreat
open Go.RowKit
theorem grow_nil (n : Nat) (w : World) (hb : n ≤ 1000000000) :
    Calls Tryz.prog 96 #[.slice none 0 0, .int .i64 n] w fun e w' =>
     ∃ A c, e = .returned (.slice A 0 c) ∧ n ≤ c ∧ w'.ownsRow w.heap.size 5 1 (.slice A 0 c) 0 [] ∧ Below w.heap.size w w' := by
 rcases Nat.eq_zero_or_pos n with rfl | hn
 · refine (Any8.slices_Grow_room Tryz.growB none 0 0 0 w (by omega) (by omega) (by omega) (by omega)).mono ?_
   rintro e w' ⟨rfl, rfl⟩
   exact ⟨none, 0, rfl, by omega, World.ownsRow_nil _ _ _ _, Below.refl _ _⟩
 · obtain ⟨i0, hi0, hz0, hz1, hz2⟩ := info_parts (P := Tryz.prog) (e := 5) (z := .int .u8 0) (size := 1) (bytes := 1) (by kernel_rfl)
   refine (Any8.slices_Grow_grow Tryz.growB i0 (.int .u8 0) hi0 hz0 (by omega) none 0 0 n [] w (by omega) (by omega) (by rw [hz2]; omega) (by omega) (by simp) (fun _ => rfl) (fun a h => by cases h)).mono ?_
   rintro e w' ⟨rfl, rfl⟩
   have hge := grownCap_ge w (0 + n) 0 5
   refine ⟨_, _, rfl, Nat.le_trans (by omega) hge, ?_, ?_⟩
   · refine ⟨rfl, .inr ⟨_, _, _, rfl, Nat.le_refl _, heap_alloc_new w.drew _, Nat.zero_le _, grownCap_le_maxLen _ _ _ _ (by unfold maxLen; omega), ?_, rfl⟩⟩
     rw [Array.size_append, Array.size_append, size_zeroCells, size_zeroCells]
     have hge2 : 0 + n ≤ grownCap w (0 + n) 0 (Tryz.growB_ren.t 25) := hge
     show 0 + (0 + n - 0) * 1 + (grownCap w (0 + n) 0 (Tryz.growB_ren.t 25) - (0 + n)) * 1 = grownCap w (0 + n) 0 (Tryz.growB_ren.t 25) * 1
     omega
   · exact (below_drewN (Below.refl _ _) 1).alloc (Nat.le_refl _) _
def pick3 {α : Type} (a b c : α) (k : Nat) : α := if k = 0 then a else if k = 1 then b else c
set_option maxRecDepth 100000 in
set_option maxHeartbeats 2000000 in
theorem concat2 (b n1 c1 n2 c2 : Nat) (A1 A2 : Option Addr) (cs1 cs2 : List Value) (w : World) (f1 : w.cell? ⟨b, 0, none⟩ = some (.slice A1 n1 c1)) (f2 : w.cell? ⟨b, 1, none⟩ = some (.slice A2 n2 c2))
    (h1 : Cells w A1 cs1) (h2 : Cells w A2 cs2) (l1 : cs1.length = n1) (l2 : cs2.length = n2) (o1 : ∀ u ∈ cs1, u.oneCell' = true) (o2 : ∀ u ∈ cs2, u.oneCell' = true) (b1 : n1 ≤ 100000000) (b2 : n2 ≤ 100000000) (hb : b < w.heap.size) :
    Calls Tryz.prog 57 #[.slice (some ⟨b, 0, none⟩) 2 2] w fun e w' =>
     ∃ A c, e = .returned (.slice A (n1 + n2) c) ∧ w'.ownsRow w.heap.size 5 1 (.slice A (n1 + n2) c) (n1 + n2) (cs1 ++ cs2) ∧ Below w.heap.size w w' := by
 have F1 := Lib.hid f1; have F2 := Lib.hid f2; have H1 := Lib.hid h1; have H2 := Lib.hid h2; have O1 := Lib.hid o1; have O2 := Lib.hid o2
 clear f1 f2 h1 h2 o1 o2
 go_enter Tryz.func57, Tryz.ntmps57
 go_wp2_with (fail)
 go_loopw [3, 11] (fun s i wr => ∃ k : Nat, k ≤ 2 ∧ i = .int .i64 k ∧ s = .int .i64 (pick3 0 n1 (n1 + n2) k : Nat) ∧ wr = w) (fun _ i _ => 2 - (intOf i).toNat)
 case atStart => exact ⟨0, by omega, rfl, rfl, rfl⟩
 case round =>
  obtain ⟨k, hk, rfl, rfl, rfl⟩ := hrel
  by_cases hlk : k < 2
  · have hc : ∃ A n c, wr.cell? ⟨b, k, none⟩ = some (.slice A n c) ∧ n ≤ 100000000 ∧ pick3 0 n1 (n1 + n2) (k + 1) = pick3 0 n1 (n1 + n2) k + n ∧ pick3 0 n1 (n1 + n2) k ≤ 100000000 := by
      match k, hlk with
      | 0, _ => exact ⟨A1, n1, c1, F1.out, b1, by simp [pick3], by simp [pick3]⟩
      | 1, _ => exact ⟨A2, n2, c2, F2.out, b2, by simp [pick3], by simpa [pick3] using b1⟩
    obtain ⟨A, n, c, f, hn, hs, hp⟩ := hc
    have Hs := Lib.hid hs
    clear hs
    generalize pick3 0 n1 (n1 + n2) k = s at *
    have hdk : decide ((k : Int) < 2) = true := by simp; omega
    have hdn : decide ((s : Int) + (n : Int) < 0) = false := by simp; omega
    go_wp2_with (fail)
    go_roundw
    case rel => exact ⟨k + 1, by omega, by go_num, by rw [Hs.out]; go_num, trivial⟩
    case measure => simp [intOf]; omega
  · have hk2 : k = 2 := by omega
    have hdk : decide ((k : Int) < 2) = false := by simp; omega
    have hs : Hid (pick3 0 n1 (n1 + n2) k = n1 + n2) := by show _ = _; rw [hk2]; rfl
    clear hk2
    generalize pick3 0 n1 (n1 + n2) k = s at *
    go_wp2_with (fail)
    refine (grow_nil s wr (by rw [hs.out]; omega)).mono ?_
    rintro e w' ⟨A, c, rfl, hcap, hown, hbl⟩
    go_wp2_with (fail)
    obtain ⟨w0, rfl⟩ : ∃ w0 : World, w0 = wr := ⟨_, rfl⟩
    go_loopw [6, 27] (fun v i wr => ∃ k : Nat, k ≤ 2 ∧ i = .int .i64 k ∧ ∃ A c, v = .slice A (pick3 0 n1 (n1 + n2) k) c ∧ Hid (wr.ownsRow w0.heap.size 5 1 (.slice A (pick3 0 n1 (n1 + n2) k) c) (pick3 0 n1 (n1 + n2) k) (pick3 [] cs1 (cs1 ++ cs2) k)) ∧ Below w0.heap.size w0 wr) (fun _ i _ => 2 - (intOf i).toNat)
    case atStart => exact ⟨0, by omega, rfl, A, c, rfl, hown, hbl⟩
    case round =>
     obtain ⟨k, hk, rfl, A, c, rfl, hown, hbl⟩ := hrel
     by_cases hlk : k < 2
     · have hc : ∃ A n c cs, wr.cell? ⟨b, k, none⟩ = some (.slice A n c) ∧ n ≤ 100000000 ∧ pick3 0 n1 (n1 + n2) (k + 1) = pick3 0 n1 (n1 + n2) k + n ∧ pick3 0 n1 (n1 + n2) k ≤ 100000000 ∧ pick3 [] cs1 (cs1 ++ cs2) (k + 1) = pick3 [] cs1 (cs1 ++ cs2) k ++ cs ∧ Cells wr A cs ∧ cs.length = n ∧ ∀ u ∈ cs, u.oneCell' = true := by
         match k, hlk with
         | 0, _ => exact ⟨A1, n1, c1, cs1, (hbl.cell (p := ⟨b, 0, none⟩) hb).trans F1.out, b1, by simp [pick3], by simp [pick3], by simp [pick3], H1.out.below hbl, l1, O1.out⟩
         | 1, _ => exact ⟨A2, n2, c2, cs2, (hbl.cell (p := ⟨b, 1, none⟩) hb).trans F2.out, b2, by simp [pick3], by simpa [pick3] using b1, by simp [pick3], H2.out.below hbl, l2, O2.out⟩
       obtain ⟨A', n, c', cs, f, hn, hs, hp, hcs, hcl, hlen, h1c⟩ := hc
       have Hs := Lib.hid hs; have Hcs := Lib.hid hcs; have Hcl := Lib.hid hcl; have H1c := Lib.hid h1c; have Hlen := Lib.hid hlen
       clear hs hcs hcl h1c hlen
       generalize pick3 0 n1 (n1 + n2) k = s at *
       obtain ⟨v0, hv0⟩ : ∃ v0, v0 = Value.slice A' n c' := ⟨_, rfl⟩
       rw [← hv0] at f
       have Hv := Lib.hid hv0
       clear hv0
       generalize pick3 [] cs1 (cs1 ++ cs2) k = xs at *
       have hdk : decide ((k : Int) < 2) = true := by simp; omega
       go_wp2_with (at_builtin; refine wpList_append_cells rfl (.tmp 31) (.tmp 32) 22 rfl w0.heap.size 5 (.int .u8 0) 1 1 (by kernel_rfl) (by kernel_rfl) rfl (by omega) (.slice A s c) s xs hown.out rfl A' n c' cs Hv.out (by rw [Hlen.out, Nat.mul_one]) Hcl.out H1c.out (by unfold maxLen; omega) (by omega) hbl.size ?_; intro v' w' hown' hgr hsits; obtain ⟨A'', c'', rfl, -, -, -⟩ := own_form hown'; have hbl' := Lib.hid (below_grown hbl hgr hbl.size (fun k hk => (hown.out.lt k hk).1)); have Hown' := Lib.hid hown'; clear hown' hgr hsits)
       go_roundw
       case rel => exact ⟨k + 1, by omega, by go_num, A'', c'', by rw [Hs.out], by show World.ownsRow _ _ _ _ _ _ _; rw [Hs.out, Hcs.out]; exact Hown'.out, hbl'.out⟩
       case measure => simp [intOf]; omega
     · have hk2 : k = 2 := by omega
       have hdk : decide ((k : Int) < 2) = false := by simp; omega
       have hs2 : Hid (pick3 0 n1 (n1 + n2) k = n1 + n2) := by show _ = _; rw [hk2]; rfl
       have hcs2 : Hid (pick3 [] cs1 (cs1 ++ cs2) k = cs1 ++ cs2) := by show _ = _; rw [hk2]; rfl
       clear hk2
       generalize pick3 0 n1 (n1 + n2) k = s2 at *
       generalize pick3 [] cs1 (cs1 ++ cs2) k = xs at *
       go_wp2_with (fail)
       go_ret
       have h := hs2.out
       subst h
       have h2 := hcs2.out
       subst h2
       exact ⟨A, c, rfl, hown.out, hbl⟩
end Go.Proofs.YtkflpoiobpblhaaGreat
