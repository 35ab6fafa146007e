/- Walks and plain laws that the statement rests on: MSame, MSf. -/
import Derived.Deep.RegionHeld3
import Derived.Test.YtkflpoiobpblhaaP00
import Derived.Test.YtkflpoiobpblhaaP03
import Derived.Test.YtkflpoiobpblhaaP40
import Derived.Test.YtkflpoiobpblhaaP41
namespace Go.Proofs.Ytkflpoiobpblhaa
open Go.RowKit Go.Shelf
set_option linter.unusedVariables false
set_option linter.unusedSimpArgs false
namespace Mir
def sameI (a b : List It) : Bool := decide (a.length = b.length) && (a.zip b).all fun p => itEq p.1 p.2
theorem sameI_len {a b : List It} (h : a.length ≠ b.length) : sameI a b = false := by unfold sameI; rw [decide_eq_false h]; rfl
theorem sameI_bad {a b : List It} {k : Nat} {x y : It} (hx : a[k]? = some x) (hy : b[k]? = some y) (h : itEq x y = false) : sameI a b = false := by
  unfold sameI
  rw [few_bad (f := fun p : It × It => itEq p.1 p.2) (k := k) (x := (x, y)) (by rw [List.getElem?_zip_eq_some]; exact ⟨hx, hy⟩) h, Bool.and_false]
theorem sameI_good {a b : List It} (hl : a.length = b.length) (h : ∀ (k : Nat) (x y : It), a[k]? = some x → b[k]? = some y → itEq x y = true) : sameI a b = true := by
  unfold sameI
  rw [decide_eq_true hl, Bool.true_and]
  refine few_at fun k p hk hp => ?_
  obtain ⟨x, y⟩ := p
  rw [List.getElem?_zip_eq_some] at hp
  exact h k x y hp.1 hp.2
theorem sameI_self (a : List It) : sameI a a = true := sameI_good rfl fun k x y h1 h2 => by rw [h1] at h2; cases h2; exact itEq_iff.2 rfl
end Mir
theorem str_eq {x y : List Nat} (h1 : ∀ b ∈ x, b < 256) (h2 : ∀ b ∈ y, b < 256) : ((strOfNums (x.map Int.ofNat)).toList == (strOfNums (y.map Int.ofNat)).toList) = decide (x = y) := by
  rw [Lib.strOfNums_toList, Lib.strOfNums_toList]
  exact bytesOf_eq h1 h2
theorem name_eq (x y : ByteArray) : (x.toList == y.toList) = decide (x = y) := by
  by_cases h : x = y
  · subst h; simp
  · rw [decide_eq_false h]
    simp only [beq_eq_false_iff_ne, ne_eq]
    intro e
    rw [ByteArray.toList_eq, ByteArray.toList_eq] at e
    exact h (ByteArray.ext (Array.toList_inj.1 e))
set_option maxRecDepth 100000 in
set_option maxHeartbeats 4000000 in
theorem rsame_any (A B : Option Addr) (n m c d : Nat) (a b : List Mir.It) (w : World) (ha : a.length = n) (hb : b.length = m) (hn : n ≤ 9223372036854775807) (hA : ItemsC w A a) (hB : ItemsC w B b) :
    Calls Try.prog 17 #[.slice A n c, .slice B m d] w fun e w' => e = .returned (.bool (Mir.sameI a b)) ∧ Below w.heap.size w w' := by
  have HA := Lib.hid hA
  have HB := Lib.hid hB
  have Ha := Lib.hid ha
  have Hb := Lib.hid hb
  obtain ⟨R, hR⟩ : ∃ R, Mir.sameI a b = R := ⟨_, rfl⟩
  rw [hR]
  have HR := Lib.hid hR
  clear hA hB ha hb hR
  by_cases hnm : n = m
  · subst hnm
    go_enter Try.func17, Try.ntmps17
    go_wp2_with (fail)
    go_loopw [5] (fun i wr => ∃ k : Nat, k ≤ n ∧ i = .int .i64 k ∧ Hid (Below w.heap.size w wr) ∧ Hid (∀ j x y, j < k → a[j]? = some x → b[j]? = some y → Mir.itEq x y = true)) (fun i _ => n - (intOf i).toNat)
    case atStart => exact ⟨0, by omega, rfl, Lib.hid (Below.refl _ _), Lib.hid (fun j x y h => by omega)⟩
    case round =>
      obtain ⟨wk, rfl⟩ : ∃ v : World, v = wr := ⟨_, rfl⟩
      obtain ⟨k, hk, rfl, hBw, hg⟩ := hrel
      by_cases hlt : k < n
      · obtain ⟨⟨s1, d1⟩, hx⟩ := getElem?_lt (l := a) (k := k) (by rw [Ha.out]; exact hlt)
        obtain ⟨⟨s2, d2⟩, hy⟩ := getElem?_lt (l := b) (k := k) (by rw [Hb.out]; exact hlt)
        obtain ⟨b1, o1, rfl, hb1, hc1⟩ := (HA.out.below hBw.out).at_ (by rw [Ha.out]; omega)
        obtain ⟨b2, o2, rfl, hb2, hc2⟩ := (HB.out.below hBw.out).at_ (by rw [Hb.out]; omega)
        obtain ⟨D1, e1, x0, x1, -, -, hD1, h81⟩ := hc1 _ _ hx
        obtain ⟨D2, e2, y0, y1, -, -, hD2, h82⟩ := hc2 _ _ hy
        simp only [] at x0 x1 y0 y1 hD1 hD2 h81 h82
        have Hx := Lib.hid hx
        have Hy := Lib.hid hy
        have HD1 := Lib.hid hD1
        have HD2 := Lib.hid hD2
        have Hse := Lib.hid (str_eq h81 h82)
        obtain ⟨S1, hS1⟩ : ∃ S, strOfNums (d1.map Int.ofNat) = S := ⟨_, rfl⟩
        obtain ⟨S2, hS2⟩ : ∃ S, strOfNums (d2.map Int.ofNat) = S := ⟨_, rfl⟩
        rw [hS1, hS2] at Hse
        have HS1 := Lib.hid hS1
        have HS2 := Lib.hid hS2
        have gN := name_eq s1 s2
        clear hc1 hc2 hx hy hD1 hD2 h81 h82 hS1 hS2
        obtain ⟨m1, hm1⟩ : ∃ n, d1.length = n := ⟨_, rfl⟩
        obtain ⟨m2, hm2⟩ : ∃ n, d2.length = n := ⟨_, rfl⟩
        rw [hm1] at x1
        rw [hm2] at y1
        have Hm1 := Lib.hid hm1
        have Hm2 := Lib.hid hm2
        clear hm1 hm2
        by_cases hs : s1 = s2
        · rw [decide_eq_true hs] at gN
          have Hs := Lib.hid hs
          clear hs
          by_cases hd : d1 = d2
          · have gD : (S1.toList == S2.toList) = true := by rw [Hse.out]; exact decide_eq_true hd
            have Hd' := Lib.hid hd
            clear hd
            go_upto_region 6 with (fail)
            refine wp_region_held_drew (S := fun W => Below wk.heap.size wk W) (by kernel_rfl) (below_drewN (Below.refl _ _) 1) (fun Hd => ?_)
            have Hd : Below wk.heap.size wk wk.drew := below_drewN (Below.refl _ _) 1
            have Zd : wk.heap.size ≤ wk.drew.heap.size := Nat.le_refl _
            generalize World.drew wk = wd at *
            refine wpAnyH_take (i := 0) (v := ?_) rfl (by kernel_rfl) (by kernel_rfl) (by kernel_rfl) (fun _ _ _ h => h) (Or.inl ⟨by rfl, ?_⟩) Hd ?_
            rotate_left
            · intro wS hSw
              go_simp
              try with_reducible rfl
            try simp only [la0, la1, la2, Act.put, la3, la4, la5]
            refine wpAnyH_take (i := 1) (v := ?_) rfl (by kernel_rfl) (by kernel_rfl) (by kernel_rfl) (fun _ _ _ h => h) (Or.inl ⟨by rfl, ?_⟩) Hd ?_
            rotate_left
            · intro wS hSw
              go_simp
              try with_reducible rfl
            try simp only [la0, la1, la2, Act.put, la3, la4, la5]
            refine wpAnyH_take (i := 2) (v := ?_) rfl (by kernel_rfl) (by kernel_rfl) (by kernel_rfl) (fun _ _ _ h => h) (Or.inl ⟨by rfl, ?_⟩) Hd ?_
            rotate_left
            · intro wS hSw
              go_simp
              try with_reducible rfl
            try simp only [la0, la1, la2, Act.put, la3, la4, la5]
            refine wpAnyH_take (i := 3) (v := ?_) rfl (by kernel_rfl) (by kernel_rfl) (by kernel_rfl) (fun _ _ _ h => h) (Or.inl ⟨by rfl, ?_⟩) Hd ?_
            rotate_left
            · intro wS hSw
              go_simp
              try with_reducible rfl
            try simp only [la0, la1, la2, Act.put, la3, la4, la5]
            refine wpAnyH_take (i := 4) (v := ?_) rfl (by kernel_rfl) (by kernel_rfl) (by kernel_rfl) (fun _ _ _ h => h) (Or.inl ⟨by rfl, ?_⟩) Hd ?_
            rotate_left
            · intro wS hSw
              have cc := (hSw.cell (p := ⟨b1, o1 + k * 2, none⟩) hb1).trans x0
              go_simp
              try with_reducible rfl
            try simp only [la0, la1, la2, Act.put, la3, la4, la5]
            refine wpAnyH_take (i := 5) (v := ?_) rfl (by kernel_rfl) (by kernel_rfl) (by kernel_rfl) (fun _ _ _ h => h) (Or.inl ⟨by rfl, ?_⟩) Hd ?_
            rotate_left
            · intro wS hSw
              go_simp
              try with_reducible rfl
            try simp only [la0, la1, la2, Act.put, la3, la4, la5]
            refine wpAnyH_take (i := 6) (v := ?_) rfl (by kernel_rfl) (by kernel_rfl) (by kernel_rfl) (fun _ _ _ h => h) (Or.inl ⟨by rfl, ?_⟩) Hd ?_
            rotate_left
            · intro wS hSw
              go_simp
              try with_reducible rfl
            try simp only [la0, la1, la2, Act.put, la3, la4, la5]
            refine wpAnyH_take (i := 7) (v := ?_) rfl (by kernel_rfl) (by kernel_rfl) (by kernel_rfl) (fun _ _ _ h => h) (Or.inl ⟨by rfl, ?_⟩) Hd ?_
            rotate_left
            · intro wS hSw
              go_simp
              try with_reducible rfl
            try simp only [la0, la1, la2, Act.put, la3, la4, la5]
            refine wpAnyH_take (i := 8) (v := ?_) rfl (by kernel_rfl) (by kernel_rfl) (by kernel_rfl) (fun _ _ _ h => h) (Or.inl ⟨by rfl, ?_⟩) Hd ?_
            rotate_left
            · intro wS hSw
              go_simp
              try with_reducible rfl
            try simp only [la0, la1, la2, Act.put, la3, la4, la5]
            refine wpAnyH_take (i := 9) (v := ?_) rfl (by kernel_rfl) (by kernel_rfl) (by kernel_rfl) (fun _ _ _ h => h) (Or.inl ⟨by rfl, ?_⟩) Hd ?_
            rotate_left
            · intro wS hSw
              have cc := (hSw.cell (p := ⟨b2, o2 + k * 2, none⟩) hb2).trans y0
              go_simp
              try with_reducible rfl
            try simp only [la0, la1, la2, Act.put, la3, la4, la5]
            refine wpAnyH_take (i := 10) (v := ?_) rfl (by kernel_rfl) (by kernel_rfl) (by kernel_rfl) (fun _ _ _ h => h) (Or.inl ⟨by rfl, ?_⟩) Hd ?_
            rotate_left
            · intro wS hSw
              go_simp
              try with_reducible rfl
            try simp only [la0, la1, la2, Act.put, la3, la4, la5]
            refine wpAnyH_take (i := 11) (v := ?_) rfl (by kernel_rfl) (by kernel_rfl) (by kernel_rfl) (fun _ _ _ h => h) (Or.inl ⟨by rfl, ?_⟩) Hd ?_
            rotate_left
            · intro wS hSw
              go_simp
              try with_reducible rfl
            try simp only [la0, la1, la2, Act.put, la3, la4, la5]
            refine wpAnyH_take (i := 12) (v := ?_) rfl (by kernel_rfl) (by kernel_rfl) (by kernel_rfl) (fun _ _ _ h => h) (Or.inl ⟨by rfl, ?_⟩) Hd ?_
            rotate_left
            · intro wS hSw
              go_simp
              try with_reducible rfl
            try simp only [la0, la1, la2, Act.put, la3, la4, la5]
            refine wpAnyH_take (i := 13) (v := ?_) rfl (by kernel_rfl) (by kernel_rfl) (by kernel_rfl) (fun _ _ _ h => h) (Or.inl ⟨by rfl, ?_⟩) Hd ?_
            rotate_left
            · intro wS hSw
              go_simp
              try with_reducible rfl
            try simp only [la0, la1, la2, Act.put, la3, la4, la5]
            refine wpAnyH_take (i := 14) (v := ?_) rfl (by kernel_rfl) (by kernel_rfl) (by kernel_rfl) (fun _ _ _ h => h) (Or.inl ⟨by rfl, ?_⟩) Hd ?_
            rotate_left
            · intro wS hSw
              go_simp
              try with_reducible rfl
            try simp only [la0, la1, la2, Act.put, la3, la4, la5]
            refine wpAnyH_take (i := 15) (v := ?_) rfl (by kernel_rfl) (by kernel_rfl) (by kernel_rfl) (fun _ _ _ h => h) (Or.inl ⟨by rfl, ?_⟩) Hd ?_
            rotate_left
            · intro wS hSw
              go_simp
              try with_reducible rfl
            try simp only [la0, la1, la2, Act.put, la3, la4, la5]
            refine wpAnyH_take (i := 16) (v := ?_) rfl (by kernel_rfl) (by kernel_rfl) (by kernel_rfl) (fun _ _ _ h => h) (Or.inl ⟨by rfl, ?_⟩) Hd ?_
            rotate_left
            · intro wS hSw
              have cc := (hSw.cell (p := ⟨b1, o1 + k * 2 + 1, none⟩) hb1).trans x1
              go_simp
              try with_reducible rfl
            try simp only [la0, la1, la2, Act.put, la3, la4, la5]
            refine wpAnyH_take (i := 17) (v := ?_) rfl (by kernel_rfl) (by kernel_rfl) (by kernel_rfl) (fun _ _ _ h => h) (Or.inl ⟨by rfl, ?_⟩) Hd ?_
            rotate_left
            · intro wS hSw
              have cv : (convert 39 9 (.slice D1 m1 e1)).run Try.prog wS = .ok (.string S1) wS := by
                have := (bytesIn_of (HD1.out.below hSw)).convert (P := Try.prog) (by simp) e1 39 5 9 Try.underlying39 Try.underlying5 Try.underlying9
                rw [HS1.out, Hm1.out] at this
                exact this
              go_simp
              try with_reducible rfl
            try simp only [la0, la1, la2, Act.put, la3, la4, la5]
            refine wpAnyH_take (i := 18) (v := ?_) rfl (by kernel_rfl) (by kernel_rfl) (by kernel_rfl) (fun _ _ _ h => h) (Or.inl ⟨by rfl, ?_⟩) Hd ?_
            rotate_left
            · intro wS hSw
              go_simp
              try with_reducible rfl
            try simp only [la0, la1, la2, Act.put, la3, la4, la5]
            refine wpAnyH_take (i := 19) (v := ?_) rfl (by kernel_rfl) (by kernel_rfl) (by kernel_rfl) (fun _ _ _ h => h) (Or.inl ⟨by rfl, ?_⟩) Hd ?_
            rotate_left
            · intro wS hSw
              go_simp
              try with_reducible rfl
            try simp only [la0, la1, la2, Act.put, la3, la4, la5]
            refine wpAnyH_take (i := 20) (v := ?_) rfl (by kernel_rfl) (by kernel_rfl) (by kernel_rfl) (fun _ _ _ h => h) (Or.inl ⟨by rfl, ?_⟩) Hd ?_
            rotate_left
            · intro wS hSw
              go_simp
              try with_reducible rfl
            try simp only [la0, la1, la2, Act.put, la3, la4, la5]
            refine wpAnyH_take (i := 21) (v := ?_) rfl (by kernel_rfl) (by kernel_rfl) (by kernel_rfl) (fun _ _ _ h => h) (Or.inl ⟨by rfl, ?_⟩) Hd ?_
            rotate_left
            · intro wS hSw
              go_simp
              try with_reducible rfl
            try simp only [la0, la1, la2, Act.put, la3, la4, la5]
            refine wpAnyH_take (i := 22) (v := ?_) rfl (by kernel_rfl) (by kernel_rfl) (by kernel_rfl) (fun _ _ _ h => h) (Or.inl ⟨by rfl, ?_⟩) Hd ?_
            rotate_left
            · intro wS hSw
              have cc := (hSw.cell (p := ⟨b2, o2 + k * 2 + 1, none⟩) hb2).trans y1
              go_simp
              try with_reducible rfl
            try simp only [la0, la1, la2, Act.put, la3, la4, la5]
            refine wpAnyH_take (i := 23) (v := ?_) rfl (by kernel_rfl) (by kernel_rfl) (by kernel_rfl) (fun _ _ _ h => h) (Or.inl ⟨by rfl, ?_⟩) Hd ?_
            rotate_left
            · intro wS hSw
              have cv : (convert 39 9 (.slice D2 m2 e2)).run Try.prog wS = .ok (.string S2) wS := by
                have := (bytesIn_of (HD2.out.below hSw)).convert (P := Try.prog) (by simp) e2 39 5 9 Try.underlying39 Try.underlying5 Try.underlying9
                rw [HS2.out, Hm2.out] at this
                exact this
              go_simp
              try with_reducible rfl
            try simp only [la0, la1, la2, Act.put, la3, la4, la5]
            refine wpAnyH_take (i := 24) (v := ?_) rfl (by kernel_rfl) (by kernel_rfl) (by kernel_rfl) (fun _ _ _ h => h) (Or.inl ⟨by rfl, ?_⟩) Hd ?_
            rotate_left
            · intro wS hSw
              go_simp
              try with_reducible rfl
            try simp only [la0, la1, la2, Act.put, la3, la4, la5]
            refine wpAnyH_take (i := 25) (v := ?_) rfl (by kernel_rfl) (by kernel_rfl) (by kernel_rfl) (fun _ _ _ h => h) (Or.inl ⟨by rfl, ?_⟩) Hd ?_
            rotate_left
            · intro wS hSw
              go_simp
              try with_reducible rfl
            try simp only [la0, la1, la2, Act.put, la3, la4, la5]
            refine wpAnyH_done (by kernel_rfl) ?_ _
            have HY := Hd
            have hB2 := Lib.hid (below_of hBw.out HY hBw.out.size)
            go_wp2_with (fail)
            go_roundw
            case rel => exact ⟨k + 1, by omega, by go_num, hB2, Lib.hid (fun j x y hj h1 h2 => by
              rcases Nat.lt_or_eq_of_le (Nat.le_of_lt_succ hj) with h | rfl
              · exact hg.out j x y h h1 h2
              · rw [Hx.out] at h1; rw [Hy.out] at h2; cases h1; cases h2
                exact Mir.itEq_iff.2 (Prod.ext Hs.out Hd'.out))⟩
            case measure => simp [intOf]; omega
          · have gD : (S1.toList == S2.toList) = false := by rw [Hse.out]; exact decide_eq_false hd
            have Hd' := Lib.hid hd
            clear hd
            go_upto_region 6 with (fail)
            refine wp_region_held_drew (S := fun W => Below wk.heap.size wk W) (by kernel_rfl) (below_drewN (Below.refl _ _) 1) (fun Hd => ?_)
            have Hd : Below wk.heap.size wk wk.drew := below_drewN (Below.refl _ _) 1
            have Zd : wk.heap.size ≤ wk.drew.heap.size := Nat.le_refl _
            generalize World.drew wk = wd at *
            refine wpAnyH_take (i := 0) (v := ?_) rfl (by kernel_rfl) (by kernel_rfl) (by kernel_rfl) (fun _ _ _ h => h) (Or.inl ⟨by rfl, ?_⟩) Hd ?_
            rotate_left
            · intro wS hSw
              go_simp
              try with_reducible rfl
            try simp only [la0, la1, la2, Act.put, la3, la4, la5]
            refine wpAnyH_take (i := 1) (v := ?_) rfl (by kernel_rfl) (by kernel_rfl) (by kernel_rfl) (fun _ _ _ h => h) (Or.inl ⟨by rfl, ?_⟩) Hd ?_
            rotate_left
            · intro wS hSw
              go_simp
              try with_reducible rfl
            try simp only [la0, la1, la2, Act.put, la3, la4, la5]
            refine wpAnyH_take (i := 2) (v := ?_) rfl (by kernel_rfl) (by kernel_rfl) (by kernel_rfl) (fun _ _ _ h => h) (Or.inl ⟨by rfl, ?_⟩) Hd ?_
            rotate_left
            · intro wS hSw
              go_simp
              try with_reducible rfl
            try simp only [la0, la1, la2, Act.put, la3, la4, la5]
            refine wpAnyH_take (i := 3) (v := ?_) rfl (by kernel_rfl) (by kernel_rfl) (by kernel_rfl) (fun _ _ _ h => h) (Or.inl ⟨by rfl, ?_⟩) Hd ?_
            rotate_left
            · intro wS hSw
              go_simp
              try with_reducible rfl
            try simp only [la0, la1, la2, Act.put, la3, la4, la5]
            refine wpAnyH_take (i := 4) (v := ?_) rfl (by kernel_rfl) (by kernel_rfl) (by kernel_rfl) (fun _ _ _ h => h) (Or.inl ⟨by rfl, ?_⟩) Hd ?_
            rotate_left
            · intro wS hSw
              have cc := (hSw.cell (p := ⟨b1, o1 + k * 2, none⟩) hb1).trans x0
              go_simp
              try with_reducible rfl
            try simp only [la0, la1, la2, Act.put, la3, la4, la5]
            refine wpAnyH_take (i := 5) (v := ?_) rfl (by kernel_rfl) (by kernel_rfl) (by kernel_rfl) (fun _ _ _ h => h) (Or.inl ⟨by rfl, ?_⟩) Hd ?_
            rotate_left
            · intro wS hSw
              go_simp
              try with_reducible rfl
            try simp only [la0, la1, la2, Act.put, la3, la4, la5]
            refine wpAnyH_take (i := 6) (v := ?_) rfl (by kernel_rfl) (by kernel_rfl) (by kernel_rfl) (fun _ _ _ h => h) (Or.inl ⟨by rfl, ?_⟩) Hd ?_
            rotate_left
            · intro wS hSw
              go_simp
              try with_reducible rfl
            try simp only [la0, la1, la2, Act.put, la3, la4, la5]
            refine wpAnyH_take (i := 7) (v := ?_) rfl (by kernel_rfl) (by kernel_rfl) (by kernel_rfl) (fun _ _ _ h => h) (Or.inl ⟨by rfl, ?_⟩) Hd ?_
            rotate_left
            · intro wS hSw
              go_simp
              try with_reducible rfl
            try simp only [la0, la1, la2, Act.put, la3, la4, la5]
            refine wpAnyH_take (i := 8) (v := ?_) rfl (by kernel_rfl) (by kernel_rfl) (by kernel_rfl) (fun _ _ _ h => h) (Or.inl ⟨by rfl, ?_⟩) Hd ?_
            rotate_left
            · intro wS hSw
              go_simp
              try with_reducible rfl
            try simp only [la0, la1, la2, Act.put, la3, la4, la5]
            refine wpAnyH_take (i := 9) (v := ?_) rfl (by kernel_rfl) (by kernel_rfl) (by kernel_rfl) (fun _ _ _ h => h) (Or.inl ⟨by rfl, ?_⟩) Hd ?_
            rotate_left
            · intro wS hSw
              have cc := (hSw.cell (p := ⟨b2, o2 + k * 2, none⟩) hb2).trans y0
              go_simp
              try with_reducible rfl
            try simp only [la0, la1, la2, Act.put, la3, la4, la5]
            refine wpAnyH_take (i := 10) (v := ?_) rfl (by kernel_rfl) (by kernel_rfl) (by kernel_rfl) (fun _ _ _ h => h) (Or.inl ⟨by rfl, ?_⟩) Hd ?_
            rotate_left
            · intro wS hSw
              go_simp
              try with_reducible rfl
            try simp only [la0, la1, la2, Act.put, la3, la4, la5]
            refine wpAnyH_take (i := 11) (v := ?_) rfl (by kernel_rfl) (by kernel_rfl) (by kernel_rfl) (fun _ _ _ h => h) (Or.inl ⟨by rfl, ?_⟩) Hd ?_
            rotate_left
            · intro wS hSw
              go_simp
              try with_reducible rfl
            try simp only [la0, la1, la2, Act.put, la3, la4, la5]
            refine wpAnyH_take (i := 12) (v := ?_) rfl (by kernel_rfl) (by kernel_rfl) (by kernel_rfl) (fun _ _ _ h => h) (Or.inl ⟨by rfl, ?_⟩) Hd ?_
            rotate_left
            · intro wS hSw
              go_simp
              try with_reducible rfl
            try simp only [la0, la1, la2, Act.put, la3, la4, la5]
            refine wpAnyH_take (i := 13) (v := ?_) rfl (by kernel_rfl) (by kernel_rfl) (by kernel_rfl) (fun _ _ _ h => h) (Or.inl ⟨by rfl, ?_⟩) Hd ?_
            rotate_left
            · intro wS hSw
              go_simp
              try with_reducible rfl
            try simp only [la0, la1, la2, Act.put, la3, la4, la5]
            refine wpAnyH_take (i := 14) (v := ?_) rfl (by kernel_rfl) (by kernel_rfl) (by kernel_rfl) (fun _ _ _ h => h) (Or.inl ⟨by rfl, ?_⟩) Hd ?_
            rotate_left
            · intro wS hSw
              go_simp
              try with_reducible rfl
            try simp only [la0, la1, la2, Act.put, la3, la4, la5]
            refine wpAnyH_take (i := 15) (v := ?_) rfl (by kernel_rfl) (by kernel_rfl) (by kernel_rfl) (fun _ _ _ h => h) (Or.inl ⟨by rfl, ?_⟩) Hd ?_
            rotate_left
            · intro wS hSw
              go_simp
              try with_reducible rfl
            try simp only [la0, la1, la2, Act.put, la3, la4, la5]
            refine wpAnyH_take (i := 16) (v := ?_) rfl (by kernel_rfl) (by kernel_rfl) (by kernel_rfl) (fun _ _ _ h => h) (Or.inl ⟨by rfl, ?_⟩) Hd ?_
            rotate_left
            · intro wS hSw
              have cc := (hSw.cell (p := ⟨b1, o1 + k * 2 + 1, none⟩) hb1).trans x1
              go_simp
              try with_reducible rfl
            try simp only [la0, la1, la2, Act.put, la3, la4, la5]
            refine wpAnyH_take (i := 17) (v := ?_) rfl (by kernel_rfl) (by kernel_rfl) (by kernel_rfl) (fun _ _ _ h => h) (Or.inl ⟨by rfl, ?_⟩) Hd ?_
            rotate_left
            · intro wS hSw
              have cv : (convert 39 9 (.slice D1 m1 e1)).run Try.prog wS = .ok (.string S1) wS := by
                have := (bytesIn_of (HD1.out.below hSw)).convert (P := Try.prog) (by simp) e1 39 5 9 Try.underlying39 Try.underlying5 Try.underlying9
                rw [HS1.out, Hm1.out] at this
                exact this
              go_simp
              try with_reducible rfl
            try simp only [la0, la1, la2, Act.put, la3, la4, la5]
            refine wpAnyH_take (i := 18) (v := ?_) rfl (by kernel_rfl) (by kernel_rfl) (by kernel_rfl) (fun _ _ _ h => h) (Or.inl ⟨by rfl, ?_⟩) Hd ?_
            rotate_left
            · intro wS hSw
              go_simp
              try with_reducible rfl
            try simp only [la0, la1, la2, Act.put, la3, la4, la5]
            refine wpAnyH_take (i := 19) (v := ?_) rfl (by kernel_rfl) (by kernel_rfl) (by kernel_rfl) (fun _ _ _ h => h) (Or.inl ⟨by rfl, ?_⟩) Hd ?_
            rotate_left
            · intro wS hSw
              go_simp
              try with_reducible rfl
            try simp only [la0, la1, la2, Act.put, la3, la4, la5]
            refine wpAnyH_take (i := 20) (v := ?_) rfl (by kernel_rfl) (by kernel_rfl) (by kernel_rfl) (fun _ _ _ h => h) (Or.inl ⟨by rfl, ?_⟩) Hd ?_
            rotate_left
            · intro wS hSw
              go_simp
              try with_reducible rfl
            try simp only [la0, la1, la2, Act.put, la3, la4, la5]
            refine wpAnyH_take (i := 21) (v := ?_) rfl (by kernel_rfl) (by kernel_rfl) (by kernel_rfl) (fun _ _ _ h => h) (Or.inl ⟨by rfl, ?_⟩) Hd ?_
            rotate_left
            · intro wS hSw
              go_simp
              try with_reducible rfl
            try simp only [la0, la1, la2, Act.put, la3, la4, la5]
            refine wpAnyH_take (i := 22) (v := ?_) rfl (by kernel_rfl) (by kernel_rfl) (by kernel_rfl) (fun _ _ _ h => h) (Or.inl ⟨by rfl, ?_⟩) Hd ?_
            rotate_left
            · intro wS hSw
              have cc := (hSw.cell (p := ⟨b2, o2 + k * 2 + 1, none⟩) hb2).trans y1
              go_simp
              try with_reducible rfl
            try simp only [la0, la1, la2, Act.put, la3, la4, la5]
            refine wpAnyH_take (i := 23) (v := ?_) rfl (by kernel_rfl) (by kernel_rfl) (by kernel_rfl) (fun _ _ _ h => h) (Or.inl ⟨by rfl, ?_⟩) Hd ?_
            rotate_left
            · intro wS hSw
              have cv : (convert 39 9 (.slice D2 m2 e2)).run Try.prog wS = .ok (.string S2) wS := by
                have := (bytesIn_of (HD2.out.below hSw)).convert (P := Try.prog) (by simp) e2 39 5 9 Try.underlying39 Try.underlying5 Try.underlying9
                rw [HS2.out, Hm2.out] at this
                exact this
              go_simp
              try with_reducible rfl
            try simp only [la0, la1, la2, Act.put, la3, la4, la5]
            refine wpAnyH_take (i := 24) (v := ?_) rfl (by kernel_rfl) (by kernel_rfl) (by kernel_rfl) (fun _ _ _ h => h) (Or.inl ⟨by rfl, ?_⟩) Hd ?_
            rotate_left
            · intro wS hSw
              go_simp
              try with_reducible rfl
            try simp only [la0, la1, la2, Act.put, la3, la4, la5]
            refine wpAnyH_take (i := 25) (v := ?_) rfl (by kernel_rfl) (by kernel_rfl) (by kernel_rfl) (fun _ _ _ h => h) (Or.inl ⟨by rfl, ?_⟩) Hd ?_
            rotate_left
            · intro wS hSw
              go_simp
              try with_reducible rfl
            try simp only [la0, la1, la2, Act.put, la3, la4, la5]
            refine wpAnyH_done (by kernel_rfl) ?_ _
            have HY := Hd
            have hB2 := Lib.hid (below_of hBw.out HY hBw.out.size)
            go_wp2_with (fail)
            go_ret
            exact ⟨ret_bool (by rw [← HR.out]; exact (Mir.sameI_bad Hx.out Hy.out (by cases e : Mir.itEq (s1, d1) (s2, d2) with | false => rfl | true => have := Mir.itEq_iff.1 e; exact absurd (congrArg Prod.snd this) Hd'.out)).symm), hB2.out⟩
        · rw [decide_eq_false hs] at gN
          have Hs := Lib.hid hs
          clear hs
          go_upto_region 6 with (fail)
          refine wp_region_held_drew (S := fun W => Below wk.heap.size wk W) (by kernel_rfl) (below_drewN (Below.refl _ _) 1) (fun Hd => ?_)
          have Hd : Below wk.heap.size wk wk.drew := below_drewN (Below.refl _ _) 1
          have Zd : wk.heap.size ≤ wk.drew.heap.size := Nat.le_refl _
          generalize World.drew wk = wd at *
          refine wpAnyH_take (i := 0) (v := ?_) rfl (by kernel_rfl) (by kernel_rfl) (by kernel_rfl) (fun _ _ _ h => h) (Or.inl ⟨by rfl, ?_⟩) Hd ?_
          rotate_left
          · intro wS hSw
            go_simp
            try with_reducible rfl
          try simp only [la0, la1, la2, Act.put, la3, la4, la5]
          refine wpAnyH_take (i := 1) (v := ?_) rfl (by kernel_rfl) (by kernel_rfl) (by kernel_rfl) (fun _ _ _ h => h) (Or.inl ⟨by rfl, ?_⟩) Hd ?_
          rotate_left
          · intro wS hSw
            go_simp
            try with_reducible rfl
          try simp only [la0, la1, la2, Act.put, la3, la4, la5]
          refine wpAnyH_take (i := 2) (v := ?_) rfl (by kernel_rfl) (by kernel_rfl) (by kernel_rfl) (fun _ _ _ h => h) (Or.inl ⟨by rfl, ?_⟩) Hd ?_
          rotate_left
          · intro wS hSw
            go_simp
            try with_reducible rfl
          try simp only [la0, la1, la2, Act.put, la3, la4, la5]
          refine wpAnyH_take (i := 3) (v := ?_) rfl (by kernel_rfl) (by kernel_rfl) (by kernel_rfl) (fun _ _ _ h => h) (Or.inl ⟨by rfl, ?_⟩) Hd ?_
          rotate_left
          · intro wS hSw
            go_simp
            try with_reducible rfl
          try simp only [la0, la1, la2, Act.put, la3, la4, la5]
          refine wpAnyH_take (i := 4) (v := ?_) rfl (by kernel_rfl) (by kernel_rfl) (by kernel_rfl) (fun _ _ _ h => h) (Or.inl ⟨by rfl, ?_⟩) Hd ?_
          rotate_left
          · intro wS hSw
            have cc := (hSw.cell (p := ⟨b1, o1 + k * 2, none⟩) hb1).trans x0
            go_simp
            try with_reducible rfl
          try simp only [la0, la1, la2, Act.put, la3, la4, la5]
          refine wpAnyH_take (i := 5) (v := ?_) rfl (by kernel_rfl) (by kernel_rfl) (by kernel_rfl) (fun _ _ _ h => h) (Or.inl ⟨by rfl, ?_⟩) Hd ?_
          rotate_left
          · intro wS hSw
            go_simp
            try with_reducible rfl
          try simp only [la0, la1, la2, Act.put, la3, la4, la5]
          refine wpAnyH_take (i := 6) (v := ?_) rfl (by kernel_rfl) (by kernel_rfl) (by kernel_rfl) (fun _ _ _ h => h) (Or.inl ⟨by rfl, ?_⟩) Hd ?_
          rotate_left
          · intro wS hSw
            go_simp
            try with_reducible rfl
          try simp only [la0, la1, la2, Act.put, la3, la4, la5]
          refine wpAnyH_take (i := 7) (v := ?_) rfl (by kernel_rfl) (by kernel_rfl) (by kernel_rfl) (fun _ _ _ h => h) (Or.inl ⟨by rfl, ?_⟩) Hd ?_
          rotate_left
          · intro wS hSw
            go_simp
            try with_reducible rfl
          try simp only [la0, la1, la2, Act.put, la3, la4, la5]
          refine wpAnyH_take (i := 8) (v := ?_) rfl (by kernel_rfl) (by kernel_rfl) (by kernel_rfl) (fun _ _ _ h => h) (Or.inl ⟨by rfl, ?_⟩) Hd ?_
          rotate_left
          · intro wS hSw
            go_simp
            try with_reducible rfl
          try simp only [la0, la1, la2, Act.put, la3, la4, la5]
          refine wpAnyH_take (i := 9) (v := ?_) rfl (by kernel_rfl) (by kernel_rfl) (by kernel_rfl) (fun _ _ _ h => h) (Or.inl ⟨by rfl, ?_⟩) Hd ?_
          rotate_left
          · intro wS hSw
            have cc := (hSw.cell (p := ⟨b2, o2 + k * 2, none⟩) hb2).trans y0
            go_simp
            try with_reducible rfl
          try simp only [la0, la1, la2, Act.put, la3, la4, la5]
          refine wpAnyH_take (i := 10) (v := ?_) rfl (by kernel_rfl) (by kernel_rfl) (by kernel_rfl) (fun _ _ _ h => h) (Or.inl ⟨by rfl, ?_⟩) Hd ?_
          rotate_left
          · intro wS hSw
            go_simp
            try with_reducible rfl
          try simp only [la0, la1, la2, Act.put, la3, la4, la5]
          refine wpAnyH_take (i := 11) (v := ?_) rfl (by kernel_rfl) (by kernel_rfl) (by kernel_rfl) (fun _ _ _ h => h) (Or.inl ⟨by rfl, ?_⟩) Hd ?_
          rotate_left
          · intro wS hSw
            go_simp
            try with_reducible rfl
          try simp only [la0, la1, la2, Act.put, la3, la4, la5]
          refine wpAnyH_take (i := 12) (v := undef) rfl (by kernel_rfl) (by kernel_rfl) (by kernel_rfl) (fun _ _ _ h => h) (Or.inr ⟨by rfl, rfl⟩) Hd ?_
          try simp only [la0, la1, la2, Act.put, la3, la4, la5]
          refine wpAnyH_take (i := 13) (v := undef) rfl (by kernel_rfl) (by kernel_rfl) (by kernel_rfl) (fun _ _ _ h => h) (Or.inr ⟨by rfl, rfl⟩) Hd ?_
          try simp only [la0, la1, la2, Act.put, la3, la4, la5]
          refine wpAnyH_take (i := 14) (v := undef) rfl (by kernel_rfl) (by kernel_rfl) (by kernel_rfl) (fun _ _ _ h => h) (Or.inr ⟨by rfl, rfl⟩) Hd ?_
          try simp only [la0, la1, la2, Act.put, la3, la4, la5]
          refine wpAnyH_take (i := 15) (v := undef) rfl (by kernel_rfl) (by kernel_rfl) (by kernel_rfl) (fun _ _ _ h => h) (Or.inr ⟨by rfl, rfl⟩) Hd ?_
          try simp only [la0, la1, la2, Act.put, la3, la4, la5]
          refine wpAnyH_take (i := 16) (v := undef) rfl (by kernel_rfl) (by kernel_rfl) (by kernel_rfl) (fun _ _ _ h => h) (Or.inr ⟨by rfl, rfl⟩) Hd ?_
          try simp only [la0, la1, la2, Act.put, la3, la4, la5]
          refine wpAnyH_take (i := 17) (v := undef) rfl (by kernel_rfl) (by kernel_rfl) (by kernel_rfl) (fun _ _ _ h => h) (Or.inr ⟨by rfl, rfl⟩) Hd ?_
          try simp only [la0, la1, la2, Act.put, la3, la4, la5]
          refine wpAnyH_take (i := 18) (v := undef) rfl (by kernel_rfl) (by kernel_rfl) (by kernel_rfl) (fun _ _ _ h => h) (Or.inr ⟨by rfl, rfl⟩) Hd ?_
          try simp only [la0, la1, la2, Act.put, la3, la4, la5]
          refine wpAnyH_take (i := 19) (v := undef) rfl (by kernel_rfl) (by kernel_rfl) (by kernel_rfl) (fun _ _ _ h => h) (Or.inr ⟨by rfl, rfl⟩) Hd ?_
          try simp only [la0, la1, la2, Act.put, la3, la4, la5]
          refine wpAnyH_take (i := 20) (v := undef) rfl (by kernel_rfl) (by kernel_rfl) (by kernel_rfl) (fun _ _ _ h => h) (Or.inr ⟨by rfl, rfl⟩) Hd ?_
          try simp only [la0, la1, la2, Act.put, la3, la4, la5]
          refine wpAnyH_take (i := 21) (v := undef) rfl (by kernel_rfl) (by kernel_rfl) (by kernel_rfl) (fun _ _ _ h => h) (Or.inr ⟨by rfl, rfl⟩) Hd ?_
          try simp only [la0, la1, la2, Act.put, la3, la4, la5]
          refine wpAnyH_take (i := 22) (v := undef) rfl (by kernel_rfl) (by kernel_rfl) (by kernel_rfl) (fun _ _ _ h => h) (Or.inr ⟨by rfl, rfl⟩) Hd ?_
          try simp only [la0, la1, la2, Act.put, la3, la4, la5]
          refine wpAnyH_take (i := 23) (v := undef) rfl (by kernel_rfl) (by kernel_rfl) (by kernel_rfl) (fun _ _ _ h => h) (Or.inr ⟨by rfl, rfl⟩) Hd ?_
          try simp only [la0, la1, la2, Act.put, la3, la4, la5]
          refine wpAnyH_take (i := 24) (v := undef) rfl (by kernel_rfl) (by kernel_rfl) (by kernel_rfl) (fun _ _ _ h => h) (Or.inr ⟨by rfl, rfl⟩) Hd ?_
          try simp only [la0, la1, la2, Act.put, la3, la4, la5]
          refine wpAnyH_take (i := 25) (v := ?_) rfl (by kernel_rfl) (by kernel_rfl) (by kernel_rfl) (fun _ _ _ h => h) (Or.inl ⟨by rfl, ?_⟩) Hd ?_
          rotate_left
          · intro wS hSw
            go_simp
            try with_reducible rfl
          try simp only [la0, la1, la2, Act.put, la3, la4, la5]
          refine wpAnyH_done (by kernel_rfl) ?_ _
          have HY := Hd
          have hB2 := Lib.hid (below_of hBw.out HY hBw.out.size)
          go_wp2_with (fail)
          go_ret
          exact ⟨ret_bool (by rw [← HR.out]; exact (Mir.sameI_bad Hx.out Hy.out (by cases e : Mir.itEq (s1, d1) (s2, d2) with | false => rfl | true => have := Mir.itEq_iff.1 e; exact absurd (congrArg Prod.fst this) Hs.out)).symm), hB2.out⟩
      · obtain rfl : k = n := by omega
        go_wp2_with (fail)
        go_ret
        exact ⟨ret_bool (by rw [← HR.out]; exact (Mir.sameI_good (by rw [Ha.out, Hb.out]) (fun j x y h1 h2 => hg.out j x y (by have := (List.getElem?_eq_some_iff.1 h1).1; rwa [Ha.out] at this) h1 h2)).symm), hBw.out⟩
  · have dne : ((n : Int) == (m : Int)) = false := by simp; omega
    have dne2 : ((n : Int) != (m : Int)) = true := by simp; omega
    go_enter Try.func17, Try.ntmps17
    go_wp2_with (fail)
    go_ret
    exact ⟨ret_bool (by rw [← HR.out]; exact (Mir.sameI_len (by rw [Ha.out, Hb.out]; exact hnm)).symm), Below.refl _ _⟩
end Go.Proofs.Ytkflpoiobpblhaa
namespace Go.Proofs.Ytkflpoiobpblhaa
open Go.RowKit
set_option linter.unusedVariables false
set_option linter.unusedSimpArgs false
end Go.Proofs.Ytkflpoiobpblhaa
