/- Walks and plain laws that the statement rests on: MSame, MSf. -/
import Derived.Deep.RegionHeld3
import Derived.Test.YtkflpoiobpblhaaP00
import Derived.Test.YtkflpoiobpblhaaP03
import Derived.Test.YtkflpoiobpblhaaP40
import Derived.Test.YtkflpoiobpblhaaP41
namespace Go.Proofs.Ytkflpoiobpblhaa
open Go.RowKit Go.Shelf
set_option linter.unusedVariables false
set_option linter.unusedSimpArgs false
namespace Mir
def sameI (a b : List It) : Bool := decide (a.length = b.length) && (a.zip b).all fun p => itEq p.1 p.2
theorem sameI_len {a b : List It} (h : a.length ≠ b.length) : sameI a b = false := by unfold sameI; rw [decide_eq_false h]; rfl
theorem sameI_bad {a b : List It} {k : Nat} {x y : It} (hx : a[k]? = some x) (hy : b[k]? = some y) (h : itEq x y = false) : sameI a b = false := by
  unfold sameI
  rw [few_bad (f := fun p : It × It => itEq p.1 p.2) (k := k) (x := (x, y)) (by rw [List.getElem?_zip_eq_some]; exact ⟨hx, hy⟩) h, Bool.and_false]
theorem sameI_good {a b : List It} (hl : a.length = b.length) (h : ∀ (k : Nat) (x y : It), a[k]? = some x → b[k]? = some y → itEq x y = true) : sameI a b = true := by
  unfold sameI
  rw [decide_eq_true hl, Bool.true_and]
  refine few_at fun k p hk hp => ?_
  obtain ⟨x, y⟩ := p
  rw [List.getElem?_zip_eq_some] at hp
  exact h k x y hp.1 hp.2
theorem sameI_self (a : List It) : sameI a a = true := sameI_good rfl fun k x y h1 h2 => by rw [h1] at h2; cases h2; exact itEq_iff.2 rfl
end Mir
theorem str_eq {x y : List Nat} (h1 : ∀ b ∈ x, b < 256) (h2 : ∀ b ∈ y, b < 256) : ((strOfNums (x.map Int.ofNat)).toList == (strOfNums (y.map Int.ofNat)).toList) = decide (x = y) := by
  rw [Lib.strOfNums_toList, Lib.strOfNums_toList]
  exact bytesOf_eq h1 h2
theorem name_eq (x y : ByteArray) : (x.toList == y.toList) = decide (x = y) := by
  by_cases h : x = y
  · subst h; simp
  · rw [decide_eq_false h]
    simp only [beq_eq_false_iff_ne, ne_eq]
    intro e
    rw [ByteArray.toList_eq, ByteArray.toList_eq] at e
    exact h (ByteArray.ext (Array.toList_inj.1 e))
set_option maxRecDepth 100000 in
set_option maxHeartbeats 4000000 in
theorem rsame_any (A B : Option Addr) (n m c d : Nat) (a b : List Mir.It) (w : World) (ha : a.length = n) (hb : b.length = m) (hn : n ≤ 9223372036854775807) (hA : ItemsC w A a) (hB : ItemsC w B b) :
    Calls Try.prog 17 #[.slice A n c, .slice B m d] w fun e w' => e = .returned (.bool (Mir.sameI a b)) ∧ Below w.heap.size w w' := by
  have HA := Lib.hid hA
  have HB := Lib.hid hB
  have Ha := Lib.hid ha
  have Hb := Lib.hid hb
  obtain ⟨R, hR⟩ : ∃ R, Mir.sameI a b = R := ⟨_, rfl⟩
  rw [hR]
  have HR := Lib.hid hR
  clear hA hB ha hb hR
  by_cases hnm : n = m
  · subst hnm
    go_enter Try.func17, Try.ntmps17
    go_wp2_with (fail)
    go_loopw [5] (fun i wr => ∃ k : Nat, k ≤ n ∧ i = .int .i64 k ∧ Hid (Below w.heap.size w wr) ∧ Hid (∀ j x y, j < k → a[j]? = some x → b[j]? = some y → Mir.itEq x y = true)) (fun i _ => n - (intOf i).toNat)
    case atStart => exact ⟨0, by omega, rfl, Lib.hid (Below.refl _ _), Lib.hid (fun j x y h => by omega)⟩
    case round =>
      obtain ⟨wk, rfl⟩ : ∃ v : World, v = wr := ⟨_, rfl⟩
      obtain ⟨k, hk, rfl, hBw, hg⟩ := hrel
      by_cases hlt : k < n
      · obtain ⟨⟨s1, d1⟩, hx⟩ := getElem?_lt (l := a) (k := k) (by rw [Ha.out]; exact hlt)
        obtain ⟨⟨s2, d2⟩, hy⟩ := getElem?_lt (l := b) (k := k) (by rw [Hb.out]; exact hlt)
        obtain ⟨b1, o1, rfl, hb1, hc1⟩ := (HA.out.below hBw.out).at_ (by rw [Ha.out]; omega)
        obtain ⟨b2, o2, rfl, hb2, hc2⟩ := (HB.out.below hBw.out).at_ (by rw [Hb.out]; omega)
        obtain ⟨D1, e1, x0, x1, -, -, hD1, h81⟩ := hc1 _ _ hx
        obtain ⟨D2, e2, y0, y1, -, -, hD2, h82⟩ := hc2 _ _ hy
        simp only [] at x0 x1 y0 y1 hD1 hD2 h81 h82
        have Hx := Lib.hid hx
        have Hy := Lib.hid hy
        have HD1 := Lib.hid hD1
        have HD2 := Lib.hid hD2
        have Hse := Lib.hid (str_eq h81 h82)
        obtain ⟨S1, hS1⟩ : ∃ S, strOfNums (d1.map Int.ofNat) = S := ⟨_, rfl⟩
        obtain ⟨S2, hS2⟩ : ∃ S, strOfNums (d2.map Int.ofNat) = S := ⟨_, rfl⟩
        rw [hS1, hS2] at Hse
        have HS1 := Lib.hid hS1
        have HS2 := Lib.hid hS2
        have gN := name_eq s1 s2
        clear hc1 hc2 hx hy hD1 hD2 h81 h82 hS1 hS2
        obtain ⟨m1, hm1⟩ : ∃ n, d1.length = n := ⟨_, rfl⟩
        obtain ⟨m2, hm2⟩ : ∃ n, d2.length = n := ⟨_, rfl⟩
        rw [hm1] at x1
        rw [hm2] at y1
        have Hm1 := Lib.hid hm1
        have Hm2 := Lib.hid hm2
        clear hm1 hm2
        by_cases hs : s1 = s2
        · rw [decide_eq_true hs] at gN
          have Hs := Lib.hid hs
          clear hs
          by_cases hd : d1 = d2
          · have gD : (S1.toList == S2.toList) = true := by rw [Hse.out]; exact decide_eq_true hd
            have Hd' := Lib.hid hd
            clear hd
            go_upto_region 6 with (fail)
            refine wp_region_held_drew (S := fun W => Below wk.heap.size wk W) (by kernel_rfl) (below_drewN (Below.refl _ _) 1) (fun Hd => ?_)
            have Hd : Below wk.heap.size wk wk.drew := below_drewN (Below.refl _ _) 1
            have Zd : wk.heap.size ≤ wk.drew.heap.size := Nat.le_refl _
            generalize World.drew wk = wd at *
            refine wpAnyH_take (i := 0) (v := ?_) rfl (by kernel_rfl) (by kernel_rfl) (by kernel_rfl) (fun _ _ _ h => h) (Or.inl ⟨by rfl, ?_⟩) Hd ?_
            rotate_left
            · intro wS hSw
              go_simp
              try with_reducible rfl
            try simp only [la0, la1, la2, Act.put, la3, la4, la5]
            refine wpAnyH_take (i := 1) (v := ?_) rfl (by kernel_rfl) (by kernel_rfl) (by kernel_rfl) (fun _ _ _ h => h) (Or.inl ⟨by rfl, ?_⟩) Hd ?_
            rotate_left
            · intro wS hSw
              go_simp
              try with_reducible rfl
            try simp only [la0, la1, la2, Act.put, la3, la4, la5]
            refine wpAnyH_take (i := 2) (v := ?_) rfl (by kernel_rfl) (by kernel_rfl) (by kernel_rfl) (fun _ _ _ h => h) (Or.inl ⟨by rfl, ?_⟩) Hd ?_
            rotate_left
            · intro wS hSw
              go_simp
              try with_reducible rfl
            try simp only [la0, la1, la2, Act.put, la3, la4, la5]
            refine wpAnyH_take (i := 3) (v := ?_) rfl (by kernel_rfl) (by kernel_rfl) (by kernel_rfl) (fun _ _ _ h => h) (Or.inl ⟨by rfl, ?_⟩) Hd ?_
            rotate_left
            · intro wS hSw
              go_simp
              try with_reducible rfl
            try simp only [la0, la1, la2, Act.put, la3, la4, la5]
            refine wpAnyH_take (i := 4) (v := ?_) rfl (by kernel_rfl) (by kernel_rfl) (by kernel_rfl) (fun _ _ _ h => h) (Or.inl ⟨by rfl, ?_⟩) Hd ?_
            rotate_left
            · intro wS hSw
              have cc := (hSw.cell (p := ⟨b1, o1 + k * 2, none⟩) hb1).trans x0
              go_simp
              try with_reducible rfl
            try simp only [la0, la1, la2, Act.put, la3, la4, la5]
            refine wpAnyH_take (i := 5) (v := ?_) rfl (by kernel_rfl) (by kernel_rfl) (by kernel_rfl) (fun _ _ _ h => h) (Or.inl ⟨by rfl, ?_⟩) Hd ?_
            rotate_left
            · intro wS hSw
              go_simp
              try with_reducible rfl
            try simp only [la0, la1, la2, Act.put, la3, la4, la5]
            refine wpAnyH_take (i := 6) (v := ?_) rfl (by kernel_rfl) (by kernel_rfl) (by kernel_rfl) (fun _ _ _ h => h) (Or.inl ⟨by rfl, ?_⟩) Hd ?_
            rotate_left
            · intro wS hSw
              go_simp
              try with_reducible rfl
            try simp only [la0, la1, la2, Act.put, la3, la4, la5]
            refine wpAnyH_take (i := 7) (v := ?_) rfl (by kernel_rfl) (by kernel_rfl) (by kernel_rfl) (fun _ _ _ h => h) (Or.inl ⟨by rfl, ?_⟩) Hd ?_
            rotate_left
            · intro wS hSw
              go_simp
              try with_reducible rfl
            try simp only [la0, la1, la2, Act.put, la3, la4, la5]
            refine wpAnyH_take (i := 8) (v := ?_) rfl (by kernel_rfl) (by kernel_rfl) (by kernel_rfl) (fun _ _ _ h => h) (Or.inl ⟨by rfl, ?_⟩) Hd ?_
            rotate_left
            · intro wS hSw
              go_simp
              try with_reducible rfl
            try simp only [la0, la1, la2, Act.put, la3, la4, la5]
            refine wpAnyH_take (i := 9) (v := ?_) rfl (by kernel_rfl) (by kernel_rfl) (by kernel_rfl) (fun _ _ _ h => h) (Or.inl ⟨by rfl, ?_⟩) Hd ?_
            rotate_left
            · intro wS hSw
              have cc := (hSw.cell (p := ⟨b2, o2 + k * 2, none⟩) hb2).trans y0
              go_simp
              try with_reducible rfl
            try simp only [la0, la1, la2, Act.put, la3, la4, la5]
            refine wpAnyH_take (i := 10) (v := ?_) rfl (by kernel_rfl) (by kernel_rfl) (by kernel_rfl) (fun _ _ _ h => h) (Or.inl ⟨by rfl, ?_⟩) Hd ?_
            rotate_left
            · intro wS hSw
              go_simp
              try with_reducible rfl
            try simp only [la0, la1, la2, Act.put, la3, la4, la5]
            refine wpAnyH_take (i := 11) (v := ?_) rfl (by kernel_rfl) (by kernel_rfl) (by kernel_rfl) (fun _ _ _ h => h) (Or.inl ⟨by rfl, ?_⟩) Hd ?_
            rotate_left
            · intro wS hSw
              go_simp
              try with_reducible rfl
            try simp only [la0, la1, la2, Act.put, la3, la4, la5]
            refine wpAnyH_take (i := 12) (v := ?_) rfl (by kernel_rfl) (by kernel_rfl) (by kernel_rfl) (fun _ _ _ h => h) (Or.inl ⟨by rfl, ?_⟩) Hd ?_
            rotate_left
            · intro wS hSw
              go_simp
              try with_reducible rfl
            try simp only [la0, la1, la2, Act.put, la3, la4, la5]
            refine wpAnyH_take (i := 13) (v := ?_) rfl (by kernel_rfl) (by kernel_rfl) (by kernel_rfl) (fun _ _ _ h => h) (Or.inl ⟨by rfl, ?_⟩) Hd ?_
            rotate_left
            · intro wS hSw
              go_simp
              try with_reducible rfl
            try simp only [la0, la1, la2, Act.put, la3, la4, la5]
            refine wpAnyH_take (i := 14) (v := ?_) rfl (by kernel_rfl) (by kernel_rfl) (by kernel_rfl) (fun _ _ _ h => h) (Or.inl ⟨by rfl, ?_⟩) Hd ?_
            rotate_left
            · intro wS hSw
              go_simp
              try with_reducible rfl
            try simp only [la0, la1, la2, Act.put, la3, la4, la5]
            refine wpAnyH_take (i := 15) (v := ?_) rfl (by kernel_rfl) (by kernel_rfl) (by kernel_rfl) (fun _ _ _ h => h) (Or.inl ⟨by rfl, ?_⟩) Hd ?_
            rotate_left
            · intro wS hSw
              go_simp
              try with_reducible rfl
            try simp only [la0, la1, la2, Act.put, la3, la4, la5]
            refine wpAnyH_take (i := 16) (v := ?_) rfl (by kernel_rfl) (by kernel_rfl) (by kernel_rfl) (fun _ _ _ h => h) (Or.inl ⟨by rfl, ?_⟩) Hd ?_
            rotate_left
            · intro wS hSw
              have cc := (hSw.cell (p := ⟨b1, o1 + k * 2 + 1, none⟩) hb1).trans x1
              go_simp
              try with_reducible rfl
            try simp only [la0, la1, la2, Act.put, la3, la4, la5]
            refine wpAnyH_take (i := 17) (v := ?_) rfl (by kernel_rfl) (by kernel_rfl) (by kernel_rfl) (fun _ _ _ h => h) (Or.inl ⟨by rfl, ?_⟩) Hd ?_
            rotate_left
            · intro wS hSw
              have cv : (convert 39 9 (.slice D1 m1 e1)).run Try.prog wS = .ok (.string S1) wS := by
                have := (bytesIn_of (HD1.out.below hSw)).convert (P := Try.prog) (by simp) e1 39 5 9 Try.underlying39 Try.underlying5 Try.underlying9
                rw [HS1.out, Hm1.out] at this
                exact this
              go_simp
              try with_reducible rfl
            try simp only [la0, la1, la2, Act.put, la3, la4, la5]
            refine wpAnyH_take (i := 18) (v := ?_) rfl (by kernel_rfl) (by kernel_rfl) (by kernel_rfl) (fun _ _ _ h => h) (Or.inl ⟨by rfl, ?_⟩) Hd ?_
            rotate_left
            · intro wS hSw
              go_simp
              try with_reducible rfl
            try simp only [la0, la1, la2, Act.put, la3, la4, la5]
            refine wpAnyH_take (i := 19) (v := ?_) rfl (by kernel_rfl) (by kernel_rfl) (by kernel_rfl) (fun _ _ _ h => h) (Or.inl ⟨by rfl, ?_⟩) Hd ?_
            rotate_left
            · intro wS hSw
              go_simp
              try with_reducible rfl
            try simp only [la0, la1, la2, Act.put, la3, la4, la5]
            refine wpAnyH_take (i := 20) (v := ?_) rfl (by kernel_rfl) (by kernel_rfl) (by kernel_rfl) (fun _ _ _ h => h) (Or.inl ⟨by rfl, ?_⟩) Hd ?_
            rotate_left
            · intro wS hSw
              go_simp
              try with_reducible rfl
            try simp only [la0, la1, la2, Act.put, la3, la4, la5]
            refine wpAnyH_take (i := 21) (v := ?_) rfl (by kernel_rfl) (by kernel_rfl) (by kernel_rfl) (fun _ _ _ h => h) (Or.inl ⟨by rfl, ?_⟩) Hd ?_
            rotate_left
            · intro wS hSw
              go_simp
              try with_reducible rfl
            try simp only [la0, la1, la2, Act.put, la3, la4, la5]
            refine wpAnyH_take (i := 22) (v := ?_) rfl (by kernel_rfl) (by kernel_rfl) (by kernel_rfl) (fun _ _ _ h => h) (Or.inl ⟨by rfl, ?_⟩) Hd ?_
            rotate_left
            · intro wS hSw
              have cc := (hSw.cell (p := ⟨b2, o2 + k * 2 + 1, none⟩) hb2).trans y1
              go_simp
              try with_reducible rfl
            try simp only [la0, la1, la2, Act.put, la3, la4, la5]
            refine wpAnyH_take (i := 23) (v := ?_) rfl (by kernel_rfl) (by kernel_rfl) (by kernel_rfl) (fun _ _ _ h => h) (Or.inl ⟨by rfl, ?_⟩) Hd ?_
            rotate_left
            · intro wS hSw
              have cv : (convert 39 9 (.slice D2 m2 e2)).run Try.prog wS = .ok (.string S2) wS := by
                have := (bytesIn_of (HD2.out.below hSw)).convert (P := Try.prog) (by simp) e2 39 5 9 Try.underlying39 Try.underlying5 Try.underlying9
                rw [HS2.out, Hm2.out] at this
                exact this
              go_simp
              try with_reducible rfl
            try simp only [la0, la1, la2, Act.put, la3, la4, la5]
            refine wpAnyH_take (i := 24) (v := ?_) rfl (by kernel_rfl) (by kernel_rfl) (by kernel_rfl) (fun _ _ _ h => h) (Or.inl ⟨by rfl, ?_⟩) Hd ?_
            rotate_left
            · intro wS hSw
              go_simp
              try with_reducible rfl
            try simp only [la0, la1, la2, Act.put, la3, la4, la5]
            refine wpAnyH_take (i := 25) (v := ?_) rfl (by kernel_rfl) (by kernel_rfl) (by kernel_rfl) (fun _ _ _ h => h) (Or.inl ⟨by rfl, ?_⟩) Hd ?_
            rotate_left
            · intro wS hSw
              go_simp
              try with_reducible rfl
            try simp only [la0, la1, la2, Act.put, la3, la4, la5]
            refine wpAnyH_done (by kernel_rfl) ?_ _
            have HY := Hd
            have hB2 := Lib.hid (below_of hBw.out HY hBw.out.size)
            go_wp2_with (fail)
            go_roundw
            case rel => exact ⟨k + 1, by omega, by go_num, hB2, Lib.hid (fun j x y hj h1 h2 => by
              rcases Nat.lt_or_eq_of_le (Nat.le_of_lt_succ hj) with h | rfl
              · exact hg.out j x y h h1 h2
              · rw [Hx.out] at h1; rw [Hy.out] at h2; cases h1; cases h2
                exact Mir.itEq_iff.2 (Prod.ext Hs.out Hd'.out))⟩
            case measure => simp [intOf]; omega
          · have gD : (S1.toList == S2.toList) = false := by rw [Hse.out]; exact decide_eq_false hd
            have Hd' := Lib.hid hd
            clear hd
            go_upto_region 6 with (fail)
            refine wp_region_held_drew (S := fun W => Below wk.heap.size wk W) (by kernel_rfl) (below_drewN (Below.refl _ _) 1) (fun Hd => ?_)
            have Hd : Below wk.heap.size wk wk.drew := below_drewN (Below.refl _ _) 1
            have Zd : wk.heap.size ≤ wk.drew.heap.size := Nat.le_refl _
            generalize World.drew wk = wd at *
            refine wpAnyH_take (i := 0) (v := ?_) rfl (by kernel_rfl) (by kernel_rfl) (by kernel_rfl) (fun _ _ _ h => h) (Or.inl ⟨by rfl, ?_⟩) Hd ?_
            rotate_left
            · intro wS hSw
              go_simp
              try with_reducible rfl
            try simp only [la0, la1, la2, Act.put, la3, la4, la5]
            refine wpAnyH_take (i := 1) (v := ?_) rfl (by kernel_rfl) (by kernel_rfl) (by kernel_rfl) (fun _ _ _ h => h) (Or.inl ⟨by rfl, ?_⟩) Hd ?_
            rotate_left
            · intro wS hSw
              go_simp
              try with_reducible rfl
            try simp only [la0, la1, la2, Act.put, la3, la4, la5]
            refine wpAnyH_take (i := 2) (v := ?_) rfl (by kernel_rfl) (by kernel_rfl) (by kernel_rfl) (fun _ _ _ h => h) (Or.inl ⟨by rfl, ?_⟩) Hd ?_
            rotate_left
            · intro wS hSw
              go_simp
              try with_reducible rfl
            try simp only [la0, la1, la2, Act.put, la3, la4, la5]
            refine wpAnyH_take (i := 3) (v := ?_) rfl (by kernel_rfl) (by kernel_rfl) (by kernel_rfl) (fun _ _ _ h => h) (Or.inl ⟨by rfl, ?_⟩) Hd ?_
            rotate_left
            · intro wS hSw
              go_simp
              try with_reducible rfl
            try simp only [la0, la1, la2, Act.put, la3, la4, la5]
            refine wpAnyH_take (i := 4) (v := ?_) rfl (by kernel_rfl) (by kernel_rfl) (by kernel_rfl) (fun _ _ _ h => h) (Or.inl ⟨by rfl, ?_⟩) Hd ?_
            rotate_left
            · intro wS hSw
              have cc := (hSw.cell (p := ⟨b1, o1 + k * 2, none⟩) hb1).trans x0
              go_simp
              try with_reducible rfl
            try simp only [la0, la1, la2, Act.put, la3, la4, la5]
            refine wpAnyH_take (i := 5) (v := ?_) rfl (by kernel_rfl) (by kernel_rfl) (by kernel_rfl) (fun _ _ _ h => h) (Or.inl ⟨by rfl, ?_⟩) Hd ?_
            rotate_left
            · intro wS hSw
              go_simp
              try with_reducible rfl
            try simp only [la0, la1, la2, Act.put, la3, la4, la5]
            refine wpAnyH_take (i := 6) (v := ?_) rfl (by kernel_rfl) (by kernel_rfl) (by kernel_rfl) (fun _ _ _ h => h) (Or.inl ⟨by rfl, ?_⟩) Hd ?_
            rotate_left
            · intro wS hSw
              go_simp
              try with_reducible rfl
            try simp only [la0, la1, la2, Act.put, la3, la4, la5]
            refine wpAnyH_take (i := 7) (v := ?_) rfl (by kernel_rfl) (by kernel_rfl) (by kernel_rfl) (fun _ _ _ h => h) (Or.inl ⟨by rfl, ?_⟩) Hd ?_
            rotate_left
            · intro wS hSw
              go_simp
              try with_reducible rfl
            try simp only [la0, la1, la2, Act.put, la3, la4, la5]
            refine wpAnyH_take (i := 8) (v := ?_) rfl (by kernel_rfl) (by kernel_rfl) (by kernel_rfl) (fun _ _ _ h => h) (Or.inl ⟨by rfl, ?_⟩) Hd ?_
            rotate_left
            · intro wS hSw
              go_simp
              try with_reducible rfl
            try simp only [la0, la1, la2, Act.put, la3, la4, la5]
            refine wpAnyH_take (i := 9) (v := ?_) rfl (by kernel_rfl) (by kernel_rfl) (by kernel_rfl) (fun _ _ _ h => h) (Or.inl ⟨by rfl, ?_⟩) Hd ?_
            rotate_left
            · intro wS hSw
              have cc := (hSw.cell (p := ⟨b2, o2 + k * 2, none⟩) hb2).trans y0
              go_simp
              try with_reducible rfl
            try simp only [la0, la1, la2, Act.put, la3, la4, la5]
            refine wpAnyH_take (i := 10) (v := ?_) rfl (by kernel_rfl) (by kernel_rfl) (by kernel_rfl) (fun _ _ _ h => h) (Or.inl ⟨by rfl, ?_⟩) Hd ?_
            rotate_left
            · intro wS hSw
              go_simp
              try with_reducible rfl
            try simp only [la0, la1, la2, Act.put, la3, la4, la5]
            refine wpAnyH_take (i := 11) (v := ?_) rfl (by kernel_rfl) (by kernel_rfl) (by kernel_rfl) (fun _ _ _ h => h) (Or.inl ⟨by rfl, ?_⟩) Hd ?_
            rotate_left
            · intro wS hSw
              go_simp
              try with_reducible rfl
            try simp only [la0, la1, la2, Act.put, la3, la4, la5]
            refine wpAnyH_take (i := 12) (v := ?_) rfl (by kernel_rfl) (by kernel_rfl) (by kernel_rfl) (fun _ _ _ h => h) (Or.inl ⟨by rfl, ?_⟩) Hd ?_
            rotate_left
            · intro wS hSw
              go_simp
              try with_reducible rfl
            try simp only [la0, la1, la2, Act.put, la3, la4, la5]
            refine wpAnyH_take (i := 13) (v := ?_) rfl (by kernel_rfl) (by kernel_rfl) (by kernel_rfl) (fun _ _ _ h => h) (Or.inl ⟨by rfl, ?_⟩) Hd ?_
            rotate_left
            · intro wS hSw
              go_simp
              try with_reducible rfl
            try simp only [la0, la1, la2, Act.put, la3, la4, la5]
            refine wpAnyH_take (i := 14) (v := ?_) rfl (by kernel_rfl) (by kernel_rfl) (by kernel_rfl) (fun _ _ _ h => h) (Or.inl ⟨by rfl, ?_⟩) Hd ?_
            rotate_left
            · intro wS hSw
              go_simp
              try with_reducible rfl
            try simp only [la0, la1, la2, Act.put, la3, la4, la5]
            refine wpAnyH_take (i := 15) (v := ?_) rfl (by kernel_rfl) (by kernel_rfl) (by kernel_rfl) (fun _ _ _ h => h) (Or.inl ⟨by rfl, ?_⟩) Hd ?_
            rotate_left
            · intro wS hSw
              go_simp
              try with_reducible rfl
            try simp only [la0, la1, la2, Act.put, la3, la4, la5]
            refine wpAnyH_take (i := 16) (v := ?_) rfl (by kernel_rfl) (by kernel_rfl) (by kernel_rfl) (fun _ _ _ h => h) (Or.inl ⟨by rfl, ?_⟩) Hd ?_
            rotate_left
            · intro wS hSw
              have cc := (hSw.cell (p := ⟨b1, o1 + k * 2 + 1, none⟩) hb1).trans x1
              go_simp
              try with_reducible rfl
            try simp only [la0, la1, la2, Act.put, la3, la4, la5]
            refine wpAnyH_take (i := 17) (v := ?_) rfl (by kernel_rfl) (by kernel_rfl) (by kernel_rfl) (fun _ _ _ h => h) (Or.inl ⟨by rfl, ?_⟩) Hd ?_
            rotate_left
            · intro wS hSw
              have cv : (convert 39 9 (.slice D1 m1 e1)).run Try.prog wS = .ok (.string S1) wS := by
                have := (bytesIn_of (HD1.out.below hSw)).convert (P := Try.prog) (by simp) e1 39 5 9 Try.underlying39 Try.underlying5 Try.underlying9
                rw [HS1.out, Hm1.out] at this
                exact this
              go_simp
              try with_reducible rfl
            try simp only [la0, la1, la2, Act.put, la3, la4, la5]
            refine wpAnyH_take (i := 18) (v := ?_) rfl (by kernel_rfl) (by kernel_rfl) (by kernel_rfl) (fun _ _ _ h => h) (Or.inl ⟨by rfl, ?_⟩) Hd ?_
            rotate_left
            · intro wS hSw
              go_simp
              try with_reducible rfl
            try simp only [la0, la1, la2, Act.put, la3, la4, la5]
            refine wpAnyH_take (i := 19) (v := ?_) rfl (by kernel_rfl) (by kernel_rfl) (by kernel_rfl) (fun _ _ _ h => h) (Or.inl ⟨by rfl, ?_⟩) Hd ?_
            rotate_left
            · intro wS hSw
              go_simp
              try with_reducible rfl
            try simp only [la0, la1, la2, Act.put, la3, la4, la5]
            refine wpAnyH_take (i := 20) (v := ?_) rfl (by kernel_rfl) (by kernel_rfl) (by kernel_rfl) (fun _ _ _ h => h) (Or.inl ⟨by rfl, ?_⟩) Hd ?_
            rotate_left
            · intro wS hSw
              go_simp
              try with_reducible rfl
            try simp only [la0, la1, la2, Act.put, la3, la4, la5]
            refine wpAnyH_take (i := 21) (v := ?_) rfl (by kernel_rfl) (by kernel_rfl) (by kernel_rfl) (fun _ _ _ h => h) (Or.inl ⟨by rfl, ?_⟩) Hd ?_
            rotate_left
            · intro wS hSw
              go_simp
              try with_reducible rfl
            try simp only [la0, la1, la2, Act.put, la3, la4, la5]
            refine wpAnyH_take (i := 22) (v := ?_) rfl (by kernel_rfl) (by kernel_rfl) (by kernel_rfl) (fun _ _ _ h => h) (Or.inl ⟨by rfl, ?_⟩) Hd ?_
            rotate_left
            · intro wS hSw
              have cc := (hSw.cell (p := ⟨b2, o2 + k * 2 + 1, none⟩) hb2).trans y1
              go_simp
              try with_reducible rfl
            try simp only [la0, la1, la2, Act.put, la3, la4, la5]
            refine wpAnyH_take (i := 23) (v := ?_) rfl (by kernel_rfl) (by kernel_rfl) (by kernel_rfl) (fun _ _ _ h => h) (Or.inl ⟨by rfl, ?_⟩) Hd ?_
            rotate_left
            · intro wS hSw
              have cv : (convert 39 9 (.slice D2 m2 e2)).run Try.prog wS = .ok (.string S2) wS := by
                have := (bytesIn_of (HD2.out.below hSw)).convert (P := Try.prog) (by simp) e2 39 5 9 Try.underlying39 Try.underlying5 Try.underlying9
                rw [HS2.out, Hm2.out] at this
                exact this
              go_simp
              try with_reducible rfl
            try simp only [la0, la1, la2, Act.put, la3, la4, la5]
            refine wpAnyH_take (i := 24) (v := ?_) rfl (by kernel_rfl) (by kernel_rfl) (by kernel_rfl) (fun _ _ _ h => h) (Or.inl ⟨by rfl, ?_⟩) Hd ?_
            rotate_left
            · intro wS hSw
              go_simp
              try with_reducible rfl
            try simp only [la0, la1, la2, Act.put, la3, la4, la5]
            refine wpAnyH_take (i := 25) (v := ?_) rfl (by kernel_rfl) (by kernel_rfl) (by kernel_rfl) (fun _ _ _ h => h) (Or.inl ⟨by rfl, ?_⟩) Hd ?_
            rotate_left
            · intro wS hSw
              go_simp
              try with_reducible rfl
            try simp only [la0, la1, la2, Act.put, la3, la4, la5]
            refine wpAnyH_done (by kernel_rfl) ?_ _
            have HY := Hd
            have hB2 := Lib.hid (below_of hBw.out HY hBw.out.size)
            go_wp2_with (fail)
            go_ret
            exact ⟨ret_bool (by rw [← HR.out]; exact (Mir.sameI_bad Hx.out Hy.out (by cases e : Mir.itEq (s1, d1) (s2, d2) with | false => rfl | true => have := Mir.itEq_iff.1 e; exact absurd (congrArg Prod.snd this) Hd'.out)).symm), hB2.out⟩
        · rw [decide_eq_false hs] at gN
          have Hs := Lib.hid hs
          clear hs
          go_upto_region 6 with (fail)
          refine wp_region_held_drew (S := fun W => Below wk.heap.size wk W) (by kernel_rfl) (below_drewN (Below.refl _ _) 1) (fun Hd => ?_)
          have Hd : Below wk.heap.size wk wk.drew := below_drewN (Below.refl _ _) 1
          have Zd : wk.heap.size ≤ wk.drew.heap.size := Nat.le_refl _
          generalize World.drew wk = wd at *
          refine wpAnyH_take (i := 0) (v := ?_) rfl (by kernel_rfl) (by kernel_rfl) (by kernel_rfl) (fun _ _ _ h => h) (Or.inl ⟨by rfl, ?_⟩) Hd ?_
          rotate_left
          · intro wS hSw
            go_simp
            try with_reducible rfl
          try simp only [la0, la1, la2, Act.put, la3, la4, la5]
          refine wpAnyH_take (i := 1) (v := ?_) rfl (by kernel_rfl) (by kernel_rfl) (by kernel_rfl) (fun _ _ _ h => h) (Or.inl ⟨by rfl, ?_⟩) Hd ?_
          rotate_left
          · intro wS hSw
            go_simp
            try with_reducible rfl
          try simp only [la0, la1, la2, Act.put, la3, la4, la5]
          refine wpAnyH_take (i := 2) (v := ?_) rfl (by kernel_rfl) (by kernel_rfl) (by kernel_rfl) (fun _ _ _ h => h) (Or.inl ⟨by rfl, ?_⟩) Hd ?_
          rotate_left
          · intro wS hSw
            go_simp
            try with_reducible rfl
          try simp only [la0, la1, la2, Act.put, la3, la4, la5]
          refine wpAnyH_take (i := 3) (v := ?_) rfl (by kernel_rfl) (by kernel_rfl) (by kernel_rfl) (fun _ _ _ h => h) (Or.inl ⟨by rfl, ?_⟩) Hd ?_
          rotate_left
          · intro wS hSw
            go_simp
            try with_reducible rfl
          try simp only [la0, la1, la2, Act.put, la3, la4, la5]
          refine wpAnyH_take (i := 4) (v := ?_) rfl (by kernel_rfl) (by kernel_rfl) (by kernel_rfl) (fun _ _ _ h => h) (Or.inl ⟨by rfl, ?_⟩) Hd ?_
          rotate_left
          · intro wS hSw
            have cc := (hSw.cell (p := ⟨b1, o1 + k * 2, none⟩) hb1).trans x0
            go_simp
            try with_reducible rfl
          try simp only [la0, la1, la2, Act.put, la3, la4, la5]
          refine wpAnyH_take (i := 5) (v := ?_) rfl (by kernel_rfl) (by kernel_rfl) (by kernel_rfl) (fun _ _ _ h => h) (Or.inl ⟨by rfl, ?_⟩) Hd ?_
          rotate_left
          · intro wS hSw
            go_simp
            try with_reducible rfl
          try simp only [la0, la1, la2, Act.put, la3, la4, la5]
          refine wpAnyH_take (i := 6) (v := ?_) rfl (by kernel_rfl) (by kernel_rfl) (by kernel_rfl) (fun _ _ _ h => h) (Or.inl ⟨by rfl, ?_⟩) Hd ?_
          rotate_left
          · intro wS hSw
            go_simp
            try with_reducible rfl
          try simp only [la0, la1, la2, Act.put, la3, la4, la5]
          refine wpAnyH_take (i := 7) (v := ?_) rfl (by kernel_rfl) (by kernel_rfl) (by kernel_rfl) (fun _ _ _ h => h) (Or.inl ⟨by rfl, ?_⟩) Hd ?_
          rotate_left
          · intro wS hSw
            go_simp
            try with_reducible rfl
          try simp only [la0, la1, la2, Act.put, la3, la4, la5]
          refine wpAnyH_take (i := 8) (v := ?_) rfl (by kernel_rfl) (by kernel_rfl) (by kernel_rfl) (fun _ _ _ h => h) (Or.inl ⟨by rfl, ?_⟩) Hd ?_
          rotate_left
          · intro wS hSw
            go_simp
            try with_reducible rfl
          try simp only [la0, la1, la2, Act.put, la3, la4, la5]
          refine wpAnyH_take (i := 9) (v := ?_) rfl (by kernel_rfl) (by kernel_rfl) (by kernel_rfl) (fun _ _ _ h => h) (Or.inl ⟨by rfl, ?_⟩) Hd ?_
          rotate_left
          · intro wS hSw
            have cc := (hSw.cell (p := ⟨b2, o2 + k * 2, none⟩) hb2).trans y0
            go_simp
            try with_reducible rfl
          try simp only [la0, la1, la2, Act.put, la3, la4, la5]
          refine wpAnyH_take (i := 10) (v := ?_) rfl (by kernel_rfl) (by kernel_rfl) (by kernel_rfl) (fun _ _ _ h => h) (Or.inl ⟨by rfl, ?_⟩) Hd ?_
          rotate_left
          · intro wS hSw
            go_simp
            try with_reducible rfl
          try simp only [la0, la1, la2, Act.put, la3, la4, la5]
          refine wpAnyH_take (i := 11) (v := ?_) rfl (by kernel_rfl) (by kernel_rfl) (by kernel_rfl) (fun _ _ _ h => h) (Or.inl ⟨by rfl, ?_⟩) Hd ?_
          rotate_left
          · intro wS hSw
            go_simp
            try with_reducible rfl
          try simp only [la0, la1, la2, Act.put, la3, la4, la5]
          refine wpAnyH_take (i := 12) (v := undef) rfl (by kernel_rfl) (by kernel_rfl) (by kernel_rfl) (fun _ _ _ h => h) (Or.inr ⟨by rfl, rfl⟩) Hd ?_
          try simp only [la0, la1, la2, Act.put, la3, la4, la5]
          refine wpAnyH_take (i := 13) (v := undef) rfl (by kernel_rfl) (by kernel_rfl) (by kernel_rfl) (fun _ _ _ h => h) (Or.inr ⟨by rfl, rfl⟩) Hd ?_
          try simp only [la0, la1, la2, Act.put, la3, la4, la5]
          refine wpAnyH_take (i := 14) (v := undef) rfl (by kernel_rfl) (by kernel_rfl) (by kernel_rfl) (fun _ _ _ h => h) (Or.inr ⟨by rfl, rfl⟩) Hd ?_
          try simp only [la0, la1, la2, Act.put, la3, la4, la5]
          refine wpAnyH_take (i := 15) (v := undef) rfl (by kernel_rfl) (by kernel_rfl) (by kernel_rfl) (fun _ _ _ h => h) (Or.inr ⟨by rfl, rfl⟩) Hd ?_
          try simp only [la0, la1, la2, Act.put, la3, la4, la5]
          refine wpAnyH_take (i := 16) (v := undef) rfl (by kernel_rfl) (by kernel_rfl) (by kernel_rfl) (fun _ _ _ h => h) (Or.inr ⟨by rfl, rfl⟩) Hd ?_
          try simp only [la0, la1, la2, Act.put, la3, la4, la5]
          refine wpAnyH_take (i := 17) (v := undef) rfl (by kernel_rfl) (by kernel_rfl) (by kernel_rfl) (fun _ _ _ h => h) (Or.inr ⟨by rfl, rfl⟩) Hd ?_
          try simp only [la0, la1, la2, Act.put, la3, la4, la5]
          refine wpAnyH_take (i := 18) (v := undef) rfl (by kernel_rfl) (by kernel_rfl) (by kernel_rfl) (fun _ _ _ h => h) (Or.inr ⟨by rfl, rfl⟩) Hd ?_
          try simp only [la0, la1, la2, Act.put, la3, la4, la5]
          refine wpAnyH_take (i := 19) (v := undef) rfl (by kernel_rfl) (by kernel_rfl) (by kernel_rfl) (fun _ _ _ h => h) (Or.inr ⟨by rfl, rfl⟩) Hd ?_
          try simp only [la0, la1, la2, Act.put, la3, la4, la5]
          refine wpAnyH_take (i := 20) (v := undef) rfl (by kernel_rfl) (by kernel_rfl) (by kernel_rfl) (fun _ _ _ h => h) (Or.inr ⟨by rfl, rfl⟩) Hd ?_
          try simp only [la0, la1, la2, Act.put, la3, la4, la5]
          refine wpAnyH_take (i := 21) (v := undef) rfl (by kernel_rfl) (by kernel_rfl) (by kernel_rfl) (fun _ _ _ h => h) (Or.inr ⟨by rfl, rfl⟩) Hd ?_
          try simp only [la0, la1, la2, Act.put, la3, la4, la5]
          refine wpAnyH_take (i := 22) (v := undef) rfl (by kernel_rfl) (by kernel_rfl) (by kernel_rfl) (fun _ _ _ h => h) (Or.inr ⟨by rfl, rfl⟩) Hd ?_
          try simp only [la0, la1, la2, Act.put, la3, la4, la5]
          refine wpAnyH_take (i := 23) (v := undef) rfl (by kernel_rfl) (by kernel_rfl) (by kernel_rfl) (fun _ _ _ h => h) (Or.inr ⟨by rfl, rfl⟩) Hd ?_
          try simp only [la0, la1, la2, Act.put, la3, la4, la5]
          refine wpAnyH_take (i := 24) (v := undef) rfl (by kernel_rfl) (by kernel_rfl) (by kernel_rfl) (fun _ _ _ h => h) (Or.inr ⟨by rfl, rfl⟩) Hd ?_
          try simp only [la0, la1, la2, Act.put, la3, la4, la5]
          refine wpAnyH_take (i := 25) (v := ?_) rfl (by kernel_rfl) (by kernel_rfl) (by kernel_rfl) (fun _ _ _ h => h) (Or.inl ⟨by rfl, ?_⟩) Hd ?_
          rotate_left
          · intro wS hSw
            go_simp
            try with_reducible rfl
          try simp only [la0, la1, la2, Act.put, la3, la4, la5]
          refine wpAnyH_done (by kernel_rfl) ?_ _
          have HY := Hd
          have hB2 := Lib.hid (below_of hBw.out HY hBw.out.size)
          go_wp2_with (fail)
          go_ret
          exact ⟨ret_bool (by rw [← HR.out]; exact (Mir.sameI_bad Hx.out Hy.out (by cases e : Mir.itEq (s1, d1) (s2, d2) with | false => rfl | true => have := Mir.itEq_iff.1 e; exact absurd (congrArg Prod.fst this) Hs.out)).symm), hB2.out⟩
      · obtain rfl : k = n := by omega
        go_wp2_with (fail)
        go_ret
        exact ⟨ret_bool (by rw [← HR.out]; exact (Mir.sameI_good (by rw [Ha.out, Hb.out]) (fun j x y h1 h2 => hg.out j x y (by have := (List.getElem?_eq_some_iff.1 h1).1; rwa [Ha.out] at this) h1 h2)).symm), hBw.out⟩
  · have dne : ((n : Int) == (m : Int)) = false := by simp; omega
    have dne2 : ((n : Int) != (m : Int)) = true := by simp; omega
    go_enter Try.func17, Try.ntmps17
    go_wp2_with (fail)
    go_ret
    exact ⟨ret_bool (by rw [← HR.out]; exact (Mir.sameI_len (by rw [Ha.out, Hb.out]; exact hnm)).symm), Below.refl _ _⟩
end Go.Proofs.Ytkflpoiobpblhaa
namespace Go.Proofs.Ytkflpoiobpblhaa
open Go.RowKit
set_option linter.unusedVariables false
set_option linter.unusedSimpArgs false
theorem fol_range {w w' : World} {f : Mir.Fo} {F : Array Value} {X : Nat} {t : TypeId} (hF : FolC w f F) (hX : Blk w' X t F) : w'.rangeAt X 0 (f.pub.map fun (n : Nat) => Value.int .u8 (n : Int)) := fun i u hu => by
  obtain ⟨A, ca, B, cb, hFe, hd, -⟩ := hF
  have hi : i < 32 := by have := (List.getElem?_eq_some_iff.1 hu).1; rw [List.length_map, hd.1] at this; exact this
  rw [Nat.zero_add, hX.cell i, hFe, Mir.folA_low hd.1 _ _ _ _ hi, ← Array.getElem?_toList, arrK_toList]
  exact hu
set_option maxRecDepth 100000 in
set_option maxHeartbeats 4000000 in
theorem rsameF_empty (f : Mir.Fo) (F G : Array Value) (w : World) (hF : FolC w f F) (hG : FolC w f G) (hi : f.it = []) (he : f.ea = []) :
    Calls Try.prog 18 #[.agg F, .agg G] w fun e w' => e = .returned (.bool true) ∧ Below w.heap.size w w' := by
  have HF := Lib.hid hF
  have HG := Lib.hid hG
  obtain ⟨A, ca, B, cb, hFe, hd, hA, hB, -⟩ := hF
  obtain ⟨A2, ca2, B2, cb2, hGe, -, hA2, hB2, -⟩ := hG
  rw [hi] at hFe hGe hA hA2
  rw [he] at hFe hGe
  simp only [List.length_nil] at hFe hGe
  obtain ⟨many, hmany⟩ : ∃ m, f.many = m := ⟨_, rfl⟩
  obtain ⟨no, hno⟩ : ∃ m, f.no = m := ⟨_, rfl⟩
  rw [hmany, hno] at hFe hGe
  have f32 : F[32]? = some (.int .i64 many) := by rw [hFe]; exact Mir.folA_hi hd.1 _ _ _ _ 0
  have f33 : F[33]? = some (.int .i64 no) := by rw [hFe]; exact Mir.folA_hi hd.1 _ _ _ _ 1
  have f34 : F[34]? = some (.slice A 0 ca) := by rw [hFe]; exact Mir.folA_hi hd.1 _ _ _ _ 2
  have f35 : F[35]? = some (.slice B 0 cb) := by rw [hFe]; exact Mir.folA_hi hd.1 _ _ _ _ 3
  have g32 : G[32]? = some (.int .i64 many) := by rw [hGe]; exact Mir.folA_hi hd.1 _ _ _ _ 0
  have g33 : G[33]? = some (.int .i64 no) := by rw [hGe]; exact Mir.folA_hi hd.1 _ _ _ _ 1
  have g34 : G[34]? = some (.slice A2 0 ca2) := by rw [hGe]; exact Mir.folA_hi hd.1 _ _ _ _ 2
  have g35 : G[35]? = some (.slice B2 0 cb2) := by rw [hGe]; exact Mir.folA_hi hd.1 _ _ _ _ 3
  have Hd := Lib.hid hd
  have hEq : ∀ W, (Op.equalIn 10000 28 (.agg (f.pub.map fun (n : Nat) => Value.int .u8 (n : Int)).toArray) (.agg (f.pub.map fun (n : Nat) => Value.int .u8 (n : Int)).toArray)).run Try.prog W = .ok true W := fun W => by
    have := run_eqD hd hd W
    rw [decide_eq_true rfl] at this
    have e : arrK .u8 f.pub = (f.pub.map fun (n : Nat) => Value.int .u8 (n : Int)).toArray := by rw [← arrK_toList]
    rw [← e]
    exact this
  have HSm := Lib.hid (fun W h1 h2 => rsame_any A A2 0 0 ca ca2 [] [] W rfl rfl (by omega) h1 h2)
  have HA := Lib.hid hA
  have HA2 := Lib.hid hA2
  clear hFe hGe hd hA hA2 hB hB2 hi he hmany hno
  go_enter Try.func18, Try.ntmps18
  go_upto_region 1 with (fail)
  generalize hge : World.alloc (World.alloc _ _) _ = w1
  have HX := Lib.hid (show Blk w1 w.heap.size 50 F by subst hge; exact (blk_two w F G 50 50).1)
  have HY := Lib.hid (show Blk w1 (w.heap.size + 1) 50 G by subst hge; exact (blk_two w F G 50 50).2)
  have HB := Lib.hid (show Below w.heap.size w w1 by subst hge; exact ((Below.refl _ _).alloc (Nat.le_refl _) _).alloc (by simp) _)
  clear hge
  have x32 : w1.cell? ⟨w.heap.size, 32, none⟩ = some (.int .i64 many) := (HX.out.cell 32).trans f32
  have x33 : w1.cell? ⟨w.heap.size, 33, none⟩ = some (.int .i64 no) := (HX.out.cell 33).trans f33
  have x34 : w1.cell? ⟨w.heap.size, 34, none⟩ = some (.slice A 0 ca) := (HX.out.cell 34).trans f34
  have y32 : w1.cell? ⟨w.heap.size + 1, 32, none⟩ = some (.int .i64 many) := (HY.out.cell 32).trans g32
  have y33 : w1.cell? ⟨w.heap.size + 1, 33, none⟩ = some (.int .i64 no) := (HY.out.cell 33).trans g33
  have y34 : w1.cell? ⟨w.heap.size + 1, 34, none⟩ = some (.slice A2 0 ca2) := (HY.out.cell 34).trans g34
  have R1 := Lib.hid (fol_range HF.out HX.out)
  have R2 := Lib.hid (fol_range HG.out HY.out)
  go_wp2_with (first
    | (refine wpList_load_mid rfl 28 (.tmp 6) rfl w.heap.size 0 rfl (f.pub.map fun (n : Nat) => Value.int .u8 (n : Int)) (.array 32 5) R1.out (by kernel_rfl) rfl (dV_info Hd.out.1) ?_)
    | (refine wpList_load_mid rfl 28 (.tmp 8) rfl (w.heap.size + 1) 0 rfl (f.pub.map fun (n : Nat) => Value.int .u8 (n : Int)) (.array 32 5) R2.out (by kernel_rfl) rfl (dV_info Hd.out.1) ?_))
  refine (HSm.out w1 (HA.out.below HB.out) (HA2.out.below HB.out)).mono ?_
  rintro e w2 ⟨rfl, hb2⟩
  rw [Mir.sameI_self]
  have HX2 := Lib.hid (HX.out.below hb2)
  have HY2 := Lib.hid (HY.out.below hb2)
  have HB2 := Lib.hid (below_of HB.out hb2 HB.out.size)
  have z35 : w2.cell? ⟨w.heap.size, 35, none⟩ = some (.slice B 0 cb) := (HX2.out.cell 35).trans f35
  have u35 : w2.cell? ⟨w.heap.size + 1, 35, none⟩ = some (.slice B2 0 cb2) := (HY2.out.cell 35).trans g35
  clear hb2 x32 x33 x34 y32 y33 y34 R1 R2 HX HY HB
  go_wp2_with (fail)
  go_loopw [5] (fun i wr => i = .int .i64 0 ∧ wr = w2) (fun _ _ => 0)
  case atStart => exact ⟨rfl, rfl⟩
  case round =>
    obtain ⟨rfl, rfl⟩ := hrel
    go_wp2_with (fail)
    go_ret
    exact ⟨rfl, HB2.out⟩
end Go.Proofs.Ytkflpoiobpblhaa
