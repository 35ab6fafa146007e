/- The statement CalendarPointsCardSaid: unions contain exactly the days of their intervals, are separated, their own union, and depend neither on order nor on repetition; no condition beside the row's own (the table of the months' lengths, tied by the given card). -/
import Derived.Test.YtlijdbgknbeefaaDoorCalX
import Derived.Test.YtlijdbgknbeefaaDoorIvM
import Derived.Deep.RegionHeld3
namespace Go.Proofs.YtlijdbgknbeefaaDoor
open Go.RowKit Go.WideShapes Go.ChangeShapes Go.ChangeAt
theorem cellk {W W' : World} {a : Addr} {v : Value} (hb : Below W.heap.size W W') (h : W.cell? a = some v) : W'.cell? a = some v := (hb.cell (World.block_lt_of_cell? W a h)).trans h
theorem cells_new (w : World) (cs : Array Value) (t : TypeId) : Cells (w.alloc (.cells cs t)) (some ⟨w.heap.size, 0, none⟩) cs.toList :=
  .inr ⟨w.heap.size, 0, rfl, by simp, fun j u hu => by rw [Nat.zero_add, (Blk.new w t cs).cell j]; simpa using hu⟩
theorem cells_blkI {w : World} {g : Nat} {t : TypeId} {cs : Array Value} (h : Blk w g t cs) : Cells w (some ⟨g, 0, none⟩) cs.toList :=
  .inr ⟨g, 0, rfl, h.lt, fun j u hu => by rw [Nat.zero_add, h.cell j]; simpa using hu⟩
/-- The days that are tried. -/
def dayL : List (Int × Int) → List Int
  | [] => []
  | i :: l => i.1 :: i.2 :: (i.1 - 1) :: (i.2 + 1) :: dayL l
theorem dayL_append : ∀ l m, dayL (l ++ m) = dayL l ++ dayL m
  | [], _ => rfl
  | i :: l, m => by simp [dayL, dayL_append l m]
theorem dayL_length : ∀ l, (dayL l).length = 4 * l.length
  | [] => rfl
  | i :: l => by simp only [dayL, List.length_cons, dayL_length l]; omega
theorem pair_at {u : List (Int × Int)} (h : u.Pairwise (fun a b => a.2 + 1 < b.1)) {k : Nat} {a b : Int × Int} (ha : u[k]? = some a) (hb : u[k + 1]? = some b) : a.2 + 1 < b.1 := by
  obtain ⟨h1, e1⟩ := List.getElem?_eq_some_iff.1 ha
  obtain ⟨h2, e2⟩ := List.getElem?_eq_some_iff.1 hb
  have := List.pairwise_iff_getElem.1 h k (k + 1) h1 h2 (by omega)
  rwa [e1, e2] at this
def intV (l : List Int) : List Value := l.map (Value.int .i64)
theorem turned_mem {l : List (Int × Int)} {i : Nat} {a : Int × Int} (ha : l[i]? = some a) : ∀ x, x ∈ l.drop i ++ l.take i ++ [a] ↔ x ∈ l := by
  intro x
  have hl : l = l.take i ++ l.drop i := (List.take_append_drop i l).symm
  constructor
  · intro h
    rcases List.mem_append.1 h with h | h
    · rcases List.mem_append.1 h with h | h
      · exact List.mem_of_mem_drop h
      · exact List.mem_of_mem_take h
    · rw [List.mem_singleton] at h; rw [h]; exact List.mem_of_getElem? ha
  · intro h
    rw [hl] at h
    rcases List.mem_append.1 h with h | h
    · exact List.mem_append_left _ (List.mem_append_right _ h)
    · exact List.mem_append_left _ (List.mem_append_left _ h)
theorem turned_union {l u v : List (Int × Int)} {i : Nat} {a : Int × Int} (ha : l[i]? = some a) (h : Iv.IsUnion l u) (h' : Iv.IsUnion (l.drop i ++ l.take i ++ [a]) v) : v = u :=
  Iv.union_one h' (Iv.union_same h (Iv.inU_mem fun x => (turned_mem ha x).symm) (by simp; omega) (by
    constructor
    · intro e; rw [e] at ha; simp at ha
    · intro e; exact absurd e (by simp)))
theorem turned_all {l : List (Int × Int)} {i : Nat} {a : Int × Int} (ha : l[i]? = some a) (h : allI l = true) : allI (l.drop i ++ l.take i ++ [a]) = true :=
  List.all_eq_true.2 fun x hx => List.all_eq_true.1 h x ((turned_mem ha x).1 hx)
def Apart (v : Value) (b : Nat) : Prop := v.ownBlock ≠ some b
theorem apart_lit {g b n c : Nat} (h : b < g) : Apart (.slice (some ⟨g, 0, none⟩) n c) b := by
  intro e
  simp [Value.ownBlock] at e
  omega
theorem apart_new {w : World} {base : Nat} {e : TypeId} {size : Nat} {v : Value} {n : Nat} {xs : List Value} (h : w.ownsRow base e size v n xs) : Apart v w.heap.size := by
  intro e
  have := (h.lt _ e).2
  omega
theorem apart_sits {v v' : Value} {w : World} {b : Nat} (hs : Sits v v' w) (ha : Apart v b) (hb : b < w.heap.size) : Apart v' b := by
  rcases hs with h | ⟨g, h, hg⟩
  · unfold Apart; rw [h]; exact ha
  · unfold Apart; rw [h]
    intro e
    cases e
    omega
set_option linter.unusedVariables false
set_option linter.unusedSimpArgs false
set_option maxRecDepth 100000 in
set_option maxHeartbeats 16000000 in
theorem CalendarPoints_walk (w : World) (hL : Lens w) (A : Option Addr) (len c : Nat) (l : List (Int × Int)) (hl : l.length = len) (hlc : len ≤ c) (hcm : c ≤ maxLen) (hC : IvC w A l) (hwf : ∀ i ∈ l, (Lit.int .i64 i.1).wf = true ∧ (Lit.int .i64 i.2).wf = true)
    (n : Int) (wn : (Lit.int .i64 n).wf = true) (at_ : Int) (wat : (Lit.int .u64 at_).wf = true) :
    Calls Tryd.prog 7 #[.slice A len c, .int .i64 n, .int .u64 at_] w (Fine w) := by
  have HL := Lib.hid hL
  have HC := Lib.hid hC
  have Hl := Lib.hid hl
  have Hcm := Lib.hid hcm
  have hat0 := bounds_u64 wat
  clear hL hC hl hwf wn hcm wat
  by_cases hbig : 40 < len
  · have q1 : decide ((40 : Int) < (len : Int)) = true := by simp; omega
    have q2 : decide (40 < len) = true := by simpa using hbig
    go_enter Tryd.func7, Tryd.ntmps7
    go_wp2_with (fail)
    refine (csane_any w HL.out).mono ?_
    rintro e w1 ⟨rfl, hb1⟩
    go_wp2_with (fail)
    go_ret
    exact ⟨rfl, hb1⟩
  · have q1 : decide ((40 : Int) < (len : Int)) = false := by simp; omega
    have q2 : decide (40 < len) = false := by simpa using hbig
    have hlen : len ≤ 40 := by omega
    clear hbig
    go_enter Tryd.func7, Tryd.ntmps7
    go_wp2_with (fail)
    refine (csane_any w HL.out).mono ?_
    rintro e w1 ⟨rfl, hb1⟩
    have HB1 := Lib.hid hb1
    clear hb1
    go_wp2_with (fail)
    refine (Union_any A len c l w1 Hl.out (by omega) (HC.out.below HB1.out)).mono ?_
    rintro e w2 (⟨hal, A1, c1, u, rfl, hu, hc1, hc2, hC2, hb2⟩ | ⟨hal, rfl, hb2⟩)
    rotate_left
    · have HB2 := Lib.hid (below_of HB1.out hb2 HB1.out.size)
      clear hb2
      go_wp2_with (fail)
      go_ret
      exact ⟨rfl, HB2.out⟩
    · have Hal := Lib.hid hal
      have Hu := Lib.hid hu
      have HC2 := Lib.hid hC2
      have HB2 := Lib.hid (below_of HB1.out hb2 HB1.out.size)
      have hul := Nat.le_trans hu.2.2.2.1 (Nat.le_of_eq Hl.out)
      obtain ⟨m, hm⟩ : ∃ m, u.length = m := ⟨_, rfl⟩
      have Hm := Lib.hid hm
      rw [hm] at hul hc1 ⊢
      clear hal hu hC2 hb2 hm hc2
      go_wp2_with (fail)
      generalize hge : World.alloc _ _ = w3
      have Hown3 := Lib.hid (show w3.ownsRow w2.heap.size 3 1 (.slice (some ⟨w2.heap.size, 0, none⟩) 1 1) 1 (intV [n]) by
        subst hge
        exact World.ownsRow_lit (e := 3) (size := 1) w2 #[.int .i64 n] 1 (Nat.le_refl _) (by unfold maxLen; omega) rfl)
      have HB3 := Lib.hid (show Below w2.heap.size w2 w3 by subst hge; exact (Below.refl _ _).alloc (Nat.le_refl _) _)
      clear hge
      go_loopw [9, 10] (fun v i wr => ∃ (k : Nat) (A5 : Option Addr) (c5 : Nat), k ≤ len ∧ i = .int .i64 k ∧ v = .slice A5 (1 + 4 * k) c5 ∧ Hid (wr.ownsRow w2.heap.size 3 1 (.slice A5 (1 + 4 * k) c5) (1 + 4 * k) (intV (n :: dayL (l.take k)))) ∧ Hid (Below w2.heap.size w2 wr)) (fun _ i _ => len - (intOf i).toNat)
      case atStart => exact ⟨0, _, 1, by omega, rfl, rfl, Hown3.out, HB3.out⟩
      case round =>
        obtain ⟨k, A5, c5, hk, rfl, rfl, hown, hB⟩ := hrel
        obtain ⟨wq, rfl⟩ : ∃ wq : World, wq = wr := ⟨_, rfl⟩
        by_cases hlt : k < len
        · have hdk : decide ((k : Int) < (len : Int)) = true := by simp; omega
          have hkI : (k : Int) < (len : Int) := by omega
          obtain ⟨⟨x, y⟩, hx⟩ := getElem?_lt (l := l) (k := k) (by rw [Hl.out]; exact hlt)
          obtain ⟨b, off, rfl, hb, hcs⟩ := HC.out.at_ (by rw [Hl.out]; omega)
          have hb2 : b < w2.heap.size := Nat.lt_of_lt_of_le hb HB2.out.size
          have k1 : w2.cell? ⟨b, off + k * 2, none⟩ = some (.int .i64 x) := (HB2.out.cell (p := ⟨b, off + k * 2, none⟩) hb).trans (hcs k _ hx).1
          have k2 : w2.cell? ⟨b, off + k * 2 + 1, none⟩ = some (.int .i64 y) := (HB2.out.cell (p := ⟨b, off + k * 2 + 1, none⟩) hb).trans (hcs k _ hx).2
          obtain ⟨x1, x2, x3, x4, x5⟩ := (Iv.okI_iff _).1 (List.all_eq_true.1 Hal.out _ (List.mem_of_getElem? hx))
          simp only [] at x1 x2 x3 x4 x5
          have s1 : IntKind.i64.wrap (x - 1) = x - 1 := IntWalk.i64_in _ (by omega)
          have s2 : IntKind.i64.wrap (y + 1) = y + 1 := IntWalk.i64_in _ (by omega)
          have Hrow := Lib.hid (show intV (n :: dayL (l.take (k + 1))) = intV (n :: dayL (l.take k)) ++ [.int .i64 x, .int .i64 y, .int .i64 (x - 1), .int .i64 (y + 1)] by rw [take_snoc hx, dayL_append]; simp [intV, dayL])
          clear hcs hx
          go_upto_region 12 with (fail)
          refine wp_region_held_drew (S := fun W => Below w2.heap.size w2 W) (by kernel_rfl) (below_drewN hB.out 1) (fun Hd => ?_)
          have Hd : Below w2.heap.size w2 wq.drew := below_drewN hB.out 1
          have Zd : w2.heap.size ≤ wq.drew.heap.size := hB.out.size
          have fl : wq.drew.ownsRow w2.heap.size 3 1 (.slice A5 (1 + 4 * k) c5) (1 + 4 * k) (intV (n :: dayL (l.take k))) := hown.out
          generalize World.drew wq = wd at *
          refine wpAnyH_take (i := 0) (v := ?_) rfl (by kernel_rfl) (by kernel_rfl) (by kernel_rfl) (fun _ _ _ h => h) (Or.inl ⟨by rfl, ?_⟩) Hd ?_
          rotate_left
          · intro wS hSw
            go_simp
            try with_reducible rfl
          try simp only [List.getElem_toArray, List.getElem_cons_zero, List.getElem_cons_succ, Act.put, List.setIfInBounds_toArray, List.set_cons_zero, List.set_cons_succ]
          refine wpAnyH_take (i := 1) (v := ?_) rfl (by kernel_rfl) (by kernel_rfl) (by kernel_rfl) (fun _ _ _ h => h) (Or.inl ⟨by rfl, ?_⟩) Hd ?_
          rotate_left
          · intro wS hSw
            go_simp
            try with_reducible rfl
          try simp only [List.getElem_toArray, List.getElem_cons_zero, List.getElem_cons_succ, Act.put, List.setIfInBounds_toArray, List.set_cons_zero, List.set_cons_succ]
          refine wpAnyH_take (i := 2) (v := ?_) rfl (by kernel_rfl) (by kernel_rfl) (by kernel_rfl) (fun _ _ _ h => h) (Or.inl ⟨by rfl, ?_⟩) Hd ?_
          rotate_left
          · intro wS hSw
            go_simp
            try with_reducible rfl
          try simp only [List.getElem_toArray, List.getElem_cons_zero, List.getElem_cons_succ, Act.put, List.setIfInBounds_toArray, List.set_cons_zero, List.set_cons_succ]
          refine wpAnyH_take (i := 3) (v := ?_) rfl (by kernel_rfl) (by kernel_rfl) (by kernel_rfl) (fun _ _ _ h => h) (Or.inl ⟨by rfl, ?_⟩) Hd ?_
          rotate_left
          · intro wS hSw
            go_simp
            try with_reducible rfl
          try simp only [List.getElem_toArray, List.getElem_cons_zero, List.getElem_cons_succ, Act.put, List.setIfInBounds_toArray, List.set_cons_zero, List.set_cons_succ]
          refine wpAnyH_take (i := 4) (v := ?_) rfl (by kernel_rfl) (by kernel_rfl) (by kernel_rfl) (fun _ _ _ h => h) (Or.inl ⟨by rfl, ?_⟩) Hd ?_
          rotate_left
          · intro wS hSw
            go_simp
            try with_reducible rfl
          try simp only [List.getElem_toArray, List.getElem_cons_zero, List.getElem_cons_succ, Act.put, List.setIfInBounds_toArray, List.set_cons_zero, List.set_cons_succ]
          refine wpAnyH_take (i := 5) (v := ?_) rfl (by kernel_rfl) (by kernel_rfl) (by kernel_rfl) (fun _ _ _ h => h) (Or.inl ⟨by rfl, ?_⟩) Hd ?_
          rotate_left
          · intro wS hSw
            have c1' := (hSw.cell (p := ⟨b, off + k * 2, none⟩) hb2).trans k1
            have c2' := (hSw.cell (p := ⟨b, off + k * 2 + 1, none⟩) hb2).trans k2
            go_simp
            try with_reducible rfl
          try simp only [List.getElem_toArray, List.getElem_cons_zero, List.getElem_cons_succ, Act.put, List.setIfInBounds_toArray, List.set_cons_zero, List.set_cons_succ]
          refine wpAnyH_take (i := 6) (v := ?_) rfl (by kernel_rfl) (by kernel_rfl) (by kernel_rfl) (fun _ _ _ h => h) (Or.inl ⟨by rfl, ?_⟩) Hd ?_
          rotate_left
          · intro wS hSw
            go_simp
            try with_reducible rfl
          try simp only [List.getElem_toArray, List.getElem_cons_zero, List.getElem_cons_succ, Act.put, List.setIfInBounds_toArray, List.set_cons_zero, List.set_cons_succ]
          refine wpAnyH_take (i := 7) (v := ?_) rfl (by kernel_rfl) (by kernel_rfl) (by kernel_rfl) (fun _ _ _ h => h) (Or.inl ⟨by rfl, ?_⟩) Hd ?_
          rotate_left
          · intro wS hSw
            go_simp
            try with_reducible rfl
          try simp only [List.getElem_toArray, List.getElem_cons_zero, List.getElem_cons_succ, Act.put, List.setIfInBounds_toArray, List.set_cons_zero, List.set_cons_succ]
          refine wpAnyH_take (i := 8) (v := ?_) rfl (by kernel_rfl) (by kernel_rfl) (by kernel_rfl) (fun _ _ _ h => h) (Or.inl ⟨by rfl, ?_⟩) Hd ?_
          rotate_left
          · intro wS hSw
            go_simp
            try with_reducible rfl
          try simp only [List.getElem_toArray, List.getElem_cons_zero, List.getElem_cons_succ, Act.put, List.setIfInBounds_toArray, List.set_cons_zero, List.set_cons_succ]
          refine wpAnyH_take (i := 9) (v := ?_) rfl (by kernel_rfl) (by kernel_rfl) (by kernel_rfl) (fun _ _ _ h => h) (Or.inl ⟨by rfl, ?_⟩) Hd ?_
          rotate_left
          · intro wS hSw
            go_simp
            try with_reducible rfl
          try simp only [List.getElem_toArray, List.getElem_cons_zero, List.getElem_cons_succ, Act.put, List.setIfInBounds_toArray, List.set_cons_zero, List.set_cons_succ]
          refine wpAnyH_take (i := 10) (v := ?_) rfl (by kernel_rfl) (by kernel_rfl) (by kernel_rfl) (fun _ _ _ h => h) (Or.inl ⟨by rfl, ?_⟩) Hd ?_
          rotate_left
          · intro wS hSw
            have c1' := (hSw.cell (p := ⟨b, off + k * 2, none⟩) hb2).trans k1
            have c2' := (hSw.cell (p := ⟨b, off + k * 2 + 1, none⟩) hb2).trans k2
            go_simp
            try with_reducible rfl
          try simp only [List.getElem_toArray, List.getElem_cons_zero, List.getElem_cons_succ, Act.put, List.setIfInBounds_toArray, List.set_cons_zero, List.set_cons_succ]
          refine wpAnyH_take (i := 11) (v := ?_) rfl (by kernel_rfl) (by kernel_rfl) (by kernel_rfl) (fun _ _ _ h => h) (Or.inl ⟨by rfl, ?_⟩) Hd ?_
          rotate_left
          · intro wS hSw
            go_simp
            try with_reducible rfl
          try simp only [List.getElem_toArray, List.getElem_cons_zero, List.getElem_cons_succ, Act.put, List.setIfInBounds_toArray, List.set_cons_zero, List.set_cons_succ]
          refine wpAnyH_take (i := 12) (v := ?_) rfl (by kernel_rfl) (by kernel_rfl) (by kernel_rfl) (fun _ _ _ h => h) (Or.inl ⟨by rfl, ?_⟩) Hd ?_
          rotate_left
          · intro wS hSw
            go_simp
            try with_reducible rfl
          try simp only [List.getElem_toArray, List.getElem_cons_zero, List.getElem_cons_succ, Act.put, List.setIfInBounds_toArray, List.set_cons_zero, List.set_cons_succ]
          refine wpAnyH_take (i := 13) (v := ?_) rfl (by kernel_rfl) (by kernel_rfl) (by kernel_rfl) (fun _ _ _ h => h) (Or.inl ⟨by rfl, ?_⟩) Hd ?_
          rotate_left
          · intro wS hSw
            go_simp
            try with_reducible rfl
          try simp only [List.getElem_toArray, List.getElem_cons_zero, List.getElem_cons_succ, Act.put, List.setIfInBounds_toArray, List.set_cons_zero, List.set_cons_succ]
          refine wpAnyH_take (i := 14) (v := ?_) rfl (by kernel_rfl) (by kernel_rfl) (by kernel_rfl) (fun _ _ _ h => h) (Or.inl ⟨by rfl, ?_⟩) Hd ?_
          rotate_left
          · intro wS hSw
            go_simp
            try with_reducible rfl
          try simp only [List.getElem_toArray, List.getElem_cons_zero, List.getElem_cons_succ, Act.put, List.setIfInBounds_toArray, List.set_cons_zero, List.set_cons_succ]
          refine wpAnyH_take (i := 15) (v := ?_) rfl (by kernel_rfl) (by kernel_rfl) (by kernel_rfl) (fun _ _ _ h => h) (Or.inl ⟨by rfl, ?_⟩) Hd ?_
          rotate_left
          · intro wS hSw
            have c1' := (hSw.cell (p := ⟨b, off + k * 2, none⟩) hb2).trans k1
            have c2' := (hSw.cell (p := ⟨b, off + k * 2 + 1, none⟩) hb2).trans k2
            go_simp
            try with_reducible rfl
          try simp only [List.getElem_toArray, List.getElem_cons_zero, List.getElem_cons_succ, Act.put, List.setIfInBounds_toArray, List.set_cons_zero, List.set_cons_succ]
          refine wpAnyH_take (i := 16) (v := ?_) rfl (by kernel_rfl) (by kernel_rfl) (by kernel_rfl) (fun _ _ _ h => h) (Or.inl ⟨by rfl, ?_⟩) Hd ?_
          rotate_left
          · intro wS hSw
            go_simp
            try with_reducible rfl
          try simp only [List.getElem_toArray, List.getElem_cons_zero, List.getElem_cons_succ, Act.put, List.setIfInBounds_toArray, List.set_cons_zero, List.set_cons_succ]
          refine wpAnyH_take (i := 17) (v := ?_) rfl (by kernel_rfl) (by kernel_rfl) (by kernel_rfl) (fun _ _ _ h => h) (Or.inl ⟨by rfl, ?_⟩) Hd ?_
          rotate_left
          · intro wS hSw
            go_simp
            try with_reducible rfl
          try simp only [List.getElem_toArray, List.getElem_cons_zero, List.getElem_cons_succ, Act.put, List.setIfInBounds_toArray, List.set_cons_zero, List.set_cons_succ]
          refine wpAnyH_take (i := 18) (v := ?_) rfl (by kernel_rfl) (by kernel_rfl) (by kernel_rfl) (fun _ _ _ h => h) (Or.inl ⟨by rfl, ?_⟩) Hd ?_
          rotate_left
          · intro wS hSw
            go_simp
            try with_reducible rfl
          try simp only [List.getElem_toArray, List.getElem_cons_zero, List.getElem_cons_succ, Act.put, List.setIfInBounds_toArray, List.set_cons_zero, List.set_cons_succ]
          refine wpAnyH_take (i := 19) (v := ?_) rfl (by kernel_rfl) (by kernel_rfl) (by kernel_rfl) (fun _ _ _ h => h) (Or.inl ⟨by rfl, ?_⟩) Hd ?_
          rotate_left
          · intro wS hSw
            go_simp
            try with_reducible rfl
          try simp only [List.getElem_toArray, List.getElem_cons_zero, List.getElem_cons_succ, Act.put, List.setIfInBounds_toArray, List.set_cons_zero, List.set_cons_succ]
          refine wpAnyH_take (i := 20) (v := ?_) rfl (by kernel_rfl) (by kernel_rfl) (by kernel_rfl) (fun _ _ _ h => h) (Or.inl ⟨by rfl, ?_⟩) Hd ?_
          rotate_left
          · intro wS hSw
            go_simp
            try with_reducible rfl
          try simp only [List.getElem_toArray, List.getElem_cons_zero, List.getElem_cons_succ, Act.put, List.setIfInBounds_toArray, List.set_cons_zero, List.set_cons_succ]
          refine wpAnyH_take (i := 21) (v := ?_) rfl (by kernel_rfl) (by kernel_rfl) (by kernel_rfl) (fun _ _ _ h => h) (Or.inl ⟨by rfl, ?_⟩) Hd ?_
          rotate_left
          · intro wS hSw
            have c1' := (hSw.cell (p := ⟨b, off + k * 2, none⟩) hb2).trans k1
            have c2' := (hSw.cell (p := ⟨b, off + k * 2 + 1, none⟩) hb2).trans k2
            go_simp
            try with_reducible rfl
          try simp only [List.getElem_toArray, List.getElem_cons_zero, List.getElem_cons_succ, Act.put, List.setIfInBounds_toArray, List.set_cons_zero, List.set_cons_succ]
          refine wpAnyH_take (i := 22) (v := ?_) rfl (by kernel_rfl) (by kernel_rfl) (by kernel_rfl) (fun _ _ _ h => h) (Or.inl ⟨by rfl, ?_⟩) Hd ?_
          rotate_left
          · intro wS hSw
            go_simp
            try with_reducible rfl
          try simp only [List.getElem_toArray, List.getElem_cons_zero, List.getElem_cons_succ, Act.put, List.setIfInBounds_toArray, List.set_cons_zero, List.set_cons_succ]
          refine wpAnyH_ready (rs := [23]) (by kernel_rfl) (by simp) (AllReadyH.cons rfl (fun K hK => ?_) AllReadyH.nil)
          go_simp
          generalize hge : World.alloc _ _ = w1_
          have fb1 : Blk w1_ wd.heap.size 3 (#[.int .i64 x, .int .i64 y, .int .i64 (x - 1), .int .i64 (y + 1)]) := by subst hge; exact Blk.new _ _ _
          have hb1 : Below wd.heap.size wd w1_ := by subst hge; exact (Below.refl _ _).alloc (Nat.le_refl _) _
          clear hge
          have fl1 := own_below fl hb1
          have lob1 : w2.heap.size ≤ wd.heap.size := Zd
          have Hb1 : Below w2.heap.size w2 w1_ := below_of Hd hb1 Hd.size
          have Zb1 : w2.heap.size ≤ w1_.heap.size := Nat.le_trans Zd hb1.size
          refine hK.out _ _ Hb1 fun _ => ?_
          clear hK K
          try simp only [List.getElem_toArray, List.getElem_cons_zero, List.getElem_cons_succ, Act.put, List.setIfInBounds_toArray, List.set_cons_zero, List.set_cons_succ]
          refine wpAnyH_ready (rs := [24]) (by kernel_rfl) (by simp) (AllReadyH.cons rfl (fun K hK => ?_) AllReadyH.nil)
          refine step_append_cells (by rfl) (.tmp 42) (.tmp 65) 41 (by rfl) w2.heap.size 3 (.int .i64 0) 1 8 (by kernel_rfl) (by kernel_rfl) rfl (by omega) (.slice A5 (1 + 4 * k) c5) (1 + 4 * k) (intV (n :: dayL (l.take k))) fl1 (by rfl) (some ⟨wd.heap.size, 0, none⟩) 4 4 [.int .i64 x, .int .i64 y, .int .i64 (x - 1), .int .i64 (y + 1)] (by rfl) (by rfl) (cells_blkI fb1) (by simp [Value.oneCell']) (by unfold maxLen; omega) (by omega) Zb1 ?_
          intro v2 w2_ hown2 hg2 _
          have Hb2 : Below w2.heap.size w2 w2_ := below_grown Hb1 hg2 Hb1.size (own_base fl1)
          have Zb2 : w2.heap.size ≤ w2_.heap.size := Hb2.size
          obtain ⟨A2_, c2_, rfl, -, -, -⟩ := own_form hown2
          refine hK.out _ _ Hb2 fun _ => ?_
          clear hK K
          try simp only [List.getElem_toArray, List.getElem_cons_zero, List.getElem_cons_succ, Act.put, List.setIfInBounds_toArray, List.set_cons_zero, List.set_cons_succ]
          refine wpAnyH_take (i := 25) (v := ?_) rfl (by kernel_rfl) (by kernel_rfl) (by kernel_rfl) (fun _ _ _ h => h) (Or.inl ⟨by rfl, ?_⟩) Hb2 ?_
          rotate_left
          · intro wS hSw
            go_simp
            try with_reducible rfl
          try simp only [List.getElem_toArray, List.getElem_cons_zero, List.getElem_cons_succ, Act.put, List.setIfInBounds_toArray, List.set_cons_zero, List.set_cons_succ]
          refine wpAnyH_done (by kernel_rfl) ?_ _
          go_wp2_with (fail)
          go_roundw
          case rel => exact ⟨k + 1, A2_, c2_, by omega, by go_num, by rw [show 1 + 4 * (k + 1) = 1 + 4 * k + 4 by omega], (show World.ownsRow _ _ _ _ _ _ _ by rw [Hrow.out, show 1 + 4 * (k + 1) = 1 + 4 * k + 4 by omega]; exact hown2), Hb2⟩
          case measure => simp [intOf]; omega
        · obtain rfl : k = len := by omega
          have hdk : decide ((k : Int) < (k : Int)) = false := by simp
          have HD := Lib.hid (Cells.own hown.out)
          have HDl := Lib.hid (show (dayL l).length = 4 * k by rw [dayL_length, Hl.out])
          have hll : l.take k = l := List.take_of_length_le (by rw [Hl.out]; exact Nat.le_refl _)
          rw [hll] at HD
          obtain ⟨M, hM⟩ : ∃ M, 1 + 4 * k = M := ⟨_, rfl⟩
          obtain ⟨ds, hds⟩ : ∃ ds, n :: dayL l = ds := ⟨_, rfl⟩
          have Hds := Lib.hid (show ds.length = M by rw [← hds, List.length_cons, HDl.out]; omega)
          rw [hds] at HD
          rw [hM]
          have HB4 := Lib.hid (below_of HB2.out hB.out HB2.out.size)
          have HU4 := Lib.hid (HC2.out.below hB.out)
          have HC4 := Lib.hid (HC.out.below HB4.out)
          have hM2 : M ≤ 161 := by omega
          clear hown hB hll hds hM HDl Hown3 HB3
          go_wp2_with (fail)
          go_loopw [11] (fun i wr => ∃ j : Nat, j ≤ M ∧ i = .int .i64 j ∧ Hid (Below wq.heap.size wq wr)) (fun i _ => M - (intOf i).toNat)
          case atStart => exact ⟨0, by omega, rfl, Below.refl _ _⟩
          case round =>
            obtain ⟨j, hj, rfl, hBj⟩ := hrel
            obtain ⟨wp, rfl⟩ : ∃ wp : World, wp = wr := ⟨_, rfl⟩
            by_cases hjlt : j < M
            · have hdj : decide ((j : Int) < (M : Int)) = true := by simp; omega
              have hjI : (j : Int) < (M : Int) := by omega
              obtain ⟨d, hd⟩ := getElem?_lt (l := ds) (k := j) (by rw [Hds.out]; exact hjlt)
              obtain ⟨b, off, rfl, hb, hcs⟩ := Cells.addr HD.out (by unfold intV; rw [List.length_map, Hds.out]; omega)
              have k1 : wq.cell? ⟨b, off + j, none⟩ = some (.int .i64 d) := hcs j _ (by unfold intV; rw [List.getElem?_map, hd]; rfl)
              clear hcs hd
              have HI1 := Lib.hid (fun W (h : Below wq.heap.size wq W) => In_any d A1 m c1 u W Hm.out (by omega) (HU4.out.below h))
              have HI2 := Lib.hid (fun W (h : Below wq.heap.size wq W) => In_any d A k c l W Hl.out (by omega) (HC4.out.below h))
              rw [← Hu.out.2.1 d] at HI2
              generalize Iv.inU d u = ib at *
              have gib : (ib != ib) = false := by simp
              go_upto_region 16 with (fail)
              refine wp_region_held_drew (S := fun W => Below wq.heap.size wq W) (by kernel_rfl) (below_drewN hBj.out 1) (fun Hd => ?_)
              have Hd : Below wq.heap.size wq wp.drew := below_drewN hBj.out 1
              have Zd : wq.heap.size ≤ wp.drew.heap.size := hBj.out.size
              generalize World.drew wp = wd at *
              refine wpAnyH_take (i := 0) (v := ?_) rfl (by kernel_rfl) (by kernel_rfl) (by kernel_rfl) (fun _ _ _ h => h) (Or.inl ⟨by rfl, ?_⟩) Hd ?_
              rotate_left
              · intro wS hSw
                go_simp
                try with_reducible rfl
              try simp only [List.getElem_toArray, List.getElem_cons_zero, List.getElem_cons_succ, Act.put, List.setIfInBounds_toArray, List.set_cons_zero, List.set_cons_succ]
              refine wpAnyH_take (i := 1) (v := ?_) rfl (by kernel_rfl) (by kernel_rfl) (by kernel_rfl) (fun _ _ _ h => h) (Or.inl ⟨by rfl, ?_⟩) Hd ?_
              rotate_left
              · intro wS hSw
                go_simp
                try with_reducible rfl
              try simp only [List.getElem_toArray, List.getElem_cons_zero, List.getElem_cons_succ, Act.put, List.setIfInBounds_toArray, List.set_cons_zero, List.set_cons_succ]
              refine wpAnyH_take (i := 2) (v := ?_) rfl (by kernel_rfl) (by kernel_rfl) (by kernel_rfl) (fun _ _ _ h => h) (Or.inl ⟨by rfl, ?_⟩) Hd ?_
              rotate_left
              · intro wS hSw
                go_simp
                try with_reducible rfl
              try simp only [List.getElem_toArray, List.getElem_cons_zero, List.getElem_cons_succ, Act.put, List.setIfInBounds_toArray, List.set_cons_zero, List.set_cons_succ]
              refine wpAnyH_take (i := 3) (v := ?_) rfl (by kernel_rfl) (by kernel_rfl) (by kernel_rfl) (fun _ _ _ h => h) (Or.inl ⟨by rfl, ?_⟩) Hd ?_
              rotate_left
              · intro wS hSw
                have c1' := (hSw.cell (p := ⟨b, off + j, none⟩) hb).trans k1
                go_simp
                try with_reducible rfl
              try simp only [List.getElem_toArray, List.getElem_cons_zero, List.getElem_cons_succ, Act.put, List.setIfInBounds_toArray, List.set_cons_zero, List.set_cons_succ]
              refine wpAnyH_take (i := 4) (v := ?_) rfl (by kernel_rfl) (by kernel_rfl) (by kernel_rfl) (fun _ _ _ h => h) (Or.inl ⟨by rfl, ?_⟩) Hd ?_
              rotate_left
              · intro wS hSw
                go_simp
                try with_reducible rfl
              try simp only [List.getElem_toArray, List.getElem_cons_zero, List.getElem_cons_succ, Act.put, List.setIfInBounds_toArray, List.set_cons_zero, List.set_cons_succ]
              refine wpAnyH_take (i := 6) (v := ?_) rfl (by kernel_rfl) (by kernel_rfl) (by kernel_rfl) (fun _ _ _ h => h) (Or.inl ⟨by rfl, ?_⟩) Hd ?_
              rotate_left
              · intro wS hSw
                go_simp
                try with_reducible rfl
              try simp only [List.getElem_toArray, List.getElem_cons_zero, List.getElem_cons_succ, Act.put, List.setIfInBounds_toArray, List.set_cons_zero, List.set_cons_succ]
              refine wpAnyH_take (i := 7) (v := ?_) rfl (by kernel_rfl) (by kernel_rfl) (by kernel_rfl) (fun _ _ _ h => h) (Or.inl ⟨by rfl, ?_⟩) Hd ?_
              rotate_left
              · intro wS hSw
                go_simp
                try with_reducible rfl
              try simp only [List.getElem_toArray, List.getElem_cons_zero, List.getElem_cons_succ, Act.put, List.setIfInBounds_toArray, List.set_cons_zero, List.set_cons_succ]
              refine wpAnyH_take (i := 8) (v := ?_) rfl (by kernel_rfl) (by kernel_rfl) (by kernel_rfl) (fun _ _ _ h => h) (Or.inl ⟨by rfl, ?_⟩) Hd ?_
              rotate_left
              · intro wS hSw
                go_simp
                try with_reducible rfl
              try simp only [List.getElem_toArray, List.getElem_cons_zero, List.getElem_cons_succ, Act.put, List.setIfInBounds_toArray, List.set_cons_zero, List.set_cons_succ]
              refine wpAnyH_take (i := 9) (v := ?_) rfl (by kernel_rfl) (by kernel_rfl) (by kernel_rfl) (fun _ _ _ h => h) (Or.inl ⟨by rfl, ?_⟩) Hd ?_
              rotate_left
              · intro wS hSw
                have c1' := (hSw.cell (p := ⟨b, off + j, none⟩) hb).trans k1
                go_simp
                try with_reducible rfl
              try simp only [List.getElem_toArray, List.getElem_cons_zero, List.getElem_cons_succ, Act.put, List.setIfInBounds_toArray, List.set_cons_zero, List.set_cons_succ]
              refine wpAnyH_take (i := 10) (v := ?_) rfl (by kernel_rfl) (by kernel_rfl) (by kernel_rfl) (fun _ _ _ h => h) (Or.inl ⟨by rfl, ?_⟩) Hd ?_
              rotate_left
              · intro wS hSw
                go_simp
                try with_reducible rfl
              try simp only [List.getElem_toArray, List.getElem_cons_zero, List.getElem_cons_succ, Act.put, List.setIfInBounds_toArray, List.set_cons_zero, List.set_cons_succ]
              refine wpAnyH_ready (rs := [5]) (by kernel_rfl) (by simp) (AllReadyH.cons rfl (fun K hK => ?_) AllReadyH.nil)
              go_simp
              refine (HI1.out _ Hd).mono ?_
              rintro e w1_ ⟨rfl, hb1⟩
              have Hb1 : Below wq.heap.size wq w1_ := below_of Hd hb1 Hd.size
              have Zb1 : wq.heap.size ≤ w1_.heap.size := Nat.le_trans Zd hb1.size
              go_wp2_with (fail)
              refine hK.out _ _ Hb1 fun _ => ?_
              clear hK K
              try simp only [List.getElem_toArray, List.getElem_cons_zero, List.getElem_cons_succ, Act.put, List.setIfInBounds_toArray, List.set_cons_zero, List.set_cons_succ]
              refine wpAnyH_ready (rs := [11]) (by kernel_rfl) (by simp) (AllReadyH.cons rfl (fun K hK => ?_) AllReadyH.nil)
              go_simp
              refine (HI2.out _ Hb1).mono ?_
              rintro e w2_ ⟨rfl, hb2⟩
              have Hb2 : Below wq.heap.size wq w2_ := below_of Hb1 hb2 Hb1.size
              have Zb2 : wq.heap.size ≤ w2_.heap.size := Nat.le_trans Zb1 hb2.size
              go_wp2_with (fail)
              refine hK.out _ _ Hb2 fun _ => ?_
              clear hK K
              try simp only [List.getElem_toArray, List.getElem_cons_zero, List.getElem_cons_succ, Act.put, List.setIfInBounds_toArray, List.set_cons_zero, List.set_cons_succ]
              refine wpAnyH_take (i := 12) (v := ?_) rfl (by kernel_rfl) (by kernel_rfl) (by kernel_rfl) (fun _ _ _ h => h) (Or.inl ⟨by rfl, ?_⟩) Hb2 ?_
              rotate_left
              · intro wS hSw
                go_simp
                try with_reducible rfl
              try simp only [List.getElem_toArray, List.getElem_cons_zero, List.getElem_cons_succ, Act.put, List.setIfInBounds_toArray, List.set_cons_zero, List.set_cons_succ]
              refine wpAnyH_done (by kernel_rfl) ?_ _
              go_wp2_with (fail)
              go_roundw
              case rel => exact ⟨j + 1, by omega, by go_num, Hb2⟩
              case measure => simp [intOf]; omega
            · obtain rfl : j = M := by omega
              have hdj : decide ((j : Int) < (j : Int)) = false := by simp
              have HB5 := Lib.hid (below_of HB4.out hBj.out HB4.out.size)
              have HU5 := Lib.hid (HU4.out.below hBj.out)
              have HC5 := Lib.hid (HC.out.below HB5.out)
              clear hBj HB4 HU4 HC4 HD
              go_wp2_with (fail)
              go_loopw [12] (fun i wr => ∃ q : Nat, q ≤ m ∧ i = .int .i64 q ∧ Hid (Below wp.heap.size wp wr)) (fun i _ => m - (intOf i).toNat)
              case atStart => exact ⟨0, by omega, rfl, Below.refl _ _⟩
              case round =>
                obtain ⟨q, hq, rfl, hBq⟩ := hrel
                obtain ⟨wo, rfl⟩ : ∃ wo : World, wo = wr := ⟨_, rfl⟩
                by_cases hqlt : q < m
                · have hdq : decide ((q : Int) < (m : Int)) = true := by simp; omega
                  have hqI : (q : Int) < (m : Int) := by omega
                  obtain ⟨⟨x, y⟩, hx⟩ := getElem?_lt (l := u) (k := q) (by rw [Hm.out]; exact hqlt)
                  obtain ⟨b, off, rfl, hb, hcs⟩ := HU5.out.at_ (by rw [Hm.out]; omega)
                  have k1 := (hcs q _ hx).1
                  have k2 := (hcs q _ hx).2
                  simp only [] at k1 k2
                  have HK := Lib.hid (fun W => (check_of x y W true (Hu.out.2.2.1 _ (List.mem_of_getElem? hx))).mono (R' := fun e w' => e = .returned (.int .i64 0) ∧ Below W.heap.size W w') fun e w' ⟨h1, h2⟩ => ⟨h1, by rw [h2]; exact (Below.refl _ _).alloc (Nat.le_refl _) _⟩)
                  rcases Nat.eq_zero_or_pos q with hq0 | hqp
                  · have hgt : decide ((0 : Int) < (q : Int)) = false := by simp; omega
                    have hgt2 : decide (0 < q) = false := by simp; omega
                    clear hcs hx hq0
                    go_upto_region 21 with (fail)
                    refine wp_region_held_drew (S := fun W => Below wp.heap.size wp W) (by kernel_rfl) (below_drewN hBq.out 1) (fun Hd => ?_)
                    have Hd : Below wp.heap.size wp wo.drew := below_drewN hBq.out 1
                    have Zd : wp.heap.size ≤ wo.drew.heap.size := hBq.out.size
                    generalize World.drew wo = wd at *
                    refine wpAnyH_take (i := 0) (v := ?_) rfl (by kernel_rfl) (by kernel_rfl) (by kernel_rfl) (fun _ _ _ h => h) (Or.inl ⟨by rfl, ?_⟩) Hd ?_
                    rotate_left
                    · intro wS hSw
                      go_simp
                      try with_reducible rfl
                    try simp only [List.getElem_toArray, List.getElem_cons_zero, List.getElem_cons_succ, Act.put, List.setIfInBounds_toArray, List.set_cons_zero, List.set_cons_succ]
                    refine wpAnyH_take (i := 1) (v := ?_) rfl (by kernel_rfl) (by kernel_rfl) (by kernel_rfl) (fun _ _ _ h => h) (Or.inl ⟨by rfl, ?_⟩) Hd ?_
                    rotate_left
                    · intro wS hSw
                      go_simp
                      try with_reducible rfl
                    try simp only [List.getElem_toArray, List.getElem_cons_zero, List.getElem_cons_succ, Act.put, List.setIfInBounds_toArray, List.set_cons_zero, List.set_cons_succ]
                    refine wpAnyH_take (i := 2) (v := ?_) rfl (by kernel_rfl) (by kernel_rfl) (by kernel_rfl) (fun _ _ _ h => h) (Or.inl ⟨by rfl, ?_⟩) Hd ?_
                    rotate_left
                    · intro wS hSw
                      go_simp
                      try with_reducible rfl
                    try simp only [List.getElem_toArray, List.getElem_cons_zero, List.getElem_cons_succ, Act.put, List.setIfInBounds_toArray, List.set_cons_zero, List.set_cons_succ]
                    refine wpAnyH_take (i := 3) (v := ?_) rfl (by kernel_rfl) (by kernel_rfl) (by kernel_rfl) (fun _ _ _ h => h) (Or.inl ⟨by rfl, ?_⟩) Hd ?_
                    rotate_left
                    · intro wS hSw
                      have c1' := (hSw.cell (p := ⟨b, off + q * 2, none⟩) hb).trans k1
                      have c2' := (hSw.cell (p := ⟨b, off + q * 2 + 1, none⟩) hb).trans k2
                      go_simp
                      try with_reducible rfl
                    try simp only [List.getElem_toArray, List.getElem_cons_zero, List.getElem_cons_succ, Act.put, List.setIfInBounds_toArray, List.set_cons_zero, List.set_cons_succ]
                    refine wpAnyH_ready (rs := [4]) (by kernel_rfl) (by simp) (AllReadyH.cons rfl (fun K hK => ?_) AllReadyH.nil)
                    go_simp
                    refine (HK.out _).mono ?_
                    rintro e w1_ ⟨rfl, hb1⟩
                    have Hb1 : Below wp.heap.size wp w1_ := below_of Hd hb1 Hd.size
                    have Zb1 : wp.heap.size ≤ w1_.heap.size := Nat.le_trans Zd hb1.size
                    go_wp2_with (fail)
                    refine hK.out _ _ Hb1 fun _ => ?_
                    clear hK K
                    try simp only [List.getElem_toArray, List.getElem_cons_zero, List.getElem_cons_succ, Act.put, List.setIfInBounds_toArray, List.set_cons_zero, List.set_cons_succ]
                    refine wpAnyH_take (i := 5) (v := ?_) rfl (by kernel_rfl) (by kernel_rfl) (by kernel_rfl) (fun _ _ _ h => h) (Or.inl ⟨by rfl, ?_⟩) Hb1 ?_
                    rotate_left
                    · intro wS hSw
                      go_simp
                      try with_reducible rfl
                    try simp only [List.getElem_toArray, List.getElem_cons_zero, List.getElem_cons_succ, Act.put, List.setIfInBounds_toArray, List.set_cons_zero, List.set_cons_succ]
                    refine wpAnyH_take (i := 6) (v := ?_) rfl (by kernel_rfl) (by kernel_rfl) (by kernel_rfl) (fun _ _ _ h => h) (Or.inl ⟨by rfl, ?_⟩) Hb1 ?_
                    rotate_left
                    · intro wS hSw
                      go_simp
                      try with_reducible rfl
                    try simp only [List.getElem_toArray, List.getElem_cons_zero, List.getElem_cons_succ, Act.put, List.setIfInBounds_toArray, List.set_cons_zero, List.set_cons_succ]
                    refine wpAnyH_take (i := 7) (v := ?_) rfl (by kernel_rfl) (by kernel_rfl) (by kernel_rfl) (fun _ _ _ h => h) (Or.inl ⟨by rfl, ?_⟩) Hb1 ?_
                    rotate_left
                    · intro wS hSw
                      go_simp
                      try with_reducible rfl
                    try simp only [List.getElem_toArray, List.getElem_cons_zero, List.getElem_cons_succ, Act.put, List.setIfInBounds_toArray, List.set_cons_zero, List.set_cons_succ]
                    refine wpAnyH_take (i := 8) (v := ?_) rfl (by kernel_rfl) (by kernel_rfl) (by kernel_rfl) (fun _ _ _ h => h) (Or.inl ⟨by rfl, ?_⟩) Hb1 ?_
                    rotate_left
                    · intro wS hSw
                      go_simp
                      try with_reducible rfl
                    try simp only [List.getElem_toArray, List.getElem_cons_zero, List.getElem_cons_succ, Act.put, List.setIfInBounds_toArray, List.set_cons_zero, List.set_cons_succ]
                    refine wpAnyH_take (i := 9) (v := ?_) rfl (by kernel_rfl) (by kernel_rfl) (by kernel_rfl) (fun _ _ _ h => h) (Or.inl ⟨by rfl, ?_⟩) Hb1 ?_
                    rotate_left
                    · intro wS hSw
                      go_simp
                      try with_reducible rfl
                    try simp only [List.getElem_toArray, List.getElem_cons_zero, List.getElem_cons_succ, Act.put, List.setIfInBounds_toArray, List.set_cons_zero, List.set_cons_succ]
                    refine wpAnyH_take (i := 10) (v := undef) rfl (by kernel_rfl) (by kernel_rfl) (by kernel_rfl) (fun _ _ _ h => h) (Or.inr ⟨by rfl, rfl⟩) Hb1 ?_
                    try simp only [List.getElem_toArray, List.getElem_cons_zero, List.getElem_cons_succ, Act.put, List.setIfInBounds_toArray, List.set_cons_zero, List.set_cons_succ]
                    refine wpAnyH_take (i := 11) (v := undef) rfl (by kernel_rfl) (by kernel_rfl) (by kernel_rfl) (fun _ _ _ h => h) (Or.inr ⟨by rfl, rfl⟩) Hb1 ?_
                    try simp only [List.getElem_toArray, List.getElem_cons_zero, List.getElem_cons_succ, Act.put, List.setIfInBounds_toArray, List.set_cons_zero, List.set_cons_succ]
                    refine wpAnyH_take (i := 12) (v := undef) rfl (by kernel_rfl) (by kernel_rfl) (by kernel_rfl) (fun _ _ _ h => h) (Or.inr ⟨by rfl, rfl⟩) Hb1 ?_
                    try simp only [List.getElem_toArray, List.getElem_cons_zero, List.getElem_cons_succ, Act.put, List.setIfInBounds_toArray, List.set_cons_zero, List.set_cons_succ]
                    refine wpAnyH_take (i := 13) (v := undef) rfl (by kernel_rfl) (by kernel_rfl) (by kernel_rfl) (fun _ _ _ h => h) (Or.inr ⟨by rfl, rfl⟩) Hb1 ?_
                    try simp only [List.getElem_toArray, List.getElem_cons_zero, List.getElem_cons_succ, Act.put, List.setIfInBounds_toArray, List.set_cons_zero, List.set_cons_succ]
                    refine wpAnyH_take (i := 14) (v := undef) rfl (by kernel_rfl) (by kernel_rfl) (by kernel_rfl) (fun _ _ _ h => h) (Or.inr ⟨by rfl, rfl⟩) Hb1 ?_
                    try simp only [List.getElem_toArray, List.getElem_cons_zero, List.getElem_cons_succ, Act.put, List.setIfInBounds_toArray, List.set_cons_zero, List.set_cons_succ]
                    refine wpAnyH_take (i := 15) (v := undef) rfl (by kernel_rfl) (by kernel_rfl) (by kernel_rfl) (fun _ _ _ h => h) (Or.inr ⟨by rfl, rfl⟩) Hb1 ?_
                    try simp only [List.getElem_toArray, List.getElem_cons_zero, List.getElem_cons_succ, Act.put, List.setIfInBounds_toArray, List.set_cons_zero, List.set_cons_succ]
                    refine wpAnyH_take (i := 16) (v := undef) rfl (by kernel_rfl) (by kernel_rfl) (by kernel_rfl) (fun _ _ _ h => h) (Or.inr ⟨by rfl, rfl⟩) Hb1 ?_
                    try simp only [List.getElem_toArray, List.getElem_cons_zero, List.getElem_cons_succ, Act.put, List.setIfInBounds_toArray, List.set_cons_zero, List.set_cons_succ]
                    refine wpAnyH_take (i := 17) (v := undef) rfl (by kernel_rfl) (by kernel_rfl) (by kernel_rfl) (fun _ _ _ h => h) (Or.inr ⟨by rfl, rfl⟩) Hb1 ?_
                    try simp only [List.getElem_toArray, List.getElem_cons_zero, List.getElem_cons_succ, Act.put, List.setIfInBounds_toArray, List.set_cons_zero, List.set_cons_succ]
                    refine wpAnyH_take (i := 18) (v := undef) rfl (by kernel_rfl) (by kernel_rfl) (by kernel_rfl) (fun _ _ _ h => h) (Or.inr ⟨by rfl, rfl⟩) Hb1 ?_
                    try simp only [List.getElem_toArray, List.getElem_cons_zero, List.getElem_cons_succ, Act.put, List.setIfInBounds_toArray, List.set_cons_zero, List.set_cons_succ]
                    refine wpAnyH_take (i := 19) (v := undef) rfl (by kernel_rfl) (by kernel_rfl) (by kernel_rfl) (fun _ _ _ h => h) (Or.inr ⟨by rfl, rfl⟩) Hb1 ?_
                    try simp only [List.getElem_toArray, List.getElem_cons_zero, List.getElem_cons_succ, Act.put, List.setIfInBounds_toArray, List.set_cons_zero, List.set_cons_succ]
                    refine wpAnyH_take (i := 20) (v := undef) rfl (by kernel_rfl) (by kernel_rfl) (by kernel_rfl) (fun _ _ _ h => h) (Or.inr ⟨by rfl, rfl⟩) Hb1 ?_
                    try simp only [List.getElem_toArray, List.getElem_cons_zero, List.getElem_cons_succ, Act.put, List.setIfInBounds_toArray, List.set_cons_zero, List.set_cons_succ]
                    refine wpAnyH_take (i := 21) (v := undef) rfl (by kernel_rfl) (by kernel_rfl) (by kernel_rfl) (fun _ _ _ h => h) (Or.inr ⟨by rfl, rfl⟩) Hb1 ?_
                    try simp only [List.getElem_toArray, List.getElem_cons_zero, List.getElem_cons_succ, Act.put, List.setIfInBounds_toArray, List.set_cons_zero, List.set_cons_succ]
                    refine wpAnyH_take (i := 22) (v := undef) rfl (by kernel_rfl) (by kernel_rfl) (by kernel_rfl) (fun _ _ _ h => h) (Or.inr ⟨by rfl, rfl⟩) Hb1 ?_
                    try simp only [List.getElem_toArray, List.getElem_cons_zero, List.getElem_cons_succ, Act.put, List.setIfInBounds_toArray, List.set_cons_zero, List.set_cons_succ]
                    refine wpAnyH_take (i := 23) (v := ?_) rfl (by kernel_rfl) (by kernel_rfl) (by kernel_rfl) (fun _ _ _ h => h) (Or.inl ⟨by rfl, ?_⟩) Hb1 ?_
                    rotate_left
                    · intro wS hSw
                      go_simp
                      try with_reducible rfl
                    try simp only [List.getElem_toArray, List.getElem_cons_zero, List.getElem_cons_succ, Act.put, List.setIfInBounds_toArray, List.set_cons_zero, List.set_cons_succ]
                    refine wpAnyH_take (i := 24) (v := ?_) rfl (by kernel_rfl) (by kernel_rfl) (by kernel_rfl) (fun _ _ _ h => h) (Or.inl ⟨by rfl, ?_⟩) Hb1 ?_
                    rotate_left
                    · intro wS hSw
                      go_simp
                      try with_reducible rfl
                    try simp only [List.getElem_toArray, List.getElem_cons_zero, List.getElem_cons_succ, Act.put, List.setIfInBounds_toArray, List.set_cons_zero, List.set_cons_succ]
                    refine wpAnyH_done (by kernel_rfl) ?_ _
                    go_wp2_with (fail)
                    go_roundw
                    case rel => exact ⟨q + 1, by omega, by go_num, Hb1⟩
                    case measure => simp [intOf]; omega
                  · obtain ⟨q', hq'⟩ : ∃ q', q = q' + 1 := ⟨q - 1, by omega⟩
                    obtain ⟨⟨x0, y0⟩, hx0⟩ := getElem?_lt (l := u) (k := q') (by rw [Hm.out]; omega)
                    have k3 := (hcs q' _ hx0).2
                    simp only [] at k3
                    have hsep := pair_at Hu.out.1.2 hx0 (hq' ▸ hx)
                    simp only [] at hsep
                    obtain ⟨e1, e2, e3, e4, e5⟩ := (Iv.okI_iff _).1 (Hu.out.2.2.1 _ (List.mem_of_getElem? hx0))
                    simp only [] at e1 e2 e3 e4 e5
                    have hgt : decide ((0 : Int) < (q : Int)) = true := by simp; omega
                    have hqI' : (q' : Int) < (m : Int) := by omega
                    have hge : decide (x ≤ y0 + 1) = false := by simp; omega
                    have s1 : IntKind.i64.wrap (y0 + 1) = y0 + 1 := IntWalk.i64_in _ (by omega)
                    have s3 : IntKind.i64.wrap ((q : Int) - 1) = (q' : Int) := by rw [IntWalk.i64_in _ (by omega)]; omega
                    clear hcs hx hx0 hq'
                    go_upto_region 21 with (fail)
                    refine wp_region_held_drew (S := fun W => Below wp.heap.size wp W) (by kernel_rfl) (below_drewN hBq.out 1) (fun Hd => ?_)
                    have Hd : Below wp.heap.size wp wo.drew := below_drewN hBq.out 1
                    have Zd : wp.heap.size ≤ wo.drew.heap.size := hBq.out.size
                    generalize World.drew wo = wd at *
                    refine wpAnyH_take (i := 0) (v := ?_) rfl (by kernel_rfl) (by kernel_rfl) (by kernel_rfl) (fun _ _ _ h => h) (Or.inl ⟨by rfl, ?_⟩) Hd ?_
                    rotate_left
                    · intro wS hSw
                      go_simp
                      try with_reducible rfl
                    try simp only [List.getElem_toArray, List.getElem_cons_zero, List.getElem_cons_succ, Act.put, List.setIfInBounds_toArray, List.set_cons_zero, List.set_cons_succ]
                    refine wpAnyH_take (i := 1) (v := ?_) rfl (by kernel_rfl) (by kernel_rfl) (by kernel_rfl) (fun _ _ _ h => h) (Or.inl ⟨by rfl, ?_⟩) Hd ?_
                    rotate_left
                    · intro wS hSw
                      go_simp
                      try with_reducible rfl
                    try simp only [List.getElem_toArray, List.getElem_cons_zero, List.getElem_cons_succ, Act.put, List.setIfInBounds_toArray, List.set_cons_zero, List.set_cons_succ]
                    refine wpAnyH_take (i := 2) (v := ?_) rfl (by kernel_rfl) (by kernel_rfl) (by kernel_rfl) (fun _ _ _ h => h) (Or.inl ⟨by rfl, ?_⟩) Hd ?_
                    rotate_left
                    · intro wS hSw
                      go_simp
                      try with_reducible rfl
                    try simp only [List.getElem_toArray, List.getElem_cons_zero, List.getElem_cons_succ, Act.put, List.setIfInBounds_toArray, List.set_cons_zero, List.set_cons_succ]
                    refine wpAnyH_take (i := 3) (v := ?_) rfl (by kernel_rfl) (by kernel_rfl) (by kernel_rfl) (fun _ _ _ h => h) (Or.inl ⟨by rfl, ?_⟩) Hd ?_
                    rotate_left
                    · intro wS hSw
                      have c1' := (hSw.cell (p := ⟨b, off + q * 2, none⟩) hb).trans k1
                      have c2' := (hSw.cell (p := ⟨b, off + q * 2 + 1, none⟩) hb).trans k2
                      go_simp
                      try with_reducible rfl
                    try simp only [List.getElem_toArray, List.getElem_cons_zero, List.getElem_cons_succ, Act.put, List.setIfInBounds_toArray, List.set_cons_zero, List.set_cons_succ]
                    refine wpAnyH_ready (rs := [4]) (by kernel_rfl) (by simp) (AllReadyH.cons rfl (fun K hK => ?_) AllReadyH.nil)
                    go_simp
                    refine (HK.out _).mono ?_
                    rintro e w1_ ⟨rfl, hb1⟩
                    have Hb1 : Below wp.heap.size wp w1_ := below_of Hd hb1 Hd.size
                    have Zb1 : wp.heap.size ≤ w1_.heap.size := Nat.le_trans Zd hb1.size
                    go_wp2_with (fail)
                    refine hK.out _ _ Hb1 fun _ => ?_
                    clear hK K
                    try simp only [List.getElem_toArray, List.getElem_cons_zero, List.getElem_cons_succ, Act.put, List.setIfInBounds_toArray, List.set_cons_zero, List.set_cons_succ]
                    refine wpAnyH_take (i := 5) (v := ?_) rfl (by kernel_rfl) (by kernel_rfl) (by kernel_rfl) (fun _ _ _ h => h) (Or.inl ⟨by rfl, ?_⟩) Hb1 ?_
                    rotate_left
                    · intro wS hSw
                      go_simp
                      try with_reducible rfl
                    try simp only [List.getElem_toArray, List.getElem_cons_zero, List.getElem_cons_succ, Act.put, List.setIfInBounds_toArray, List.set_cons_zero, List.set_cons_succ]
                    refine wpAnyH_take (i := 6) (v := ?_) rfl (by kernel_rfl) (by kernel_rfl) (by kernel_rfl) (fun _ _ _ h => h) (Or.inl ⟨by rfl, ?_⟩) Hb1 ?_
                    rotate_left
                    · intro wS hSw
                      go_simp
                      try with_reducible rfl
                    try simp only [List.getElem_toArray, List.getElem_cons_zero, List.getElem_cons_succ, Act.put, List.setIfInBounds_toArray, List.set_cons_zero, List.set_cons_succ]
                    refine wpAnyH_take (i := 7) (v := ?_) rfl (by kernel_rfl) (by kernel_rfl) (by kernel_rfl) (fun _ _ _ h => h) (Or.inl ⟨by rfl, ?_⟩) Hb1 ?_
                    rotate_left
                    · intro wS hSw
                      go_simp
                      try with_reducible rfl
                    try simp only [List.getElem_toArray, List.getElem_cons_zero, List.getElem_cons_succ, Act.put, List.setIfInBounds_toArray, List.set_cons_zero, List.set_cons_succ]
                    refine wpAnyH_take (i := 8) (v := ?_) rfl (by kernel_rfl) (by kernel_rfl) (by kernel_rfl) (fun _ _ _ h => h) (Or.inl ⟨by rfl, ?_⟩) Hb1 ?_
                    rotate_left
                    · intro wS hSw
                      go_simp
                      try with_reducible rfl
                    try simp only [List.getElem_toArray, List.getElem_cons_zero, List.getElem_cons_succ, Act.put, List.setIfInBounds_toArray, List.set_cons_zero, List.set_cons_succ]
                    refine wpAnyH_take (i := 9) (v := ?_) rfl (by kernel_rfl) (by kernel_rfl) (by kernel_rfl) (fun _ _ _ h => h) (Or.inl ⟨by rfl, ?_⟩) Hb1 ?_
                    rotate_left
                    · intro wS hSw
                      go_simp
                      try with_reducible rfl
                    try simp only [List.getElem_toArray, List.getElem_cons_zero, List.getElem_cons_succ, Act.put, List.setIfInBounds_toArray, List.set_cons_zero, List.set_cons_succ]
                    refine wpAnyH_take (i := 10) (v := ?_) rfl (by kernel_rfl) (by kernel_rfl) (by kernel_rfl) (fun _ _ _ h => h) (Or.inl ⟨by rfl, ?_⟩) Hb1 ?_
                    rotate_left
                    · intro wS hSw
                      go_simp
                      try with_reducible rfl
                    try simp only [List.getElem_toArray, List.getElem_cons_zero, List.getElem_cons_succ, Act.put, List.setIfInBounds_toArray, List.set_cons_zero, List.set_cons_succ]
                    refine wpAnyH_take (i := 11) (v := ?_) rfl (by kernel_rfl) (by kernel_rfl) (by kernel_rfl) (fun _ _ _ h => h) (Or.inl ⟨by rfl, ?_⟩) Hb1 ?_
                    rotate_left
                    · intro wS hSw
                      go_simp
                      try with_reducible rfl
                    try simp only [List.getElem_toArray, List.getElem_cons_zero, List.getElem_cons_succ, Act.put, List.setIfInBounds_toArray, List.set_cons_zero, List.set_cons_succ]
                    refine wpAnyH_take (i := 12) (v := ?_) rfl (by kernel_rfl) (by kernel_rfl) (by kernel_rfl) (fun _ _ _ h => h) (Or.inl ⟨by rfl, ?_⟩) Hb1 ?_
                    rotate_left
                    · intro wS hSw
                      go_simp
                      try with_reducible rfl
                    try simp only [List.getElem_toArray, List.getElem_cons_zero, List.getElem_cons_succ, Act.put, List.setIfInBounds_toArray, List.set_cons_zero, List.set_cons_succ]
                    refine wpAnyH_take (i := 13) (v := ?_) rfl (by kernel_rfl) (by kernel_rfl) (by kernel_rfl) (fun _ _ _ h => h) (Or.inl ⟨by rfl, ?_⟩) Hb1 ?_
                    rotate_left
                    · intro wS hSw
                      go_simp
                      try with_reducible rfl
                    try simp only [List.getElem_toArray, List.getElem_cons_zero, List.getElem_cons_succ, Act.put, List.setIfInBounds_toArray, List.set_cons_zero, List.set_cons_succ]
                    refine wpAnyH_take (i := 14) (v := ?_) rfl (by kernel_rfl) (by kernel_rfl) (by kernel_rfl) (fun _ _ _ h => h) (Or.inl ⟨by rfl, ?_⟩) Hb1 ?_
                    rotate_left
                    · intro wS hSw
                      go_simp
                      try with_reducible rfl
                    try simp only [List.getElem_toArray, List.getElem_cons_zero, List.getElem_cons_succ, Act.put, List.setIfInBounds_toArray, List.set_cons_zero, List.set_cons_succ]
                    refine wpAnyH_take (i := 15) (v := ?_) rfl (by kernel_rfl) (by kernel_rfl) (by kernel_rfl) (fun _ _ _ h => h) (Or.inl ⟨by rfl, ?_⟩) Hb1 ?_
                    rotate_left
                    · intro wS hSw
                      have c3' := (hSw.cell (p := ⟨b, off + q' * 2 + 1, none⟩) hb).trans k3
                      go_simp
                      try with_reducible rfl
                    try simp only [List.getElem_toArray, List.getElem_cons_zero, List.getElem_cons_succ, Act.put, List.setIfInBounds_toArray, List.set_cons_zero, List.set_cons_succ]
                    refine wpAnyH_take (i := 16) (v := ?_) rfl (by kernel_rfl) (by kernel_rfl) (by kernel_rfl) (fun _ _ _ h => h) (Or.inl ⟨by rfl, ?_⟩) Hb1 ?_
                    rotate_left
                    · intro wS hSw
                      go_simp
                      try with_reducible rfl
                    try simp only [List.getElem_toArray, List.getElem_cons_zero, List.getElem_cons_succ, Act.put, List.setIfInBounds_toArray, List.set_cons_zero, List.set_cons_succ]
                    refine wpAnyH_take (i := 17) (v := ?_) rfl (by kernel_rfl) (by kernel_rfl) (by kernel_rfl) (fun _ _ _ h => h) (Or.inl ⟨by rfl, ?_⟩) Hb1 ?_
                    rotate_left
                    · intro wS hSw
                      go_simp
                      try with_reducible rfl
                    try simp only [List.getElem_toArray, List.getElem_cons_zero, List.getElem_cons_succ, Act.put, List.setIfInBounds_toArray, List.set_cons_zero, List.set_cons_succ]
                    refine wpAnyH_take (i := 18) (v := ?_) rfl (by kernel_rfl) (by kernel_rfl) (by kernel_rfl) (fun _ _ _ h => h) (Or.inl ⟨by rfl, ?_⟩) Hb1 ?_
                    rotate_left
                    · intro wS hSw
                      go_simp
                      try with_reducible rfl
                    try simp only [List.getElem_toArray, List.getElem_cons_zero, List.getElem_cons_succ, Act.put, List.setIfInBounds_toArray, List.set_cons_zero, List.set_cons_succ]
                    refine wpAnyH_take (i := 19) (v := ?_) rfl (by kernel_rfl) (by kernel_rfl) (by kernel_rfl) (fun _ _ _ h => h) (Or.inl ⟨by rfl, ?_⟩) Hb1 ?_
                    rotate_left
                    · intro wS hSw
                      go_simp
                      try with_reducible rfl
                    try simp only [List.getElem_toArray, List.getElem_cons_zero, List.getElem_cons_succ, Act.put, List.setIfInBounds_toArray, List.set_cons_zero, List.set_cons_succ]
                    refine wpAnyH_take (i := 20) (v := ?_) rfl (by kernel_rfl) (by kernel_rfl) (by kernel_rfl) (fun _ _ _ h => h) (Or.inl ⟨by rfl, ?_⟩) Hb1 ?_
                    rotate_left
                    · intro wS hSw
                      go_simp
                      try with_reducible rfl
                    try simp only [List.getElem_toArray, List.getElem_cons_zero, List.getElem_cons_succ, Act.put, List.setIfInBounds_toArray, List.set_cons_zero, List.set_cons_succ]
                    refine wpAnyH_take (i := 21) (v := ?_) rfl (by kernel_rfl) (by kernel_rfl) (by kernel_rfl) (fun _ _ _ h => h) (Or.inl ⟨by rfl, ?_⟩) Hb1 ?_
                    rotate_left
                    · intro wS hSw
                      have c1' := (hSw.cell (p := ⟨b, off + q * 2, none⟩) hb).trans k1
                      have c2' := (hSw.cell (p := ⟨b, off + q * 2 + 1, none⟩) hb).trans k2
                      go_simp
                      try with_reducible rfl
                    try simp only [List.getElem_toArray, List.getElem_cons_zero, List.getElem_cons_succ, Act.put, List.setIfInBounds_toArray, List.set_cons_zero, List.set_cons_succ]
                    refine wpAnyH_take (i := 22) (v := ?_) rfl (by kernel_rfl) (by kernel_rfl) (by kernel_rfl) (fun _ _ _ h => h) (Or.inl ⟨by rfl, ?_⟩) Hb1 ?_
                    rotate_left
                    · intro wS hSw
                      go_simp
                      try with_reducible rfl
                    try simp only [List.getElem_toArray, List.getElem_cons_zero, List.getElem_cons_succ, Act.put, List.setIfInBounds_toArray, List.set_cons_zero, List.set_cons_succ]
                    refine wpAnyH_take (i := 23) (v := ?_) rfl (by kernel_rfl) (by kernel_rfl) (by kernel_rfl) (fun _ _ _ h => h) (Or.inl ⟨by rfl, ?_⟩) Hb1 ?_
                    rotate_left
                    · intro wS hSw
                      go_simp
                      try with_reducible rfl
                    try simp only [List.getElem_toArray, List.getElem_cons_zero, List.getElem_cons_succ, Act.put, List.setIfInBounds_toArray, List.set_cons_zero, List.set_cons_succ]
                    refine wpAnyH_take (i := 24) (v := ?_) rfl (by kernel_rfl) (by kernel_rfl) (by kernel_rfl) (fun _ _ _ h => h) (Or.inl ⟨by rfl, ?_⟩) Hb1 ?_
                    rotate_left
                    · intro wS hSw
                      go_simp
                      try with_reducible rfl
                    try simp only [List.getElem_toArray, List.getElem_cons_zero, List.getElem_cons_succ, Act.put, List.setIfInBounds_toArray, List.set_cons_zero, List.set_cons_succ]
                    refine wpAnyH_done (by kernel_rfl) ?_ _
                    go_wp2_with (fail)
                    go_roundw
                    case rel => exact ⟨q + 1, by omega, by go_num, Hb1⟩
                    case measure => simp [intOf]; omega
                · obtain rfl : q = m := by omega
                  have hdq : decide ((q : Int) < (q : Int)) = false := by simp
                  have HB6 := Lib.hid (below_of HB5.out hBq.out HB5.out.size)
                  have HU6 := Lib.hid (HU5.out.below hBq.out)
                  have HC6 := Lib.hid (HC.out.below HB6.out)
                  clear hBq HB5 HU5 HC5
                  rcases Nat.eq_zero_or_pos k with hk0 | hkp
                  · have z1 : ((k : Int) == 0) = true := by simp; omega
                    have z2 : (k == 0) = true := by simp; omega
                    have hu0 : q = 0 := by
                      have := Hu.out.2.2.2.2.2 (List.eq_nil_of_length_eq_zero (by rw [Hl.out]; exact hk0))
                      rw [← Hm.out, this]; rfl
                    have y1 : ((q : Int) == 0) = true := by simp; omega
                    have y2 : (q == 0) = true := by simp; omega
                    clear hk0 hu0
                    go_wp2_with (fail)
                    go_ret
                    exact ⟨rfl, HB6.out⟩
                  · have z1 : ((k : Int) == 0) = false := by simp; omega
                    have z2 : (k == 0) = false := by simp; omega
                    go_upto_region 26 with (fail)
                    obtain ⟨i, hi, hik⟩ : ∃ i : Nat, wrap64 (at_ % (k : Int)) = (i : Int) ∧ i < k := by
                      have h1 := Int.emod_nonneg at_ (show (k : Int) ≠ 0 by omega)
                      have h2 := Int.emod_lt_of_pos at_ (show (0 : Int) < k by omega)
                      refine ⟨(at_ % (k : Int)).toNat, ?_, by omega⟩
                      unfold wrap64
                      omega
                    rw [hi]
                    obtain ⟨⟨x, y⟩, hx⟩ := getElem?_lt (l := l) (k := i) (by rw [Hl.out]; exact hik)
                    obtain ⟨b, off, rfl, hb, hcs⟩ := HC6.out.at_ (by rw [Hl.out]; omega)
                    have k1 := (hcs i _ hx).1
                    have k2 := (hcs i _ hx).2
                    simp only [] at k1 k2
                    have C1 := Lib.hid (show Cells wo (some ⟨b, off + i * 2, none⟩) (ivV (l.drop i)) by rw [ivV_drop]; exact Cells.drop_ HC6.out (i * 2))
                    have C2 := Lib.hid (show Cells wo (some ⟨b, off, none⟩) (ivV (l.take i)) by rw [ivV_take]; exact Cells.take_ HC6.out (i * 2))
                    have ll1 := Lib.hid (show (ivV (l.drop i)).length = (k - i) * 2 by rw [ivV_length, List.length_drop, Hl.out])
                    have ll2 := Lib.hid (show (ivV (l.take i)).length = i * 2 by rw [ivV_length, List.length_take, Hl.out, Nat.min_eq_left (by omega)])
                    have lT := Lib.hid (show (l.drop i ++ l.take i ++ [(x, y)]).length = k - i + i + 1 by simp [Hl.out]; omega)
                    have hTa := Lib.hid (turned_all hx Hal.out)
                    have hTu := Lib.hid (fun v h => turned_union (v := v) hx Hu.out h)
                    have i1 : (i : Int) ≤ (k : Int) := by omega
                    have i2 : (i : Int) ≤ (c : Int) := by omega
                    have i3 : (k : Int) ≤ (c : Int) := by omega
                    have i4 : ¬ c = i := by omega
                    have i5 : (c == i) = false := by simp; omega
                    have i6 : (i : Int) < (k : Int) := by omega
                    clear hcs hx hi
                    refine wp_region_held_drew (S := fun W => Below wo.heap.size wo W) (by kernel_rfl) (below_drewN (Below.refl _ _) 1) (fun Hd => ?_)
                    have Hd : Below wo.heap.size wo wo.drew := below_drewN (Below.refl _ _) 1
                    have Zd : wo.heap.size ≤ wo.drew.heap.size := Nat.le_refl _
                    generalize World.drew wo = wd at *
                    refine wpAnyH_take (i := 1) (v := ?_) rfl (by kernel_rfl) (by kernel_rfl) (by kernel_rfl) (fun _ _ _ h => h) (Or.inl ⟨by rfl, ?_⟩) Hd ?_
                    rotate_left
                    · intro wS hSw
                      go_simp
                      try with_reducible rfl
                    try simp only [List.getElem_toArray, List.getElem_cons_zero, List.getElem_cons_succ, Act.put, List.setIfInBounds_toArray, List.set_cons_zero, List.set_cons_succ]
                    refine wpAnyH_take (i := 2) (v := ?_) rfl (by kernel_rfl) (by kernel_rfl) (by kernel_rfl) (fun _ _ _ h => h) (Or.inl ⟨by rfl, ?_⟩) Hd ?_
                    rotate_left
                    · intro wS hSw
                      go_simp
                      try with_reducible rfl
                    try simp only [List.getElem_toArray, List.getElem_cons_zero, List.getElem_cons_succ, Act.put, List.setIfInBounds_toArray, List.set_cons_zero, List.set_cons_succ]
                    refine wpAnyH_take (i := 3) (v := ?_) rfl (by kernel_rfl) (by kernel_rfl) (by kernel_rfl) (fun _ _ _ h => h) (Or.inl ⟨by rfl, ?_⟩) Hd ?_
                    rotate_left
                    · intro wS hSw
                      go_simp
                      try with_reducible rfl
                    try simp only [List.getElem_toArray, List.getElem_cons_zero, List.getElem_cons_succ, Act.put, List.setIfInBounds_toArray, List.set_cons_zero, List.set_cons_succ]
                    refine wpAnyH_take (i := 5) (v := ?_) rfl (by kernel_rfl) (by kernel_rfl) (by kernel_rfl) (fun _ _ _ h => h) (Or.inl ⟨by rfl, ?_⟩) Hd ?_
                    rotate_left
                    · intro wS hSw
                      go_simp
                      try with_reducible rfl
                    try simp only [List.getElem_toArray, List.getElem_cons_zero, List.getElem_cons_succ, Act.put, List.setIfInBounds_toArray, List.set_cons_zero, List.set_cons_succ]
                    refine wpAnyH_take (i := 6) (v := ?_) rfl (by kernel_rfl) (by kernel_rfl) (by kernel_rfl) (fun _ _ _ h => h) (Or.inl ⟨by rfl, ?_⟩) Hd ?_
                    rotate_left
                    · intro wS hSw
                      go_simp
                      try with_reducible rfl
                    try simp only [List.getElem_toArray, List.getElem_cons_zero, List.getElem_cons_succ, Act.put, List.setIfInBounds_toArray, List.set_cons_zero, List.set_cons_succ]
                    refine wpAnyH_take (i := 7) (v := ?_) rfl (by kernel_rfl) (by kernel_rfl) (by kernel_rfl) (fun _ _ _ h => h) (Or.inl ⟨by rfl, ?_⟩) Hd ?_
                    rotate_left
                    · intro wS hSw
                      go_simp
                      try with_reducible rfl
                    try simp only [List.getElem_toArray, List.getElem_cons_zero, List.getElem_cons_succ, Act.put, List.setIfInBounds_toArray, List.set_cons_zero, List.set_cons_succ]
                    refine wpAnyH_take (i := 9) (v := ?_) rfl (by kernel_rfl) (by kernel_rfl) (by kernel_rfl) (fun _ _ _ h => h) (Or.inl ⟨by rfl, ?_⟩) Hd ?_
                    rotate_left
                    · intro wS hSw
                      go_simp
                      try with_reducible rfl
                    try simp only [List.getElem_toArray, List.getElem_cons_zero, List.getElem_cons_succ, Act.put, List.setIfInBounds_toArray, List.set_cons_zero, List.set_cons_succ]
                    refine wpAnyH_take (i := 10) (v := ?_) rfl (by kernel_rfl) (by kernel_rfl) (by kernel_rfl) (fun _ _ _ h => h) (Or.inl ⟨by rfl, ?_⟩) Hd ?_
                    rotate_left
                    · intro wS hSw
                      go_simp
                      try with_reducible rfl
                    try simp only [List.getElem_toArray, List.getElem_cons_zero, List.getElem_cons_succ, Act.put, List.setIfInBounds_toArray, List.set_cons_zero, List.set_cons_succ]
                    refine wpAnyH_take (i := 11) (v := ?_) rfl (by kernel_rfl) (by kernel_rfl) (by kernel_rfl) (fun _ _ _ h => h) (Or.inl ⟨by rfl, ?_⟩) Hd ?_
                    rotate_left
                    · intro wS hSw
                      go_simp
                      try with_reducible rfl
                    try simp only [List.getElem_toArray, List.getElem_cons_zero, List.getElem_cons_succ, Act.put, List.setIfInBounds_toArray, List.set_cons_zero, List.set_cons_succ]
                    refine wpAnyH_take (i := 12) (v := ?_) rfl (by kernel_rfl) (by kernel_rfl) (by kernel_rfl) (fun _ _ _ h => h) (Or.inl ⟨by rfl, ?_⟩) Hd ?_
                    rotate_left
                    · intro wS hSw
                      have c1' := (hSw.cell (p := ⟨b, off + i * 2, none⟩) hb).trans k1
                      have c2' := (hSw.cell (p := ⟨b, off + i * 2 + 1, none⟩) hb).trans k2
                      go_simp
                      try with_reducible rfl
                    try simp only [List.getElem_toArray, List.getElem_cons_zero, List.getElem_cons_succ, Act.put, List.setIfInBounds_toArray, List.set_cons_zero, List.set_cons_succ]
                    refine wpAnyH_ready (rs := [0, 13]) (by kernel_rfl) (by simp) (AllReadyH.cons rfl (fun K hK => ?_) (AllReadyH.cons rfl (fun K hK => ?_) AllReadyH.nil))
                    · go_simp
                      generalize hge : World.alloc _ _ = w1_
                      have fl1 : w1_.ownsRow wo.heap.size 43 2 (.slice (some ⟨wd.heap.size, 0, none⟩) 0 0) 0 (ivV []) := by subst hge; exact World.ownsRow_lit (e := 43) (size := 2) wd #[] 0 Zd (Nat.zero_le _) rfl
                      have hb1 : Below wd.heap.size wd w1_ := by subst hge; exact (Below.refl _ _).alloc (Nat.le_refl _) _
                      clear hge
                      have Hb1 : Below wo.heap.size wo w1_ := below_of Hd hb1 Hd.size
                      have Zb1 : wo.heap.size ≤ w1_.heap.size := Hb1.size
                      refine hK.out _ _ Hb1 fun _ => ?_
                      clear hK K
                      try simp only [List.getElem_toArray, List.getElem_cons_zero, List.getElem_cons_succ, Act.put, List.setIfInBounds_toArray, List.set_cons_zero, List.set_cons_succ]
                      refine wpAnyH_ready (rs := [4, 13]) (by kernel_rfl) (by simp) (AllReadyH.cons rfl (fun K hK => ?_) (AllReadyH.cons rfl (fun K hK => ?_) AllReadyH.nil))
                      · refine step_append_cells (by rfl) (.tmp 129) (.tmp 132) 37 (by rfl) wo.heap.size 43 (.agg #[.int .i64 0, .int .i64 0]) 2 16 (by kernel_rfl) (by kernel_rfl) rfl (by omega) (.slice (some ⟨wd.heap.size, 0, none⟩) 0 0) (0) (ivV ([])) fl1 (by rfl) (some ⟨b, off + i * 2, none⟩) (k - i) (c - i) (ivV (l.drop i)) (by rfl) (ll1.out) (C1.out.below Hb1) (ivV_one _) (by unfold maxLen; omega) (by omega) Zb1 ?_
                        intro v2 w2_ own2 hg2 st2
                        rw [← ivV_append] at own2
                        have Hb2 : Below wo.heap.size wo w2_ := below_grown Hb1 hg2 Hb1.size (own_base fl1)
                        have Zb2 : wo.heap.size ≤ w2_.heap.size := Hb2.size
                        obtain ⟨A2_, c2_, rfl, le2, lm2, -⟩ := own_form own2
                        rw [Nat.zero_add, List.nil_append] at own2
                        rw [Nat.zero_add] at le2
                        simp only [Nat.zero_add]
                        refine hK.out _ _ Hb2 fun _ => ?_
                        clear hK K
                        try simp only [List.getElem_toArray, List.getElem_cons_zero, List.getElem_cons_succ, Act.put, List.setIfInBounds_toArray, List.set_cons_zero, List.set_cons_succ]
                        refine wpAnyH_ready (rs := [8, 13]) (by kernel_rfl) (by simp) (AllReadyH.cons rfl (fun K hK => ?_) (AllReadyH.cons rfl (fun K hK => ?_) AllReadyH.nil))
                        · refine step_append_cells (by rfl) (.tmp 133) (.tmp 136) 37 (by rfl) wo.heap.size 43 (.agg #[.int .i64 0, .int .i64 0]) 2 16 (by kernel_rfl) (by kernel_rfl) rfl (by omega) (.slice A2_ ((k - i)) c2_) ((k - i)) (ivV (l.drop i)) own2 (by rfl) (some ⟨b, off, none⟩) i c (ivV (l.take i)) (by rfl) (ll2.out) (C2.out.below Hb2) (ivV_one _) (by unfold maxLen; omega) (by omega) Zb2 ?_
                          intro v3 w3_ own3 hg3 st3
                          rw [← ivV_append] at own3
                          have Hb3 : Below wo.heap.size wo w3_ := below_grown Hb2 hg3 Hb2.size (own_base own2)
                          have Zb3 : wo.heap.size ≤ w3_.heap.size := Hb3.size
                          obtain ⟨A3_, c3_, rfl, le3, lm3, -⟩ := own_form own3
                          refine hK.out _ _ Hb3 fun _ => ?_
                          clear hK K
                          try simp only [List.getElem_toArray, List.getElem_cons_zero, List.getElem_cons_succ, Act.put, List.setIfInBounds_toArray, List.set_cons_zero, List.set_cons_succ]
                          refine wpAnyH_ready (rs := [13]) (by kernel_rfl) (by simp) (AllReadyH.cons rfl (fun K hK => ?_) AllReadyH.nil)
                          go_simp
                          generalize hge : World.alloc _ _ = w4_
                          have fb4 : Blk w4_ w3_.heap.size 43 (#[.int .i64 x, .int .i64 y]) := by subst hge; exact Blk.new _ _ _
                          have hb4 : Below w3_.heap.size w3_ w4_ := by subst hge; exact (Below.refl _ _).alloc (Nat.le_refl _) _
                          clear hge
                          have fl4 := own_below own3 hb4
                          have aplb4 := apart_new own3
                          have lob4 : wo.heap.size ≤ w3_.heap.size := Zb3
                          have Hb4 : Below wo.heap.size wo w4_ := below_of Hb3 hb4 Hb3.size
                          have Zb4 : wo.heap.size ≤ w4_.heap.size := Nat.le_trans Zb3 hb4.size
                          refine hK.out _ _ Hb4 fun _ => ?_
                          clear hK K
                          try simp only [List.getElem_toArray, List.getElem_cons_zero, List.getElem_cons_succ, Act.put, List.setIfInBounds_toArray, List.set_cons_zero, List.set_cons_succ]
                          refine wpAnyH_ready (rs := [14]) (by kernel_rfl) (by simp) (AllReadyH.cons rfl (fun K hK => ?_) AllReadyH.nil)
                          refine step_append_cells (by rfl) (.tmp 137) (.tmp 142) 37 (by rfl) wo.heap.size 43 (.agg #[.int .i64 0, .int .i64 0]) 2 16 (by kernel_rfl) (by kernel_rfl) rfl (by omega) (.slice A3_ ((k - i) + i) c3_) ((k - i) + i) (ivV ((l.drop i ++ l.take i))) fl4 (by rfl) (some ⟨w3_.heap.size, 0, none⟩) 1 1 (ivV ([(x, y)])) (by rfl) (rfl) (cells_blkI fb4) (ivV_one _) (by unfold maxLen; omega) (by omega) Zb4 ?_
                          intro v5 w5_ own5 hg5 st5
                          rw [← ivV_append] at own5
                          have fb5 := fb4.grown hg5 (fun e => aplb4 e.symm)
                          have al5 := apart_sits st5 aplb4 fb4.lt
                          have Hb5 : Below wo.heap.size wo w5_ := below_grown Hb4 hg5 Hb4.size (own_base fl4)
                          have Zb5 : wo.heap.size ≤ w5_.heap.size := Hb5.size
                          obtain ⟨A5_, c5_, rfl, le5, lm5, -⟩ := own_form own5
                          refine hK.out _ _ Hb5 fun _ => ?_
                          clear hK K
                          try simp only [List.getElem_toArray, List.getElem_cons_zero, List.getElem_cons_succ, Act.put, List.setIfInBounds_toArray, List.set_cons_zero, List.set_cons_succ]
                          refine wpAnyH_take (i := 15) (v := ?_) rfl (by kernel_rfl) (by kernel_rfl) (by kernel_rfl) (fun _ _ _ h => h) (Or.inl ⟨by rfl, ?_⟩) Hb5 ?_
                          rotate_left
                          · intro wS hSw
                            go_simp
                            try with_reducible rfl
                          try simp only [List.getElem_toArray, List.getElem_cons_zero, List.getElem_cons_succ, Act.put, List.setIfInBounds_toArray, List.set_cons_zero, List.set_cons_succ]
                          refine wpAnyH_done (by kernel_rfl) ?_ _
                          obtain ⟨w9, hw9⟩ : ∃ w9, w9 = w5_ := ⟨_, rfl⟩
                          subst hw9
                          have gB := Lib.hid Hb5
                          have gC := Lib.hid (Cells.own own5)
                          clear Hd
                          go_wp2_with (fail)
                          refine (Union_any A5_ (k - i + i + 1) c5_ (l.drop i ++ l.take i ++ [(x, y)]) _ lT.out (by omega) gC.out).mono ?_
                          rintro e wA (⟨-, A2, c2, u2, rfl, hu2, hc3, hc4, hC3, hb3⟩ | ⟨hf, rfl, hb3⟩)
                          rotate_left
                          · rw [hTa.out] at hf; cases hf
                          have hE := hTu.out u2 hu2
                          rw [hE] at hC3
                          rw [hE, Hm.out]
                          have gBA := Lib.hid (below_of gB.out hb3 gB.out.size)
                          have HUA := Lib.hid (HU6.out.below gBA.out)
                          have HVA := Lib.hid hC3
                          clear hu2 hE hc3 hc4 hC3 hb3 gC
                          go_wp2_with (fail)
                          refine (Union_any A1 q c1 u _ Hm.out (by omega) HUA.out).mono ?_
                          rintro e wB (⟨-, A3, c3, u3, rfl, hu3, hc3, hc4, hC3, hb3⟩ | ⟨hf, rfl, hb3⟩)
                          rotate_left
                          · rw [show allI u = true from List.all_eq_true.2 Hu.out.2.2.1] at hf; cases hf
                          have hE : u3 = u := (Iv.union_self Hu.out hu3).symm
                          rw [hE] at hC3
                          rw [hE, Hm.out]
                          have gBB := Lib.hid (below_of gBA.out hb3 gBA.out.size)
                          have HUB := Lib.hid (HU6.out.below gBB.out)
                          have HVB := Lib.hid (HVA.out.below hb3)
                          have HWB := Lib.hid hC3
                          clear hu3 hE hc3 hc4 hC3 hb3
                          go_wp2_with (fail)
                          refine (Same_any A1 q c1 u A2 q c2 u _ Hm.out Hm.out (by omega) (by omega) HUB.out HVB.out).mono ?_
                          rintro e wC ⟨rfl, hbC⟩
                          rw [show decide (u = u) = true from decide_eq_true rfl]
                          have gBC := Lib.hid (below_of gBB.out hbC gBB.out.size)
                          have HUC := Lib.hid (HU6.out.below gBC.out)
                          have HWC := Lib.hid (HWB.out.below hbC)
                          clear hbC
                          go_wp2_with (fail)
                          refine (Same_any A1 q c1 u A3 q c3 u _ Hm.out Hm.out (by omega) (by omega) HUC.out HWC.out).mono ?_
                          rintro e wD ⟨rfl, hbD⟩
                          rw [show decide (u = u) = true from decide_eq_true rfl]
                          have gBD := Lib.hid (below_of gBC.out hbD gBC.out.size)
                          clear hbD
                          go_wp2_with (fail)
                          go_ret
                          exact ⟨rfl, below_of HB6.out gBD.out HB6.out.size⟩
                        · go_simp
                          generalize hge : World.alloc _ _ = w3_
                          have fb3 : Blk w3_ w2_.heap.size 43 (#[.int .i64 x, .int .i64 y]) := by subst hge; exact Blk.new _ _ _
                          have hb3 : Below w2_.heap.size w2_ w3_ := by subst hge; exact (Below.refl _ _).alloc (Nat.le_refl _) _
                          clear hge
                          have fl3 := own_below own2 hb3
                          have aplb3 := apart_new own2
                          have lob3 : wo.heap.size ≤ w2_.heap.size := Zb2
                          have Hb3 : Below wo.heap.size wo w3_ := below_of Hb2 hb3 Hb2.size
                          have Zb3 : wo.heap.size ≤ w3_.heap.size := Nat.le_trans Zb2 hb3.size
                          refine hK.out _ _ Hb3 fun _ => ?_
                          clear hK K
                          try simp only [List.getElem_toArray, List.getElem_cons_zero, List.getElem_cons_succ, Act.put, List.setIfInBounds_toArray, List.set_cons_zero, List.set_cons_succ]
                          refine wpAnyH_ready (rs := [8]) (by kernel_rfl) (by simp) (AllReadyH.cons rfl (fun K hK => ?_) AllReadyH.nil)
                          refine step_append_cells (by rfl) (.tmp 133) (.tmp 136) 37 (by rfl) wo.heap.size 43 (.agg #[.int .i64 0, .int .i64 0]) 2 16 (by kernel_rfl) (by kernel_rfl) rfl (by omega) (.slice A2_ ((k - i)) c2_) ((k - i)) (ivV (l.drop i)) fl3 (by rfl) (some ⟨b, off, none⟩) i c (ivV (l.take i)) (by rfl) (ll2.out) (C2.out.below Hb3) (ivV_one _) (by unfold maxLen; omega) (by omega) Zb3 ?_
                          intro v4 w4_ own4 hg4 st4
                          rw [← ivV_append] at own4
                          have fb4 := fb3.grown hg4 (fun e => aplb3 e.symm)
                          have al4 := apart_sits st4 aplb3 fb3.lt
                          have Hb4 : Below wo.heap.size wo w4_ := below_grown Hb3 hg4 Hb3.size (own_base fl3)
                          have Zb4 : wo.heap.size ≤ w4_.heap.size := Hb4.size
                          obtain ⟨A4_, c4_, rfl, le4, lm4, -⟩ := own_form own4
                          refine hK.out _ _ Hb4 fun _ => ?_
                          clear hK K
                          try simp only [List.getElem_toArray, List.getElem_cons_zero, List.getElem_cons_succ, Act.put, List.setIfInBounds_toArray, List.set_cons_zero, List.set_cons_succ]
                          refine wpAnyH_ready (rs := [14]) (by kernel_rfl) (by simp) (AllReadyH.cons rfl (fun K hK => ?_) AllReadyH.nil)
                          refine step_append_cells (by rfl) (.tmp 137) (.tmp 142) 37 (by rfl) wo.heap.size 43 (.agg #[.int .i64 0, .int .i64 0]) 2 16 (by kernel_rfl) (by kernel_rfl) rfl (by omega) (.slice A4_ ((k - i) + i) c4_) ((k - i) + i) (ivV ((l.drop i ++ l.take i))) own4 (by rfl) (some ⟨w2_.heap.size, 0, none⟩) 1 1 (ivV ([(x, y)])) (by rfl) (rfl) (cells_blkI fb4) (ivV_one _) (by unfold maxLen; omega) (by omega) Zb4 ?_
                          intro v5 w5_ own5 hg5 st5
                          rw [← ivV_append] at own5
                          have fb5 := fb4.grown hg5 (fun e => al4 e.symm)
                          have al5 := apart_sits st5 al4 fb4.lt
                          have Hb5 : Below wo.heap.size wo w5_ := below_grown Hb4 hg5 Hb4.size (own_base own4)
                          have Zb5 : wo.heap.size ≤ w5_.heap.size := Hb5.size
                          obtain ⟨A5_, c5_, rfl, le5, lm5, -⟩ := own_form own5
                          refine hK.out _ _ Hb5 fun _ => ?_
                          clear hK K
                          try simp only [List.getElem_toArray, List.getElem_cons_zero, List.getElem_cons_succ, Act.put, List.setIfInBounds_toArray, List.set_cons_zero, List.set_cons_succ]
                          refine wpAnyH_take (i := 15) (v := ?_) rfl (by kernel_rfl) (by kernel_rfl) (by kernel_rfl) (fun _ _ _ h => h) (Or.inl ⟨by rfl, ?_⟩) Hb5 ?_
                          rotate_left
                          · intro wS hSw
                            go_simp
                            try with_reducible rfl
                          try simp only [List.getElem_toArray, List.getElem_cons_zero, List.getElem_cons_succ, Act.put, List.setIfInBounds_toArray, List.set_cons_zero, List.set_cons_succ]
                          refine wpAnyH_done (by kernel_rfl) ?_ _
                          obtain ⟨w9, hw9⟩ : ∃ w9, w9 = w5_ := ⟨_, rfl⟩
                          subst hw9
                          have gB := Lib.hid Hb5
                          have gC := Lib.hid (Cells.own own5)
                          clear Hd
                          go_wp2_with (fail)
                          refine (Union_any A5_ (k - i + i + 1) c5_ (l.drop i ++ l.take i ++ [(x, y)]) _ lT.out (by omega) gC.out).mono ?_
                          rintro e wA (⟨-, A2, c2, u2, rfl, hu2, hc3, hc4, hC3, hb3⟩ | ⟨hf, rfl, hb3⟩)
                          rotate_left
                          · rw [hTa.out] at hf; cases hf
                          have hE := hTu.out u2 hu2
                          rw [hE] at hC3
                          rw [hE, Hm.out]
                          have gBA := Lib.hid (below_of gB.out hb3 gB.out.size)
                          have HUA := Lib.hid (HU6.out.below gBA.out)
                          have HVA := Lib.hid hC3
                          clear hu2 hE hc3 hc4 hC3 hb3 gC
                          go_wp2_with (fail)
                          refine (Union_any A1 q c1 u _ Hm.out (by omega) HUA.out).mono ?_
                          rintro e wB (⟨-, A3, c3, u3, rfl, hu3, hc3, hc4, hC3, hb3⟩ | ⟨hf, rfl, hb3⟩)
                          rotate_left
                          · rw [show allI u = true from List.all_eq_true.2 Hu.out.2.2.1] at hf; cases hf
                          have hE : u3 = u := (Iv.union_self Hu.out hu3).symm
                          rw [hE] at hC3
                          rw [hE, Hm.out]
                          have gBB := Lib.hid (below_of gBA.out hb3 gBA.out.size)
                          have HUB := Lib.hid (HU6.out.below gBB.out)
                          have HVB := Lib.hid (HVA.out.below hb3)
                          have HWB := Lib.hid hC3
                          clear hu3 hE hc3 hc4 hC3 hb3
                          go_wp2_with (fail)
                          refine (Same_any A1 q c1 u A2 q c2 u _ Hm.out Hm.out (by omega) (by omega) HUB.out HVB.out).mono ?_
                          rintro e wC ⟨rfl, hbC⟩
                          rw [show decide (u = u) = true from decide_eq_true rfl]
                          have gBC := Lib.hid (below_of gBB.out hbC gBB.out.size)
                          have HUC := Lib.hid (HU6.out.below gBC.out)
                          have HWC := Lib.hid (HWB.out.below hbC)
                          clear hbC
                          go_wp2_with (fail)
                          refine (Same_any A1 q c1 u A3 q c3 u _ Hm.out Hm.out (by omega) (by omega) HUC.out HWC.out).mono ?_
                          rintro e wD ⟨rfl, hbD⟩
                          rw [show decide (u = u) = true from decide_eq_true rfl]
                          have gBD := Lib.hid (below_of gBC.out hbD gBC.out.size)
                          clear hbD
                          go_wp2_with (fail)
                          go_ret
                          exact ⟨rfl, below_of HB6.out gBD.out HB6.out.size⟩
                      · go_simp
                        generalize hge : World.alloc _ _ = w2_
                        have fb2 : Blk w2_ w1_.heap.size 43 (#[.int .i64 x, .int .i64 y]) := by subst hge; exact Blk.new _ _ _
                        have hb2 : Below w1_.heap.size w1_ w2_ := by subst hge; exact (Below.refl _ _).alloc (Nat.le_refl _) _
                        clear hge
                        have fl2 := own_below fl1 hb2
                        have aplb2 := apart_new fl1
                        have lob2 : wo.heap.size ≤ w1_.heap.size := Zb1
                        have Hb2 : Below wo.heap.size wo w2_ := below_of Hb1 hb2 Hb1.size
                        have Zb2 : wo.heap.size ≤ w2_.heap.size := Nat.le_trans Zb1 hb2.size
                        refine hK.out _ _ Hb2 fun _ => ?_
                        clear hK K
                        try simp only [List.getElem_toArray, List.getElem_cons_zero, List.getElem_cons_succ, Act.put, List.setIfInBounds_toArray, List.set_cons_zero, List.set_cons_succ]
                        refine wpAnyH_ready (rs := [4]) (by kernel_rfl) (by simp) (AllReadyH.cons rfl (fun K hK => ?_) AllReadyH.nil)
                        refine step_append_cells (by rfl) (.tmp 129) (.tmp 132) 37 (by rfl) wo.heap.size 43 (.agg #[.int .i64 0, .int .i64 0]) 2 16 (by kernel_rfl) (by kernel_rfl) rfl (by omega) (.slice (some ⟨wd.heap.size, 0, none⟩) 0 0) (0) (ivV ([])) fl2 (by rfl) (some ⟨b, off + i * 2, none⟩) (k - i) (c - i) (ivV (l.drop i)) (by rfl) (ll1.out) (C1.out.below Hb2) (ivV_one _) (by unfold maxLen; omega) (by omega) Zb2 ?_
                        intro v3 w3_ own3 hg3 st3
                        rw [← ivV_append] at own3
                        have fb3 := fb2.grown hg3 (fun e => aplb2 e.symm)
                        have al3 := apart_sits st3 aplb2 fb2.lt
                        have Hb3 : Below wo.heap.size wo w3_ := below_grown Hb2 hg3 Hb2.size (own_base fl2)
                        have Zb3 : wo.heap.size ≤ w3_.heap.size := Hb3.size
                        obtain ⟨A3_, c3_, rfl, le3, lm3, -⟩ := own_form own3
                        rw [Nat.zero_add, List.nil_append] at own3
                        rw [Nat.zero_add] at le3 al3
                        simp only [Nat.zero_add]
                        refine hK.out _ _ Hb3 fun _ => ?_
                        clear hK K
                        try simp only [List.getElem_toArray, List.getElem_cons_zero, List.getElem_cons_succ, Act.put, List.setIfInBounds_toArray, List.set_cons_zero, List.set_cons_succ]
                        refine wpAnyH_ready (rs := [8]) (by kernel_rfl) (by simp) (AllReadyH.cons rfl (fun K hK => ?_) AllReadyH.nil)
                        refine step_append_cells (by rfl) (.tmp 133) (.tmp 136) 37 (by rfl) wo.heap.size 43 (.agg #[.int .i64 0, .int .i64 0]) 2 16 (by kernel_rfl) (by kernel_rfl) rfl (by omega) (.slice A3_ ((k - i)) c3_) ((k - i)) (ivV (l.drop i)) own3 (by rfl) (some ⟨b, off, none⟩) i c (ivV (l.take i)) (by rfl) (ll2.out) (C2.out.below Hb3) (ivV_one _) (by unfold maxLen; omega) (by omega) Zb3 ?_
                        intro v4 w4_ own4 hg4 st4
                        rw [← ivV_append] at own4
                        have fb4 := fb3.grown hg4 (fun e => al3 e.symm)
                        have al4 := apart_sits st4 al3 fb3.lt
                        have Hb4 : Below wo.heap.size wo w4_ := below_grown Hb3 hg4 Hb3.size (own_base own3)
                        have Zb4 : wo.heap.size ≤ w4_.heap.size := Hb4.size
                        obtain ⟨A4_, c4_, rfl, le4, lm4, -⟩ := own_form own4
                        refine hK.out _ _ Hb4 fun _ => ?_
                        clear hK K
                        try simp only [List.getElem_toArray, List.getElem_cons_zero, List.getElem_cons_succ, Act.put, List.setIfInBounds_toArray, List.set_cons_zero, List.set_cons_succ]
                        refine wpAnyH_ready (rs := [14]) (by kernel_rfl) (by simp) (AllReadyH.cons rfl (fun K hK => ?_) AllReadyH.nil)
                        refine step_append_cells (by rfl) (.tmp 137) (.tmp 142) 37 (by rfl) wo.heap.size 43 (.agg #[.int .i64 0, .int .i64 0]) 2 16 (by kernel_rfl) (by kernel_rfl) rfl (by omega) (.slice A4_ ((k - i) + i) c4_) ((k - i) + i) (ivV ((l.drop i ++ l.take i))) own4 (by rfl) (some ⟨w1_.heap.size, 0, none⟩) 1 1 (ivV ([(x, y)])) (by rfl) (rfl) (cells_blkI fb4) (ivV_one _) (by unfold maxLen; omega) (by omega) Zb4 ?_
                        intro v5 w5_ own5 hg5 st5
                        rw [← ivV_append] at own5
                        have fb5 := fb4.grown hg5 (fun e => al4 e.symm)
                        have al5 := apart_sits st5 al4 fb4.lt
                        have Hb5 : Below wo.heap.size wo w5_ := below_grown Hb4 hg5 Hb4.size (own_base own4)
                        have Zb5 : wo.heap.size ≤ w5_.heap.size := Hb5.size
                        obtain ⟨A5_, c5_, rfl, le5, lm5, -⟩ := own_form own5
                        refine hK.out _ _ Hb5 fun _ => ?_
                        clear hK K
                        try simp only [List.getElem_toArray, List.getElem_cons_zero, List.getElem_cons_succ, Act.put, List.setIfInBounds_toArray, List.set_cons_zero, List.set_cons_succ]
                        refine wpAnyH_take (i := 15) (v := ?_) rfl (by kernel_rfl) (by kernel_rfl) (by kernel_rfl) (fun _ _ _ h => h) (Or.inl ⟨by rfl, ?_⟩) Hb5 ?_
                        rotate_left
                        · intro wS hSw
                          go_simp
                          try with_reducible rfl
                        try simp only [List.getElem_toArray, List.getElem_cons_zero, List.getElem_cons_succ, Act.put, List.setIfInBounds_toArray, List.set_cons_zero, List.set_cons_succ]
                        refine wpAnyH_done (by kernel_rfl) ?_ _
                        obtain ⟨w9, hw9⟩ : ∃ w9, w9 = w5_ := ⟨_, rfl⟩
                        subst hw9
                        have gB := Lib.hid Hb5
                        have gC := Lib.hid (Cells.own own5)
                        clear Hd
                        go_wp2_with (fail)
                        refine (Union_any A5_ (k - i + i + 1) c5_ (l.drop i ++ l.take i ++ [(x, y)]) _ lT.out (by omega) gC.out).mono ?_
                        rintro e wA (⟨-, A2, c2, u2, rfl, hu2, hc3, hc4, hC3, hb3⟩ | ⟨hf, rfl, hb3⟩)
                        rotate_left
                        · rw [hTa.out] at hf; cases hf
                        have hE := hTu.out u2 hu2
                        rw [hE] at hC3
                        rw [hE, Hm.out]
                        have gBA := Lib.hid (below_of gB.out hb3 gB.out.size)
                        have HUA := Lib.hid (HU6.out.below gBA.out)
                        have HVA := Lib.hid hC3
                        clear hu2 hE hc3 hc4 hC3 hb3 gC
                        go_wp2_with (fail)
                        refine (Union_any A1 q c1 u _ Hm.out (by omega) HUA.out).mono ?_
                        rintro e wB (⟨-, A3, c3, u3, rfl, hu3, hc3, hc4, hC3, hb3⟩ | ⟨hf, rfl, hb3⟩)
                        rotate_left
                        · rw [show allI u = true from List.all_eq_true.2 Hu.out.2.2.1] at hf; cases hf
                        have hE : u3 = u := (Iv.union_self Hu.out hu3).symm
                        rw [hE] at hC3
                        rw [hE, Hm.out]
                        have gBB := Lib.hid (below_of gBA.out hb3 gBA.out.size)
                        have HUB := Lib.hid (HU6.out.below gBB.out)
                        have HVB := Lib.hid (HVA.out.below hb3)
                        have HWB := Lib.hid hC3
                        clear hu3 hE hc3 hc4 hC3 hb3
                        go_wp2_with (fail)
                        refine (Same_any A1 q c1 u A2 q c2 u _ Hm.out Hm.out (by omega) (by omega) HUB.out HVB.out).mono ?_
                        rintro e wC ⟨rfl, hbC⟩
                        rw [show decide (u = u) = true from decide_eq_true rfl]
                        have gBC := Lib.hid (below_of gBB.out hbC gBB.out.size)
                        have HUC := Lib.hid (HU6.out.below gBC.out)
                        have HWC := Lib.hid (HWB.out.below hbC)
                        clear hbC
                        go_wp2_with (fail)
                        refine (Same_any A1 q c1 u A3 q c3 u _ Hm.out Hm.out (by omega) (by omega) HUC.out HWC.out).mono ?_
                        rintro e wD ⟨rfl, hbD⟩
                        rw [show decide (u = u) = true from decide_eq_true rfl]
                        have gBD := Lib.hid (below_of gBC.out hbD gBC.out.size)
                        clear hbD
                        go_wp2_with (fail)
                        go_ret
                        exact ⟨rfl, below_of HB6.out gBD.out HB6.out.size⟩
                    · go_simp
                      generalize hge : World.alloc _ _ = w1_
                      have fb1 : Blk w1_ wd.heap.size 43 (#[.int .i64 x, .int .i64 y]) := by subst hge; exact Blk.new _ _ _
                      have hb1 : Below wd.heap.size wd w1_ := by subst hge; exact (Below.refl _ _).alloc (Nat.le_refl _) _
                      clear hge
                      have lob1 : wo.heap.size ≤ wd.heap.size := Zd
                      have Hb1 : Below wo.heap.size wo w1_ := below_of Hd hb1 Hd.size
                      have Zb1 : wo.heap.size ≤ w1_.heap.size := Nat.le_trans Zd hb1.size
                      refine hK.out _ _ Hb1 fun _ => ?_
                      clear hK K
                      try simp only [List.getElem_toArray, List.getElem_cons_zero, List.getElem_cons_succ, Act.put, List.setIfInBounds_toArray, List.set_cons_zero, List.set_cons_succ]
                      refine wpAnyH_ready (rs := [0]) (by kernel_rfl) (by simp) (AllReadyH.cons rfl (fun K hK => ?_) AllReadyH.nil)
                      go_simp
                      generalize hge : World.alloc _ _ = w2_
                      have fl2 : w2_.ownsRow wo.heap.size 43 2 (.slice (some ⟨w1_.heap.size, 0, none⟩) 0 0) 0 (ivV []) := by subst hge; exact World.ownsRow_lit (e := 43) (size := 2) w1_ #[] 0 Zb1 (Nat.zero_le _) rfl
                      have hb2 : Below w1_.heap.size w1_ w2_ := by subst hge; exact (Below.refl _ _).alloc (Nat.le_refl _) _
                      clear hge
                      have Hb2 : Below wo.heap.size wo w2_ := below_of Hb1 hb2 Hb1.size
                      have Zb2 : wo.heap.size ≤ w2_.heap.size := Hb2.size
                      have fb2 := fb1.below hb2
                      have al2 : Apart (.slice (some ⟨w1_.heap.size, 0, none⟩) 0 0) (wd.heap.size) := apart_lit fb1.lt
                      refine hK.out _ _ Hb2 fun _ => ?_
                      clear hK K
                      try simp only [List.getElem_toArray, List.getElem_cons_zero, List.getElem_cons_succ, Act.put, List.setIfInBounds_toArray, List.set_cons_zero, List.set_cons_succ]
                      refine wpAnyH_ready (rs := [4]) (by kernel_rfl) (by simp) (AllReadyH.cons rfl (fun K hK => ?_) AllReadyH.nil)
                      refine step_append_cells (by rfl) (.tmp 129) (.tmp 132) 37 (by rfl) wo.heap.size 43 (.agg #[.int .i64 0, .int .i64 0]) 2 16 (by kernel_rfl) (by kernel_rfl) rfl (by omega) (.slice (some ⟨w1_.heap.size, 0, none⟩) 0 0) (0) (ivV ([])) fl2 (by rfl) (some ⟨b, off + i * 2, none⟩) (k - i) (c - i) (ivV (l.drop i)) (by rfl) (ll1.out) (C1.out.below Hb2) (ivV_one _) (by unfold maxLen; omega) (by omega) Zb2 ?_
                      intro v3 w3_ own3 hg3 st3
                      rw [← ivV_append] at own3
                      have fb3 := fb2.grown hg3 (fun e => al2 e.symm)
                      have al3 := apart_sits st3 al2 fb2.lt
                      have Hb3 : Below wo.heap.size wo w3_ := below_grown Hb2 hg3 Hb2.size (own_base fl2)
                      have Zb3 : wo.heap.size ≤ w3_.heap.size := Hb3.size
                      obtain ⟨A3_, c3_, rfl, le3, lm3, -⟩ := own_form own3
                      rw [Nat.zero_add, List.nil_append] at own3
                      rw [Nat.zero_add] at le3 al3
                      simp only [Nat.zero_add]
                      refine hK.out _ _ Hb3 fun _ => ?_
                      clear hK K
                      try simp only [List.getElem_toArray, List.getElem_cons_zero, List.getElem_cons_succ, Act.put, List.setIfInBounds_toArray, List.set_cons_zero, List.set_cons_succ]
                      refine wpAnyH_ready (rs := [8]) (by kernel_rfl) (by simp) (AllReadyH.cons rfl (fun K hK => ?_) AllReadyH.nil)
                      refine step_append_cells (by rfl) (.tmp 133) (.tmp 136) 37 (by rfl) wo.heap.size 43 (.agg #[.int .i64 0, .int .i64 0]) 2 16 (by kernel_rfl) (by kernel_rfl) rfl (by omega) (.slice A3_ ((k - i)) c3_) ((k - i)) (ivV (l.drop i)) own3 (by rfl) (some ⟨b, off, none⟩) i c (ivV (l.take i)) (by rfl) (ll2.out) (C2.out.below Hb3) (ivV_one _) (by unfold maxLen; omega) (by omega) Zb3 ?_
                      intro v4 w4_ own4 hg4 st4
                      rw [← ivV_append] at own4
                      have fb4 := fb3.grown hg4 (fun e => al3 e.symm)
                      have al4 := apart_sits st4 al3 fb3.lt
                      have Hb4 : Below wo.heap.size wo w4_ := below_grown Hb3 hg4 Hb3.size (own_base own3)
                      have Zb4 : wo.heap.size ≤ w4_.heap.size := Hb4.size
                      obtain ⟨A4_, c4_, rfl, le4, lm4, -⟩ := own_form own4
                      refine hK.out _ _ Hb4 fun _ => ?_
                      clear hK K
                      try simp only [List.getElem_toArray, List.getElem_cons_zero, List.getElem_cons_succ, Act.put, List.setIfInBounds_toArray, List.set_cons_zero, List.set_cons_succ]
                      refine wpAnyH_ready (rs := [14]) (by kernel_rfl) (by simp) (AllReadyH.cons rfl (fun K hK => ?_) AllReadyH.nil)
                      refine step_append_cells (by rfl) (.tmp 137) (.tmp 142) 37 (by rfl) wo.heap.size 43 (.agg #[.int .i64 0, .int .i64 0]) 2 16 (by kernel_rfl) (by kernel_rfl) rfl (by omega) (.slice A4_ ((k - i) + i) c4_) ((k - i) + i) (ivV ((l.drop i ++ l.take i))) own4 (by rfl) (some ⟨wd.heap.size, 0, none⟩) 1 1 (ivV ([(x, y)])) (by rfl) (rfl) (cells_blkI fb4) (ivV_one _) (by unfold maxLen; omega) (by omega) Zb4 ?_
                      intro v5 w5_ own5 hg5 st5
                      rw [← ivV_append] at own5
                      have fb5 := fb4.grown hg5 (fun e => al4 e.symm)
                      have al5 := apart_sits st5 al4 fb4.lt
                      have Hb5 : Below wo.heap.size wo w5_ := below_grown Hb4 hg5 Hb4.size (own_base own4)
                      have Zb5 : wo.heap.size ≤ w5_.heap.size := Hb5.size
                      obtain ⟨A5_, c5_, rfl, le5, lm5, -⟩ := own_form own5
                      refine hK.out _ _ Hb5 fun _ => ?_
                      clear hK K
                      try simp only [List.getElem_toArray, List.getElem_cons_zero, List.getElem_cons_succ, Act.put, List.setIfInBounds_toArray, List.set_cons_zero, List.set_cons_succ]
                      refine wpAnyH_take (i := 15) (v := ?_) rfl (by kernel_rfl) (by kernel_rfl) (by kernel_rfl) (fun _ _ _ h => h) (Or.inl ⟨by rfl, ?_⟩) Hb5 ?_
                      rotate_left
                      · intro wS hSw
                        go_simp
                        try with_reducible rfl
                      try simp only [List.getElem_toArray, List.getElem_cons_zero, List.getElem_cons_succ, Act.put, List.setIfInBounds_toArray, List.set_cons_zero, List.set_cons_succ]
                      refine wpAnyH_done (by kernel_rfl) ?_ _
                      obtain ⟨w9, hw9⟩ : ∃ w9, w9 = w5_ := ⟨_, rfl⟩
                      subst hw9
                      have gB := Lib.hid Hb5
                      have gC := Lib.hid (Cells.own own5)
                      clear Hd
                      go_wp2_with (fail)
                      refine (Union_any A5_ (k - i + i + 1) c5_ (l.drop i ++ l.take i ++ [(x, y)]) _ lT.out (by omega) gC.out).mono ?_
                      rintro e wA (⟨-, A2, c2, u2, rfl, hu2, hc3, hc4, hC3, hb3⟩ | ⟨hf, rfl, hb3⟩)
                      rotate_left
                      · rw [hTa.out] at hf; cases hf
                      have hE := hTu.out u2 hu2
                      rw [hE] at hC3
                      rw [hE, Hm.out]
                      have gBA := Lib.hid (below_of gB.out hb3 gB.out.size)
                      have HUA := Lib.hid (HU6.out.below gBA.out)
                      have HVA := Lib.hid hC3
                      clear hu2 hE hc3 hc4 hC3 hb3 gC
                      go_wp2_with (fail)
                      refine (Union_any A1 q c1 u _ Hm.out (by omega) HUA.out).mono ?_
                      rintro e wB (⟨-, A3, c3, u3, rfl, hu3, hc3, hc4, hC3, hb3⟩ | ⟨hf, rfl, hb3⟩)
                      rotate_left
                      · rw [show allI u = true from List.all_eq_true.2 Hu.out.2.2.1] at hf; cases hf
                      have hE : u3 = u := (Iv.union_self Hu.out hu3).symm
                      rw [hE] at hC3
                      rw [hE, Hm.out]
                      have gBB := Lib.hid (below_of gBA.out hb3 gBA.out.size)
                      have HUB := Lib.hid (HU6.out.below gBB.out)
                      have HVB := Lib.hid (HVA.out.below hb3)
                      have HWB := Lib.hid hC3
                      clear hu3 hE hc3 hc4 hC3 hb3
                      go_wp2_with (fail)
                      refine (Same_any A1 q c1 u A2 q c2 u _ Hm.out Hm.out (by omega) (by omega) HUB.out HVB.out).mono ?_
                      rintro e wC ⟨rfl, hbC⟩
                      rw [show decide (u = u) = true from decide_eq_true rfl]
                      have gBC := Lib.hid (below_of gBB.out hbC gBB.out.size)
                      have HUC := Lib.hid (HU6.out.below gBC.out)
                      have HWC := Lib.hid (HWB.out.below hbC)
                      clear hbC
                      go_wp2_with (fail)
                      refine (Same_any A1 q c1 u A3 q c3 u _ Hm.out Hm.out (by omega) (by omega) HUC.out HWC.out).mono ?_
                      rintro e wD ⟨rfl, hbD⟩
                      rw [show decide (u = u) = true from decide_eq_true rfl]
                      have gBD := Lib.hid (below_of gBC.out hbD gBC.out.size)
                      clear hbD
                      go_wp2_with (fail)
                      go_ret
                      exact ⟨rfl, below_of HB6.out gBD.out HB6.out.size⟩
-- the row
theorem calendarPoints_own : ownKnob Tryd.prog.godebug = none := by kernel_rfl
theorem calendarPoints_laidOut : laidOutB Tryd.prog = true := by kernel_rfl
theorem calendarPoints_readable : (Tryd.f7.params.toList.all fun t => Tryd.prog.readableRec t && decide (t < Tryd.prog.types.size)) = true := by kernel_rfl
set_option maxRecDepth 100000 in
theorem calendarPoints_lifted (os : Os) (started : os.Started) (H : Type) (enc : TypeId × Value → H) :
    ReturnsInHanded {} Tryd.checked os 7 .any (fun w args => (Rows.calendarPointsSpec.pre enc Tryd.prog Tryd.f7 [] false w args ∧ laidMetH Tryd.prog laidL w) ∧ sizedMet enc Tryd.prog Tryd.f7 (OpenSpec.ofChange Rows.calendarPointsSpec) false w args) (Rows.calendarPointsSpec.post enc Tryd.prog Tryd.f7 false true false false) := by
  refine returnsInHanded_of_change_and (C := Tryd.checked) (X := fun w _ => laidMetH Tryd.prog laidL w) (fun _ _ _ hh h => h.of_heap hh) calendarPoints_own started (by kernel_rfl) Tryd.func7
    (ChangeSpec.witness_shaped (enc := enc) (C := Tryd.checked) (os := os) (X := fun w _ => laidMetH Tryd.prog laidL w) false (World.doorLaid Tryd.prog 400 os) #[.slice none 0 0, .int .i64 0, .int .u64 0] 8 rfl (World.shaped_of_RefB (by kernel_rfl) (by kernel_rfl)) (by kernel_rfl) (by kernel_rfl) (by kernel_rfl) (door_met os _)) ?_
  intro W base args ds gs before hval0 hW _ _ hL _
  have hval : ∀ (j : Nat) t v, Tryd.f7.params[j]? = some t → args[j]? = some v → Value.okWide Tryd.prog W .any base t v := hval0
  have hW' := hW
  obtain ⟨p, q, hA0, hV, rfl, hfz, hnd⟩ := hW
  have hA : DataW.TrodAll enc Tryd.prog W 0 (fun _ => true) true Tryd.f7.params.toList args.toList ds p := hA0
  rw [Tryd.params7] at hA hval
  obtain ⟨v0, vs0, d0, ds0, p0, q0, hargs, rfl, rfl, h0, r0⟩ := trodAll_cons hA
  obtain ⟨v1, vs1, d1, ds1, p1, q1, rfl, rfl, rfl, h1, r1⟩ := trodAll_cons r0
  obtain ⟨v2, vs2, d2, ds2, p2, q2, rfl, rfl, rfl, h2, r2⟩ := trodAll_cons r1
  obtain ⟨rfl, rfl, rfl⟩ := trodAll_nil r2
  obtain rfl : args = #[v0, v1, v2] := by cases args; simp_all
  obtain ⟨rfl, rfl⟩ := trodVars_none hV
  obtain ⟨A0, n0, c0, l0, rfl, e0, nc0, cm0, g0, w0⟩ := open_ivs (hval 0 37 v0 rfl rfl) h0
  obtain ⟨a1, rfl, rfl, rfl, w1⟩ := open_int Tryd.underlying3 (hval 1 3 v1 rfl rfl) h1
  obtain ⟨a2, rfl, rfl, rfl, w2⟩ := open_int Tryd.underlying38 (hval 2 38 v2 rfl rfl) h2
  refine (CalendarPoints_walk W (lens_of_laid hL) A0 n0 c0 l0 e0 nc0 cm0 g0 w0 a1 w1 a2 w2).mono fun e W' ⟨he, hb⟩ => ?_
  subst he
  simp only [List.append_nil] at hW'
  refine ⟨_, rfl, law_post calendarPoints_laidOut ?_ (by kernel_rfl) Tryd.underlying4 rfl hW' rfl rfl rfl hb⟩
  intro t ht
  have hr := List.all_eq_true.1 calendarPoints_readable t ht
  rw [Bool.and_eq_true] at hr
  exact ⟨hr.1, of_decide_eq_true hr.2⟩
theorem calendarPoints_over : Rows.calendarPointsRow.holds Tryd.pinned (OpenSpec.ofChange Rows.calendarPointsSpec) :=
  OpenClaim.holds_of_wide 7 Tryd.f7 rfl rfl rfl rfl rfl rfl rfl ⟨rfl, rfl, rfl, rfl, rfl⟩ rfl rfl rfl rfl rfl (by kernel_rfl) Tryd.func7 (by kernel_rfl)
    (of_decide_eq_true (by kernel_rfl)) (by unfold Func.isWrapper; rw [if_neg (of_decide_eq_false (by kernel_rfl))]; exact ⟨rfl, rfl⟩)
    (fun os started H enc _ => calendarPoints_lifted os started H enc)
theorem calendarPoints_proved : Rows.CalendarPointsCardSaid :=
  Claim7.holds_tied_plain_at .later [] [.data] true (true, "ecf52cd2f0e00eeb5a9e4ad7f568b0262762c417b538ca74502acb76cf8551ff") false
    calendarPoints_over (fun _ h => by cases h) (by kernel_rfl) (fun _ h => by cases h) calendarPoints_row_tie rfl ⟨rfl, rfl⟩ (by kernel_rfl) rfl
    (fun f fn hf hfn => by
      obtain rfl : f = 7 := Option.some.inj ((show Tryd.prog.funcNamed Rows.calendarPointsRow.func = some 7 by kernel_rfl).symm.trans hf) |>.symm
      obtain rfl : fn = Tryd.f7 := (Option.some.inj (Tryd.func7.symm.trans hfn)).symm
      exact ⟨by kernel_rfl, fun j t ht => by
        rw [Tryd.params7] at ht
        have hm : t ∈ [37, 3, 38] := by simpa using Array.mem_of_getElem? ht
        have hall : ([37, 3, 38].all fun u => !Tryd.prog.wantsStandIn u) = true := by kernel_rfl
        exact (show Tryd.prog.wantsStandIn t = false by simpa using List.all_eq_true.1 hall t hm)⟩)
    (by kernel_rfl)
#print axioms calendarPoints_proved
end Go.Proofs.YtlijdbgknbeefaaDoor
