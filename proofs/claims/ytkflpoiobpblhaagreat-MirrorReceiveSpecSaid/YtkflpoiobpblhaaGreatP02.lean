/- Walks and plain laws that the statement rests on: MIt, MInc. -/
import Derived.BigGuardPart
import Derived.Deep.DeepCutAuto
import Derived.Deep.RegionHeld3
import Derived.Laws.Cover1
import Derived.Laws.EntriesVeiled
import Derived.Laws.Strings
import Derived.Test.YtkflpoiobpblhaaGreatChecked
import Derived.Test.YtkflpoiobpblhaaGreatRows
import Derived.Test.YtkflpoiobpblhaaGreatP00
import Derived.Test.YtkflpoiobpblhaaGreatP01
import Derived.Test.YtkflpoiobpblhaaGreatPS
namespace Go.Proofs.YtkflpoiobpblhaaGreat
open Go.RowKit
set_option linter.unusedVariables false
set_option linter.unusedSimpArgs false
namespace Mir
abbrev It := ByteArray × List Nat
def nameB (s : ByteArray) : Bool := decide ((0 : Int) < (s.size : Int)) && decide ((s.size : Int) ≤ 64)
def nlt (a b : ByteArray) : Bool := Op.bytesLess a.toList b.toList
def incAt (ns : List ByteArray) (i : Nat) : Bool := nameB (ns.getD i ⟨#[]⟩) && (decide (i = 0) || nlt (ns.getD (i - 1) ⟨#[]⟩) (ns.getD i ⟨#[]⟩))
def incS (ns : List ByteArray) : Bool := (List.range ns.length).all (incAt ns)
theorem incS_bad {ns : List ByteArray} {k : Nat} (hk : k < ns.length) (h : incAt ns k = false) : incS ns = false := List.all_eq_false.2 ⟨k, List.mem_range.2 hk, by rw [h]; simp⟩
theorem incS_good {ns : List ByteArray} (h : ∀ k, k < ns.length → incAt ns k = true) : incS ns = true := List.all_eq_true.2 fun k hk => h k (List.mem_range.1 hk)
def itV : List (Option Addr × Nat) → List It → List Value
 | h :: hs, x :: l => .string x.1 :: .slice h.1 x.2.length h.2 :: itV hs l
 | [], _ => []
 | _ :: _, [] => []
theorem itV_length : ∀ hs l, hs.length = l.length → (itV hs l).length = l.length * 2
 | [], [], _ => rfl
 | h :: hs, x :: l, e => by simp only [itV, List.length_cons]; rw [itV_length hs l (by simpa using e)]; omega
 | [], _ :: _, e => by simp at e
 | _ :: _, [], e => by simp at e
theorem itV_one : ∀ hs l, ∀ u ∈ itV hs l, u.oneCell' = true
 | h :: hs, x :: l, u, hu => by
   simp only [itV, List.mem_cons] at hu
   rcases hu with rfl | rfl | hu
   · rfl
   · rfl
   · exact itV_one hs l u hu
 | [], _, u, hu => by simp [itV] at hu
 | _ :: _, [], u, hu => by simp [itV] at hu
theorem itV_get : ∀ (hs : List (Option Addr × Nat)) (l : List It) (k : Nat) (h : Option Addr × Nat) (x : It), hs[k]? = some h → l[k]? = some x → (itV hs l)[k * 2]? = some (.string x.1) ∧ (itV hs l)[k * 2 + 1]? = some (.slice h.1 x.2.length h.2)
 | h :: hs, x :: l, 0, h', x', e, e' => by simp at e e'; subst e; subst e'; simp [itV]
 | h :: hs, x :: l, k + 1, h', x', e, e' => by
   have := itV_get hs l k h' x' (by simpa using e) (by simpa using e')
   rw [show (k + 1) * 2 = k * 2 + 1 + 1 by omega]
   simpa [itV] using this
 | [], _, _, _, _, e, _ => by simp at e
 | _ :: _, [], _, _, _, _, e => by simp at e
def bytesI (d : List Nat) : List Value := d.map fun b : Nat => .int .u8 (b : Int)
end Mir
def ItemsC (w : World) (A : Option Addr) (l : List Mir.It) : Prop :=
 ∃ hs, hs.length = l.length ∧ Cells w A (Mir.itV hs l) ∧ ∀ (k : Nat) (h : Option Addr × Nat) (x : Mir.It), hs[k]? = some h → l[k]? = some x → x.2.length ≤ h.2 ∧ h.2 ≤ maxLen ∧ Cells w h.1 (Mir.bytesI x.2) ∧ ∀ b ∈ x.2, b < 256
theorem ItemsC.below {w w' : World} {A : Option Addr} {l : List Mir.It} (h : ItemsC w A l) (hb : Below w.heap.size w w') : ItemsC w' A l := by
 obtain ⟨hs, h1, h2, h3⟩ := h
 exact ⟨hs, h1, h2.below hb, fun k x y e1 e2 => ⟨(h3 k x y e1 e2).1, (h3 k x y e1 e2).2.1, (h3 k x y e1 e2).2.2.1.below hb, (h3 k x y e1 e2).2.2.2⟩⟩
theorem ItemsC.nil_ (w : World) (A : Option Addr) : ItemsC w A [] := ⟨[], rfl, .inl rfl, fun k x y e1 _ => by simp at e1⟩
theorem ItemsC.at_ {w : World} {A : Option Addr} {l : List Mir.It} (h : ItemsC w A l) (hl : 0 < l.length) :
    ∃ b off, A = some ⟨b, off, none⟩ ∧ b < w.heap.size ∧ ∀ (k : Nat) (x : Mir.It), l[k]? = some x → ∃ D c, w.cell? ⟨b, off + k * 2, none⟩ = some (.string x.1) ∧ w.cell? ⟨b, off + k * 2 + 1, none⟩ = some (.slice D x.2.length c) ∧ x.2.length ≤ c ∧ c ≤ maxLen ∧ Cells w D (Mir.bytesI x.2) ∧ ∀ b ∈ x.2, b < 256 := by
 obtain ⟨hs, h1, h2, h3⟩ := h
 obtain ⟨b, off, rfl, hb, hc⟩ := Cells.addr h2 (by rw [Mir.itV_length _ _ h1]; omega)
 refine ⟨b, off, rfl, hb, fun k x hx => ?_⟩
 have hlt := (List.getElem?_eq_some_iff.1 hx).1
 obtain ⟨y, hy⟩ := getElem?_lt (l := hs) (k := k) (by omega)
 obtain ⟨g1, g2⟩ := Mir.itV_get hs l k y x hy hx
 obtain ⟨e1, e2, e3, e4⟩ := h3 k y x hy hx
 exact ⟨y.1, y.2, hc _ _ g1, by rw [Nat.add_assoc]; exact hc _ _ g2, e1, e2, e3, e4⟩
theorem cellkM {W W' : World} {a : Addr} {v : Value} (hb : Below W.heap.size W W') (h : W.cell? a = some v) : W'.cell? a = some v := (hb.cell (World.block_lt_of_cell? W a h)).trans h
set_option maxHeartbeats 4000000 in
theorem isName_any (s : ByteArray) (w : World) : Calls Tryz.prog 115 #[.string s] w fun e w' => e = .returned (.bool (Mir.nameB s)) ∧ w = w' := by
 unfold Mir.nameB
 by_cases h1 : (0 : Int) < (s.size : Int)
 · have d1 : decide ((0 : Int) < (s.size : Int)) = true := by simpa using h1
   have d1' : decide (0 < s.size) = true := by simpa using h1
   by_cases h2 : (s.size : Int) ≤ 64
   · have d2 : decide ((s.size : Int) ≤ 64) = true := by simpa using h2
     rw [d1, d2]
     go_enter Tryz.func115, Tryz.ntmps115
     go_wp2_with (fail)
     go_ret
     exact ⟨rfl, rfl⟩
   · have d2 : decide ((s.size : Int) ≤ 64) = false := by simpa using h2
     rw [d1, d2]
     go_enter Tryz.func115, Tryz.ntmps115
     go_wp2_with (fail)
     go_ret
     exact ⟨rfl, rfl⟩
 · have d1 : decide ((0 : Int) < (s.size : Int)) = false := by simpa using h1
   have d1' : decide (0 < s.size) = false := by simpa using h1
   rw [d1]
   go_enter Tryz.func115, Tryz.ntmps115
   go_wp2_with (fail)
   go_ret
   exact ⟨rfl, rfl⟩
set_option maxHeartbeats 4000000 in
theorem itName_any (s : ByteArray) (A : Option Addr) (n c : Nat) (w : World) : Calls Tryz.prog 90 #[.agg #[.string s, .slice A n c]] w fun e w' => e = .returned (.string s) ∧ Below w.heap.size w w' := by
 go_enter Tryz.func90, Tryz.ntmps90
 go_wp2_with (fail)
 go_ret
 exact ⟨rfl, (Below.refl _ _).alloc (Nat.le_refl _) _⟩
end Go.Proofs.YtkflpoiobpblhaaGreat
namespace Go.Proofs.YtkflpoiobpblhaaGreat
open Go.RowKit
set_option linter.unusedVariables false
set_option linter.unusedSimpArgs false
theorem names_get {l : List Mir.It} {k : Nat} {x : Mir.It} (h : l[k]? = some x) : (l.map Prod.fst).getD k ⟨#[]⟩ = x.1 := by
 rw [List.getD_eq_getElem?_getD, List.getElem?_map, h]; rfl
set_option maxRecDepth 100000 in
set_option maxHeartbeats 8000000 in
theorem incI_any (A : Option Addr) (n c : Nat) (l : List Mir.It) (w : World) (hl : l.length = n) (hn : n ≤ 1000000) (hC : ItemsC w A l) :
    Calls Tryz.prog 89 #[.slice A n c, .func (.func 90) #[] #[]] w fun e w' => e = .returned (.bool (Mir.incS (l.map Prod.fst))) ∧ Below w.heap.size w w' := by
 have HC := Lib.hid hC
 have Hl := Lib.hid hl
 have HN := Lib.hid (fun s W => isName_any s W)
 have HT := Lib.hid (fun s D m d W => itName_any s D m d W)
 clear hC hl
 obtain ⟨R, hR⟩ : ∃ R, Mir.incS (l.map Prod.fst) = R := ⟨_, rfl⟩
 have HR := Lib.hid hR
 rw [hR]
 clear hR
 go_enter Tryz.func89, Tryz.ntmps89
 go_wp2_with (fail)
 go_loopw [9] (fun i W => ∃ k : Nat, k ≤ n ∧ i = .int .i64 k ∧ Hid (∀ j, j < k → Mir.incAt (l.map Prod.fst) j = true) ∧ Hid (Below w.heap.size w W)) (fun i _ => n - (intOf i).toNat)
 case atStart => exact ⟨0, Nat.zero_le _, rfl, Lib.hid (fun j h => by omega), Below.refl _ _⟩
 case round =>
  obtain ⟨wk, rfl⟩ : ∃ wk : World, wk = wr := ⟨_, rfl⟩
  obtain ⟨k, hk, rfl, Hg, hB⟩ := hrel
  by_cases hlt : k < n
  · obtain ⟨⟨s, dat⟩, hx⟩ := getElem?_lt (l := l) (k := k) (by rw [Hl.out]; exact hlt)
    obtain ⟨b, off, rfl, hb, hcs⟩ := (HC.out.below hB.out).at_ (by rw [Hl.out]; omega)
    obtain ⟨D, cd, hc1, hc2, -, -, -, -⟩ := hcs k _ hx
    have Gx := Lib.hid (names_get hx)
    obtain ⟨md, hmd⟩ : ∃ md, md = dat.length := ⟨_, rfl⟩
    simp only [] at hc1 hc2
    rw [← hmd] at hc2
    clear hmd
    have HN1 := Lib.hid (fun W => HN.out s W)
    have HT1 := Lib.hid (fun W => HT.out s D md cd W)
    obtain ⟨nb, hnb⟩ : ∃ nb, nb = Mir.nameB s := ⟨_, rfl⟩
    rw [← hnb] at HN1
    have Hnb := Lib.hid hnb
    clear hnb
    cases nb with
    | false =>
      have hf : R = false := by
       rw [← HR.out]
       refine Mir.incS_bad (k := k) (by rw [List.length_map, Hl.out]; exact hlt) ?_
       unfold Mir.incAt
       rw [Gx.out, ← Hnb.out]; rfl
      subst hf
      go_upto_region 4 with (fail)
      generalize hge : World.alloc _ _ = wx
      have bX : Blk wx wk.heap.size 61 #[.string s, .slice D md cd] := by subst hge; exact Blk.new wk _ _
      have hbX := al1 hge
      clear hge
      have x0 : wx.cell? ⟨wk.heap.size, 0, none⟩ = some (.string s) := bX.cell 0
      have x1 : wx.cell? ⟨wk.heap.size, 1, none⟩ = some (.slice D md cd) := bX.cell 1
      have HBX := Lib.hid (below_of hB.out hbX hB.out.size)
      have ltX := World.block_lt_of_cell? wx _ x0
      clear bX
      obtain ⟨X, hX⟩ : ∃ X, wk.heap.size = X := ⟨_, rfl⟩
      rw [hX] at x0 x1 ltX ⊢
      clear hX
      refine wp_region_held_drew (S := fun W => Below wx.heap.size wx W) (by kernel_rfl) (below_drewN (Below.refl _ _) 1) (fun Hd => ?_)
      have Hd : Below wx.heap.size wx wx.drew := below_drewN (Below.refl _ _) 1
      have Zd : wx.heap.size ≤ wx.drew.heap.size := Nat.le_refl _
      generalize World.drew wx = wd at *
      refine tq 0 rfl Hd ?_
      refine ts 1 rfl Hd (fun wS hSw => by
       have c1 := (hSw.cell (p := ⟨X, 0, none⟩) ltX).trans x0
       have c2 := (hSw.cell (p := ⟨X, 1, none⟩) ltX).trans x1
       go_simp
       try with_reducible rfl) ?_
      try simp only [la, Act.put]
      refine ty 2 rfl (fun K hK => ?_)
      go_simp
      refine (HT1.out _).mono ?_
      rintro e w1_ ⟨rfl, hb1⟩
      have Hb1 := below_of Hd hb1 Hd.size
      have Zb1 := Nat.le_trans Zd hb1.size
      go_wp2_with (fail)
      refine hK.out _ _ Hb1 fun _ => ?_
      clear hK K
      try simp only [la, Act.put]
      refine ty 3 rfl (fun K hK => ?_)
      go_simp
      refine (HN1.out _).mono ?_
      rintro e w2_ ⟨rfl, he2⟩
      have hb2 : Below w1_.heap.size w1_ w2_ := by rw [← he2]; exact Below.refl _ _
      have Hb2 := below_of Hb1 hb2 Hb1.size
      have Zb2 := Nat.le_trans Zb1 hb2.size
      go_wp2_with (fail)
      refine hK.out _ _ Hb2 fun _ => ?_
      clear hK K
      try simp only [la, Act.put]
      refine tq 4 rfl Hb2 ?_
      refine tq 5 rfl Hb2 ?_
      try simp only [la, Act.put]
      refine tn 6 rfl Hb2 ?_
      refine tn 7 rfl Hb2 ?_
      try simp only [la, Act.put]
      refine tn 8 rfl Hb2 ?_
      refine tn 9 rfl Hb2 ?_
      try simp only [la, Act.put]
      refine tn 10 rfl Hb2 ?_
      refine tn 11 rfl Hb2 ?_
      try simp only [la, Act.put]
      refine tn 12 rfl Hb2 ?_
      refine tn 13 rfl Hb2 ?_
      try simp only [la, Act.put]
      refine tn 14 rfl Hb2 ?_
      refine tn 15 rfl Hb2 ?_
      try simp only [la, Act.put]
      refine tn 16 rfl Hb2 ?_
      refine tn 17 rfl Hb2 ?_
      try simp only [la, Act.put]
      refine tn 18 rfl Hb2 ?_
      refine tn 19 rfl Hb2 ?_
      try simp only [la, Act.put]
      refine tn 20 rfl Hb2 ?_
      refine tq 21 rfl Hb2 ?_
      try simp only [la, Act.put]
      refine td ?_ _
      go_wp2_with (fail)
      go_ret
      exact ⟨rfl, below_of HBX.out Hb2 HBX.out.size⟩
    | true =>
      rcases Nat.eq_zero_or_pos k with h0 | h0
      · have hg : Mir.incAt (l.map Prod.fst) k = true := by
          unfold Mir.incAt
          rw [Gx.out, ← Hnb.out, decide_eq_true h0]; rfl
        have Hg2 := Lib.hid hg
        have dk : decide ((0 : Int) < (k : Int)) = false := by simp; omega
        have dk' : decide (0 < k) = false := by simp; omega
        clear h0 hg
        go_upto_region 4 with (fail)
        generalize hge : World.alloc _ _ = wx
        have bX : Blk wx wk.heap.size 61 #[.string s, .slice D md cd] := by subst hge; exact Blk.new wk _ _
        have hbX := al1 hge
        clear hge
        have x0 : wx.cell? ⟨wk.heap.size, 0, none⟩ = some (.string s) := bX.cell 0
        have x1 : wx.cell? ⟨wk.heap.size, 1, none⟩ = some (.slice D md cd) := bX.cell 1
        have HBX := Lib.hid (below_of hB.out hbX hB.out.size)
        have ltX := World.block_lt_of_cell? wx _ x0
        clear bX
        obtain ⟨X, hX⟩ : ∃ X, wk.heap.size = X := ⟨_, rfl⟩
        rw [hX] at x0 x1 ltX ⊢
        clear hX
        refine wp_region_held_drew (S := fun W => Below wx.heap.size wx W) (by kernel_rfl) (below_drewN (Below.refl _ _) 1) (fun Hd => ?_)
        have Hd : Below wx.heap.size wx wx.drew := below_drewN (Below.refl _ _) 1
        have Zd : wx.heap.size ≤ wx.drew.heap.size := Nat.le_refl _
        generalize World.drew wx = wd at *
        refine tq 0 rfl Hd ?_
        refine ts 1 rfl Hd (fun wS hSw => by
         have c1 := (hSw.cell (p := ⟨X, 0, none⟩) ltX).trans x0
         have c2 := (hSw.cell (p := ⟨X, 1, none⟩) ltX).trans x1
         go_simp
         try with_reducible rfl) ?_
        try simp only [la, Act.put]
        refine ty 2 rfl (fun K hK => ?_)
        go_simp
        refine (HT1.out _).mono ?_
        rintro e w1_ ⟨rfl, hb1⟩
        have Hb1 := below_of Hd hb1 Hd.size
        have Zb1 := Nat.le_trans Zd hb1.size
        go_wp2_with (fail)
        refine hK.out _ _ Hb1 fun _ => ?_
        clear hK K
        try simp only [la, Act.put]
        refine ty 3 rfl (fun K hK => ?_)
        go_simp
        refine (HN1.out _).mono ?_
        rintro e w2_ ⟨rfl, he2⟩
        have hb2 : Below w1_.heap.size w1_ w2_ := by rw [← he2]; exact Below.refl _ _
        have Hb2 := below_of Hb1 hb2 Hb1.size
        have Zb2 := Nat.le_trans Zb1 hb2.size
        go_wp2_with (fail)
        refine hK.out _ _ Hb2 fun _ => ?_
        clear hK K
        try simp only [la, Act.put]
        refine tq 4 rfl Hb2 ?_
        refine tq 5 rfl Hb2 ?_
        try simp only [la, Act.put]
        refine tq 6 rfl Hb2 ?_
        refine tq 7 rfl Hb2 ?_
        try simp only [la, Act.put]
        refine tq 8 rfl Hb2 ?_
        refine tn 9 rfl Hb2 ?_
        try simp only [la, Act.put]
        refine tn 10 rfl Hb2 ?_
        refine tn 11 rfl Hb2 ?_
        try simp only [la, Act.put]
        refine tn 12 rfl Hb2 ?_
        refine tn 13 rfl Hb2 ?_
        try simp only [la, Act.put]
        refine tn 14 rfl Hb2 ?_
        refine tn 15 rfl Hb2 ?_
        try simp only [la, Act.put]
        refine tn 16 rfl Hb2 ?_
        refine tn 17 rfl Hb2 ?_
        try simp only [la, Act.put]
        refine tn 18 rfl Hb2 ?_
        refine tn 19 rfl Hb2 ?_
        try simp only [la, Act.put]
        refine tq 20 rfl Hb2 ?_
        refine tq 21 rfl Hb2 ?_
        try simp only [la, Act.put]
        refine td ?_ _
        go_wp2_with (fail)
        go_roundw
        case rel => exact ⟨k + 1, by omega, by go_num, Lib.hid (fun j hj => by
         rcases Nat.lt_or_ge j k with h | h
         · exact Hg.out j h
         · obtain rfl : j = k := by omega
           exact Hg2.out), below_of HBX.out Hb2 HBX.out.size⟩
        case measure => simp [intOf]; omega
      · obtain ⟨k', rfl⟩ : ∃ k', k = k' + 1 := ⟨k - 1, by omega⟩
        obtain ⟨⟨s0, dat0⟩, hx0⟩ := getElem?_lt (l := l) (k := k') (by rw [Hl.out]; omega)
        obtain ⟨D0, cd0, hd1, hd2, -, -, -, -⟩ := hcs k' _ hx0
        have Gx0 := Lib.hid (names_get hx0)
        obtain ⟨md0, hmd0⟩ : ∃ md, md = dat0.length := ⟨_, rfl⟩
        simp only [] at hd1 hd2
        rw [← hmd0] at hd2
        clear hmd0 hx0
        have HT0 := Lib.hid (fun W => HT.out s0 D0 md0 cd0 W)
        have Hd1 := Lib.hid hd1
        have Hd2 := Lib.hid hd2
        have e1 : ((k' + 1 : Nat) : Int) - 1 = (k' : Int) := by omega
        have e2 : (k' : Int) + 1 - 1 = (k' : Int) := by omega
        have e3 : IntKind.i64.wrap (k' : Int) = (k' : Int) := IntWalk.i64_in _ (by omega)
        have hkI : (k' : Int) < (n : Int) := by omega
        have hkN : k' < n := by omega
        have dk : decide ((0 : Int) < ((k' + 1 : Nat) : Int)) = true := decide_eq_true (by omega)
        have dk2 : decide ((0 : Int) < (k' : Int) + 1) = true := decide_eq_true (by omega)
        have hinc : Mir.incAt (l.map Prod.fst) (k' + 1) = Mir.nlt s0 s := by
         unfold Mir.incAt
         rw [Gx.out, ← Hnb.out, Nat.add_sub_cancel, Gx0.out]; simp
        have Hinc := Lib.hid hinc
        unfold Mir.nlt at hinc
        obtain ⟨q, hq⟩ : ∃ q, Op.bytesLess s0.toList s.toList = q := ⟨_, rfl⟩
        rw [hq] at hinc
        have Hq := Lib.hid hinc
        clear hinc h0 hcs hx
        cases q with
        | false =>
          have hf : R = false := by
           rw [← HR.out]
           exact Mir.incS_bad (k := k' + 1) (by rw [List.length_map, Hl.out]; exact hlt) Hq.out
          subst hf
          go_upto_region 4 with (fail)
          generalize hge : World.alloc _ _ = wx
          have bX : Blk wx wk.heap.size 61 #[.string s, .slice D md cd] := by subst hge; exact Blk.new wk _ _
          have hbX := al1 hge
          clear hge
          have x0 : wx.cell? ⟨wk.heap.size, 0, none⟩ = some (.string s) := bX.cell 0
          have x1 : wx.cell? ⟨wk.heap.size, 1, none⟩ = some (.slice D md cd) := bX.cell 1
          have HBX := Lib.hid (below_of hB.out hbX hB.out.size)
          have ltX := World.block_lt_of_cell? wx _ x0
          clear bX
          obtain ⟨X, hX⟩ : ∃ X, wk.heap.size = X := ⟨_, rfl⟩
          rw [hX] at x0 x1 ltX ⊢
          clear hX
          have y0 := cellkM hbX Hd1.out
          have y1 := cellkM hbX Hd2.out
          have ltb := World.block_lt_of_cell? wx _ y0
          refine wp_region_held_drew (S := fun W => Below wx.heap.size wx W) (by kernel_rfl) (below_drewN (Below.refl _ _) 1) (fun Hd => ?_)
          have Hd : Below wx.heap.size wx wx.drew := below_drewN (Below.refl _ _) 1
          have Zd : wx.heap.size ≤ wx.drew.heap.size := Nat.le_refl _
          generalize World.drew wx = wd at *
          refine tq 0 rfl Hd ?_
          refine ts 1 rfl Hd (fun wS hSw => by
           have c1 := (hSw.cell (p := ⟨X, 0, none⟩) ltX).trans x0
           have c2 := (hSw.cell (p := ⟨X, 1, none⟩) ltX).trans x1
           go_simp
           try with_reducible rfl) ?_
          try simp only [la, Act.put]
          refine ty 2 rfl (fun K hK => ?_)
          go_simp
          refine (HT1.out _).mono ?_
          rintro e w1_ ⟨rfl, hb1⟩
          have Hb1 := below_of Hd hb1 Hd.size
          have Zb1 := Nat.le_trans Zd hb1.size
          go_wp2_with (fail)
          refine hK.out _ _ Hb1 fun _ => ?_
          clear hK K
          try simp only [la, Act.put]
          refine ty 3 rfl (fun K hK => ?_)
          go_simp
          refine (HN1.out _).mono ?_
          rintro e w2_ ⟨rfl, he2⟩
          have hb2 : Below w1_.heap.size w1_ w2_ := by rw [← he2]; exact Below.refl _ _
          have Hb2 := below_of Hb1 hb2 Hb1.size
          have Zb2 := Nat.le_trans Zb1 hb2.size
          go_wp2_with (fail)
          refine hK.out _ _ Hb2 fun _ => ?_
          clear hK K
          try simp only [la, Act.put]
          refine tq 4 rfl Hb2 ?_
          refine tq 5 rfl Hb2 ?_
          try simp only [la, Act.put]
          refine tq 6 rfl Hb2 ?_
          refine tq 7 rfl Hb2 ?_
          try simp only [la, Act.put]
          refine tq 8 rfl Hb2 ?_
          refine tq 9 rfl Hb2 ?_
          try simp only [la, Act.put]
          refine tq 10 rfl Hb2 ?_
          refine tq 11 rfl Hb2 ?_
          try simp only [la, Act.put]
          refine tq 12 rfl Hb2 ?_
          refine tq 13 rfl Hb2 ?_
          try simp only [la, Act.put]
          refine ts 14 rfl Hb2 (fun wS hSw => by
           have c1 := (hSw.cell (p := ⟨b, off + k' * 2, none⟩) ltb).trans y0
           have c2 := (hSw.cell (p := ⟨b, off + k' * 2 + 1, none⟩) ltb).trans y1
           go_simp
           try with_reducible rfl) ?_
          refine tq 16 rfl Hb2 ?_
          try simp only [la, Act.put]
          refine ts 17 rfl Hb2 (fun wS hSw => by
           have c1 := (hSw.cell (p := ⟨X, 0, none⟩) ltX).trans x0
           have c2 := (hSw.cell (p := ⟨X, 1, none⟩) ltX).trans x1
           go_simp
           try with_reducible rfl) ?_
          try simp only [la, Act.put]
          refine ty 15 rfl (fun K hK => ?_)
          go_simp
          refine (HT0.out _).mono ?_
          rintro e w3_ ⟨rfl, hb3⟩
          have Hb3 := below_of Hb2 hb3 Hb2.size
          have Zb3 := Nat.le_trans Zb2 hb3.size
          go_wp2_with (fail)
          refine hK.out _ _ Hb3 fun _ => ?_
          clear hK K
          try simp only [la, Act.put]
          refine ty 18 rfl (fun K hK => ?_)
          go_simp
          refine (HT1.out _).mono ?_
          rintro e w4_ ⟨rfl, hb4⟩
          have Hb4 := below_of Hb3 hb4 Hb3.size
          have Zb4 := Nat.le_trans Zb3 hb4.size
          go_wp2_with (fail)
          refine hK.out _ _ Hb4 fun _ => ?_
          clear hK K
          refine tq 19 rfl Hb4 ?_
          try simp only [la, Act.put]
          refine tq 20 rfl Hb4 ?_
          refine tq 21 rfl Hb4 ?_
          try simp only [la, Act.put]
          refine td ?_ _
          go_wp2_with (fail)
          go_ret
          exact ⟨rfl, below_of HBX.out Hb4 HBX.out.size⟩
        | true =>
          go_upto_region 4 with (fail)
          generalize hge : World.alloc _ _ = wx
          have bX : Blk wx wk.heap.size 61 #[.string s, .slice D md cd] := by subst hge; exact Blk.new wk _ _
          have hbX := al1 hge
          clear hge
          have x0 : wx.cell? ⟨wk.heap.size, 0, none⟩ = some (.string s) := bX.cell 0
          have x1 : wx.cell? ⟨wk.heap.size, 1, none⟩ = some (.slice D md cd) := bX.cell 1
          have HBX := Lib.hid (below_of hB.out hbX hB.out.size)
          have ltX := World.block_lt_of_cell? wx _ x0
          clear bX
          obtain ⟨X, hX⟩ : ∃ X, wk.heap.size = X := ⟨_, rfl⟩
          rw [hX] at x0 x1 ltX ⊢
          clear hX
          have y0 := cellkM hbX Hd1.out
          have y1 := cellkM hbX Hd2.out
          have ltb := World.block_lt_of_cell? wx _ y0
          refine wp_region_held_drew (S := fun W => Below wx.heap.size wx W) (by kernel_rfl) (below_drewN (Below.refl _ _) 1) (fun Hd => ?_)
          have Hd : Below wx.heap.size wx wx.drew := below_drewN (Below.refl _ _) 1
          have Zd : wx.heap.size ≤ wx.drew.heap.size := Nat.le_refl _
          generalize World.drew wx = wd at *
          refine tq 0 rfl Hd ?_
          refine ts 1 rfl Hd (fun wS hSw => by
           have c1 := (hSw.cell (p := ⟨X, 0, none⟩) ltX).trans x0
           have c2 := (hSw.cell (p := ⟨X, 1, none⟩) ltX).trans x1
           go_simp
           try with_reducible rfl) ?_
          try simp only [la, Act.put]
          refine ty 2 rfl (fun K hK => ?_)
          go_simp
          refine (HT1.out _).mono ?_
          rintro e w1_ ⟨rfl, hb1⟩
          have Hb1 := below_of Hd hb1 Hd.size
          have Zb1 := Nat.le_trans Zd hb1.size
          go_wp2_with (fail)
          refine hK.out _ _ Hb1 fun _ => ?_
          clear hK K
          try simp only [la, Act.put]
          refine ty 3 rfl (fun K hK => ?_)
          go_simp
          refine (HN1.out _).mono ?_
          rintro e w2_ ⟨rfl, he2⟩
          have hb2 : Below w1_.heap.size w1_ w2_ := by rw [← he2]; exact Below.refl _ _
          have Hb2 := below_of Hb1 hb2 Hb1.size
          have Zb2 := Nat.le_trans Zb1 hb2.size
          go_wp2_with (fail)
          refine hK.out _ _ Hb2 fun _ => ?_
          clear hK K
          try simp only [la, Act.put]
          refine tq 4 rfl Hb2 ?_
          refine tq 5 rfl Hb2 ?_
          try simp only [la, Act.put]
          refine tq 6 rfl Hb2 ?_
          refine tq 7 rfl Hb2 ?_
          try simp only [la, Act.put]
          refine tq 8 rfl Hb2 ?_
          refine tq 9 rfl Hb2 ?_
          try simp only [la, Act.put]
          refine tq 10 rfl Hb2 ?_
          refine tq 11 rfl Hb2 ?_
          try simp only [la, Act.put]
          refine tq 12 rfl Hb2 ?_
          refine tq 13 rfl Hb2 ?_
          try simp only [la, Act.put]
          refine ts 14 rfl Hb2 (fun wS hSw => by
           have c1 := (hSw.cell (p := ⟨b, off + k' * 2, none⟩) ltb).trans y0
           have c2 := (hSw.cell (p := ⟨b, off + k' * 2 + 1, none⟩) ltb).trans y1
           go_simp
           try with_reducible rfl) ?_
          refine tq 16 rfl Hb2 ?_
          try simp only [la, Act.put]
          refine ts 17 rfl Hb2 (fun wS hSw => by
           have c1 := (hSw.cell (p := ⟨X, 0, none⟩) ltX).trans x0
           have c2 := (hSw.cell (p := ⟨X, 1, none⟩) ltX).trans x1
           go_simp
           try with_reducible rfl) ?_
          try simp only [la, Act.put]
          refine ty 15 rfl (fun K hK => ?_)
          go_simp
          refine (HT0.out _).mono ?_
          rintro e w3_ ⟨rfl, hb3⟩
          have Hb3 := below_of Hb2 hb3 Hb2.size
          have Zb3 := Nat.le_trans Zb2 hb3.size
          go_wp2_with (fail)
          refine hK.out _ _ Hb3 fun _ => ?_
          clear hK K
          try simp only [la, Act.put]
          refine ty 18 rfl (fun K hK => ?_)
          go_simp
          refine (HT1.out _).mono ?_
          rintro e w4_ ⟨rfl, hb4⟩
          have Hb4 := below_of Hb3 hb4 Hb3.size
          have Zb4 := Nat.le_trans Zb3 hb4.size
          go_wp2_with (fail)
          refine hK.out _ _ Hb4 fun _ => ?_
          clear hK K
          refine tq 19 rfl Hb4 ?_
          try simp only [la, Act.put]
          refine tq 20 rfl Hb4 ?_
          refine tq 21 rfl Hb4 ?_
          try simp only [la, Act.put]
          refine td ?_ _
          go_wp2_with (fail)
          go_roundw
          case rel => exact ⟨k' + 1 + 1, by omega, by go_num, Lib.hid (fun j hj => by
           rcases Nat.lt_or_ge j (k' + 1) with h | h
           · exact Hg.out j h
           · obtain rfl : j = k' + 1 := by omega
             exact Hq.out), below_of HBX.out Hb4 HBX.out.size⟩
          case measure => simp [intOf]; omega
  · obtain rfl : n = k := by omega
    have hf : R = true := by
     rw [← HR.out]
     exact Mir.incS_good fun j hj => Hg.out j (by rw [List.length_map, Hl.out] at hj; exact hj)
    subst hf
    go_wp2_with (fail)
    go_ret
    exact ⟨rfl, hB.out⟩
namespace Mir
def itE (l : List It) : Int := if l.length ≤ 65536 then (if incS (l.map Prod.fst) then 0 else 430) else 2
end Mir
set_option maxHeartbeats 4000000 in
theorem pcheck_any (A : Option Addr) (n c : Nat) (l : List Mir.It) (w : World) (hl : l.length = n) (hn : n ≤ 1000000) (hC : ItemsC w A l) :
    Calls Tryz.prog 49 #[.slice A n c] w fun e w' => e = .returned (.int .i64 (Mir.itE l)) ∧ Below w.heap.size w w' := by
 have HI := Lib.hid (fun W h => incI_any A n c l W hl hn h)
 have HC := Lib.hid hC
 unfold Mir.itE
 by_cases h1 : 65536 < n
 · have d1 : decide ((65536 : Int) < (n : Int)) = true := by simp; omega
   rw [if_neg (by rw [hl]; omega)]
   clear hl hC
   go_enter Tryz.func49, Tryz.ntmps49
   go_wp2_with (fail)
   go_ret
   exact ⟨rfl, Below.refl _ _⟩
 · have d1 : decide ((65536 : Int) < (n : Int)) = false := by simp; omega
   rw [if_pos (by rw [hl]; omega)]
   clear hl hC
   generalize Mir.incS (l.map Prod.fst) = q at *
   cases q with
   | false =>
     go_enter Tryz.func49, Tryz.ntmps49
     go_wp2_with (fail)
     refine (HI.out w HC.out).mono ?_
     rintro e w1 ⟨rfl, hb1⟩
     go_wp2_with (fail)
     go_ret
     exact ⟨rfl, hb1⟩
   | true =>
     go_enter Tryz.func49, Tryz.ntmps49
     go_wp2_with (fail)
     refine (HI.out w HC.out).mono ?_
     rintro e w1 ⟨rfl, hb1⟩
     go_wp2_with (fail)
     go_ret
     exact ⟨rfl, hb1⟩
end Go.Proofs.YtkflpoiobpblhaaGreat
