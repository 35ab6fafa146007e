/- Walks and plain laws that the statement rests on: MNum2, MCh, MCInc, MVal. -/
import Derived.BigQuiet
import Derived.Deep.QuietTactic
import Derived.Test.YtkflpoiobpblhaaGreatP00
import Derived.Test.YtkflpoiobpblhaaGreatP15
import Derived.Test.YtkflpoiobpblhaaGreatP24
import Derived.Test.YtkflpoiobpblhaaGreatPS
namespace Go.Proofs.YtkflpoiobpblhaaGreat
open Go.RowKit Go.Shelf
set_option linter.unusedVariables false
set_option linter.unusedSimpArgs false
set_option maxRecDepth 100000 in
set_option maxHeartbeats 2000000 in
theorem joined3 (b n1 c1 n2 c2 n3 c3 : Nat) (A1 A2 A3 : Option Addr) (cs1 cs2 cs3 : List Value) (w : World) (f1 : w.cell? ⟨b, 0, none⟩ = some (.slice A1 n1 c1)) (f2 : w.cell? ⟨b, 1, none⟩ = some (.slice A2 n2 c2)) (f3 : w.cell? ⟨b, 2, none⟩ = some (.slice A3 n3 c3))
    (h1 : Cells w A1 cs1) (h2 : Cells w A2 cs2) (h3 : Cells w A3 cs3) (l1 : cs1.length = n1) (l2 : cs2.length = n2) (l3 : cs3.length = n3) (o1 : ∀ u ∈ cs1, u.oneCell' = true) (o2 : ∀ u ∈ cs2, u.oneCell' = true) (o3 : ∀ u ∈ cs3, u.oneCell' = true) (b1 : n1 ≤ 100000000) (b2 : n2 ≤ 100000000) (b3 : n3 ≤ 100000000) (hb : b < w.heap.size) :
    Calls Tryz.prog 62 #[.slice (some ⟨b, 0, none⟩) 3 3] w fun e w' =>
     ∃ A c, e = .returned (.slice A (n1 + n2 + n3) c) ∧ w'.ownsRow w.heap.size 5 1 (.slice A (n1 + n2 + n3) c) (n1 + n2 + n3) (cs1 ++ cs2 ++ cs3) ∧ Below w.heap.size w w' := by
 have H := Lib.hid (concat3 b n1 c1 n2 c2 n3 c3 A1 A2 A3 cs1 cs2 cs3 w f1 f2 f3 h1 h2 h3 l1 l2 l3 o1 o2 o3 b1 b2 b3 hb)
 clear f1 f2 f3 h1 h2 h3 o1 o2 o3
 go_enter Tryz.func62, Tryz.ntmps62
 go_wp2_with (fail)
 refine H.out.mono ?_
 rintro e w1 ⟨A, c, rfl, ho, hb1⟩
 go_wp2_with (fail)
 go_ret
 exact ⟨A, c, rfl, ho, hb1⟩
end Go.Proofs.YtkflpoiobpblhaaGreat
namespace Go.Proofs.YtkflpoiobpblhaaGreat
open Go.RowKit
set_option linter.unusedVariables false
set_option linter.unusedSimpArgs false
namespace Mir
abbrev Ch := It × Bool
def chN (x : Ch) : ByteArray := x.1.1
def chV : List (Option Addr × Nat) → List Ch → List Value
 | h :: hs, x :: l => .string x.1.1 :: .slice h.1 x.1.2.length h.2 :: .bool x.2 :: chV hs l
 | [], _ => []
 | _ :: _, [] => []
theorem chV_length : ∀ hs l, hs.length = l.length → (chV hs l).length = l.length * 3
 | [], [], _ => rfl
 | h :: hs, x :: l, e => by simp only [chV, List.length_cons]; rw [chV_length hs l (by simpa using e)]; omega
 | [], _ :: _, e => by simp at e
 | _ :: _, [], e => by simp at e
theorem chV_one : ∀ hs l, ∀ u ∈ chV hs l, u.oneCell' = true
 | h :: hs, x :: l, u, hu => by
   simp only [chV, List.mem_cons] at hu
   rcases hu with rfl | rfl | rfl | hu
   · rfl
   · rfl
   · rfl
   · exact chV_one hs l u hu
 | [], _, u, hu => by simp [chV] at hu
 | _ :: _, [], u, hu => by simp [chV] at hu
theorem chV_get : ∀ (hs : List (Option Addr × Nat)) (l : List Ch) (k : Nat) (h : Option Addr × Nat) (x : Ch), hs[k]? = some h → l[k]? = some x → (chV hs l)[k * 3]? = some (.string x.1.1) ∧ (chV hs l)[k * 3 + 1]? = some (.slice h.1 x.1.2.length h.2) ∧ (chV hs l)[k * 3 + 2]? = some (.bool x.2)
 | h :: hs, x :: l, 0, h', x', e, e' => by simp at e e'; subst e; subst e'; simp [chV]
 | h :: hs, x :: l, k + 1, h', x', e, e' => by
   have := chV_get hs l k h' x' (by simpa using e) (by simpa using e')
   rw [show (k + 1) * 3 = k * 3 + 1 + 1 + 1 by omega]
   simpa [chV] using this
 | [], _, _, _, _, e, _ => by simp at e
 | _ :: _, [], _, _, _, _, e => by simp at e
end Mir
def ChangesC (w : World) (A : Option Addr) (l : List Mir.Ch) : Prop :=
 ∃ hs, hs.length = l.length ∧ Cells w A (Mir.chV hs l) ∧ ∀ (k : Nat) (h : Option Addr × Nat) (x : Mir.Ch), hs[k]? = some h → l[k]? = some x → x.1.2.length ≤ h.2 ∧ h.2 ≤ maxLen ∧ Cells w h.1 (Mir.bytesI x.1.2) ∧ ∀ b ∈ x.1.2, b < 256
theorem ChangesC.below {w w' : World} {A : Option Addr} {l : List Mir.Ch} (h : ChangesC w A l) (hb : Below w.heap.size w w') : ChangesC w' A l := by
 obtain ⟨hs, h1, h2, h3⟩ := h
 exact ⟨hs, h1, h2.below hb, fun k x y e1 e2 => ⟨(h3 k x y e1 e2).1, (h3 k x y e1 e2).2.1, (h3 k x y e1 e2).2.2.1.below hb, (h3 k x y e1 e2).2.2.2⟩⟩
theorem ChangesC.nil_ (w : World) (A : Option Addr) : ChangesC w A [] := ⟨[], rfl, .inl rfl, fun k x y e1 _ => by simp at e1⟩
theorem ChangesC.at_ {w : World} {A : Option Addr} {l : List Mir.Ch} (h : ChangesC w A l) (hl : 0 < l.length) :
    ∃ b off, A = some ⟨b, off, none⟩ ∧ b < w.heap.size ∧ ∀ (k : Nat) (x : Mir.Ch), l[k]? = some x → ∃ D c, w.cell? ⟨b, off + k * 3, none⟩ = some (.string x.1.1) ∧ w.cell? ⟨b, off + k * 3 + 1, none⟩ = some (.slice D x.1.2.length c) ∧ w.cell? ⟨b, off + k * 3 + 2, none⟩ = some (.bool x.2) ∧ x.1.2.length ≤ c ∧ c ≤ maxLen ∧ Cells w D (Mir.bytesI x.1.2) ∧ ∀ b ∈ x.1.2, b < 256 := by
 obtain ⟨hs, h1, h2, h3⟩ := h
 obtain ⟨b, off, rfl, hb, hc⟩ := Cells.addr h2 (by rw [Mir.chV_length _ _ h1]; omega)
 refine ⟨b, off, rfl, hb, fun k x hx => ?_⟩
 have hlt := (List.getElem?_eq_some_iff.1 hx).1
 obtain ⟨y, hy⟩ := getElem?_lt (l := hs) (k := k) (by omega)
 obtain ⟨g1, g2, g3⟩ := Mir.chV_get hs l k y x hy hx
 obtain ⟨e1, e2, e3, e4⟩ := h3 k y x hy hx
 exact ⟨y.1, y.2, hc _ _ g1, by rw [Nat.add_assoc]; exact hc _ _ g2, by rw [Nat.add_assoc]; exact hc _ _ g3, e1, e2, e3, e4⟩
theorem chNames_get {l : List Mir.Ch} {k : Nat} {x : Mir.Ch} (h : l[k]? = some x) : (l.map Mir.chN).getD k ⟨#[]⟩ = x.1.1 := by
 rw [List.getD_eq_getElem?_getD, List.getElem?_map, h]; rfl
end Go.Proofs.YtkflpoiobpblhaaGreat
namespace Go.Proofs.YtkflpoiobpblhaaGreat
open Go.RowKit
set_option linter.unusedVariables false
set_option linter.unusedSimpArgs false
set_option maxRecDepth 100000 in
set_option maxHeartbeats 8000000 in
theorem incC_any (A : Option Addr) (n c : Nat) (l : List Mir.Ch) (w : World) (hl : l.length = n) (hn : n ≤ 1000000) (hC : ChangesC w A l) :
    Calls Tryz.prog 106 #[.slice A n c, .func (.func 107) #[] #[]] w fun e w' => e = .returned (.bool (Mir.incS (l.map Mir.chN))) ∧ Below w.heap.size w w' := by
 have HC := Lib.hid hC
 have Hl := Lib.hid hl
 have HN := Lib.hid (fun s W => isName_any s W)
 have HT := Lib.hid (fun s D m d g W => chName_any s D m d g W)
 clear hC hl
 obtain ⟨R, hR⟩ : ∃ R, Mir.incS (l.map Mir.chN) = R := ⟨_, rfl⟩
 have HR := Lib.hid hR
 rw [hR]
 clear hR
 go_enter Tryz.func106, Tryz.ntmps106
 go_wp2_with (fail)
 go_loopw [9] (fun i W => ∃ k : Nat, k ≤ n ∧ i = .int .i64 k ∧ Hid (∀ j, j < k → Mir.incAt (l.map Mir.chN) j = true) ∧ Hid (Below w.heap.size w W)) (fun i _ => n - (intOf i).toNat)
 case atStart => exact ⟨0, Nat.zero_le _, rfl, Lib.hid (fun j h => by omega), Below.refl _ _⟩
 case round =>
  obtain ⟨wk, rfl⟩ : ∃ wk : World, wk = wr := ⟨_, rfl⟩
  obtain ⟨k, hk, rfl, Hg, hB⟩ := hrel
  by_cases hlt : k < n
  · obtain ⟨⟨⟨s, dat⟩, gon⟩, hx⟩ := getElem?_lt (l := l) (k := k) (by rw [Hl.out]; exact hlt)
    obtain ⟨b, off, rfl, hb, hcs⟩ := (HC.out.below hB.out).at_ (by rw [Hl.out]; omega)
    obtain ⟨D, cd, hc1, hc2, hc3, -, -, -, -⟩ := hcs k _ hx
    have Gx := Lib.hid (chNames_get hx)
    obtain ⟨md, hmd⟩ : ∃ md, md = dat.length := ⟨_, rfl⟩
    simp only [] at hc1 hc2 hc3
    rw [← hmd] at hc2
    clear hmd
    have HN1 := Lib.hid (fun W => HN.out s W)
    have HT1 := Lib.hid (fun W => HT.out s D md cd gon W)
    obtain ⟨nb, hnb⟩ : ∃ nb, nb = Mir.nameB s := ⟨_, rfl⟩
    rw [← hnb] at HN1
    have Hnb := Lib.hid hnb
    clear hnb
    cases nb with
    | false =>
      have hf : R = false := by
       rw [← HR.out]
       refine Mir.incS_bad (k := k) (by rw [List.length_map, Hl.out]; exact hlt) ?_
       unfold Mir.incAt
       rw [Gx.out, ← Hnb.out]; rfl
      subst hf
      go_upto_region 4 with (fail)
      generalize hge : World.alloc _ _ = wx
      have bX : Blk wx wk.heap.size 66 #[.string s, .slice D md cd, .bool gon] := by subst hge; exact Blk.new wk _ _
      have hbX := al1 hge
      clear hge
      have x0 : wx.cell? ⟨wk.heap.size, 0, none⟩ = some (.string s) := bX.cell 0
      have x1 : wx.cell? ⟨wk.heap.size, 1, none⟩ = some (.slice D md cd) := bX.cell 1
      have x2 : wx.cell? ⟨wk.heap.size, 2, none⟩ = some (.bool gon) := bX.cell 2
      have HBX := Lib.hid (below_of hB.out hbX hB.out.size)
      have ltX := World.block_lt_of_cell? wx _ x0
      clear bX
      obtain ⟨X, hX⟩ : ∃ X, wk.heap.size = X := ⟨_, rfl⟩
      rw [hX] at x0 x1 x2 ltX ⊢
      clear hX
      refine wp_region_held_drew (S := fun W => Below wx.heap.size wx W) (by kernel_rfl) (below_drewN (Below.refl _ _) 1) (fun Hd => ?_)
      have Hd : Below wx.heap.size wx wx.drew := below_drewN (Below.refl _ _) 1
      have Zd : wx.heap.size ≤ wx.drew.heap.size := Nat.le_refl _
      generalize World.drew wx = wd at *
      refine tq 0 rfl Hd ?_
      refine ts 1 rfl Hd (fun wS hSw => by
       have c1 := (hSw.cell (p := ⟨X, 0, none⟩) ltX).trans x0
       have c2 := (hSw.cell (p := ⟨X, 1, none⟩) ltX).trans x1
       have c3 := (hSw.cell (p := ⟨X, 2, none⟩) ltX).trans x2
       go_simp
       try with_reducible rfl) ?_
      try simp only [la, Act.put]
      refine ty 2 rfl (fun K hK => ?_)
      go_simp
      refine (HT1.out _).mono ?_
      rintro e w1_ ⟨rfl, hb1⟩
      have Hb1 := below_of Hd hb1 Hd.size
      have Zb1 := Nat.le_trans Zd hb1.size
      go_wp2_with (fail)
      refine hK.out _ _ Hb1 fun _ => ?_
      clear hK K
      try simp only [la, Act.put]
      refine ty 3 rfl (fun K hK => ?_)
      go_simp
      refine (HN1.out _).mono ?_
      rintro e w2_ ⟨rfl, he2⟩
      have hb2 : Below w1_.heap.size w1_ w2_ := by rw [← he2]; exact Below.refl _ _
      have Hb2 := below_of Hb1 hb2 Hb1.size
      have Zb2 := Nat.le_trans Zb1 hb2.size
      go_wp2_with (fail)
      refine hK.out _ _ Hb2 fun _ => ?_
      clear hK K
      try simp only [la, Act.put]
      refine tq 4 rfl Hb2 ?_
      refine tq 5 rfl Hb2 ?_
      try simp only [la, Act.put]
      refine tn 6 rfl Hb2 ?_
      refine tn 7 rfl Hb2 ?_
      try simp only [la, Act.put]
      refine tn 8 rfl Hb2 ?_
      refine tn 9 rfl Hb2 ?_
      try simp only [la, Act.put]
      refine tn 10 rfl Hb2 ?_
      refine tn 11 rfl Hb2 ?_
      try simp only [la, Act.put]
      refine tn 12 rfl Hb2 ?_
      refine tn 13 rfl Hb2 ?_
      try simp only [la, Act.put]
      refine tn 14 rfl Hb2 ?_
      refine tn 15 rfl Hb2 ?_
      try simp only [la, Act.put]
      refine tn 16 rfl Hb2 ?_
      refine tn 17 rfl Hb2 ?_
      try simp only [la, Act.put]
      refine tn 18 rfl Hb2 ?_
      refine tn 19 rfl Hb2 ?_
      try simp only [la, Act.put]
      refine tn 20 rfl Hb2 ?_
      refine tq 21 rfl Hb2 ?_
      try simp only [la, Act.put]
      refine td ?_ _
      go_wp2_with (fail)
      go_ret
      exact ⟨rfl, below_of HBX.out Hb2 HBX.out.size⟩
    | true =>
      rcases Nat.eq_zero_or_pos k with h0 | h0
      · have hg : Mir.incAt (l.map Mir.chN) k = true := by
          unfold Mir.incAt
          rw [Gx.out, ← Hnb.out, decide_eq_true h0]; rfl
        have Hg2 := Lib.hid hg
        have dk : decide ((0 : Int) < (k : Int)) = false := by simp; omega
        have dk' : decide (0 < k) = false := by simp; omega
        clear h0 hg
        go_upto_region 4 with (fail)
        generalize hge : World.alloc _ _ = wx
        have bX : Blk wx wk.heap.size 66 #[.string s, .slice D md cd, .bool gon] := by subst hge; exact Blk.new wk _ _
        have hbX := al1 hge
        clear hge
        have x0 : wx.cell? ⟨wk.heap.size, 0, none⟩ = some (.string s) := bX.cell 0
        have x1 : wx.cell? ⟨wk.heap.size, 1, none⟩ = some (.slice D md cd) := bX.cell 1
        have x2 : wx.cell? ⟨wk.heap.size, 2, none⟩ = some (.bool gon) := bX.cell 2
        have HBX := Lib.hid (below_of hB.out hbX hB.out.size)
        have ltX := World.block_lt_of_cell? wx _ x0
        clear bX
        obtain ⟨X, hX⟩ : ∃ X, wk.heap.size = X := ⟨_, rfl⟩
        rw [hX] at x0 x1 x2 ltX ⊢
        clear hX
        refine wp_region_held_drew (S := fun W => Below wx.heap.size wx W) (by kernel_rfl) (below_drewN (Below.refl _ _) 1) (fun Hd => ?_)
        have Hd : Below wx.heap.size wx wx.drew := below_drewN (Below.refl _ _) 1
        have Zd : wx.heap.size ≤ wx.drew.heap.size := Nat.le_refl _
        generalize World.drew wx = wd at *
        refine tq 0 rfl Hd ?_
        refine ts 1 rfl Hd (fun wS hSw => by
         have c1 := (hSw.cell (p := ⟨X, 0, none⟩) ltX).trans x0
         have c2 := (hSw.cell (p := ⟨X, 1, none⟩) ltX).trans x1
         have c3 := (hSw.cell (p := ⟨X, 2, none⟩) ltX).trans x2
         go_simp
         try with_reducible rfl) ?_
        try simp only [la, Act.put]
        refine ty 2 rfl (fun K hK => ?_)
        go_simp
        refine (HT1.out _).mono ?_
        rintro e w1_ ⟨rfl, hb1⟩
        have Hb1 := below_of Hd hb1 Hd.size
        have Zb1 := Nat.le_trans Zd hb1.size
        go_wp2_with (fail)
        refine hK.out _ _ Hb1 fun _ => ?_
        clear hK K
        try simp only [la, Act.put]
        refine ty 3 rfl (fun K hK => ?_)
        go_simp
        refine (HN1.out _).mono ?_
        rintro e w2_ ⟨rfl, he2⟩
        have hb2 : Below w1_.heap.size w1_ w2_ := by rw [← he2]; exact Below.refl _ _
        have Hb2 := below_of Hb1 hb2 Hb1.size
        have Zb2 := Nat.le_trans Zb1 hb2.size
        go_wp2_with (fail)
        refine hK.out _ _ Hb2 fun _ => ?_
        clear hK K
        try simp only [la, Act.put]
        refine tq 4 rfl Hb2 ?_
        refine tq 5 rfl Hb2 ?_
        try simp only [la, Act.put]
        refine tq 6 rfl Hb2 ?_
        refine tq 7 rfl Hb2 ?_
        try simp only [la, Act.put]
        refine tq 8 rfl Hb2 ?_
        refine tn 9 rfl Hb2 ?_
        try simp only [la, Act.put]
        refine tn 10 rfl Hb2 ?_
        refine tn 11 rfl Hb2 ?_
        try simp only [la, Act.put]
        refine tn 12 rfl Hb2 ?_
        refine tn 13 rfl Hb2 ?_
        try simp only [la, Act.put]
        refine tn 14 rfl Hb2 ?_
        refine tn 15 rfl Hb2 ?_
        try simp only [la, Act.put]
        refine tn 16 rfl Hb2 ?_
        refine tn 17 rfl Hb2 ?_
        try simp only [la, Act.put]
        refine tn 18 rfl Hb2 ?_
        refine tn 19 rfl Hb2 ?_
        try simp only [la, Act.put]
        refine tq 20 rfl Hb2 ?_
        refine tq 21 rfl Hb2 ?_
        try simp only [la, Act.put]
        refine td ?_ _
        go_wp2_with (fail)
        go_roundw
        case rel => exact ⟨k + 1, by omega, by go_num, Lib.hid (fun j hj => by
         rcases Nat.lt_or_ge j k with h | h
         · exact Hg.out j h
         · obtain rfl : j = k := by omega
           exact Hg2.out), below_of HBX.out Hb2 HBX.out.size⟩
        case measure => simp [intOf]; omega
      · obtain ⟨k', rfl⟩ : ∃ k', k = k' + 1 := ⟨k - 1, by omega⟩
        obtain ⟨⟨⟨s0, dat0⟩, gon0⟩, hx0⟩ := getElem?_lt (l := l) (k := k') (by rw [Hl.out]; omega)
        obtain ⟨D0, cd0, hd1, hd2, hd3, -, -, -, -⟩ := hcs k' _ hx0
        have Gx0 := Lib.hid (chNames_get hx0)
        obtain ⟨md0, hmd0⟩ : ∃ md, md = dat0.length := ⟨_, rfl⟩
        simp only [] at hd1 hd2 hd3
        rw [← hmd0] at hd2
        clear hmd0 hx0
        have HT0 := Lib.hid (fun W => HT.out s0 D0 md0 cd0 gon0 W)
        have Hd1 := Lib.hid hd1
        have Hd2 := Lib.hid hd2
        have Hd3 := Lib.hid hd3
        have e1 : ((k' + 1 : Nat) : Int) - 1 = (k' : Int) := by omega
        have e2 : (k' : Int) + 1 - 1 = (k' : Int) := by omega
        have e3 : IntKind.i64.wrap (k' : Int) = (k' : Int) := IntWalk.i64_in _ (by omega)
        have hkI : (k' : Int) < (n : Int) := by omega
        have hkN : k' < n := by omega
        have dk : decide ((0 : Int) < ((k' + 1 : Nat) : Int)) = true := decide_eq_true (by omega)
        have dk2 : decide ((0 : Int) < (k' : Int) + 1) = true := decide_eq_true (by omega)
        have hinc : Mir.incAt (l.map Mir.chN) (k' + 1) = Mir.nlt s0 s := by
         unfold Mir.incAt
         rw [Gx.out, ← Hnb.out, Nat.add_sub_cancel, Gx0.out]; simp
        have Hinc := Lib.hid hinc
        unfold Mir.nlt at hinc
        obtain ⟨q, hq⟩ : ∃ q, Op.bytesLess s0.toList s.toList = q := ⟨_, rfl⟩
        rw [hq] at hinc
        have Hq := Lib.hid hinc
        clear hinc h0 hcs hx
        cases q with
        | false =>
          have hf : R = false := by
           rw [← HR.out]
           exact Mir.incS_bad (k := k' + 1) (by rw [List.length_map, Hl.out]; exact hlt) Hq.out
          subst hf
          go_upto_region 4 with (fail)
          generalize hge : World.alloc _ _ = wx
          have bX : Blk wx wk.heap.size 66 #[.string s, .slice D md cd, .bool gon] := by subst hge; exact Blk.new wk _ _
          have hbX := al1 hge
          clear hge
          have x0 : wx.cell? ⟨wk.heap.size, 0, none⟩ = some (.string s) := bX.cell 0
          have x1 : wx.cell? ⟨wk.heap.size, 1, none⟩ = some (.slice D md cd) := bX.cell 1
          have x2 : wx.cell? ⟨wk.heap.size, 2, none⟩ = some (.bool gon) := bX.cell 2
          have HBX := Lib.hid (below_of hB.out hbX hB.out.size)
          have ltX := World.block_lt_of_cell? wx _ x0
          clear bX
          obtain ⟨X, hX⟩ : ∃ X, wk.heap.size = X := ⟨_, rfl⟩
          rw [hX] at x0 x1 x2 ltX ⊢
          clear hX
          have y0 := cellkM hbX Hd1.out
          have y1 := cellkM hbX Hd2.out
          have y2 := cellkM hbX Hd3.out
          have ltb := World.block_lt_of_cell? wx _ y0
          refine wp_region_held_drew (S := fun W => Below wx.heap.size wx W) (by kernel_rfl) (below_drewN (Below.refl _ _) 1) (fun Hd => ?_)
          have Hd : Below wx.heap.size wx wx.drew := below_drewN (Below.refl _ _) 1
          have Zd : wx.heap.size ≤ wx.drew.heap.size := Nat.le_refl _
          generalize World.drew wx = wd at *
          refine tq 0 rfl Hd ?_
          refine ts 1 rfl Hd (fun wS hSw => by
           have c1 := (hSw.cell (p := ⟨X, 0, none⟩) ltX).trans x0
           have c2 := (hSw.cell (p := ⟨X, 1, none⟩) ltX).trans x1
           have c3 := (hSw.cell (p := ⟨X, 2, none⟩) ltX).trans x2
           go_simp
           try with_reducible rfl) ?_
          try simp only [la, Act.put]
          refine ty 2 rfl (fun K hK => ?_)
          go_simp
          refine (HT1.out _).mono ?_
          rintro e w1_ ⟨rfl, hb1⟩
          have Hb1 := below_of Hd hb1 Hd.size
          have Zb1 := Nat.le_trans Zd hb1.size
          go_wp2_with (fail)
          refine hK.out _ _ Hb1 fun _ => ?_
          clear hK K
          try simp only [la, Act.put]
          refine ty 3 rfl (fun K hK => ?_)
          go_simp
          refine (HN1.out _).mono ?_
          rintro e w2_ ⟨rfl, he2⟩
          have hb2 : Below w1_.heap.size w1_ w2_ := by rw [← he2]; exact Below.refl _ _
          have Hb2 := below_of Hb1 hb2 Hb1.size
          have Zb2 := Nat.le_trans Zb1 hb2.size
          go_wp2_with (fail)
          refine hK.out _ _ Hb2 fun _ => ?_
          clear hK K
          try simp only [la, Act.put]
          refine tq 4 rfl Hb2 ?_
          refine tq 5 rfl Hb2 ?_
          try simp only [la, Act.put]
          refine tq 6 rfl Hb2 ?_
          refine tq 7 rfl Hb2 ?_
          try simp only [la, Act.put]
          refine tq 8 rfl Hb2 ?_
          refine tq 9 rfl Hb2 ?_
          try simp only [la, Act.put]
          refine tq 10 rfl Hb2 ?_
          refine tq 11 rfl Hb2 ?_
          try simp only [la, Act.put]
          refine tq 12 rfl Hb2 ?_
          refine tq 13 rfl Hb2 ?_
          try simp only [la, Act.put]
          refine ts 14 rfl Hb2 (fun wS hSw => by
           have c1 := (hSw.cell (p := ⟨b, off + k' * 3, none⟩) ltb).trans y0
           have c2 := (hSw.cell (p := ⟨b, off + k' * 3 + 1, none⟩) ltb).trans y1
           have c3 := (hSw.cell (p := ⟨b, off + k' * 3 + 2, none⟩) ltb).trans y2
           go_simp
           try with_reducible rfl) ?_
          refine tq 16 rfl Hb2 ?_
          try simp only [la, Act.put]
          refine ts 17 rfl Hb2 (fun wS hSw => by
           have c1 := (hSw.cell (p := ⟨X, 0, none⟩) ltX).trans x0
           have c2 := (hSw.cell (p := ⟨X, 1, none⟩) ltX).trans x1
           have c3 := (hSw.cell (p := ⟨X, 2, none⟩) ltX).trans x2
           go_simp
           try with_reducible rfl) ?_
          try simp only [la, Act.put]
          refine ty 15 rfl (fun K hK => ?_)
          go_simp
          refine (HT0.out _).mono ?_
          rintro e w3_ ⟨rfl, hb3⟩
          have Hb3 := below_of Hb2 hb3 Hb2.size
          have Zb3 := Nat.le_trans Zb2 hb3.size
          go_wp2_with (fail)
          refine hK.out _ _ Hb3 fun _ => ?_
          clear hK K
          try simp only [la, Act.put]
          refine ty 18 rfl (fun K hK => ?_)
          go_simp
          refine (HT1.out _).mono ?_
          rintro e w4_ ⟨rfl, hb4⟩
          have Hb4 := below_of Hb3 hb4 Hb3.size
          have Zb4 := Nat.le_trans Zb3 hb4.size
          go_wp2_with (fail)
          refine hK.out _ _ Hb4 fun _ => ?_
          clear hK K
          refine tq 19 rfl Hb4 ?_
          try simp only [la, Act.put]
          refine tq 20 rfl Hb4 ?_
          refine tq 21 rfl Hb4 ?_
          try simp only [la, Act.put]
          refine td ?_ _
          go_wp2_with (fail)
          go_ret
          exact ⟨rfl, below_of HBX.out Hb4 HBX.out.size⟩
        | true =>
          go_upto_region 4 with (fail)
          generalize hge : World.alloc _ _ = wx
          have bX : Blk wx wk.heap.size 66 #[.string s, .slice D md cd, .bool gon] := by subst hge; exact Blk.new wk _ _
          have hbX := al1 hge
          clear hge
          have x0 : wx.cell? ⟨wk.heap.size, 0, none⟩ = some (.string s) := bX.cell 0
          have x1 : wx.cell? ⟨wk.heap.size, 1, none⟩ = some (.slice D md cd) := bX.cell 1
          have x2 : wx.cell? ⟨wk.heap.size, 2, none⟩ = some (.bool gon) := bX.cell 2
          have HBX := Lib.hid (below_of hB.out hbX hB.out.size)
          have ltX := World.block_lt_of_cell? wx _ x0
          clear bX
          obtain ⟨X, hX⟩ : ∃ X, wk.heap.size = X := ⟨_, rfl⟩
          rw [hX] at x0 x1 x2 ltX ⊢
          clear hX
          have y0 := cellkM hbX Hd1.out
          have y1 := cellkM hbX Hd2.out
          have y2 := cellkM hbX Hd3.out
          have ltb := World.block_lt_of_cell? wx _ y0
          refine wp_region_held_drew (S := fun W => Below wx.heap.size wx W) (by kernel_rfl) (below_drewN (Below.refl _ _) 1) (fun Hd => ?_)
          have Hd : Below wx.heap.size wx wx.drew := below_drewN (Below.refl _ _) 1
          have Zd : wx.heap.size ≤ wx.drew.heap.size := Nat.le_refl _
          generalize World.drew wx = wd at *
          refine tq 0 rfl Hd ?_
          refine ts 1 rfl Hd (fun wS hSw => by
           have c1 := (hSw.cell (p := ⟨X, 0, none⟩) ltX).trans x0
           have c2 := (hSw.cell (p := ⟨X, 1, none⟩) ltX).trans x1
           have c3 := (hSw.cell (p := ⟨X, 2, none⟩) ltX).trans x2
           go_simp
           try with_reducible rfl) ?_
          try simp only [la, Act.put]
          refine ty 2 rfl (fun K hK => ?_)
          go_simp
          refine (HT1.out _).mono ?_
          rintro e w1_ ⟨rfl, hb1⟩
          have Hb1 := below_of Hd hb1 Hd.size
          have Zb1 := Nat.le_trans Zd hb1.size
          go_wp2_with (fail)
          refine hK.out _ _ Hb1 fun _ => ?_
          clear hK K
          try simp only [la, Act.put]
          refine ty 3 rfl (fun K hK => ?_)
          go_simp
          refine (HN1.out _).mono ?_
          rintro e w2_ ⟨rfl, he2⟩
          have hb2 : Below w1_.heap.size w1_ w2_ := by rw [← he2]; exact Below.refl _ _
          have Hb2 := below_of Hb1 hb2 Hb1.size
          have Zb2 := Nat.le_trans Zb1 hb2.size
          go_wp2_with (fail)
          refine hK.out _ _ Hb2 fun _ => ?_
          clear hK K
          try simp only [la, Act.put]
          refine tq 4 rfl Hb2 ?_
          refine tq 5 rfl Hb2 ?_
          try simp only [la, Act.put]
          refine tq 6 rfl Hb2 ?_
          refine tq 7 rfl Hb2 ?_
          try simp only [la, Act.put]
          refine tq 8 rfl Hb2 ?_
          refine tq 9 rfl Hb2 ?_
          try simp only [la, Act.put]
          refine tq 10 rfl Hb2 ?_
          refine tq 11 rfl Hb2 ?_
          try simp only [la, Act.put]
          refine tq 12 rfl Hb2 ?_
          refine tq 13 rfl Hb2 ?_
          try simp only [la, Act.put]
          refine ts 14 rfl Hb2 (fun wS hSw => by
           have c1 := (hSw.cell (p := ⟨b, off + k' * 3, none⟩) ltb).trans y0
           have c2 := (hSw.cell (p := ⟨b, off + k' * 3 + 1, none⟩) ltb).trans y1
           have c3 := (hSw.cell (p := ⟨b, off + k' * 3 + 2, none⟩) ltb).trans y2
           go_simp
           try with_reducible rfl) ?_
          refine tq 16 rfl Hb2 ?_
          try simp only [la, Act.put]
          refine ts 17 rfl Hb2 (fun wS hSw => by
           have c1 := (hSw.cell (p := ⟨X, 0, none⟩) ltX).trans x0
           have c2 := (hSw.cell (p := ⟨X, 1, none⟩) ltX).trans x1
           have c3 := (hSw.cell (p := ⟨X, 2, none⟩) ltX).trans x2
           go_simp
           try with_reducible rfl) ?_
          try simp only [la, Act.put]
          refine ty 15 rfl (fun K hK => ?_)
          go_simp
          refine (HT0.out _).mono ?_
          rintro e w3_ ⟨rfl, hb3⟩
          have Hb3 := below_of Hb2 hb3 Hb2.size
          have Zb3 := Nat.le_trans Zb2 hb3.size
          go_wp2_with (fail)
          refine hK.out _ _ Hb3 fun _ => ?_
          clear hK K
          try simp only [la, Act.put]
          refine ty 18 rfl (fun K hK => ?_)
          go_simp
          refine (HT1.out _).mono ?_
          rintro e w4_ ⟨rfl, hb4⟩
          have Hb4 := below_of Hb3 hb4 Hb3.size
          have Zb4 := Nat.le_trans Zb3 hb4.size
          go_wp2_with (fail)
          refine hK.out _ _ Hb4 fun _ => ?_
          clear hK K
          refine tq 19 rfl Hb4 ?_
          try simp only [la, Act.put]
          refine tq 20 rfl Hb4 ?_
          refine tq 21 rfl Hb4 ?_
          try simp only [la, Act.put]
          refine td ?_ _
          go_wp2_with (fail)
          go_roundw
          case rel => exact ⟨k' + 1 + 1, by omega, by go_num, Lib.hid (fun j hj => by
           rcases Nat.lt_or_ge j (k' + 1) with h | h
           · exact Hg.out j h
           · obtain rfl : j = k' + 1 := by omega
             exact Hq.out), below_of HBX.out Hb4 HBX.out.size⟩
          case measure => simp [intOf]; omega
  · obtain rfl : n = k := by omega
    have hf : R = true := by
     rw [← HR.out]
     exact Mir.incS_good fun j hj => Hg.out j (by rw [List.length_map, Hl.out] at hj; exact hj)
    subst hf
    go_wp2_with (fail)
    go_ret
    exact ⟨rfl, hB.out⟩
end Go.Proofs.YtkflpoiobpblhaaGreat
namespace Go.Proofs.YtkflpoiobpblhaaGreat
open Go.RowKit
set_option linter.unusedVariables false
set_option linter.unusedSimpArgs false
namespace Mir
def chAt (l : List Ch) (i : Nat) : Bool := incAt (l.map chN) i && (match l[i]? with | some x => !(x.2 && decide (0 < x.1.2.length)) | none => true)
def chS (l : List Ch) : Bool := (List.range l.length).all (chAt l)
def chOk (l : List Ch) : Bool := chS l && decide (l.length ≤ 65536)
theorem chS_bad {l : List Ch} {k : Nat} (hk : k < l.length) (h : chAt l k = false) : chS l = false := List.all_eq_false.2 ⟨k, List.mem_range.2 hk, by rw [h]; simp⟩
theorem chS_good {l : List Ch} (h : ∀ k, k < l.length → chAt l k = true) : chS l = true := List.all_eq_true.2 fun k hk => h k (List.mem_range.1 hk)
end Mir
set_option maxRecDepth 100000 in
set_option maxHeartbeats 8000000 in
theorem mvalid_any (A : Option Addr) (n c : Nat) (l : List Mir.Ch) (w : World) (hl : l.length = n) (hn : n ≤ 1000000) (hC : ChangesC w A l) :
    Calls Tryz.prog 29 #[.slice A n c] w fun e w' => e = .returned (.bool (Mir.chOk l)) ∧ Below w.heap.size w w' := by
 have HC := Lib.hid hC
 have Hl := Lib.hid hl
 clear hC hl
 obtain ⟨R, hR⟩ : ∃ R, Mir.chOk l = R := ⟨_, rfl⟩
 have HR := Lib.hid hR
 rw [hR]
 clear hR
 go_enter Tryz.func29, Tryz.ntmps29
 go_wp2_with (fail)
 go_loopw [8] (fun i W => ∃ k : Nat, k ≤ n ∧ i = .int .i64 k ∧ Hid (∀ j, j < k → Mir.chAt l j = true) ∧ Hid (Below w.heap.size w W)) (fun i _ => n - (intOf i).toNat)
 case atStart => exact ⟨0, Nat.zero_le _, rfl, Lib.hid (fun j h => by omega), Below.refl _ _⟩
 case round =>
  obtain ⟨wk, rfl⟩ : ∃ wk : World, wk = wr := ⟨_, rfl⟩
  obtain ⟨k, hk, rfl, Hg, hB⟩ := hrel
  by_cases hlt : k < n
  · obtain ⟨⟨⟨s, dat⟩, gon⟩, hx⟩ := getElem?_lt (l := l) (k := k) (by rw [Hl.out]; exact hlt)
    obtain ⟨b, off, rfl, hb, hcs⟩ := (HC.out.below hB.out).at_ (by rw [Hl.out]; omega)
    obtain ⟨D, cd, hc1, hc2, hc3, -, -, -, -⟩ := hcs k _ hx
    have Gx := Lib.hid (chNames_get hx)
    have Hx := Lib.hid hx
    obtain ⟨md, hmd⟩ : ∃ md, md = dat.length := ⟨_, rfl⟩
    simp only [] at hc1 hc2 hc3
    rw [← hmd] at hc2
    have Hmd := Lib.hid hmd
    clear hmd
    obtain ⟨z, hz⟩ : ∃ z, s.size = z := ⟨_, rfl⟩
    have Hz := Lib.hid hz
    have hAt : Mir.chAt l k = ((decide ((0 : Int) < (z : Int)) && decide ((z : Int) ≤ 64)) && (decide (k = 0) || Mir.nlt ((l.map Mir.chN).getD (k - 1) ⟨#[]⟩) s) && !(gon && decide (0 < md))) := by
     unfold Mir.chAt Mir.incAt Mir.nameB
     rw [Gx.out, hx, ← hz, Hmd.out]
    have HAt := Lib.hid hAt
    clear hAt
    by_cases h1 : (0 : Int) < (z : Int)
    · by_cases h2 : (z : Int) ≤ 64
      · have d1 : decide ((z : Int) < 1) = false := decide_eq_false (by omega)
        have d2 : decide ((64 : Int) < (z : Int)) = false := decide_eq_false (by omega)
        have n1 := decide_eq_true h1
        have n2 := decide_eq_true h2
        clear h1 h2
        cases gon with
        | false =>
          rcases Nat.eq_zero_or_pos k with h0 | h0
          · have hT : Mir.chAt l k = true := by rw [HAt.out, n1, n2, decide_eq_true h0]; rfl
            have HT := Lib.hid hT
            have dk : decide ((0 : Int) < (k : Int)) = false := decide_eq_false (by omega)
            have dk' : decide (0 < k) = false := decide_eq_false (by omega)
            clear h0 hT n1 n2 hcs hx
            go_upto_region 5 with (fail)
            try rw [hz]
            generalize hge : World.alloc _ _ = wx
            have bX : Blk wx wk.heap.size 66 #[.string s, .slice D md cd, .bool false] := by subst hge; exact Blk.new wk _ _
            have hbX := al1 hge
            clear hge
            have x0 : wx.cell? ⟨wk.heap.size, 0, none⟩ = some (.string s) := bX.cell 0
            have x1 : wx.cell? ⟨wk.heap.size, 1, none⟩ = some (.slice D md cd) := bX.cell 1
            have x2 : wx.cell? ⟨wk.heap.size, 2, none⟩ = some (.bool false) := bX.cell 2
            have HBX := Lib.hid (below_of hB.out hbX hB.out.size)
            clear bX hbX
            go_quiet (fail)
            go_wp2_with (fail)
            go_roundw
            case rel => exact ⟨k + 1, by omega, by go_num, Lib.hid (fun j hj => by
             rcases Nat.lt_or_ge j k with h | h
             · exact Hg.out j h
             · obtain rfl : j = k := by omega
               exact HT.out), below_drewN HBX.out _⟩
            case measure => simp [intOf]; omega
          · obtain ⟨k', rfl⟩ : ∃ k', k = k' + 1 := ⟨k - 1, by omega⟩
            obtain ⟨⟨⟨s0, dat0⟩, gon0⟩, hx0⟩ := getElem?_lt (l := l) (k := k') (by rw [Hl.out]; omega)
            obtain ⟨D0, cd0, hd1, hd2, hd3, -, -, -, -⟩ := hcs k' _ hx0
            have Gx0 := Lib.hid (chNames_get hx0)
            simp only [] at hd1
            have Hd1 := Lib.hid hd1
            have e1 : ((k' + 1 : Nat) : Int) - 1 = (k' : Int) := by omega
            have e2 : (k' : Int) + 1 - 1 = (k' : Int) := by omega
            have e3 : IntKind.i64.wrap (k' : Int) = (k' : Int) := IntWalk.i64_in _ (by omega)
            have hkI : (k' : Int) < (n : Int) := by omega
            have hkN : k' < n := by omega
            have dk : decide ((0 : Int) < ((k' + 1 : Nat) : Int)) = true := decide_eq_true (by omega)
            have dk2 : decide ((0 : Int) < (k' : Int) + 1) = true := decide_eq_true (by omega)
            have hinc : Mir.chAt l (k' + 1) = Op.bytesLess s0.toList s.toList := by
             rw [HAt.out, n1, n2, Nat.add_sub_cancel, Gx0.out]
             unfold Mir.nlt
             simp
            obtain ⟨q, hq⟩ : ∃ q, Op.bytesLess s0.toList s.toList = q := ⟨_, rfl⟩
            rw [hq] at hinc
            have HT := Lib.hid hinc
            clear hinc h0 hcs hx hx0 hd1 hd2 hd3 n1 n2
            cases q with
            | false =>
              have hf : R = false := by
               rw [← HR.out]
               unfold Mir.chOk
               rw [Mir.chS_bad (k := k' + 1) (by rw [Hl.out]; exact hlt) HT.out]
               rfl
              subst hf
              go_upto_region 5 with (fail)
              try rw [hz]
              generalize hge : World.alloc _ _ = wx
              have bX : Blk wx wk.heap.size 66 #[.string s, .slice D md cd, .bool false] := by subst hge; exact Blk.new wk _ _
              have hbX := al1 hge
              clear hge
              have x0 : wx.cell? ⟨wk.heap.size, 0, none⟩ = some (.string s) := bX.cell 0
              have x1 : wx.cell? ⟨wk.heap.size, 1, none⟩ = some (.slice D md cd) := bX.cell 1
              have x2 : wx.cell? ⟨wk.heap.size, 2, none⟩ = some (.bool false) := bX.cell 2
              have HBX := Lib.hid (below_of hB.out hbX hB.out.size)
              have y0 := cellkM hbX Hd1.out
              clear bX hbX
              go_quiet (fail)
              go_wp2_with (fail)
              go_ret
              exact ⟨rfl, below_drewN HBX.out _⟩
            | true =>
              go_upto_region 5 with (fail)
              try rw [hz]
              generalize hge : World.alloc _ _ = wx
              have bX : Blk wx wk.heap.size 66 #[.string s, .slice D md cd, .bool false] := by subst hge; exact Blk.new wk _ _
              have hbX := al1 hge
              clear hge
              have x0 : wx.cell? ⟨wk.heap.size, 0, none⟩ = some (.string s) := bX.cell 0
              have x1 : wx.cell? ⟨wk.heap.size, 1, none⟩ = some (.slice D md cd) := bX.cell 1
              have x2 : wx.cell? ⟨wk.heap.size, 2, none⟩ = some (.bool false) := bX.cell 2
              have HBX := Lib.hid (below_of hB.out hbX hB.out.size)
              have y0 := cellkM hbX Hd1.out
              clear bX hbX
              go_quiet (fail)
              go_wp2_with (fail)
              go_roundw
              case rel => exact ⟨k' + 1 + 1, by omega, by go_num, Lib.hid (fun j hj => by
               rcases Nat.lt_or_ge j (k' + 1) with h | h
               · exact Hg.out j h
               · obtain rfl : j = k' + 1 := by omega
                 exact HT.out), below_drewN HBX.out _⟩
              case measure => simp [intOf]; omega
        | true =>
          rcases Nat.eq_zero_or_pos md with hm | hm
          · have dm : decide ((0 : Int) < (md : Int)) = false := decide_eq_false (by omega)
            have dm' : decide (0 < md) = false := decide_eq_false (by omega)
            clear hm
            rcases Nat.eq_zero_or_pos k with h0 | h0
            · have hT : Mir.chAt l k = true := by rw [HAt.out, n1, n2, decide_eq_true h0]; simp [dm']
              have HT := Lib.hid hT
              have dk : decide ((0 : Int) < (k : Int)) = false := decide_eq_false (by omega)
              have dk' : decide (0 < k) = false := decide_eq_false (by omega)
              clear h0 hT n1 n2 hcs hx
              go_upto_region 5 with (fail)
              try rw [hz]
              generalize hge : World.alloc _ _ = wx
              have bX : Blk wx wk.heap.size 66 #[.string s, .slice D md cd, .bool true] := by subst hge; exact Blk.new wk _ _
              have hbX := al1 hge
              clear hge
              have x0 : wx.cell? ⟨wk.heap.size, 0, none⟩ = some (.string s) := bX.cell 0
              have x1 : wx.cell? ⟨wk.heap.size, 1, none⟩ = some (.slice D md cd) := bX.cell 1
              have x2 : wx.cell? ⟨wk.heap.size, 2, none⟩ = some (.bool true) := bX.cell 2
              have HBX := Lib.hid (below_of hB.out hbX hB.out.size)
              clear bX hbX
              go_quiet (fail)
              go_wp2_with (fail)
              go_roundw
              case rel => exact ⟨k + 1, by omega, by go_num, Lib.hid (fun j hj => by
               rcases Nat.lt_or_ge j k with h | h
               · exact Hg.out j h
               · obtain rfl : j = k := by omega
                 exact HT.out), below_drewN HBX.out _⟩
              case measure => simp [intOf]; omega
            · obtain ⟨k', rfl⟩ : ∃ k', k = k' + 1 := ⟨k - 1, by omega⟩
              obtain ⟨⟨⟨s0, dat0⟩, gon0⟩, hx0⟩ := getElem?_lt (l := l) (k := k') (by rw [Hl.out]; omega)
              obtain ⟨D0, cd0, hd1, hd2, hd3, -, -, -, -⟩ := hcs k' _ hx0
              have Gx0 := Lib.hid (chNames_get hx0)
              simp only [] at hd1
              have Hd1 := Lib.hid hd1
              have e1 : ((k' + 1 : Nat) : Int) - 1 = (k' : Int) := by omega
              have e2 : (k' : Int) + 1 - 1 = (k' : Int) := by omega
              have e3 : IntKind.i64.wrap (k' : Int) = (k' : Int) := IntWalk.i64_in _ (by omega)
              have hkI : (k' : Int) < (n : Int) := by omega
              have hkN : k' < n := by omega
              have dk : decide ((0 : Int) < ((k' + 1 : Nat) : Int)) = true := decide_eq_true (by omega)
              have dk2 : decide ((0 : Int) < (k' : Int) + 1) = true := decide_eq_true (by omega)
              have hinc : Mir.chAt l (k' + 1) = Op.bytesLess s0.toList s.toList := by
               rw [HAt.out, n1, n2, Nat.add_sub_cancel, Gx0.out]
               unfold Mir.nlt
               simp [dm']
              obtain ⟨q, hq⟩ : ∃ q, Op.bytesLess s0.toList s.toList = q := ⟨_, rfl⟩
              rw [hq] at hinc
              have HT := Lib.hid hinc
              clear hinc h0 hcs hx hx0 hd1 hd2 hd3 n1 n2
              cases q with
              | false =>
                have hf : R = false := by
                 rw [← HR.out]
                 unfold Mir.chOk
                 rw [Mir.chS_bad (k := k' + 1) (by rw [Hl.out]; exact hlt) HT.out]
                 rfl
                subst hf
                go_upto_region 5 with (fail)
                try rw [hz]
                generalize hge : World.alloc _ _ = wx
                have bX : Blk wx wk.heap.size 66 #[.string s, .slice D md cd, .bool true] := by subst hge; exact Blk.new wk _ _
                have hbX := al1 hge
                clear hge
                have x0 : wx.cell? ⟨wk.heap.size, 0, none⟩ = some (.string s) := bX.cell 0
                have x1 : wx.cell? ⟨wk.heap.size, 1, none⟩ = some (.slice D md cd) := bX.cell 1
                have x2 : wx.cell? ⟨wk.heap.size, 2, none⟩ = some (.bool true) := bX.cell 2
                have HBX := Lib.hid (below_of hB.out hbX hB.out.size)
                have y0 := cellkM hbX Hd1.out
                clear bX hbX
                go_quiet (fail)
                go_wp2_with (fail)
                go_ret
                exact ⟨rfl, below_drewN HBX.out _⟩
              | true =>
                go_upto_region 5 with (fail)
                try rw [hz]
                generalize hge : World.alloc _ _ = wx
                have bX : Blk wx wk.heap.size 66 #[.string s, .slice D md cd, .bool true] := by subst hge; exact Blk.new wk _ _
                have hbX := al1 hge
                clear hge
                have x0 : wx.cell? ⟨wk.heap.size, 0, none⟩ = some (.string s) := bX.cell 0
                have x1 : wx.cell? ⟨wk.heap.size, 1, none⟩ = some (.slice D md cd) := bX.cell 1
                have x2 : wx.cell? ⟨wk.heap.size, 2, none⟩ = some (.bool true) := bX.cell 2
                have HBX := Lib.hid (below_of hB.out hbX hB.out.size)
                have y0 := cellkM hbX Hd1.out
                clear bX hbX
                go_quiet (fail)
                go_wp2_with (fail)
                go_roundw
                case rel => exact ⟨k' + 1 + 1, by omega, by go_num, Lib.hid (fun j hj => by
                 rcases Nat.lt_or_ge j (k' + 1) with h | h
                 · exact Hg.out j h
                 · obtain rfl : j = k' + 1 := by omega
                   exact HT.out), below_drewN HBX.out _⟩
                case measure => simp [intOf]; omega
          · have dm : decide ((0 : Int) < (md : Int)) = true := decide_eq_true (by omega)
            have dm' : decide (0 < md) = true := decide_eq_true hm
            have hf : R = false := by
             rw [← HR.out]
             unfold Mir.chOk
             rw [Mir.chS_bad (k := k) (by rw [Hl.out]; exact hlt) (by rw [HAt.out]; rw [dm']; simp)]
             rfl
            subst hf
            clear hcs hx n1 n2 hm
            go_upto_region 5 with (fail)
            try rw [hz]
            generalize hge : World.alloc _ _ = wx
            have bX : Blk wx wk.heap.size 66 #[.string s, .slice D md cd, .bool true] := by subst hge; exact Blk.new wk _ _
            have hbX := al1 hge
            clear hge
            have x0 : wx.cell? ⟨wk.heap.size, 0, none⟩ = some (.string s) := bX.cell 0
            have x1 : wx.cell? ⟨wk.heap.size, 1, none⟩ = some (.slice D md cd) := bX.cell 1
            have x2 : wx.cell? ⟨wk.heap.size, 2, none⟩ = some (.bool true) := bX.cell 2
            have HBX := Lib.hid (below_of hB.out hbX hB.out.size)
            clear bX hbX
            go_quiet (fail)
            go_wp2_with (fail)
            go_ret
            exact ⟨rfl, below_drewN HBX.out _⟩
      · have d1 : decide ((z : Int) < 1) = false := decide_eq_false (by omega)
        have d2 : decide ((64 : Int) < (z : Int)) = true := decide_eq_true (by omega)
        have n2 := decide_eq_false h2
        have hf : R = false := by
         rw [← HR.out]
         unfold Mir.chOk
         rw [Mir.chS_bad (k := k) (by rw [Hl.out]; exact hlt) (by rw [HAt.out]; rw [n2]; simp)]
         rfl
        subst hf
        clear hcs hx n2 h1 h2
        go_upto_region 5 with (fail)
        try rw [hz]
        generalize hge : World.alloc _ _ = wx
        have bX : Blk wx wk.heap.size 66 #[.string s, .slice D md cd, .bool gon] := by subst hge; exact Blk.new wk _ _
        have hbX := al1 hge
        clear hge
        have x0 : wx.cell? ⟨wk.heap.size, 0, none⟩ = some (.string s) := bX.cell 0
        have x1 : wx.cell? ⟨wk.heap.size, 1, none⟩ = some (.slice D md cd) := bX.cell 1
        have x2 : wx.cell? ⟨wk.heap.size, 2, none⟩ = some (.bool gon) := bX.cell 2
        have HBX := Lib.hid (below_of hB.out hbX hB.out.size)
        clear bX hbX
        go_quiet (fail)
        go_wp2_with (fail)
        go_ret
        exact ⟨rfl, below_drewN HBX.out _⟩
    · have d1 : decide ((z : Int) < 1) = true := decide_eq_true (by omega)
      have n1 := decide_eq_false h1
      have hf : R = false := by
       rw [← HR.out]
       unfold Mir.chOk
       rw [Mir.chS_bad (k := k) (by rw [Hl.out]; exact hlt) (by rw [HAt.out]; rw [n1]; simp)]
       rfl
      subst hf
      clear hcs hx n1 h1
      go_upto_region 5 with (fail)
      try rw [hz]
      generalize hge : World.alloc _ _ = wx
      have bX : Blk wx wk.heap.size 66 #[.string s, .slice D md cd, .bool gon] := by subst hge; exact Blk.new wk _ _
      have hbX := al1 hge
      clear hge
      have x0 : wx.cell? ⟨wk.heap.size, 0, none⟩ = some (.string s) := bX.cell 0
      have x1 : wx.cell? ⟨wk.heap.size, 1, none⟩ = some (.slice D md cd) := bX.cell 1
      have x2 : wx.cell? ⟨wk.heap.size, 2, none⟩ = some (.bool gon) := bX.cell 2
      have HBX := Lib.hid (below_of hB.out hbX hB.out.size)
      clear bX hbX
      go_quiet (fail)
      go_wp2_with (fail)
      go_ret
      exact ⟨rfl, below_drewN HBX.out _⟩
  · obtain rfl : n = k := by omega
    have hc : Mir.chS l = true := Mir.chS_good fun j hj => Hg.out j (by rw [Hl.out] at hj; exact hj)
    have hf : R = decide ((n : Int) ≤ 65536) := by
     rw [← HR.out]
     unfold Mir.chOk
     rw [hc, Hl.out, Bool.true_and]
     exact decide_eq_decide.2 (by omega)
    subst hf
    go_wp2_with (fail)
    go_ret
    exact ⟨rfl, hB.out⟩
end Go.Proofs.YtkflpoiobpblhaaGreat
