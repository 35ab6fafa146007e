/- Walks and plain laws that the statement rests on: Sig5, Sig6, Sig7. -/
import Derived.Deep.DeepCutAuto
import Derived.Laws.EntriesVeiled
import Derived.Test.YtkflpoiobpblhaaGreatP00
import Derived.Test.YtkflpoiobpblhaaGreatP26
import Derived.Test.YtkflpoiobpblhaaGreatPS
namespace Go.Proofs.YtkflpoiobpblhaaGreat
open Go.RowKit
def arrB (l : List Bool) : Array Value := (l.map Value.bool).toArray
theorem arrB_size (l : List Bool) : (arrB l).size = l.length := by simp [arrB]
theorem arrB_all (l : List Bool) : (arrB l).all (·.oneCell') = true := by
 rw [Array.all_eq_true]
 intro i hi
 simp [arrB, Value.oneCell']
theorem arrB_get {l : List Bool} {j : Nat} (h : j < l.length) : (arrB l)[j]? = some (.bool (l.getD j false)) := by simp [arrB, h]
def bitA (d : List Nat) (k : Nat) : List Bool := bitL d k ++ List.replicate (64 - k) false
theorem bitA_length (d : List Nat) {k : Nat} (h : k ≤ 64) : (bitA d k).length = 64 := by unfold bitA; rw [List.length_append, bitL_length, List.length_replicate]; omega
theorem bitA_zero (d : List Nat) : bitA d 0 = List.replicate 64 false := by unfold bitA; rw [bitL_zero]; rfl
theorem bitA_all (d : List Nat) : bitA d 64 = bitL d 64 := by unfold bitA; simp
theorem bitA_set (d : List Nat) {k : Nat} (h : k < 64) : (arrB (bitA d k)).setIfInBounds k (.bool (bitS d k)) = arrB (bitA d (k + 1)) := by
 apply Array.toList_inj.1
 unfold arrB bitA
 rw [bitL_succ, show 64 - k = (64 - (k + 1)) + 1 by omega, List.replicate_succ]
 simp [bitL_length]
theorem bit_walk {d : List Nat} (h8 : ByteL d) (j x : Nat) (hx : d.getD (j / 8) 0 = x) : (bits BinOp.and IntKind.u8 ((x : Int) / 2 ^ (7 - j % 8)) 1 == 1) = bitS d j := by
 have h : ∀ x : Fin 256, ∀ e : Fin 8, (bits BinOp.and IntKind.u8 ((x.1 : Int) / 2 ^ e.1) 1 == 1) = (x.1 / 2 ^ e.1 % 2 == 1) := by decide +kernel
 have := h ⟨x, by rw [← hx]; exact h8 _⟩ ⟨7 - j % 8, by omega⟩
 rw [bitS_eq, hx]
 exact this
theorem infoB {l : List Bool} (h : l.length = 64) : (Tryz.prog.info? 97).map (·.size) = some (arrB l).size := by rw [arrB_size, h]; kernel_rfl
def z64 : List Bool := List.replicate 64 false
set_option linter.unusedSimpArgs false in
set_option maxRecDepth 100000 in
set_option maxHeartbeats 4000000 in
theorem signed_any (root : List Nat) (i : Nat) (msg : List Nat) (A : Option Addr) (n c : Nat) (w : World) (hr : IsD root) (hi : i < 65536) (hA : Cells w A (bytesV msg)) (hm : msg.length = n) (hn : n ≤ 70000) (h8 : ByteL msg) :
    Calls Tryz.prog 59 #[.agg (arrK .u8 root), .int .i64 i, .slice A n c] w fun e w' => e = .returned (.agg (arrB (bitL (msgS root i msg) 64))) ∧ Below w.heap.size w w' := by
 have HA := Lib.hid hA
 have Hr := Lib.hid hr
 have Hm := Lib.hid hm
 have Hm8 := Lib.hid h8
 have lt := Lib.hid (msgS_isD root i msg).1
 have l8 := Lib.hid (msgS_isD root i msg).2
 obtain ⟨d, hd⟩ : ∃ d, msgS root i msg = d := ⟨_, rfl⟩
 rw [hd] at lt l8 ⊢
 have Hdd := Lib.hid hd
 clear hA hr hm h8 hd
 go_enter Tryz.func59, Tryz.ntmps59
 go_wp2_with (fail)
 generalize hge : World.alloc _ _ = w1
 have H1 := Lib.hid (show Blk w1 w.heap.size 29 (arrK .u8 root) by subst hge; exact (blk_two w (arrK .u8 root) (arrB z64) 29 97).1)
 have HR := Lib.hid (show Blk w1 (w.heap.size + 1) 97 (arrB z64) by subst hge; exact (blk_two w (arrK .u8 root) (arrB z64) 29 97).2)
 have HB := Lib.hid (al2 hge)
 have oB : w.heap.size < w1.heap.size := H1.out.lt
 have oR : w.heap.size + 1 < w1.heap.size := HR.out.lt
 clear hge
 go_upto_region 1 with (fail)
 go_cut [7] (fun s7 wx => ∃ D : Nat, s7 = .pointer (some ⟨D, 0, none⟩) ∧ Blk wx D 29 (arrK .u8 d) ∧ Blk wx (w.heap.size + 1) 97 (arrB z64) ∧ w1.heap.size ≤ D ∧ Below w.heap.size w wx)
 case first =>
  refine wp_region_held_drew (S := fun W => Below w.heap.size w W) (by kernel_rfl) (below_drewN HB.out 1) (fun Hd => ?_)
  have Hd : Below w.heap.size w w1.drew := below_drewN HB.out 1
  have Zd : w1.heap.size ≤ w1.drew.heap.size := Nat.le_refl _
  have fB : Blk w1.drew w.heap.size 29 (arrK .u8 root) := H1.out
  have fR : Blk w1.drew (w.heap.size + 1) 97 (arrB z64) := HR.out
  generalize World.drew w1 = wd at *
  refine tq 0 rfl Hd ?_
  refine tq 1 rfl Hd ?_
  try simp only [la, Act.put]
  refine tq 3 rfl Hd ?_
  try simp only [la, Act.put]
  refine tz 2 7 rfl rfl (fun K hK => ?_) (fun K hK => ?_)
  · go_simp
    refine (two_any i _ (by omega)).mono ?_
    rintro e w1_ ⟨rfl, ft1, hb1⟩
    have fB1 := fB.below hb1
    have fR1 := fR.below hb1
    have Hb1 := below_of Hd hb1 Hd.size
    have Zb1 := Nat.le_trans Zd hb1.size
    have lot1 : w1.heap.size ≤ wd.heap.size := Zd
    go_wp2_with (fail)
    refine hK.out _ _ Hb1 fun _ => ?_
    clear hK K
    try simp only [la, Act.put]
    refine tz 4 7 rfl rfl (fun K hK => ?_) (fun K hK => ?_)
    · go_simp
      generalize hge : World.alloc _ _ = w2_
      have fr2 : Blk w2_ w1_.heap.size 22 (#[.slice (some ⟨w.heap.size, 0, none⟩) 32 32, .slice (some ⟨wd.heap.size, 0, none⟩) 2 2, .slice A n c]) := by subst hge; exact Blk.new _ _ _
      have hb2 := al1 hge
      clear hge
      have fB2 := fB1.below hb2
      have fR2 := fR1.below hb2
      have ft2 := ft1.below hb2
      have lttr2 := ft1.lt
      have lor2 : w1.heap.size ≤ w1_.heap.size := Zb1
      have Hb2 := below_of Hb1 hb2 Hb1.size
      have Zb2 := Nat.le_trans Zb1 hb2.size
      refine hK.out _ _ Hb2 fun _ => ?_
      clear hK K
      try simp only [la, Act.put]
      refine tz 5 7 rfl rfl (fun K hK => ?_) (fun K hK => ?_)
      · go_simp
        refine (concat3 (w1_.heap.size) 32 32 2 2 n c (some ⟨w.heap.size, 0, none⟩) _ A (bytesV root) (bytesV (twoL i)) (bytesV msg) _ (fr2.cellv (i := 0) rfl) (fr2.cellv (i := 1) rfl) (fr2.cellv (i := 2) rfl) (cells_dig fB2) (cells_dig ft2) (HA.out.below Hb2) (by rw [bytesV_length, Hr.out.1]) (by rw [bytesV_length]; rfl) (by rw [bytesV_length, Hm.out]) (bytesV_one _) (bytesV_one _) (bytesV_one _) (by omega) (by omega) (by omega) fr2.lt).mono ?_
        rintro e w3_ ⟨A3, c3, rfl, hown3, hb3⟩
        have fm3 : Cells w3_ A3 (bytesV (root ++ twoL i ++ msg)) := by have := Cells.own hown3; rwa [← bytesV_append, ← bytesV_append] at this
        have fB3 := fB2.below hb3
        have fR3 := fR2.below hb3
        have ft3 := ft2.below hb3
        have fr3 := fr2.below hb3
        have Hb3 := below_of Hb2 hb3 Hb2.size
        have Zb3 := Nat.le_trans Zb2 hb3.size
        go_wp2_with (fail)
        refine hK.out _ _ Hb3 fun _ => ?_
        clear hK K
        try simp only [la, Act.put]
        refine tz 6 7 rfl rfl (fun K hK => ?_) (fun K hK => ?_)
        · go_simp
          refine (tagged_any ⟨#[109, 101, 115, 115, 97, 103, 101]⟩ _ _ _ (root ++ twoL i ++ msg) _ fm3 (by rw [List.length_append, List.length_append, Hr.out.1, twoL_length, Hm.out]) (by omega) ((Hr.out.2.append (twoL_byte i)).append Hm8.out) (by decide)).mono ?_
          rintro e w4_ ⟨he, hb4⟩
          have he : e = .returned (.agg (arrK .u8 d)) := by rw [← Hdd.out, msgS_eq]; exact he
          subst he
          have fB4 := fB3.below hb4
          have fR4 := fR3.below hb4
          have ft4 := ft3.below hb4
          have fr4 := fr3.below hb4
          have fm4 := fm3.below hb4
          have Hb4 := below_of Hb3 hb4 Hb3.size
          have Zb4 := Nat.le_trans Zb3 hb4.size
          go_wp2_with (fail)
          refine hK.out _ _ Hb4 fun _ => ?_
          clear hK K
          try simp only [la, Act.put]
          refine ty 7 rfl (fun K hK => ?_)
          go_simp
          generalize hge : World.alloc _ _ = w5_
          have fD5 : Blk w5_ w4_.heap.size 29 (arrK .u8 z32) := by subst hge; exact Blk.new _ _ _
          have hb5 := al1 hge
          clear hge
          have fB5 := fB4.below hb5
          have fR5 := fR4.below hb5
          have ft5 := ft4.below hb5
          have fr5 := fr4.below hb5
          have fm5 := fm4.below hb5
          have lttD5 := ft4.lt
          have ltrD5 := fr4.lt
          have loD5 : w1.heap.size ≤ w4_.heap.size := Zb4
          have Hb5 := below_of Hb4 hb5 Hb4.size
          have Zb5 := Nat.le_trans Zb4 hb5.size
          refine hK.out _ _ Hb5 fun _ => ?_
          clear hK K
          try simp only [la, Act.put]
          refine ty 8 rfl (fun K hK => ?_)
          refine step_put_blk (by rfl) _ _ _ (by rfl) (w4_.heap.size) (arrK .u8 (d)) (by rfl) (by rfl) _ _ fD5 (info32 lt.out) (by rw [len32 lt.out, len32 z32_length]) (arrK_all _ _) ?_
          intro w6_ fD6 hg6 hz6
          have neB6 := fB5.lt
          have fB6 := fB5.gx hg6
          have neR6 := fR5.lt
          have fR6 := fR5.gx hg6
          have net6 := ft5.lt
          have ft6 := ft5.gx hg6
          have ner6 := fr5.lt
          have fr6 := fr5.gx hg6
          have Hb6 := bgx Hb5 hg6 Hb5.size
          have Zb6 := Nat.le_trans Zb5 hg6.size
          refine hK.out _ _ Hb6 fun _ => ?_
          clear hK K
          try simp only [la, Act.put]
          refine td ?_ _
          go_wp2_with (fail)
          go_meet
          exact ⟨_, rfl, fD6, fR6, loD5, Hb6⟩
        · go_simp
          generalize hge : World.alloc _ _ = w4_
          have fD4 : Blk w4_ w3_.heap.size 29 (arrK .u8 z32) := by subst hge; exact Blk.new _ _ _
          have hb4 := al1 hge
          clear hge
          have fB4 := fB3.below hb4
          have fR4 := fR3.below hb4
          have ft4 := ft3.below hb4
          have fr4 := fr3.below hb4
          have fm4 := fm3.below hb4
          have lttD4 := ft3.lt
          have ltrD4 := fr3.lt
          have loD4 : w1.heap.size ≤ w3_.heap.size := Zb3
          have Hb4 := below_of Hb3 hb4 Hb3.size
          have Zb4 := Nat.le_trans Zb3 hb4.size
          refine hK.out _ _ Hb4 fun _ => ?_
          clear hK K
          try simp only [la, Act.put]
          refine ty 6 rfl (fun K hK => ?_)
          go_simp
          refine (tagged_any ⟨#[109, 101, 115, 115, 97, 103, 101]⟩ _ _ _ (root ++ twoL i ++ msg) _ fm4 (by rw [List.length_append, List.length_append, Hr.out.1, twoL_length, Hm.out]) (by omega) ((Hr.out.2.append (twoL_byte i)).append Hm8.out) (by decide)).mono ?_
          rintro e w5_ ⟨he, hb5⟩
          have he : e = .returned (.agg (arrK .u8 d)) := by rw [← Hdd.out, msgS_eq]; exact he
          subst he
          have fB5 := fB4.below hb5
          have fR5 := fR4.below hb5
          have ft5 := ft4.below hb5
          have fr5 := fr4.below hb5
          have fm5 := fm4.below hb5
          have fD5 := fD4.below hb5
          have Hb5 := below_of Hb4 hb5 Hb4.size
          have Zb5 := Nat.le_trans Zb4 hb5.size
          go_wp2_with (fail)
          refine hK.out _ _ Hb5 fun _ => ?_
          clear hK K
          try simp only [la, Act.put]
          refine ty 8 rfl (fun K hK => ?_)
          refine step_put_blk (by rfl) _ _ _ (by rfl) (w3_.heap.size) (arrK .u8 (d)) (by rfl) (by rfl) _ _ fD5 (info32 lt.out) (by rw [len32 lt.out, len32 z32_length]) (arrK_all _ _) ?_
          intro w6_ fD6 hg6 hz6
          have neB6 := fB5.lt
          have fB6 := fB5.gx hg6
          have neR6 := fR5.lt
          have fR6 := fR5.gx hg6
          have net6 := ft5.lt
          have ft6 := ft5.gx hg6
          have ner6 := fr5.lt
          have fr6 := fr5.gx hg6
          have Hb6 := bgx Hb5 hg6 Hb5.size
          have Zb6 := Nat.le_trans Zb5 hg6.size
          refine hK.out _ _ Hb6 fun _ => ?_
          clear hK K
          try simp only [la, Act.put]
          refine td ?_ _
          go_wp2_with (fail)
          go_meet
          exact ⟨_, rfl, fD6, fR6, loD4, Hb6⟩
      · go_simp
        generalize hge : World.alloc _ _ = w3_
        have fD3 : Blk w3_ w2_.heap.size 29 (arrK .u8 z32) := by subst hge; exact Blk.new _ _ _
        have hb3 := al1 hge
        clear hge
        have fB3 := fB2.below hb3
        have fR3 := fR2.below hb3
        have ft3 := ft2.below hb3
        have fr3 := fr2.below hb3
        have lttD3 := ft2.lt
        have ltrD3 := fr2.lt
        have loD3 : w1.heap.size ≤ w2_.heap.size := Zb2
        have Hb3 := below_of Hb2 hb3 Hb2.size
        have Zb3 := Nat.le_trans Zb2 hb3.size
        refine hK.out _ _ Hb3 fun _ => ?_
        clear hK K
        try simp only [la, Act.put]
        refine ty 5 rfl (fun K hK => ?_)
        go_simp
        refine (concat3 (w1_.heap.size) 32 32 2 2 n c (some ⟨w.heap.size, 0, none⟩) _ A (bytesV root) (bytesV (twoL i)) (bytesV msg) _ (fr3.cellv (i := 0) rfl) (fr3.cellv (i := 1) rfl) (fr3.cellv (i := 2) rfl) (cells_dig fB3) (cells_dig ft3) (HA.out.below Hb3) (by rw [bytesV_length, Hr.out.1]) (by rw [bytesV_length]; rfl) (by rw [bytesV_length, Hm.out]) (bytesV_one _) (bytesV_one _) (bytesV_one _) (by omega) (by omega) (by omega) fr3.lt).mono ?_
        rintro e w4_ ⟨A4, c4, rfl, hown4, hb4⟩
        have fm4 : Cells w4_ A4 (bytesV (root ++ twoL i ++ msg)) := by have := Cells.own hown4; rwa [← bytesV_append, ← bytesV_append] at this
        have fB4 := fB3.below hb4
        have fR4 := fR3.below hb4
        have ft4 := ft3.below hb4
        have fr4 := fr3.below hb4
        have fD4 := fD3.below hb4
        have Hb4 := below_of Hb3 hb4 Hb3.size
        have Zb4 := Nat.le_trans Zb3 hb4.size
        go_wp2_with (fail)
        refine hK.out _ _ Hb4 fun _ => ?_
        clear hK K
        try simp only [la, Act.put]
        refine ty 6 rfl (fun K hK => ?_)
        go_simp
        refine (tagged_any ⟨#[109, 101, 115, 115, 97, 103, 101]⟩ _ _ _ (root ++ twoL i ++ msg) _ fm4 (by rw [List.length_append, List.length_append, Hr.out.1, twoL_length, Hm.out]) (by omega) ((Hr.out.2.append (twoL_byte i)).append Hm8.out) (by decide)).mono ?_
        rintro e w5_ ⟨he, hb5⟩
        have he : e = .returned (.agg (arrK .u8 d)) := by rw [← Hdd.out, msgS_eq]; exact he
        subst he
        have fB5 := fB4.below hb5
        have fR5 := fR4.below hb5
        have ft5 := ft4.below hb5
        have fr5 := fr4.below hb5
        have fD5 := fD4.below hb5
        have fm5 := fm4.below hb5
        have Hb5 := below_of Hb4 hb5 Hb4.size
        have Zb5 := Nat.le_trans Zb4 hb5.size
        go_wp2_with (fail)
        refine hK.out _ _ Hb5 fun _ => ?_
        clear hK K
        try simp only [la, Act.put]
        refine ty 8 rfl (fun K hK => ?_)
        refine step_put_blk (by rfl) _ _ _ (by rfl) (w2_.heap.size) (arrK .u8 (d)) (by rfl) (by rfl) _ _ fD5 (info32 lt.out) (by rw [len32 lt.out, len32 z32_length]) (arrK_all _ _) ?_
        intro w6_ fD6 hg6 hz6
        have neB6 := fB5.lt
        have fB6 := fB5.gx hg6
        have neR6 := fR5.lt
        have fR6 := fR5.gx hg6
        have net6 := ft5.lt
        have ft6 := ft5.gx hg6
        have ner6 := fr5.lt
        have fr6 := fr5.gx hg6
        have Hb6 := bgx Hb5 hg6 Hb5.size
        have Zb6 := Nat.le_trans Zb5 hg6.size
        refine hK.out _ _ Hb6 fun _ => ?_
        clear hK K
        try simp only [la, Act.put]
        refine td ?_ _
        go_wp2_with (fail)
        go_meet
        exact ⟨_, rfl, fD6, fR6, loD3, Hb6⟩
    · go_simp
      generalize hge : World.alloc _ _ = w2_
      have fD2 : Blk w2_ w1_.heap.size 29 (arrK .u8 z32) := by subst hge; exact Blk.new _ _ _
      have hb2 := al1 hge
      clear hge
      have fB2 := fB1.below hb2
      have fR2 := fR1.below hb2
      have ft2 := ft1.below hb2
      have lttD2 := ft1.lt
      have loD2 : w1.heap.size ≤ w1_.heap.size := Zb1
      have Hb2 := below_of Hb1 hb2 Hb1.size
      have Zb2 := Nat.le_trans Zb1 hb2.size
      refine hK.out _ _ Hb2 fun _ => ?_
      clear hK K
      try simp only [la, Act.put]
      refine ty 4 rfl (fun K hK => ?_)
      go_simp
      generalize hge : World.alloc _ _ = w3_
      have fr3 : Blk w3_ w2_.heap.size 22 (#[.slice (some ⟨w.heap.size, 0, none⟩) 32 32, .slice (some ⟨wd.heap.size, 0, none⟩) 2 2, .slice A n c]) := by subst hge; exact Blk.new _ _ _
      have hb3 := al1 hge
      clear hge
      have fB3 := fB2.below hb3
      have fR3 := fR2.below hb3
      have ft3 := ft2.below hb3
      have fD3 := fD2.below hb3
      have lttr3 := ft2.lt
      have ltDr3 := fD2.lt
      have lor3 : w1.heap.size ≤ w2_.heap.size := Zb2
      have Hb3 := below_of Hb2 hb3 Hb2.size
      have Zb3 := Nat.le_trans Zb2 hb3.size
      refine hK.out _ _ Hb3 fun _ => ?_
      clear hK K
      try simp only [la, Act.put]
      refine ty 5 rfl (fun K hK => ?_)
      go_simp
      refine (concat3 (w2_.heap.size) 32 32 2 2 n c (some ⟨w.heap.size, 0, none⟩) _ A (bytesV root) (bytesV (twoL i)) (bytesV msg) _ (fr3.cellv (i := 0) rfl) (fr3.cellv (i := 1) rfl) (fr3.cellv (i := 2) rfl) (cells_dig fB3) (cells_dig ft3) (HA.out.below Hb3) (by rw [bytesV_length, Hr.out.1]) (by rw [bytesV_length]; rfl) (by rw [bytesV_length, Hm.out]) (bytesV_one _) (bytesV_one _) (bytesV_one _) (by omega) (by omega) (by omega) fr3.lt).mono ?_
      rintro e w4_ ⟨A4, c4, rfl, hown4, hb4⟩
      have fm4 : Cells w4_ A4 (bytesV (root ++ twoL i ++ msg)) := by have := Cells.own hown4; rwa [← bytesV_append, ← bytesV_append] at this
      have fB4 := fB3.below hb4
      have fR4 := fR3.below hb4
      have ft4 := ft3.below hb4
      have fD4 := fD3.below hb4
      have fr4 := fr3.below hb4
      have Hb4 := below_of Hb3 hb4 Hb3.size
      have Zb4 := Nat.le_trans Zb3 hb4.size
      go_wp2_with (fail)
      refine hK.out _ _ Hb4 fun _ => ?_
      clear hK K
      try simp only [la, Act.put]
      refine ty 6 rfl (fun K hK => ?_)
      go_simp
      refine (tagged_any ⟨#[109, 101, 115, 115, 97, 103, 101]⟩ _ _ _ (root ++ twoL i ++ msg) _ fm4 (by rw [List.length_append, List.length_append, Hr.out.1, twoL_length, Hm.out]) (by omega) ((Hr.out.2.append (twoL_byte i)).append Hm8.out) (by decide)).mono ?_
      rintro e w5_ ⟨he, hb5⟩
      have he : e = .returned (.agg (arrK .u8 d)) := by rw [← Hdd.out, msgS_eq]; exact he
      subst he
      have fB5 := fB4.below hb5
      have fR5 := fR4.below hb5
      have ft5 := ft4.below hb5
      have fD5 := fD4.below hb5
      have fr5 := fr4.below hb5
      have fm5 := fm4.below hb5
      have Hb5 := below_of Hb4 hb5 Hb4.size
      have Zb5 := Nat.le_trans Zb4 hb5.size
      go_wp2_with (fail)
      refine hK.out _ _ Hb5 fun _ => ?_
      clear hK K
      try simp only [la, Act.put]
      refine ty 8 rfl (fun K hK => ?_)
      refine step_put_blk (by rfl) _ _ _ (by rfl) (w1_.heap.size) (arrK .u8 (d)) (by rfl) (by rfl) _ _ fD5 (info32 lt.out) (by rw [len32 lt.out, len32 z32_length]) (arrK_all _ _) ?_
      intro w6_ fD6 hg6 hz6
      have neB6 := fB5.lt
      have fB6 := fB5.gx hg6
      have neR6 := fR5.lt
      have fR6 := fR5.gx hg6
      have net6 := ft5.lt
      have ft6 := ft5.gx hg6
      have ner6 := fr5.lt
      have fr6 := fr5.gx hg6
      have Hb6 := bgx Hb5 hg6 Hb5.size
      have Zb6 := Nat.le_trans Zb5 hg6.size
      refine hK.out _ _ Hb6 fun _ => ?_
      clear hK K
      try simp only [la, Act.put]
      refine td ?_ _
      go_wp2_with (fail)
      go_meet
      exact ⟨_, rfl, fD6, fR6, loD2, Hb6⟩
  · go_simp
    generalize hge : World.alloc _ _ = w1_
    have fD1 : Blk w1_ wd.heap.size 29 (arrK .u8 z32) := by subst hge; exact Blk.new _ _ _
    have hb1 := al1 hge
    clear hge
    have fB1 := fB.below hb1
    have fR1 := fR.below hb1
    have loD1 : w1.heap.size ≤ wd.heap.size := Zd
    have Hb1 := below_of Hd hb1 Hd.size
    have Zb1 := Nat.le_trans Zd hb1.size
    refine hK.out _ _ Hb1 fun _ => ?_
    clear hK K
    try simp only [la, Act.put]
    refine ty 2 rfl (fun K hK => ?_)
    go_simp
    refine (two_any i _ (by omega)).mono ?_
    rintro e w2_ ⟨rfl, ft2, hb2⟩
    have fB2 := fB1.below hb2
    have fR2 := fR1.below hb2
    have fD2 := fD1.below hb2
    have Hb2 := below_of Hb1 hb2 Hb1.size
    have Zb2 := Nat.le_trans Zb1 hb2.size
    have lot2 : w1.heap.size ≤ w1_.heap.size := Zb1
    have ltDt2 := fD1.lt
    go_wp2_with (fail)
    refine hK.out _ _ Hb2 fun _ => ?_
    clear hK K
    try simp only [la, Act.put]
    refine ty 4 rfl (fun K hK => ?_)
    go_simp
    generalize hge : World.alloc _ _ = w3_
    have fr3 : Blk w3_ w2_.heap.size 22 (#[.slice (some ⟨w.heap.size, 0, none⟩) 32 32, .slice (some ⟨w1_.heap.size, 0, none⟩) 2 2, .slice A n c]) := by subst hge; exact Blk.new _ _ _
    have hb3 := al1 hge
    clear hge
    have fB3 := fB2.below hb3
    have fR3 := fR2.below hb3
    have fD3 := fD2.below hb3
    have ft3 := ft2.below hb3
    have ltDr3 := fD2.lt
    have lttr3 := ft2.lt
    have lor3 : w1.heap.size ≤ w2_.heap.size := Zb2
    have Hb3 := below_of Hb2 hb3 Hb2.size
    have Zb3 := Nat.le_trans Zb2 hb3.size
    refine hK.out _ _ Hb3 fun _ => ?_
    clear hK K
    try simp only [la, Act.put]
    refine ty 5 rfl (fun K hK => ?_)
    go_simp
    refine (concat3 (w2_.heap.size) 32 32 2 2 n c (some ⟨w.heap.size, 0, none⟩) _ A (bytesV root) (bytesV (twoL i)) (bytesV msg) _ (fr3.cellv (i := 0) rfl) (fr3.cellv (i := 1) rfl) (fr3.cellv (i := 2) rfl) (cells_dig fB3) (cells_dig ft3) (HA.out.below Hb3) (by rw [bytesV_length, Hr.out.1]) (by rw [bytesV_length]; rfl) (by rw [bytesV_length, Hm.out]) (bytesV_one _) (bytesV_one _) (bytesV_one _) (by omega) (by omega) (by omega) fr3.lt).mono ?_
    rintro e w4_ ⟨A4, c4, rfl, hown4, hb4⟩
    have fm4 : Cells w4_ A4 (bytesV (root ++ twoL i ++ msg)) := by have := Cells.own hown4; rwa [← bytesV_append, ← bytesV_append] at this
    have fB4 := fB3.below hb4
    have fR4 := fR3.below hb4
    have fD4 := fD3.below hb4
    have ft4 := ft3.below hb4
    have fr4 := fr3.below hb4
    have Hb4 := below_of Hb3 hb4 Hb3.size
    have Zb4 := Nat.le_trans Zb3 hb4.size
    go_wp2_with (fail)
    refine hK.out _ _ Hb4 fun _ => ?_
    clear hK K
    try simp only [la, Act.put]
    refine ty 6 rfl (fun K hK => ?_)
    go_simp
    refine (tagged_any ⟨#[109, 101, 115, 115, 97, 103, 101]⟩ _ _ _ (root ++ twoL i ++ msg) _ fm4 (by rw [List.length_append, List.length_append, Hr.out.1, twoL_length, Hm.out]) (by omega) ((Hr.out.2.append (twoL_byte i)).append Hm8.out) (by decide)).mono ?_
    rintro e w5_ ⟨he, hb5⟩
    have he : e = .returned (.agg (arrK .u8 d)) := by rw [← Hdd.out, msgS_eq]; exact he
    subst he
    have fB5 := fB4.below hb5
    have fR5 := fR4.below hb5
    have fD5 := fD4.below hb5
    have ft5 := ft4.below hb5
    have fr5 := fr4.below hb5
    have fm5 := fm4.below hb5
    have Hb5 := below_of Hb4 hb5 Hb4.size
    have Zb5 := Nat.le_trans Zb4 hb5.size
    go_wp2_with (fail)
    refine hK.out _ _ Hb5 fun _ => ?_
    clear hK K
    try simp only [la, Act.put]
    refine ty 8 rfl (fun K hK => ?_)
    refine step_put_blk (by rfl) _ _ _ (by rfl) (wd.heap.size) (arrK .u8 (d)) (by rfl) (by rfl) _ _ fD5 (info32 lt.out) (by rw [len32 lt.out, len32 z32_length]) (arrK_all _ _) ?_
    intro w6_ fD6 hg6 hz6
    have neB6 := fB5.lt
    have fB6 := fB5.gx hg6
    have neR6 := fR5.lt
    have fR6 := fR5.gx hg6
    have net6 := ft5.lt
    have ft6 := ft5.gx hg6
    have ner6 := fr5.lt
    have fr6 := fr5.gx hg6
    have Hb6 := bgx Hb5 hg6 Hb5.size
    have Zb6 := Nat.le_trans Zb5 hg6.size
    refine hK.out _ _ Hb6 fun _ => ?_
    clear hK K
    try simp only [la, Act.put]
    refine td ?_ _
    go_wp2_with (fail)
    go_meet
    exact ⟨_, rfl, fD6, fR6, loD1, Hb6⟩
 case rest =>
  obtain ⟨D, rfl, hD, hR, hlo, hB⟩ := hcut
  have HD := Lib.hid hD
  have HR1 := Lib.hid hR
  have HB1 := Lib.hid hB
  clear hD hR hB
  go_wp2_with (fail)
  go_loopw [16] (fun v wr => ∃ k : Nat, k ≤ 64 ∧ v = .int .i64 k ∧ Hid (Blk wr D 29 (arrK .u8 d)) ∧ Hid (Blk wr (w.heap.size + 1) 97 (arrB (bitA d k))) ∧ Hid (Below w.heap.size w wr)) (fun v _ => 64 - (intOf v).toNat)
  case atStart => exact ⟨0, by omega, rfl, HD.out, (show Blk _ _ _ _ by rw [bitA_zero]; exact HR1.out), HB1.out⟩
  case round =>
   obtain ⟨k, hk64, rfl, hD, hR, hB⟩ := hrel
   by_cases hk : k < 64
   · have hdk : decide ((k : Int) < 64) = true := by simp; omega
     have e1 := hD.out.cellv (i := k / 8) (arrK_get (l := d) (by rw [lt.out]; omega))
     have e2 := hR.out.cellv (i := k) (arrB_get (by rw [bitA_length d hk64]; exact hk))
     have e3 := hR.out.frozen k
     have hk8 : k / 8 < 32 := by omega
     have hkI : (k : Int) / 8 < 32 := by omega
     have hkI2 : (k : Int) < 64 := by omega
     obtain ⟨x, hx⟩ : ∃ x, d.getD (k / 8) 0 = x := ⟨_, rfl⟩
     rw [hx] at e1
     have hbit := Lib.hid (bit_walk l8.out k x hx)
     have hx8 : x < 256 := by rw [← hx]; exact l8.out _
     clear hx
     generalize (bitA d k).getD k false = y at e2
     go_wp2_with (fail)
     go_roundw
     case rel =>
      refine ⟨k + 1, by omega, by go_num, ?_, ?_, ?_⟩
      · exact hD.out.far (by simp; omega) _
      · show Blk _ _ _ _
        rw [hbit.out, ← bitA_set d hk]
        exact hR.out.set_ k _
      · exact hB.out.setCell (by simp) _
     case measure => simp [intOf]; omega
   · obtain rfl : k = 64 := by omega
     have HRf := Lib.hid (show Blk wr (w.heap.size + 1) 97 (arrB (bitL d 64)) by have := hR.out; rwa [bitA_all] at this)
     go_wp2_with (first
      | (refine wpList_load_blk rfl 97 (.tmp 6) rfl (w.heap.size + 1) rfl 97 (arrB (bitL d 64)) (.array 64 4) HRf.out (by kernel_rfl) rfl (infoB (bitL_length d 64)) ?_)
      | (refine wpList_store_same rfl 97 (.tmp 6) (.tmp 32) rfl (w.heap.size + 1) (arrB (bitL d 64)) rfl rfl 97 HRf.out (infoB (bitL_length d 64)) (arrB_all _) ?_))
     exact ret_row rfl (w.heap.size + 1) 97 (arrB (bitL d 64)) (.array 64 4) rfl HRf.out (by kernel_rfl) rfl (infoB (bitL_length d 64)) rfl ⟨rfl, hB.out⟩
end Go.Proofs.YtkflpoiobpblhaaGreat
namespace Go.Proofs.YtkflpoiobpblhaaGreat
open Go.RowKit
theorem put3 {w : World} {g : Nat} {t : TypeId} {a b c : Value} (h : Blk w g t #[a, b, c]) (x y z : Value) :
    Blk (((w.setCell ⟨g, 0, none⟩ x).setCell ⟨g, 1, none⟩ y).setCell ⟨g, 2, none⟩ z) g t #[x, y, z] ∧ w.grownBy (((w.setCell ⟨g, 0, none⟩ x).setCell ⟨g, 1, none⟩ y).setCell ⟨g, 2, none⟩ z) (some g) :=
 ⟨((h.set_ 0 x).set_ 1 y).set_ 2 z, grown_trans (grown_trans (grown_setOne x) (grown_setOne y)) (grown_setOne z)⟩
set_option linter.unusedSimpArgs false in
set_option maxRecDepth 100000 in
set_option maxHeartbeats 4000000 in
theorem New_goodN (A : Option Addr) (n c : Nat) (m : Int) (s : List Nat) (w : World) (hA : Cells w A (bytesV s)) (hs : s.length = n) (hn : n ≤ 200) (hnc : n ≤ c) (hcm : c ≤ maxLen) (hk : okKey n m 0 = true) :
    Calls Tryz.prog 24 #[.slice A n c, .int .i64 m] w fun e w' => ∃ A2 c2, e = .returned (.tuple #[.agg #[.slice A2 n c2, .int .i64 m, .int .i64 0], .int .i64 0]) ∧ n ≤ c2 ∧ c2 ≤ maxLen ∧ Cells w' A2 (bytesV s) ∧ (∀ b off, A2 = some ⟨b, off, none⟩ → w.heap.size ≤ b) ∧ Below w.heap.size w w' := by
 have HA := Lib.hid hA
 have Hs := Lib.hid hs
 have Hcm := Lib.hid hcm
 have HV := Lib.hid (fun A c W => valid_any A n c m 0 W)
 rw [hk] at HV
 clear hA hs hcm hk
 go_enter Tryz.func24, Tryz.ntmps24
 go_wp2_with (fail)
 generalize hge : World.alloc _ _ = w1
 have HR := Lib.hid (show Blk w1 w.heap.size 24 #[.slice none 0 0, .int .i64 0, .int .i64 0] by subst hge; exact Blk.new w _ _)
 have HB := Lib.hid (al1 hge)
 clear hge
 refine (clone_any A n c s w1 (HA.out.below HB.out) Hs.out (by omega) hnc Hcm.out).mono ?_
 rintro e w2 ⟨A2, c2, rfl, hc2, hm2, hC2, hne2, hb2⟩
 have HR2 := Lib.hid (HR.out.below hb2)
 have HB2 := Lib.hid (below_of HB.out hb2 HB.out.size)
 have C2 := Lib.hid hC2
 have Hm2 := Lib.hid hm2
 clear hb2 hC2 hm2
 go_wp2_with (fail)
 generalize hge : World.alloc _ _ = w3
 have HT3 := Lib.hid (show Blk w3 w2.heap.size 24 #[.slice A2 n c2, .int .i64 m, .int .i64 0] by subst hge; exact Blk.new w2 _ _)
 have hb3 := al1 hge
 have HR3 := Lib.hid (HR2.out.below hb3)
 have HB3 := Lib.hid (below_of HB2.out hb3 HB2.out.size)
 have C3 := Lib.hid (C2.out.below hb3)
 clear hge hb3
 refine (HV.out A2 c2 w3).mono ?_
 rintro e w4 ⟨rfl, hb4⟩
 have HT4 := Lib.hid (HT3.out.below hb4)
 have HR4 := Lib.hid (HR3.out.below hb4)
 have HB4 := Lib.hid (below_of HB3.out hb4 HB3.out.size)
 have C4 := Lib.hid (C3.out.below hb4)
 clear hb4
 have q0 := HR4.out.cellv (i := 0) rfl
 have q1 := HR4.out.cellv (i := 1) rfl
 have q2 := HR4.out.cellv (i := 2) rfl
 have g0 := HR4.out.frozen 0
 have g1 := HR4.out.frozen 1
 have g2 := HR4.out.frozen 2
 have p0 := HT4.out.cellv (i := 0) rfl
 have p1 := HT4.out.cellv (i := 1) rfl
 have p2 := HT4.out.cellv (i := 2) rfl
 go_wp2_with (fail)
 have hp := put3 HR4.out (.slice A2 n c2) (.int .i64 m) (.int .i64 0)
 exact ret_row2 rfl w.heap.size 24 #[.slice A2 n c2, .int .i64 m, .int .i64 0] _ rfl rfl hp.1 Tryz.underlying24 rfl (by kernel_rfl) rfl ⟨A2, c2, rfl, hc2, Hm2.out, C4.out.grown hp.2 (fun b off hA e => by have := hne2.out b off hA; have := HR.out.lt; injection e with e; omega), fun b off hA => by have := hne2.out b off hA; have := HR.out.lt; omega, below_grown HB4.out hp.2 HB4.out.size (by simp)⟩
theorem New_good (A : Option Addr) (n c : Nat) (m : Int) (s : List Nat) (w : World) (hA : Cells w A (bytesV s)) (hs : s.length = n) (hn : n ≤ 200) (hnc : n ≤ c) (hcm : c ≤ maxLen) (hk : okKey n m 0 = true) :
    Calls Tryz.prog 24 #[.slice A n c, .int .i64 m] w fun e w' => ∃ A2 c2, e = .returned (.tuple #[.agg #[.slice A2 n c2, .int .i64 m, .int .i64 0], .int .i64 0]) ∧ n ≤ c2 ∧ c2 ≤ maxLen ∧ Cells w' A2 (bytesV s) ∧ Below w.heap.size w w' :=
 (New_goodN A n c m s w hA hs hn hnc hcm hk).mono fun _ _ ⟨A2, c2, h1, h2, h3, h4, _, h5⟩ => ⟨A2, c2, h1, h2, h3, h4, h5⟩
end Go.Proofs.YtkflpoiobpblhaaGreat
namespace Go.Proofs.YtkflpoiobpblhaaGreat
open Go.RowKit
theorem getD_of {l : List (List Nat)} {j : Nat} (h : j < l.length) : l[j]? = some (l.getD j z32) := by simp [h]
set_option linter.unusedSimpArgs false in
set_option maxRecDepth 100000 in
set_option maxHeartbeats 4000000 in
theorem verH_any (X S : Nat) (x : List Bool) (o c : List (List Nat)) (Ao Ac : Option Addr) (co cc : Nat) (si sp : Value) (j : Nat) (b : Bool) (w : World) (hX : Blk w X 97 (arrB x)) (hS : Blk w S 32 #[si, .slice Ao 64 co, .slice Ac 64 cc, sp]) (hx : x.length = 64)
    (ho : o.length = 64) (hc : c.length = 64) (hO : IsL o) (hC : IsL c) (hAo : Cells w Ao (bytesV o.flatten)) (hAc : Cells w Ac (bytesV c.flatten)) (hj : j < 64) :
    Calls Tryz.prog 76 #[.int .i64 j, .bool b, .pointer (some ⟨X, 0, none⟩), .pointer (some ⟨S, 0, none⟩)] w fun e w' => e = .returned (.agg (arrK .u8 (verF x o c j b))) ∧ Below w.heap.size w w' := by
 have q0 : ∀ obj : Obj, (w.alloc obj).cell? ⟨X, j, none⟩ = some (.bool (x.getD j false)) := fun obj => (hX.alloc obj).cellv (arrB_get (by rw [hx]; exact hj))
 have q1 : ∀ obj : Obj, (w.alloc obj).cell? ⟨S, 1, none⟩ = some (.slice Ao 64 co) := fun obj => (hS.alloc obj).cellv rfl
 have q2 : ∀ obj : Obj, (w.alloc obj).cell? ⟨S, 2, none⟩ = some (.slice Ac 64 cc) := fun obj => (hS.alloc obj).cellv rfl
 obtain ⟨ob, oo, rfl, -, -⟩ := Cells.addr hAo (by rw [bytesV_length, hO.flat_length, ho]; omega)
 obtain ⟨cb, cO, rfl, -, -⟩ := Cells.addr hAc (by rw [bytesV_length, hC.flat_length, hc]; omega)
 have hjI : (j : Int) < 64 := by omega
 by_cases hyb : x.getD j false = b
 · have hv : verF x o c j b = hashS (o.getD j z32) := by rw [verF_eq, if_pos (by simpa using hyb)]
   rw [hv]
   have D1 := Lib.hid (getD_isD hO j)
   have R1 := Lib.hid (fun obj : Obj => range_at hO (hAo.alloc obj) (getD_of (l := o) (j := j) (by rw [ho]; exact hj)))
   generalize o.getD j z32 = d at *
   generalize x.getD j false = y at *
   have lt := Lib.hid (hashS_isD d).1
   subst hyb
   clear hv hX hS hAo hAc hO hC ho hc hx
   go_enter Tryz.func76, Tryz.ntmps76
   go_wp2_with (
    (refine wpList_load_mid rfl 29 (.tmp 15) rfl ob (oo + j * 32) rfl (d.map fun (n : Nat) => Value.int .u8 (n : Int)) (.array 32 5) (R1.out _) (by kernel_rfl) rfl (dV_info D1.out.1) ?_))
   generalize hge : World.alloc _ _ = w1
   have HR := Lib.hid (show Blk w1 w.heap.size 29 (arrK .u8 z32) by subst hge; exact Blk.new w _ _)
   have HB := Lib.hid (al1 hge)
   clear hge
   refine (open_any d w1 D1.out).mono ?_
   rintro e w5 ⟨rfl, hb5⟩
   have HR5 := Lib.hid (HR.out.below hb5)
   have HB5 := Lib.hid (HB.out.trans (hb5.mono HB.out.size))
   clear hb5
   go_wp2_with (
    (refine wpList_put_blk rfl 29 (.tmp 6) (.tmp 17) rfl w.heap.size (arrK .u8 (hashS d)) rfl rfl 29 (arrK .u8 z32) HR5.out (info32 lt.out) (by rw [len32 lt.out, len32 z32_length]) (arrK_all _ _) ?_
     intro w6 HD6 hg6 hz6
     have HD6 := Lib.hid HD6
     have HB6 := below_grown HB5.out hg6 HB5.out.size (by simp)
     clear hg6 hz6))
   exact ret_row rfl w.heap.size 29 (arrK .u8 (hashS d)) (.array 32 5) rfl HD6.out (by kernel_rfl) rfl (info32 lt.out) rfl ⟨rfl, HB6⟩
 · have hv : verF x o c j b = c.getD j z32 := by rw [verF_eq, if_neg (by simpa using hyb)]
   rw [hv]
   have D1 := Lib.hid (getD_isD hC j)
   have R1 := Lib.hid (fun obj : Obj => range_at hC (hAc.alloc obj) (getD_of (l := c) (j := j) (by rw [hc]; exact hj)))
   generalize c.getD j z32 = d at *
   generalize x.getD j false = y at *
   have hq : (y == b) = false := by simpa using hyb
   clear hv hX hS hAo hAc hO hC ho hc hx hyb
   go_enter Tryz.func76, Tryz.ntmps76
   go_wp2_with (first
    | (refine wpList_put_blk rfl 29 (.tmp 6) (.tmp 22) rfl w.heap.size (arrK .u8 d) rfl rfl 29 (arrK .u8 z32) (Blk.new w 29 (arrK .u8 z32)) (info32 D1.out.1) (by rw [len32 D1.out.1, len32 z32_length]) (arrK_all _ _) ?_
       intro w6 HD6 hg6 hz6
       have HD6 := Lib.hid HD6
       have HB6 := below_grown ((Below.refl w.heap.size w).alloc (Nat.le_refl _) (.cells (arrK .u8 z32) 29)) hg6 (by simp) (by simp)
       clear hg6 hz6)
    | (refine wpList_load_mid rfl 29 (.tmp 21) rfl cb (cO + j * 32) rfl (d.map fun (n : Nat) => Value.int .u8 (n : Int)) (.array 32 5) (R1.out _) (by kernel_rfl) rfl (dV_info D1.out.1) ?_))
   exact ret_row rfl w.heap.size 29 (arrK .u8 d) (.array 32 5) rfl HD6.out (by kernel_rfl) rfl (info32 D1.out.1) rfl ⟨rfl, HB6⟩
set_option linter.unusedSimpArgs false in
set_option maxRecDepth 100000 in
set_option maxHeartbeats 4000000 in
theorem Verify_bad (root : List Nat) (n at_ : Int) (A : Option Addr) (k c : Nat) (Ao Ac Ap : Option Addr) (no co nc cc q cp : Nat) (w : World) (hb : ¬ (1 ≤ n ∧ n ≤ 4096 ∧ 0 ≤ at_ ∧ at_ < n ∧ no = 64 ∧ nc = 64 ∧ k ≤ 65536)) :
    Calls Tryz.prog 39 #[.agg (arrK .u8 root), .int .i64 n, .slice A k c, .agg #[.int .i64 at_, .slice Ao no co, .slice Ac nc cc, .slice Ap q cp]] w fun e w' => e = .returned (.bool false) ∧ Below w.heap.size w w' := by
 have Hb := Lib.hid hb
 clear hb
 go_enter Tryz.func39, Tryz.ntmps39
 go_wp2_with (fail)
 all_goals first
  | (exfalso; have := Hb.out; omega)
  | (go_ret; exact ⟨rfl, ((Below.refl _ _).alloc (Nat.le_refl _) _).alloc (by simp) _⟩)
set_option linter.unusedSimpArgs false in
set_option maxRecDepth 100000 in
set_option maxHeartbeats 4000000 in
theorem Verify_good (root : List Nat) (n at_ : Nat) (msg : List Nat) (A : Option Addr) (k c : Nat) (o cl p : List (List Nat)) (Ao Ac Ap : Option Addr) (co cc q cp : Nat) (w : World) (hr : IsD root) (h1 : 1 ≤ n) (h2 : n ≤ 4096) (h3 : at_ < n) (hA : Cells w A (bytesV msg)) (hm : msg.length = k) (hk : k ≤ 65536) (h8 : ByteL msg)
    (ho : o.length = 64) (hc : cl.length = 64) (hp : p.length = q) (hO : IsL o) (hC : IsL cl) (hP : IsL p) (hAo : Cells w Ao (bytesV o.flatten)) (hAc : Cells w Ac (bytesV cl.flatten)) (hAp : Cells w Ap (bytesV p.flatten)) (hqc : q ≤ cp) (hcm : cp ≤ maxLen) :
    Calls Tryz.prog 39 #[.agg (arrK .u8 root), .int .i64 n, .slice A k c, .agg #[.int .i64 at_, .slice Ao 64 co, .slice Ac 64 cc, .slice Ap q cp]] w fun e w' => e = .returned (.bool (verS root n at_ msg o cl p)) ∧ Below w.heap.size w w' := by
 have HA := Lib.hid hA
 have Hm := Lib.hid hm
 have Hm8 := Lib.hid h8
 have Hrt := Lib.hid hr
 have HO := Lib.hid hO
 have HCL := Lib.hid hC
 have HAo := Lib.hid hAo
 have HAc := Lib.hid hAc
 have HAp := Lib.hid hAp
 have Hlo := Lib.hid ho
 have Hlc := Lib.hid hc
 obtain ⟨x, hx⟩ : ∃ x, bitL (msgS root at_ msg) 64 = x := ⟨_, rfl⟩
 have Hlx := Lib.hid (show x.length = 64 by rw [← hx, bitL_length])
 have HSg := Lib.hid (fun W h => signed_any root at_ msg A k c W hr (by omega) h hm (by omega) h8)
 rw [hx] at HSg
 obtain ⟨dd, hdd⟩ : ∃ dd, climbR (pubS (verF x o cl)) at_ n p = dd := ⟨_, rfl⟩
 have Ddd := Lib.hid (show IsD dd by rw [← hdd]; exact climbR_isD _ _ _ _)
 have HCc := Lib.hid (fun W h => climb_any (pubS (verF x o cl)) at_ n Ap q cp p W (pubS_isD _) hp hP hqc hcm h)
 rw [hdd] at HCc
 have hver : verS root n at_ msg o cl p = (okClimb at_ n q && decide (dd = root)) := by
  unfold verS
  rw [Int.toNat_natCast, hx, hdd, hp, ho, hc, hm, decide_eq_true (by omega), Bool.true_and]
 rw [hver]
 have h1I : (1 : Int) ≤ (n : Int) := by omega
 have h2I : (n : Int) ≤ 4096 := by omega
 have h3I : (at_ : Int) < (n : Int) := by omega
 have hkI : (k : Int) ≤ 65536 := by omega
 clear hA hm h8 hr hO hC hP hAo hAc hAp ho hc hx hdd hver
 generalize okClimb (at_ : Int) (n : Int) q = ok at *
 go_enter Tryz.func39, Tryz.ntmps39
 go_wp2_with (
  (refine wpList_load_blk rfl 29 (.tmp 4) rfl w.heap.size rfl 29 (arrK .u8 root) (.array 32 5) (blk_two w (arrK .u8 root) #[.int .i64 at_, .slice Ao 64 co, .slice Ac 64 cc, .slice Ap q cp] 29 32).1 (by kernel_rfl) rfl (info32 Hrt.out.1) ?_))
 generalize hge : World.alloc _ _ = w1
 have HRt := Lib.hid (show Blk w1 w.heap.size 29 (arrK .u8 root) by subst hge; exact (blk_two w (arrK .u8 root) #[.int .i64 at_, .slice Ao 64 co, .slice Ac 64 cc, .slice Ap q cp] 29 32).1)
 have HS := Lib.hid (show Blk w1 (w.heap.size + 1) 32 #[.int .i64 at_, .slice Ao 64 co, .slice Ac 64 cc, .slice Ap q cp] by subst hge; exact (blk_two w (arrK .u8 root) #[.int .i64 at_, .slice Ao 64 co, .slice Ac 64 cc, .slice Ap q cp] 29 32).2)
 have HB := Lib.hid (al2 hge)
 have oB : w.heap.size < w1.heap.size := HRt.out.lt
 have oS : w.heap.size + 1 < w1.heap.size := HS.out.lt
 clear hge
 refine (HSg.out w1 (HA.out.below HB.out)).mono ?_
 rintro e w2 ⟨rfl, hb2⟩
 have HRt2 := Lib.hid (HRt.out.below hb2)
 have HS2 := Lib.hid (HS.out.below hb2)
 have HB2 := Lib.hid (below_of HB.out hb2 HB.out.size)
 have hz2 : w1.heap.size ≤ w2.heap.size := hb2.size
 clear hb2
 go_upto_region 5 with (
  (refine wpList_put_blk rfl 97 (.tmp 9) (.tmp 51) rfl w2.heap.size (arrB x) rfl rfl 97 (arrB z64) (Blk.new w2 97 (arrB z64)) (infoB Hlx.out) (by rw [arrB_size, arrB_size, Hlx.out]; rfl) (arrB_all _) ?_
   intro w5 HX5 hg5 hz5
   have hb5 : Below w2.heap.size w2 w5 := below_grown ((Below.refl w2.heap.size w2).alloc (Nat.le_refl _) (.cells (arrB z64) 97)) hg5 (by simp) (by simp)
   have HX5 := Lib.hid HX5
   have HRt5 := Lib.hid (HRt2.out.below hb5)
   have HS5 := Lib.hid (HS2.out.below hb5)
   have HB5 := Lib.hid (below_of HB2.out hb5 HB2.out.size)
   have hz5' : w1.heap.size ≤ w5.heap.size := Nat.le_trans hz2 hb5.size
   clear hg5 hz5 hb5))
 obtain ⟨X, hXe⟩ : ∃ X, w2.heap.size = X := ⟨_, rfl⟩
 rw [hXe] at HX5 hz2 ⊢
 have loX : w1.heap.size ≤ X := hz2
 clear hXe hz2
 have HV := Lib.hid (fun (W : World) (j : Nat) (b : Bool) (hW : Below w.heap.size w W) (hX : Blk W X 97 (arrB x)) (hS : Blk W (w.heap.size + 1) 32 #[.int .i64 at_, .slice Ao 64 co, .slice Ac 64 cc, .slice Ap q cp]) (hj : j < 64) => verH_any X (w.heap.size + 1) x o cl Ao Ac co cc (.int .i64 at_) (.slice Ap q cp) j b W hX hS Hlx.out Hlo.out Hlc.out HO.out HCL.out (HAo.out.below hW) (HAc.out.below hW) hj)
 cases ok with
 | false =>
   rw [errArg_false] at HCc
   have Hver := Lib.hid (show false = (false && decide (dd = root)) from rfl)
   refine wp_region_held_drew (S := fun W => Below w.heap.size w W ∧ Blk W (w.heap.size + 1) 32 #[.int .i64 at_, .slice Ao 64 co, .slice Ac 64 cc, .slice Ap q cp]) (by kernel_rfl) (⟨below_drewN HB5.out 1, HS5.out⟩) (fun Hd => ?_)
   have Hd : Below w.heap.size w w5.drew := below_drewN HB5.out 1
   have Zd : w1.heap.size ≤ w5.drew.heap.size := hz5'
   have fB : Blk w5.drew w.heap.size 29 (arrK .u8 root) := HRt5.out
   have fS : Blk w5.drew (w.heap.size + 1) 32 #[.int .i64 at_, .slice Ao 64 co, .slice Ac 64 cc, .slice Ap q cp] := HS5.out
   have fX : Blk w5.drew X 97 (arrB x) := HX5.out
   generalize World.drew w5 = wd at *
   refine tq 0 rfl ⟨Hd, fS⟩ ?_
   refine tq 2 rfl ⟨Hd, fS⟩ ?_
   try simp only [la, Act.put]
   refine ts 3 rfl ⟨Hd, fS⟩ (fun w hSw => by
    have q0 := Blk.cellv hSw.2 (i := 0) rfl
    go_simp
    try with_reducible rfl) ?_
   refine tq 4 rfl ⟨Hd, fS⟩ ?_
   try simp only [la, Act.put]
   refine tq 5 rfl ⟨Hd, fS⟩ ?_
   refine ts 6 rfl ⟨Hd, fS⟩ (fun w hSw => by
    have q3 := Blk.cellv hSw.2 (i := 3) rfl
    go_simp
    try with_reducible rfl) ?_
   try simp only [la, Act.put]
   refine tz 1 11 rfl rfl (fun K hK => ?_) (fun K hK => ?_)
   · go_simp
     refine (public_of 76 #[] #[.pointer (some ⟨X, 0, none⟩), .pointer (some ⟨w.heap.size + 1, 0, none⟩)] (verF x o cl) _ (enters_of Tryz.func76 (by kernel_rfl) rfl) (fun W j b hW hj => HV.out W j b (below_of Hd hW Hd.size) (fX.below hW) (fS.below hW) hj) (fun j b _ => verF_isD x HCL.out j b)).mono ?_
     rintro e w1_ ⟨rfl, hb1⟩
     have fB1 := fB.below hb1
     have fS1 := fS.below hb1
     have fX1 := fX.below hb1
     have Hb1 := below_of Hd hb1 Hd.size
     have Zb1 := Nat.le_trans Zd hb1.size
     go_wp2_with (fail)
     refine hK.out _ _ ⟨Hb1, fS1⟩ fun _ => ?_
     clear hK K
     try simp only [la, Act.put]
     refine tz 7 11 rfl rfl (fun K hK => ?_) (fun K hK => ?_)
     · go_simp
       refine (HCc.out _ (HAp.out.below Hb1)).mono ?_
       rintro e w2_ ⟨rfl, hb2⟩
       have fB2 := fB1.below hb2
       have fS2 := fS1.below hb2
       have fX2 := fX1.below hb2
       have Hb2 := below_of Hb1 hb2 Hb1.size
       have Zb2 := Nat.le_trans Zb1 hb2.size
       go_wp2_with (fail)
       refine hK.out _ _ ⟨Hb2, fS2⟩ fun _ => ?_
       clear hK K
       try simp only [la, Act.put]
       refine tq 8 rfl ⟨Hb2, fS2⟩ ?_
       refine tq 9 rfl ⟨Hb2, fS2⟩ ?_
       try simp only [la, Act.put]
       refine tq 10 rfl ⟨Hb2, fS2⟩ ?_
       try simp only [la, Act.put]
       refine ty 11 rfl (fun K hK => ?_)
       go_simp
       generalize hge : World.alloc _ _ = w3_
       have fD3 : Blk w3_ w2_.heap.size 29 (arrK .u8 z32) := by subst hge; exact Blk.new _ _ _
       have hb3 := al1 hge
       clear hge
       have fB3 := fB2.below hb3
       have fS3 := fS2.below hb3
       have fX3 := fX2.below hb3
       have ltXD3 := fX2.lt
       have loD3 : w1.heap.size ≤ w2_.heap.size := Zb2
       have Hb3 := below_of Hb2 hb3 Hb2.size
       have Zb3 := Nat.le_trans Zb2 hb3.size
       refine hK.out _ _ ⟨Hb3, fS3⟩ fun _ => ?_
       clear hK K
       try simp only [la, Act.put]
       refine ty 12 rfl (fun K hK => ?_)
       refine step_put_blk (by rfl) _ _ _ (by rfl) (w2_.heap.size) (arrK .u8 (dd)) (by rfl) (by rfl) _ _ fD3 (info32 Ddd.out.1) (by rw [len32 Ddd.out.1, len32 z32_length]) (arrK_all _ _) ?_
       intro w4_ fD4 hg4 hz4
       have neB4 := fB3.lt
       have fB4 := fB3.gx hg4
       have neS4 := fS3.lt
       have fS4 := fS3.gx hg4
       have neX4 := fX3.lt
       have fX4 := fX3.gx hg4
       have Hb4 := bgx Hb3 hg4 Hb3.size
       have Zb4 := Nat.le_trans Zb3 hg4.size
       refine hK.out _ _ ⟨Hb4, fS4⟩ fun _ => ?_
       clear hK K
       refine tq 13 rfl ⟨Hb4, fS4⟩ ?_
       try simp only [la, Act.put]
       refine td ?_ _
       go_wp2_with (fail)
       go_ret
       exact ⟨ret_bool Hver.out, Hb4⟩
     · go_simp
       generalize hge : World.alloc _ _ = w2_
       have fD2 : Blk w2_ w1_.heap.size 29 (arrK .u8 z32) := by subst hge; exact Blk.new _ _ _
       have hb2 := al1 hge
       clear hge
       have fB2 := fB1.below hb2
       have fS2 := fS1.below hb2
       have fX2 := fX1.below hb2
       have ltXD2 := fX1.lt
       have loD2 : w1.heap.size ≤ w1_.heap.size := Zb1
       have Hb2 := below_of Hb1 hb2 Hb1.size
       have Zb2 := Nat.le_trans Zb1 hb2.size
       refine hK.out _ _ ⟨Hb2, fS2⟩ fun _ => ?_
       clear hK K
       try simp only [la, Act.put]
       refine ty 7 rfl (fun K hK => ?_)
       go_simp
       refine (HCc.out _ (HAp.out.below Hb2)).mono ?_
       rintro e w3_ ⟨rfl, hb3⟩
       have fB3 := fB2.below hb3
       have fS3 := fS2.below hb3
       have fX3 := fX2.below hb3
       have fD3 := fD2.below hb3
       have Hb3 := below_of Hb2 hb3 Hb2.size
       have Zb3 := Nat.le_trans Zb2 hb3.size
       go_wp2_with (fail)
       refine hK.out _ _ ⟨Hb3, fS3⟩ fun _ => ?_
       clear hK K
       try simp only [la, Act.put]
       refine tq 8 rfl ⟨Hb3, fS3⟩ ?_
       refine tq 9 rfl ⟨Hb3, fS3⟩ ?_
       try simp only [la, Act.put]
       refine tq 10 rfl ⟨Hb3, fS3⟩ ?_
       try simp only [la, Act.put]
       refine ty 12 rfl (fun K hK => ?_)
       refine step_put_blk (by rfl) _ _ _ (by rfl) (w1_.heap.size) (arrK .u8 (dd)) (by rfl) (by rfl) _ _ fD3 (info32 Ddd.out.1) (by rw [len32 Ddd.out.1, len32 z32_length]) (arrK_all _ _) ?_
       intro w4_ fD4 hg4 hz4
       have neB4 := fB3.lt
       have fB4 := fB3.gx hg4
       have neS4 := fS3.lt
       have fS4 := fS3.gx hg4
       have neX4 := fX3.lt
       have fX4 := fX3.gx hg4
       have Hb4 := bgx Hb3 hg4 Hb3.size
       have Zb4 := Nat.le_trans Zb3 hg4.size
       refine hK.out _ _ ⟨Hb4, fS4⟩ fun _ => ?_
       clear hK K
       try simp only [la, Act.put]
       refine tq 13 rfl ⟨Hb4, fS4⟩ ?_
       try simp only [la, Act.put]
       refine td ?_ _
       go_wp2_with (fail)
       go_ret
       exact ⟨ret_bool Hver.out, Hb4⟩
   · go_simp
     generalize hge : World.alloc _ _ = w1_
     have fD1 : Blk w1_ wd.heap.size 29 (arrK .u8 z32) := by subst hge; exact Blk.new _ _ _
     have hb1 := al1 hge
     clear hge
     have fB1 := fB.below hb1
     have fS1 := fS.below hb1
     have fX1 := fX.below hb1
     have ltXD1 := fX.lt
     have loD1 : w1.heap.size ≤ wd.heap.size := Zd
     have Hb1 := below_of Hd hb1 Hd.size
     have Zb1 := Nat.le_trans Zd hb1.size
     refine hK.out _ _ ⟨Hb1, fS1⟩ fun _ => ?_
     clear hK K
     try simp only [la, Act.put]
     refine ty 1 rfl (fun K hK => ?_)
     go_simp
     refine (public_of 76 #[] #[.pointer (some ⟨X, 0, none⟩), .pointer (some ⟨w.heap.size + 1, 0, none⟩)] (verF x o cl) _ (enters_of Tryz.func76 (by kernel_rfl) rfl) (fun W j b hW hj => HV.out W j b (below_of Hb1 hW Hb1.size) (fX1.below hW) (fS1.below hW) hj) (fun j b _ => verF_isD x HCL.out j b)).mono ?_
     rintro e w2_ ⟨rfl, hb2⟩
     have fB2 := fB1.below hb2
     have fS2 := fS1.below hb2
     have fX2 := fX1.below hb2
     have fD2 := fD1.below hb2
     have Hb2 := below_of Hb1 hb2 Hb1.size
     have Zb2 := Nat.le_trans Zb1 hb2.size
     go_wp2_with (fail)
     refine hK.out _ _ ⟨Hb2, fS2⟩ fun _ => ?_
     clear hK K
     try simp only [la, Act.put]
     refine ty 7 rfl (fun K hK => ?_)
     go_simp
     refine (HCc.out _ (HAp.out.below Hb2)).mono ?_
     rintro e w3_ ⟨rfl, hb3⟩
     have fB3 := fB2.below hb3
     have fS3 := fS2.below hb3
     have fX3 := fX2.below hb3
     have fD3 := fD2.below hb3
     have Hb3 := below_of Hb2 hb3 Hb2.size
     have Zb3 := Nat.le_trans Zb2 hb3.size
     go_wp2_with (fail)
     refine hK.out _ _ ⟨Hb3, fS3⟩ fun _ => ?_
     clear hK K
     try simp only [la, Act.put]
     refine tq 8 rfl ⟨Hb3, fS3⟩ ?_
     refine tq 9 rfl ⟨Hb3, fS3⟩ ?_
     try simp only [la, Act.put]
     refine tq 10 rfl ⟨Hb3, fS3⟩ ?_
     try simp only [la, Act.put]
     refine ty 12 rfl (fun K hK => ?_)
     refine step_put_blk (by rfl) _ _ _ (by rfl) (wd.heap.size) (arrK .u8 (dd)) (by rfl) (by rfl) _ _ fD3 (info32 Ddd.out.1) (by rw [len32 Ddd.out.1, len32 z32_length]) (arrK_all _ _) ?_
     intro w4_ fD4 hg4 hz4
     have neB4 := fB3.lt
     have fB4 := fB3.gx hg4
     have neS4 := fS3.lt
     have fS4 := fS3.gx hg4
     have neX4 := fX3.lt
     have fX4 := fX3.gx hg4
     have Hb4 := bgx Hb3 hg4 Hb3.size
     have Zb4 := Nat.le_trans Zb3 hg4.size
     refine hK.out _ _ ⟨Hb4, fS4⟩ fun _ => ?_
     clear hK K
     try simp only [la, Act.put]
     refine tq 13 rfl ⟨Hb4, fS4⟩ ?_
     try simp only [la, Act.put]
     refine td ?_ _
     go_wp2_with (fail)
     go_ret
     exact ⟨ret_bool Hver.out, Hb4⟩
 | true =>
   rw [errArg_true] at HCc
   obtain ⟨r, hr⟩ : ∃ r, decide (dd = root) = r := ⟨_, rfl⟩
   have Hver := Lib.hid (show r = (true && decide (dd = root)) by rw [hr]; rfl)
   have hEq : ∀ W, (Op.equalIn 10000 29 (.agg (arrK .u8 dd)) (.agg (arrK .u8 root))).run Tryz.prog W = .ok r W := fun W => by
    have := run_eqD Ddd.out Hrt.out W
    rwa [hr] at this
   clear hr
   refine wp_region_held_drew (S := fun W => Below w.heap.size w W ∧ Blk W (w.heap.size + 1) 32 #[.int .i64 at_, .slice Ao 64 co, .slice Ac 64 cc, .slice Ap q cp]) (by kernel_rfl) (⟨below_drewN HB5.out 1, HS5.out⟩) (fun Hd => ?_)
   have Hd : Below w.heap.size w w5.drew := below_drewN HB5.out 1
   have Zd : w1.heap.size ≤ w5.drew.heap.size := hz5'
   have fB : Blk w5.drew w.heap.size 29 (arrK .u8 root) := HRt5.out
   have fS : Blk w5.drew (w.heap.size + 1) 32 #[.int .i64 at_, .slice Ao 64 co, .slice Ac 64 cc, .slice Ap q cp] := HS5.out
   have fX : Blk w5.drew X 97 (arrB x) := HX5.out
   generalize World.drew w5 = wd at *
   refine tq 0 rfl ⟨Hd, fS⟩ ?_
   try simp only [la, Act.put]
   refine tq 2 rfl ⟨Hd, fS⟩ ?_
   refine ts 3 rfl ⟨Hd, fS⟩ (fun w hSw => by
    have q0 := Blk.cellv hSw.2 (i := 0) rfl
    go_simp
    try with_reducible rfl) ?_
   try simp only [la, Act.put]
   refine tq 4 rfl ⟨Hd, fS⟩ ?_
   refine tq 5 rfl ⟨Hd, fS⟩ ?_
   try simp only [la, Act.put]
   refine ts 6 rfl ⟨Hd, fS⟩ (fun w hSw => by
    have q3 := Blk.cellv hSw.2 (i := 3) rfl
    go_simp
    try with_reducible rfl) ?_
   try simp only [la, Act.put]
   refine tz 1 11 rfl rfl (fun K hK => ?_) (fun K hK => ?_)
   · go_simp
     refine (public_of 76 #[] #[.pointer (some ⟨X, 0, none⟩), .pointer (some ⟨w.heap.size + 1, 0, none⟩)] (verF x o cl) _ (enters_of Tryz.func76 (by kernel_rfl) rfl) (fun W j b hW hj => HV.out W j b (below_of Hd hW Hd.size) (fX.below hW) (fS.below hW) hj) (fun j b _ => verF_isD x HCL.out j b)).mono ?_
     rintro e w1_ ⟨rfl, hb1⟩
     have fB1 := fB.below hb1
     have fS1 := fS.below hb1
     have fX1 := fX.below hb1
     have Hb1 := below_of Hd hb1 Hd.size
     have Zb1 := Nat.le_trans Zd hb1.size
     go_wp2_with (fail)
     refine hK.out _ _ ⟨Hb1, fS1⟩ fun _ => ?_
     clear hK K
     try simp only [la, Act.put]
     refine tz 7 11 rfl rfl (fun K hK => ?_) (fun K hK => ?_)
     · go_simp
       refine (HCc.out _ (HAp.out.below Hb1)).mono ?_
       rintro e w2_ ⟨rfl, hb2⟩
       have fB2 := fB1.below hb2
       have fS2 := fS1.below hb2
       have fX2 := fX1.below hb2
       have Hb2 := below_of Hb1 hb2 Hb1.size
       have Zb2 := Nat.le_trans Zb1 hb2.size
       go_wp2_with (fail)
       refine hK.out _ _ ⟨Hb2, fS2⟩ fun _ => ?_
       clear hK K
       refine tq 8 rfl ⟨Hb2, fS2⟩ ?_
       try simp only [la, Act.put]
       refine tq 9 rfl ⟨Hb2, fS2⟩ ?_
       refine tq 10 rfl ⟨Hb2, fS2⟩ ?_
       try simp only [la, Act.put]
       refine ty 11 rfl (fun K hK => ?_)
       go_simp
       generalize hge : World.alloc _ _ = w3_
       have fD3 : Blk w3_ w2_.heap.size 29 (arrK .u8 z32) := by subst hge; exact Blk.new _ _ _
       have hb3 := al1 hge
       clear hge
       have fB3 := fB2.below hb3
       have fS3 := fS2.below hb3
       have fX3 := fX2.below hb3
       have ltXD3 := fX2.lt
       have loD3 : w1.heap.size ≤ w2_.heap.size := Zb2
       have Hb3 := below_of Hb2 hb3 Hb2.size
       have Zb3 := Nat.le_trans Zb2 hb3.size
       refine hK.out _ _ ⟨Hb3, fS3⟩ fun _ => ?_
       clear hK K
       try simp only [la, Act.put]
       refine ty 12 rfl (fun K hK => ?_)
       refine step_put_blk (by rfl) _ _ _ (by rfl) (w2_.heap.size) (arrK .u8 (dd)) (by rfl) (by rfl) _ _ fD3 (info32 Ddd.out.1) (by rw [len32 Ddd.out.1, len32 z32_length]) (arrK_all _ _) ?_
       intro w4_ fD4 hg4 hz4
       have neB4 := fB3.lt
       have fB4 := fB3.gx hg4
       have neS4 := fS3.lt
       have fS4 := fS3.gx hg4
       have neX4 := fX3.lt
       have fX4 := fX3.gx hg4
       have Hb4 := bgx Hb3 hg4 Hb3.size
       have Zb4 := Nat.le_trans Zb3 hg4.size
       refine hK.out _ _ ⟨Hb4, fS4⟩ fun _ => ?_
       clear hK K
       try simp only [la, Act.put]
       refine tq 13 rfl ⟨Hb4, fS4⟩ ?_
       try simp only [la, Act.put]
       refine td ?_ _
       have HDf := Lib.hid fD4
       have HBf := Lib.hid fB4
       have HWf := Lib.hid Hb4
       go_wp2_with (first
        | (refine wpList_load_blk_g 29 (.tmp 11) (by rfl) (by kernel_rfl) (w2_.heap.size) rfl 29 (arrK .u8 dd) (.array 32 5) HDf.out (by kernel_rfl) rfl (info32 Ddd.out.1) ?_)
        | (refine wpList_load_blk_g 29 (.tmp 4) (by rfl) (by kernel_rfl) w.heap.size rfl 29 (arrK .u8 root) (.array 32 5) HBf.out (by kernel_rfl) rfl (info32 Hrt.out.1) ?_))
       go_ret
       exact ⟨ret_bool Hver.out, HWf.out⟩
     · go_simp
       generalize hge : World.alloc _ _ = w2_
       have fD2 : Blk w2_ w1_.heap.size 29 (arrK .u8 z32) := by subst hge; exact Blk.new _ _ _
       have hb2 := al1 hge
       clear hge
       have fB2 := fB1.below hb2
       have fS2 := fS1.below hb2
       have fX2 := fX1.below hb2
       have ltXD2 := fX1.lt
       have loD2 : w1.heap.size ≤ w1_.heap.size := Zb1
       have Hb2 := below_of Hb1 hb2 Hb1.size
       have Zb2 := Nat.le_trans Zb1 hb2.size
       refine hK.out _ _ ⟨Hb2, fS2⟩ fun _ => ?_
       clear hK K
       try simp only [la, Act.put]
       refine ty 7 rfl (fun K hK => ?_)
       go_simp
       refine (HCc.out _ (HAp.out.below Hb2)).mono ?_
       rintro e w3_ ⟨rfl, hb3⟩
       have fB3 := fB2.below hb3
       have fS3 := fS2.below hb3
       have fX3 := fX2.below hb3
       have fD3 := fD2.below hb3
       have Hb3 := below_of Hb2 hb3 Hb2.size
       have Zb3 := Nat.le_trans Zb2 hb3.size
       go_wp2_with (fail)
       refine hK.out _ _ ⟨Hb3, fS3⟩ fun _ => ?_
       clear hK K
       refine tq 8 rfl ⟨Hb3, fS3⟩ ?_
       try simp only [la, Act.put]
       refine tq 9 rfl ⟨Hb3, fS3⟩ ?_
       refine tq 10 rfl ⟨Hb3, fS3⟩ ?_
       try simp only [la, Act.put]
       refine ty 12 rfl (fun K hK => ?_)
       refine step_put_blk (by rfl) _ _ _ (by rfl) (w1_.heap.size) (arrK .u8 (dd)) (by rfl) (by rfl) _ _ fD3 (info32 Ddd.out.1) (by rw [len32 Ddd.out.1, len32 z32_length]) (arrK_all _ _) ?_
       intro w4_ fD4 hg4 hz4
       have neB4 := fB3.lt
       have fB4 := fB3.gx hg4
       have neS4 := fS3.lt
       have fS4 := fS3.gx hg4
       have neX4 := fX3.lt
       have fX4 := fX3.gx hg4
       have Hb4 := bgx Hb3 hg4 Hb3.size
       have Zb4 := Nat.le_trans Zb3 hg4.size
       refine hK.out _ _ ⟨Hb4, fS4⟩ fun _ => ?_
       clear hK K
       refine tq 13 rfl ⟨Hb4, fS4⟩ ?_
       try simp only [la, Act.put]
       refine td ?_ _
       have HDf := Lib.hid fD4
       have HBf := Lib.hid fB4
       have HWf := Lib.hid Hb4
       go_wp2_with (first
        | (refine wpList_load_blk_g 29 (.tmp 11) (by rfl) (by kernel_rfl) (w1_.heap.size) rfl 29 (arrK .u8 dd) (.array 32 5) HDf.out (by kernel_rfl) rfl (info32 Ddd.out.1) ?_)
        | (refine wpList_load_blk_g 29 (.tmp 4) (by rfl) (by kernel_rfl) w.heap.size rfl 29 (arrK .u8 root) (.array 32 5) HBf.out (by kernel_rfl) rfl (info32 Hrt.out.1) ?_))
       go_ret
       exact ⟨ret_bool Hver.out, HWf.out⟩
   · go_simp
     generalize hge : World.alloc _ _ = w1_
     have fD1 : Blk w1_ wd.heap.size 29 (arrK .u8 z32) := by subst hge; exact Blk.new _ _ _
     have hb1 := al1 hge
     clear hge
     have fB1 := fB.below hb1
     have fS1 := fS.below hb1
     have fX1 := fX.below hb1
     have ltXD1 := fX.lt
     have loD1 : w1.heap.size ≤ wd.heap.size := Zd
     have Hb1 := below_of Hd hb1 Hd.size
     have Zb1 := Nat.le_trans Zd hb1.size
     refine hK.out _ _ ⟨Hb1, fS1⟩ fun _ => ?_
     clear hK K
     try simp only [la, Act.put]
     refine ty 1 rfl (fun K hK => ?_)
     go_simp
     refine (public_of 76 #[] #[.pointer (some ⟨X, 0, none⟩), .pointer (some ⟨w.heap.size + 1, 0, none⟩)] (verF x o cl) _ (enters_of Tryz.func76 (by kernel_rfl) rfl) (fun W j b hW hj => HV.out W j b (below_of Hb1 hW Hb1.size) (fX1.below hW) (fS1.below hW) hj) (fun j b _ => verF_isD x HCL.out j b)).mono ?_
     rintro e w2_ ⟨rfl, hb2⟩
     have fB2 := fB1.below hb2
     have fS2 := fS1.below hb2
     have fX2 := fX1.below hb2
     have fD2 := fD1.below hb2
     have Hb2 := below_of Hb1 hb2 Hb1.size
     have Zb2 := Nat.le_trans Zb1 hb2.size
     go_wp2_with (fail)
     refine hK.out _ _ ⟨Hb2, fS2⟩ fun _ => ?_
     clear hK K
     try simp only [la, Act.put]
     refine ty 7 rfl (fun K hK => ?_)
     go_simp
     refine (HCc.out _ (HAp.out.below Hb2)).mono ?_
     rintro e w3_ ⟨rfl, hb3⟩
     have fB3 := fB2.below hb3
     have fS3 := fS2.below hb3
     have fX3 := fX2.below hb3
     have fD3 := fD2.below hb3
     have Hb3 := below_of Hb2 hb3 Hb2.size
     have Zb3 := Nat.le_trans Zb2 hb3.size
     go_wp2_with (fail)
     refine hK.out _ _ ⟨Hb3, fS3⟩ fun _ => ?_
     clear hK K
     refine tq 8 rfl ⟨Hb3, fS3⟩ ?_
     try simp only [la, Act.put]
     refine tq 9 rfl ⟨Hb3, fS3⟩ ?_
     refine tq 10 rfl ⟨Hb3, fS3⟩ ?_
     try simp only [la, Act.put]
     refine ty 12 rfl (fun K hK => ?_)
     refine step_put_blk (by rfl) _ _ _ (by rfl) (wd.heap.size) (arrK .u8 (dd)) (by rfl) (by rfl) _ _ fD3 (info32 Ddd.out.1) (by rw [len32 Ddd.out.1, len32 z32_length]) (arrK_all _ _) ?_
     intro w4_ fD4 hg4 hz4
     have neB4 := fB3.lt
     have fB4 := fB3.gx hg4
     have neS4 := fS3.lt
     have fS4 := fS3.gx hg4
     have neX4 := fX3.lt
     have fX4 := fX3.gx hg4
     have Hb4 := bgx Hb3 hg4 Hb3.size
     have Zb4 := Nat.le_trans Zb3 hg4.size
     refine hK.out _ _ ⟨Hb4, fS4⟩ fun _ => ?_
     clear hK K
     refine tq 13 rfl ⟨Hb4, fS4⟩ ?_
     try simp only [la, Act.put]
     refine td ?_ _
     have HDf := Lib.hid fD4
     have HBf := Lib.hid fB4
     have HWf := Lib.hid Hb4
     go_wp2_with (first
      | (refine wpList_load_blk_g 29 (.tmp 11) (by rfl) (by kernel_rfl) (wd.heap.size) rfl 29 (arrK .u8 dd) (.array 32 5) HDf.out (by kernel_rfl) rfl (info32 Ddd.out.1) ?_)
      | (refine wpList_load_blk_g 29 (.tmp 4) (by rfl) (by kernel_rfl) w.heap.size rfl 29 (arrK .u8 root) (.array 32 5) HBf.out (by kernel_rfl) rfl (info32 Hrt.out.1) ?_))
     go_ret
     exact ⟨ret_bool Hver.out, HWf.out⟩
end Go.Proofs.YtkflpoiobpblhaaGreat
