/- Walks and plain laws that the statement rests on: Sig5, Sig6. -/
import Derived.Deep.DeepCutAuto
import Derived.Test.YtkflpoiobpblhaaP00
import Derived.Test.YtkflpoiobpblhaaP26
namespace Go.Proofs.Ytkflpoiobpblhaa
open Go.RowKit
def arrB (l : List Bool) : Array Value := (l.map Value.bool).toArray
theorem arrB_size (l : List Bool) : (arrB l).size = l.length := by simp [arrB]
theorem arrB_all (l : List Bool) : (arrB l).all (·.oneCell') = true := by
  rw [Array.all_eq_true]
  intro i hi
  simp [arrB, Value.oneCell']
theorem arrB_get {l : List Bool} {j : Nat} (h : j < l.length) : (arrB l)[j]? = some (.bool (l.getD j false)) := by simp [arrB, h]
def bitA (d : List Nat) (k : Nat) : List Bool := bitL d k ++ List.replicate (64 - k) false
theorem bitA_length (d : List Nat) {k : Nat} (h : k ≤ 64) : (bitA d k).length = 64 := by unfold bitA; rw [List.length_append, bitL_length, List.length_replicate]; omega
theorem bitA_zero (d : List Nat) : bitA d 0 = List.replicate 64 false := by unfold bitA; rw [bitL_zero]; rfl
theorem bitA_all (d : List Nat) : bitA d 64 = bitL d 64 := by unfold bitA; simp
theorem bitA_set (d : List Nat) {k : Nat} (h : k < 64) : (arrB (bitA d k)).setIfInBounds k (.bool (bitS d k)) = arrB (bitA d (k + 1)) := by
  apply Array.toList_inj.1
  unfold arrB bitA
  rw [bitL_succ, show 64 - k = (64 - (k + 1)) + 1 by omega, List.replicate_succ]
  simp [bitL_length]
theorem bit_walk {d : List Nat} (h8 : ByteL d) (j x : Nat) (hx : d.getD (j / 8) 0 = x) : (bits BinOp.and IntKind.u8 ((x : Int) / 2 ^ (7 - j % 8)) 1 == 1) = bitS d j := by
  have h : ∀ x : Fin 256, ∀ e : Fin 8, (bits BinOp.and IntKind.u8 ((x.1 : Int) / 2 ^ e.1) 1 == 1) = (x.1 / 2 ^ e.1 % 2 == 1) := by decide +kernel
  have := h ⟨x, by rw [← hx]; exact h8 _⟩ ⟨7 - j % 8, by omega⟩
  rw [bitS_eq, hx]
  exact this
theorem infoB {l : List Bool} (h : l.length = 64) : (Try.prog.info? 100).map (·.size) = some (arrB l).size := by rw [arrB_size, h]; kernel_rfl
def z64 : List Bool := List.replicate 64 false
set_option linter.unusedSimpArgs false in
set_option maxRecDepth 100000 in
set_option maxHeartbeats 4000000 in
theorem signed_any (root : List Nat) (i : Nat) (msg : List Nat) (A : Option Addr) (n c : Nat) (w : World) (hr : IsD root) (hi : i < 65536) (hA : Cells w A (bytesV msg)) (hm : msg.length = n) (hn : n ≤ 70000) (h8 : ByteL msg) :
    Calls Try.prog 48 #[.agg (arrK .u8 root), .int .i64 i, .slice A n c] w fun e w' => e = .returned (.agg (arrB (bitL (msgS root i msg) 64))) ∧ Below w.heap.size w w' := by
  have HA := Lib.hid hA
  have Hr := Lib.hid hr
  have Hm := Lib.hid hm
  have Hm8 := Lib.hid h8
  have lt := Lib.hid (msgS_isD root i msg).1
  have l8 := Lib.hid (msgS_isD root i msg).2
  obtain ⟨d, hd⟩ : ∃ d, msgS root i msg = d := ⟨_, rfl⟩
  rw [hd] at lt l8 ⊢
  have Hdd := Lib.hid hd
  clear hA hr hm h8 hd
  go_enter Try.func48, Try.ntmps48
  go_wp2_with (fail)
  generalize hge : World.alloc _ _ = w1
  have H1 := Lib.hid (show Blk w1 w.heap.size 28 (arrK .u8 root) by subst hge; exact (blk_two w (arrK .u8 root) (arrB z64) 28 100).1)
  have HR := Lib.hid (show Blk w1 (w.heap.size + 1) 100 (arrB z64) by subst hge; exact (blk_two w (arrK .u8 root) (arrB z64) 28 100).2)
  have HB := Lib.hid (show Below w.heap.size w w1 by subst hge; exact ((Below.refl _ _).alloc (Nat.le_refl _) _).alloc (by simp) _)
  have oB : w.heap.size < w1.heap.size := H1.out.lt
  have oR : w.heap.size + 1 < w1.heap.size := HR.out.lt
  clear hge
  go_upto_region 1 with (fail)
  go_cut [7] (fun s7 wx => ∃ D : Nat, s7 = .pointer (some ⟨D, 0, none⟩) ∧ Blk wx D 28 (arrK .u8 d) ∧ Blk wx (w.heap.size + 1) 100 (arrB z64) ∧ w1.heap.size ≤ D ∧ Below w.heap.size w wx)
  case first =>
    refine wp_region_held_drew (S := fun W => Below w.heap.size w W) (by kernel_rfl) (below_drewN HB.out 1) (fun Hd => ?_)
    have Hd : Below w.heap.size w w1.drew := below_drewN HB.out 1
    have Zd : w1.heap.size ≤ w1.drew.heap.size := Nat.le_refl _
    have fB : Blk w1.drew w.heap.size 28 (arrK .u8 root) := H1.out
    have fR : Blk w1.drew (w.heap.size + 1) 100 (arrB z64) := HR.out
    generalize World.drew w1 = wd at *
    refine wpAnyH_take (i := 0) (v := ?_) rfl (by kernel_rfl) (by kernel_rfl) (by kernel_rfl) (fun _ _ _ h => h) (Or.inl ⟨by rfl, ?_⟩) Hd ?_
    rotate_left
    · intro w hSw
      go_simp
      try with_reducible rfl
    try simp only [la0, la1, la2, Act.put, la3, la4, la5]
    refine wpAnyH_take (i := 1) (v := ?_) rfl (by kernel_rfl) (by kernel_rfl) (by kernel_rfl) (fun _ _ _ h => h) (Or.inl ⟨by rfl, ?_⟩) Hd ?_
    rotate_left
    · intro w hSw
      go_simp
      try with_reducible rfl
    try simp only [la0, la1, la2, Act.put, la3, la4, la5]
    refine wpAnyH_take (i := 3) (v := ?_) rfl (by kernel_rfl) (by kernel_rfl) (by kernel_rfl) (fun _ _ _ h => h) (Or.inl ⟨by rfl, ?_⟩) Hd ?_
    rotate_left
    · intro w hSw
      go_simp
      try with_reducible rfl
    try simp only [la0, la1, la2, Act.put, la3, la4, la5]
    refine wpAnyH_ready (rs := [2, 7]) (by kernel_rfl) (by simp) (AllReadyH.cons rfl (fun K hK => ?_) (AllReadyH.cons rfl (fun K hK => ?_) AllReadyH.nil))
    · go_simp
      refine (two_any i _ (by omega)).mono ?_
      rintro e w1_ ⟨rfl, ft1, hb1⟩
      have fB1 := fB.below hb1
      have fR1 := fR.below hb1
      have Hb1 : Below w.heap.size w w1_ := below_of Hd hb1 Hd.size
      have Zb1 : w1.heap.size ≤ w1_.heap.size := Nat.le_trans Zd hb1.size
      have lot1 : w1.heap.size ≤ wd.heap.size := Zd
      go_wp2_with (fail)
      refine hK.out _ _ Hb1 fun _ => ?_
      clear hK K
      try simp only [la0, la1, la2, Act.put, la3, la4, la5]
      refine wpAnyH_ready (rs := [4, 7]) (by kernel_rfl) (by simp) (AllReadyH.cons rfl (fun K hK => ?_) (AllReadyH.cons rfl (fun K hK => ?_) AllReadyH.nil))
      · go_simp
        generalize hge : World.alloc _ _ = w2_
        have fr2 : Blk w2_ w1_.heap.size 39 (#[.slice (some ⟨w.heap.size, 0, none⟩) 32 32, .slice (some ⟨wd.heap.size, 0, none⟩) 2 2, .slice A n c]) := by subst hge; exact Blk.new _ _ _
        have hb2 : Below w1_.heap.size w1_ w2_ := by subst hge; exact (Below.refl _ _).alloc (Nat.le_refl _) _
        clear hge
        have fB2 := fB1.below hb2
        have fR2 := fR1.below hb2
        have ft2 := ft1.below hb2
        have lttr2 := ft1.lt
        have lor2 : w1.heap.size ≤ w1_.heap.size := Zb1
        have Hb2 : Below w.heap.size w w2_ := below_of Hb1 hb2 Hb1.size
        have Zb2 : w1.heap.size ≤ w2_.heap.size := Nat.le_trans Zb1 hb2.size
        refine hK.out _ _ Hb2 fun _ => ?_
        clear hK K
        try simp only [la0, la1, la2, Act.put, la3, la4, la5]
        refine wpAnyH_ready (rs := [5, 7]) (by kernel_rfl) (by simp) (AllReadyH.cons rfl (fun K hK => ?_) (AllReadyH.cons rfl (fun K hK => ?_) AllReadyH.nil))
        · go_simp
          refine (concat3 (w1_.heap.size) 32 32 2 2 n c (some ⟨w.heap.size, 0, none⟩) _ A (bytesV root) (bytesV (twoL i)) (bytesV msg) _ (fr2.cellv (i := 0) rfl) (fr2.cellv (i := 1) rfl) (fr2.cellv (i := 2) rfl) (cells_dig fB2) (cells_dig ft2) (HA.out.below Hb2) (by rw [bytesV_length, Hr.out.1]) (by rw [bytesV_length]; rfl) (by rw [bytesV_length, Hm.out]) (bytesV_one _) (bytesV_one _) (bytesV_one _) (by omega) (by omega) (by omega) fr2.lt).mono ?_
          rintro e w3_ ⟨A3, c3, rfl, hown3, hb3⟩
          have fm3 : Cells w3_ A3 (bytesV (root ++ twoL i ++ msg)) := by have := Cells.own hown3; rwa [← bytesV_append, ← bytesV_append] at this
          have fB3 := fB2.below hb3
          have fR3 := fR2.below hb3
          have ft3 := ft2.below hb3
          have fr3 := fr2.below hb3
          have Hb3 : Below w.heap.size w w3_ := below_of Hb2 hb3 Hb2.size
          have Zb3 : w1.heap.size ≤ w3_.heap.size := Nat.le_trans Zb2 hb3.size
          go_wp2_with (fail)
          refine hK.out _ _ Hb3 fun _ => ?_
          clear hK K
          try simp only [la0, la1, la2, Act.put, la3, la4, la5]
          refine wpAnyH_ready (rs := [6, 7]) (by kernel_rfl) (by simp) (AllReadyH.cons rfl (fun K hK => ?_) (AllReadyH.cons rfl (fun K hK => ?_) AllReadyH.nil))
          · go_simp
            refine (tagged_any ⟨#[109, 101, 115, 115, 97, 103, 101]⟩ _ _ _ (root ++ twoL i ++ msg) _ fm3 (by rw [List.length_append, List.length_append, Hr.out.1, twoL_length, Hm.out]) (by omega) ((Hr.out.2.append (twoL_byte i)).append Hm8.out) (by decide)).mono ?_
            rintro e w4_ ⟨he, hb4⟩
            have he : e = .returned (.agg (arrK .u8 d)) := by rw [← Hdd.out, msgS_eq]; exact he
            subst he
            have fB4 := fB3.below hb4
            have fR4 := fR3.below hb4
            have ft4 := ft3.below hb4
            have fr4 := fr3.below hb4
            have fm4 := fm3.below hb4
            have Hb4 : Below w.heap.size w w4_ := below_of Hb3 hb4 Hb3.size
            have Zb4 : w1.heap.size ≤ w4_.heap.size := Nat.le_trans Zb3 hb4.size
            go_wp2_with (fail)
            refine hK.out _ _ Hb4 fun _ => ?_
            clear hK K
            try simp only [la0, la1, la2, Act.put, la3, la4, la5]
            refine wpAnyH_ready (rs := [7]) (by kernel_rfl) (by simp) (AllReadyH.cons rfl (fun K hK => ?_) AllReadyH.nil)
            go_simp
            generalize hge : World.alloc _ _ = w5_
            have fD5 : Blk w5_ w4_.heap.size 28 (arrK .u8 z32) := by subst hge; exact Blk.new _ _ _
            have hb5 : Below w4_.heap.size w4_ w5_ := by subst hge; exact (Below.refl _ _).alloc (Nat.le_refl _) _
            clear hge
            have fB5 := fB4.below hb5
            have fR5 := fR4.below hb5
            have ft5 := ft4.below hb5
            have fr5 := fr4.below hb5
            have fm5 := fm4.below hb5
            have lttD5 := ft4.lt
            have ltrD5 := fr4.lt
            have loD5 : w1.heap.size ≤ w4_.heap.size := Zb4
            have Hb5 : Below w.heap.size w w5_ := below_of Hb4 hb5 Hb4.size
            have Zb5 : w1.heap.size ≤ w5_.heap.size := Nat.le_trans Zb4 hb5.size
            refine hK.out _ _ Hb5 fun _ => ?_
            clear hK K
            try simp only [la0, la1, la2, Act.put, la3, la4, la5]
            refine wpAnyH_ready (rs := [8]) (by kernel_rfl) (by simp) (AllReadyH.cons rfl (fun K hK => ?_) AllReadyH.nil)
            refine step_put_blk (by rfl) _ _ _ (by rfl) (w4_.heap.size) (arrK .u8 (d)) (by rfl) (by rfl) _ _ fD5 (info32 lt.out) (by rw [len32 lt.out, len32 z32_length]) (arrK_all _ _) ?_
            intro w6_ fD6 hg6 hz6
            have neB6 := fB5.lt
            have fB6 := fB5.grown hg6 (by first | (simp; done) | (simp; omega))
            have neR6 := fR5.lt
            have fR6 := fR5.grown hg6 (by first | (simp; done) | (simp; omega))
            have net6 := ft5.lt
            have ft6 := ft5.grown hg6 (by first | (simp; done) | (simp; omega))
            have ner6 := fr5.lt
            have fr6 := fr5.grown hg6 (by first | (simp; done) | (simp; omega))
            have Hb6 : Below w.heap.size w w6_ := below_grown Hb5 hg6 Hb5.size (by first | (simp; done) | (simp; omega))
            have Zb6 : w1.heap.size ≤ w6_.heap.size := Nat.le_trans Zb5 hg6.size
            refine hK.out _ _ Hb6 fun _ => ?_
            clear hK K
            try simp only [la0, la1, la2, Act.put, la3, la4, la5]
            refine wpAnyH_done (by kernel_rfl) ?_ _
            go_wp2_with (fail)
            go_meet
            exact ⟨_, rfl, fD6, fR6, loD5, Hb6⟩
          · go_simp
            generalize hge : World.alloc _ _ = w4_
            have fD4 : Blk w4_ w3_.heap.size 28 (arrK .u8 z32) := by subst hge; exact Blk.new _ _ _
            have hb4 : Below w3_.heap.size w3_ w4_ := by subst hge; exact (Below.refl _ _).alloc (Nat.le_refl _) _
            clear hge
            have fB4 := fB3.below hb4
            have fR4 := fR3.below hb4
            have ft4 := ft3.below hb4
            have fr4 := fr3.below hb4
            have fm4 := fm3.below hb4
            have lttD4 := ft3.lt
            have ltrD4 := fr3.lt
            have loD4 : w1.heap.size ≤ w3_.heap.size := Zb3
            have Hb4 : Below w.heap.size w w4_ := below_of Hb3 hb4 Hb3.size
            have Zb4 : w1.heap.size ≤ w4_.heap.size := Nat.le_trans Zb3 hb4.size
            refine hK.out _ _ Hb4 fun _ => ?_
            clear hK K
            try simp only [la0, la1, la2, Act.put, la3, la4, la5]
            refine wpAnyH_ready (rs := [6]) (by kernel_rfl) (by simp) (AllReadyH.cons rfl (fun K hK => ?_) AllReadyH.nil)
            go_simp
            refine (tagged_any ⟨#[109, 101, 115, 115, 97, 103, 101]⟩ _ _ _ (root ++ twoL i ++ msg) _ fm4 (by rw [List.length_append, List.length_append, Hr.out.1, twoL_length, Hm.out]) (by omega) ((Hr.out.2.append (twoL_byte i)).append Hm8.out) (by decide)).mono ?_
            rintro e w5_ ⟨he, hb5⟩
            have he : e = .returned (.agg (arrK .u8 d)) := by rw [← Hdd.out, msgS_eq]; exact he
            subst he
            have fB5 := fB4.below hb5
            have fR5 := fR4.below hb5
            have ft5 := ft4.below hb5
            have fr5 := fr4.below hb5
            have fm5 := fm4.below hb5
            have fD5 := fD4.below hb5
            have Hb5 : Below w.heap.size w w5_ := below_of Hb4 hb5 Hb4.size
            have Zb5 : w1.heap.size ≤ w5_.heap.size := Nat.le_trans Zb4 hb5.size
            go_wp2_with (fail)
            refine hK.out _ _ Hb5 fun _ => ?_
            clear hK K
            try simp only [la0, la1, la2, Act.put, la3, la4, la5]
            refine wpAnyH_ready (rs := [8]) (by kernel_rfl) (by simp) (AllReadyH.cons rfl (fun K hK => ?_) AllReadyH.nil)
            refine step_put_blk (by rfl) _ _ _ (by rfl) (w3_.heap.size) (arrK .u8 (d)) (by rfl) (by rfl) _ _ fD5 (info32 lt.out) (by rw [len32 lt.out, len32 z32_length]) (arrK_all _ _) ?_
            intro w6_ fD6 hg6 hz6
            have neB6 := fB5.lt
            have fB6 := fB5.grown hg6 (by first | (simp; done) | (simp; omega))
            have neR6 := fR5.lt
            have fR6 := fR5.grown hg6 (by first | (simp; done) | (simp; omega))
            have net6 := ft5.lt
            have ft6 := ft5.grown hg6 (by first | (simp; done) | (simp; omega))
            have ner6 := fr5.lt
            have fr6 := fr5.grown hg6 (by first | (simp; done) | (simp; omega))
            have Hb6 : Below w.heap.size w w6_ := below_grown Hb5 hg6 Hb5.size (by first | (simp; done) | (simp; omega))
            have Zb6 : w1.heap.size ≤ w6_.heap.size := Nat.le_trans Zb5 hg6.size
            refine hK.out _ _ Hb6 fun _ => ?_
            clear hK K
            try simp only [la0, la1, la2, Act.put, la3, la4, la5]
            refine wpAnyH_done (by kernel_rfl) ?_ _
            go_wp2_with (fail)
            go_meet
            exact ⟨_, rfl, fD6, fR6, loD4, Hb6⟩
        · go_simp
          generalize hge : World.alloc _ _ = w3_
          have fD3 : Blk w3_ w2_.heap.size 28 (arrK .u8 z32) := by subst hge; exact Blk.new _ _ _
          have hb3 : Below w2_.heap.size w2_ w3_ := by subst hge; exact (Below.refl _ _).alloc (Nat.le_refl _) _
          clear hge
          have fB3 := fB2.below hb3
          have fR3 := fR2.below hb3
          have ft3 := ft2.below hb3
          have fr3 := fr2.below hb3
          have lttD3 := ft2.lt
          have ltrD3 := fr2.lt
          have loD3 : w1.heap.size ≤ w2_.heap.size := Zb2
          have Hb3 : Below w.heap.size w w3_ := below_of Hb2 hb3 Hb2.size
          have Zb3 : w1.heap.size ≤ w3_.heap.size := Nat.le_trans Zb2 hb3.size
          refine hK.out _ _ Hb3 fun _ => ?_
          clear hK K
          try simp only [la0, la1, la2, Act.put, la3, la4, la5]
          refine wpAnyH_ready (rs := [5]) (by kernel_rfl) (by simp) (AllReadyH.cons rfl (fun K hK => ?_) AllReadyH.nil)
          go_simp
          refine (concat3 (w1_.heap.size) 32 32 2 2 n c (some ⟨w.heap.size, 0, none⟩) _ A (bytesV root) (bytesV (twoL i)) (bytesV msg) _ (fr3.cellv (i := 0) rfl) (fr3.cellv (i := 1) rfl) (fr3.cellv (i := 2) rfl) (cells_dig fB3) (cells_dig ft3) (HA.out.below Hb3) (by rw [bytesV_length, Hr.out.1]) (by rw [bytesV_length]; rfl) (by rw [bytesV_length, Hm.out]) (bytesV_one _) (bytesV_one _) (bytesV_one _) (by omega) (by omega) (by omega) fr3.lt).mono ?_
          rintro e w4_ ⟨A4, c4, rfl, hown4, hb4⟩
          have fm4 : Cells w4_ A4 (bytesV (root ++ twoL i ++ msg)) := by have := Cells.own hown4; rwa [← bytesV_append, ← bytesV_append] at this
          have fB4 := fB3.below hb4
          have fR4 := fR3.below hb4
          have ft4 := ft3.below hb4
          have fr4 := fr3.below hb4
          have fD4 := fD3.below hb4
          have Hb4 : Below w.heap.size w w4_ := below_of Hb3 hb4 Hb3.size
          have Zb4 : w1.heap.size ≤ w4_.heap.size := Nat.le_trans Zb3 hb4.size
          go_wp2_with (fail)
          refine hK.out _ _ Hb4 fun _ => ?_
          clear hK K
          try simp only [la0, la1, la2, Act.put, la3, la4, la5]
          refine wpAnyH_ready (rs := [6]) (by kernel_rfl) (by simp) (AllReadyH.cons rfl (fun K hK => ?_) AllReadyH.nil)
          go_simp
          refine (tagged_any ⟨#[109, 101, 115, 115, 97, 103, 101]⟩ _ _ _ (root ++ twoL i ++ msg) _ fm4 (by rw [List.length_append, List.length_append, Hr.out.1, twoL_length, Hm.out]) (by omega) ((Hr.out.2.append (twoL_byte i)).append Hm8.out) (by decide)).mono ?_
          rintro e w5_ ⟨he, hb5⟩
          have he : e = .returned (.agg (arrK .u8 d)) := by rw [← Hdd.out, msgS_eq]; exact he
          subst he
          have fB5 := fB4.below hb5
          have fR5 := fR4.below hb5
          have ft5 := ft4.below hb5
          have fr5 := fr4.below hb5
          have fD5 := fD4.below hb5
          have fm5 := fm4.below hb5
          have Hb5 : Below w.heap.size w w5_ := below_of Hb4 hb5 Hb4.size
          have Zb5 : w1.heap.size ≤ w5_.heap.size := Nat.le_trans Zb4 hb5.size
          go_wp2_with (fail)
          refine hK.out _ _ Hb5 fun _ => ?_
          clear hK K
          try simp only [la0, la1, la2, Act.put, la3, la4, la5]
          refine wpAnyH_ready (rs := [8]) (by kernel_rfl) (by simp) (AllReadyH.cons rfl (fun K hK => ?_) AllReadyH.nil)
          refine step_put_blk (by rfl) _ _ _ (by rfl) (w2_.heap.size) (arrK .u8 (d)) (by rfl) (by rfl) _ _ fD5 (info32 lt.out) (by rw [len32 lt.out, len32 z32_length]) (arrK_all _ _) ?_
          intro w6_ fD6 hg6 hz6
          have neB6 := fB5.lt
          have fB6 := fB5.grown hg6 (by first | (simp; done) | (simp; omega))
          have neR6 := fR5.lt
          have fR6 := fR5.grown hg6 (by first | (simp; done) | (simp; omega))
          have net6 := ft5.lt
          have ft6 := ft5.grown hg6 (by first | (simp; done) | (simp; omega))
          have ner6 := fr5.lt
          have fr6 := fr5.grown hg6 (by first | (simp; done) | (simp; omega))
          have Hb6 : Below w.heap.size w w6_ := below_grown Hb5 hg6 Hb5.size (by first | (simp; done) | (simp; omega))
          have Zb6 : w1.heap.size ≤ w6_.heap.size := Nat.le_trans Zb5 hg6.size
          refine hK.out _ _ Hb6 fun _ => ?_
          clear hK K
          try simp only [la0, la1, la2, Act.put, la3, la4, la5]
          refine wpAnyH_done (by kernel_rfl) ?_ _
          go_wp2_with (fail)
          go_meet
          exact ⟨_, rfl, fD6, fR6, loD3, Hb6⟩
      · go_simp
        generalize hge : World.alloc _ _ = w2_
        have fD2 : Blk w2_ w1_.heap.size 28 (arrK .u8 z32) := by subst hge; exact Blk.new _ _ _
        have hb2 : Below w1_.heap.size w1_ w2_ := by subst hge; exact (Below.refl _ _).alloc (Nat.le_refl _) _
        clear hge
        have fB2 := fB1.below hb2
        have fR2 := fR1.below hb2
        have ft2 := ft1.below hb2
        have lttD2 := ft1.lt
        have loD2 : w1.heap.size ≤ w1_.heap.size := Zb1
        have Hb2 : Below w.heap.size w w2_ := below_of Hb1 hb2 Hb1.size
        have Zb2 : w1.heap.size ≤ w2_.heap.size := Nat.le_trans Zb1 hb2.size
        refine hK.out _ _ Hb2 fun _ => ?_
        clear hK K
        try simp only [la0, la1, la2, Act.put, la3, la4, la5]
        refine wpAnyH_ready (rs := [4]) (by kernel_rfl) (by simp) (AllReadyH.cons rfl (fun K hK => ?_) AllReadyH.nil)
        go_simp
        generalize hge : World.alloc _ _ = w3_
        have fr3 : Blk w3_ w2_.heap.size 39 (#[.slice (some ⟨w.heap.size, 0, none⟩) 32 32, .slice (some ⟨wd.heap.size, 0, none⟩) 2 2, .slice A n c]) := by subst hge; exact Blk.new _ _ _
        have hb3 : Below w2_.heap.size w2_ w3_ := by subst hge; exact (Below.refl _ _).alloc (Nat.le_refl _) _
        clear hge
        have fB3 := fB2.below hb3
        have fR3 := fR2.below hb3
        have ft3 := ft2.below hb3
        have fD3 := fD2.below hb3
        have lttr3 := ft2.lt
        have ltDr3 := fD2.lt
        have lor3 : w1.heap.size ≤ w2_.heap.size := Zb2
        have Hb3 : Below w.heap.size w w3_ := below_of Hb2 hb3 Hb2.size
        have Zb3 : w1.heap.size ≤ w3_.heap.size := Nat.le_trans Zb2 hb3.size
        refine hK.out _ _ Hb3 fun _ => ?_
        clear hK K
        try simp only [la0, la1, la2, Act.put, la3, la4, la5]
        refine wpAnyH_ready (rs := [5]) (by kernel_rfl) (by simp) (AllReadyH.cons rfl (fun K hK => ?_) AllReadyH.nil)
        go_simp
        refine (concat3 (w2_.heap.size) 32 32 2 2 n c (some ⟨w.heap.size, 0, none⟩) _ A (bytesV root) (bytesV (twoL i)) (bytesV msg) _ (fr3.cellv (i := 0) rfl) (fr3.cellv (i := 1) rfl) (fr3.cellv (i := 2) rfl) (cells_dig fB3) (cells_dig ft3) (HA.out.below Hb3) (by rw [bytesV_length, Hr.out.1]) (by rw [bytesV_length]; rfl) (by rw [bytesV_length, Hm.out]) (bytesV_one _) (bytesV_one _) (bytesV_one _) (by omega) (by omega) (by omega) fr3.lt).mono ?_
        rintro e w4_ ⟨A4, c4, rfl, hown4, hb4⟩
        have fm4 : Cells w4_ A4 (bytesV (root ++ twoL i ++ msg)) := by have := Cells.own hown4; rwa [← bytesV_append, ← bytesV_append] at this
        have fB4 := fB3.below hb4
        have fR4 := fR3.below hb4
        have ft4 := ft3.below hb4
        have fD4 := fD3.below hb4
        have fr4 := fr3.below hb4
        have Hb4 : Below w.heap.size w w4_ := below_of Hb3 hb4 Hb3.size
        have Zb4 : w1.heap.size ≤ w4_.heap.size := Nat.le_trans Zb3 hb4.size
        go_wp2_with (fail)
        refine hK.out _ _ Hb4 fun _ => ?_
        clear hK K
        try simp only [la0, la1, la2, Act.put, la3, la4, la5]
        refine wpAnyH_ready (rs := [6]) (by kernel_rfl) (by simp) (AllReadyH.cons rfl (fun K hK => ?_) AllReadyH.nil)
        go_simp
        refine (tagged_any ⟨#[109, 101, 115, 115, 97, 103, 101]⟩ _ _ _ (root ++ twoL i ++ msg) _ fm4 (by rw [List.length_append, List.length_append, Hr.out.1, twoL_length, Hm.out]) (by omega) ((Hr.out.2.append (twoL_byte i)).append Hm8.out) (by decide)).mono ?_
        rintro e w5_ ⟨he, hb5⟩
        have he : e = .returned (.agg (arrK .u8 d)) := by rw [← Hdd.out, msgS_eq]; exact he
        subst he
        have fB5 := fB4.below hb5
        have fR5 := fR4.below hb5
        have ft5 := ft4.below hb5
        have fD5 := fD4.below hb5
        have fr5 := fr4.below hb5
        have fm5 := fm4.below hb5
        have Hb5 : Below w.heap.size w w5_ := below_of Hb4 hb5 Hb4.size
        have Zb5 : w1.heap.size ≤ w5_.heap.size := Nat.le_trans Zb4 hb5.size
        go_wp2_with (fail)
        refine hK.out _ _ Hb5 fun _ => ?_
        clear hK K
        try simp only [la0, la1, la2, Act.put, la3, la4, la5]
        refine wpAnyH_ready (rs := [8]) (by kernel_rfl) (by simp) (AllReadyH.cons rfl (fun K hK => ?_) AllReadyH.nil)
        refine step_put_blk (by rfl) _ _ _ (by rfl) (w1_.heap.size) (arrK .u8 (d)) (by rfl) (by rfl) _ _ fD5 (info32 lt.out) (by rw [len32 lt.out, len32 z32_length]) (arrK_all _ _) ?_
        intro w6_ fD6 hg6 hz6
        have neB6 := fB5.lt
        have fB6 := fB5.grown hg6 (by first | (simp; done) | (simp; omega))
        have neR6 := fR5.lt
        have fR6 := fR5.grown hg6 (by first | (simp; done) | (simp; omega))
        have net6 := ft5.lt
        have ft6 := ft5.grown hg6 (by first | (simp; done) | (simp; omega))
        have ner6 := fr5.lt
        have fr6 := fr5.grown hg6 (by first | (simp; done) | (simp; omega))
        have Hb6 : Below w.heap.size w w6_ := below_grown Hb5 hg6 Hb5.size (by first | (simp; done) | (simp; omega))
        have Zb6 : w1.heap.size ≤ w6_.heap.size := Nat.le_trans Zb5 hg6.size
        refine hK.out _ _ Hb6 fun _ => ?_
        clear hK K
        try simp only [la0, la1, la2, Act.put, la3, la4, la5]
        refine wpAnyH_done (by kernel_rfl) ?_ _
        go_wp2_with (fail)
        go_meet
        exact ⟨_, rfl, fD6, fR6, loD2, Hb6⟩
    · go_simp
      generalize hge : World.alloc _ _ = w1_
      have fD1 : Blk w1_ wd.heap.size 28 (arrK .u8 z32) := by subst hge; exact Blk.new _ _ _
      have hb1 : Below wd.heap.size wd w1_ := by subst hge; exact (Below.refl _ _).alloc (Nat.le_refl _) _
      clear hge
      have fB1 := fB.below hb1
      have fR1 := fR.below hb1
      have loD1 : w1.heap.size ≤ wd.heap.size := Zd
      have Hb1 : Below w.heap.size w w1_ := below_of Hd hb1 Hd.size
      have Zb1 : w1.heap.size ≤ w1_.heap.size := Nat.le_trans Zd hb1.size
      refine hK.out _ _ Hb1 fun _ => ?_
      clear hK K
      try simp only [la0, la1, la2, Act.put, la3, la4, la5]
      refine wpAnyH_ready (rs := [2]) (by kernel_rfl) (by simp) (AllReadyH.cons rfl (fun K hK => ?_) AllReadyH.nil)
      go_simp
      refine (two_any i _ (by omega)).mono ?_
      rintro e w2_ ⟨rfl, ft2, hb2⟩
      have fB2 := fB1.below hb2
      have fR2 := fR1.below hb2
      have fD2 := fD1.below hb2
      have Hb2 : Below w.heap.size w w2_ := below_of Hb1 hb2 Hb1.size
      have Zb2 : w1.heap.size ≤ w2_.heap.size := Nat.le_trans Zb1 hb2.size
      have lot2 : w1.heap.size ≤ w1_.heap.size := Zb1
      have ltDt2 := fD1.lt
      go_wp2_with (fail)
      refine hK.out _ _ Hb2 fun _ => ?_
      clear hK K
      try simp only [la0, la1, la2, Act.put, la3, la4, la5]
      refine wpAnyH_ready (rs := [4]) (by kernel_rfl) (by simp) (AllReadyH.cons rfl (fun K hK => ?_) AllReadyH.nil)
      go_simp
      generalize hge : World.alloc _ _ = w3_
      have fr3 : Blk w3_ w2_.heap.size 39 (#[.slice (some ⟨w.heap.size, 0, none⟩) 32 32, .slice (some ⟨w1_.heap.size, 0, none⟩) 2 2, .slice A n c]) := by subst hge; exact Blk.new _ _ _
      have hb3 : Below w2_.heap.size w2_ w3_ := by subst hge; exact (Below.refl _ _).alloc (Nat.le_refl _) _
      clear hge
      have fB3 := fB2.below hb3
      have fR3 := fR2.below hb3
      have fD3 := fD2.below hb3
      have ft3 := ft2.below hb3
      have ltDr3 := fD2.lt
      have lttr3 := ft2.lt
      have lor3 : w1.heap.size ≤ w2_.heap.size := Zb2
      have Hb3 : Below w.heap.size w w3_ := below_of Hb2 hb3 Hb2.size
      have Zb3 : w1.heap.size ≤ w3_.heap.size := Nat.le_trans Zb2 hb3.size
      refine hK.out _ _ Hb3 fun _ => ?_
      clear hK K
      try simp only [la0, la1, la2, Act.put, la3, la4, la5]
      refine wpAnyH_ready (rs := [5]) (by kernel_rfl) (by simp) (AllReadyH.cons rfl (fun K hK => ?_) AllReadyH.nil)
      go_simp
      refine (concat3 (w2_.heap.size) 32 32 2 2 n c (some ⟨w.heap.size, 0, none⟩) _ A (bytesV root) (bytesV (twoL i)) (bytesV msg) _ (fr3.cellv (i := 0) rfl) (fr3.cellv (i := 1) rfl) (fr3.cellv (i := 2) rfl) (cells_dig fB3) (cells_dig ft3) (HA.out.below Hb3) (by rw [bytesV_length, Hr.out.1]) (by rw [bytesV_length]; rfl) (by rw [bytesV_length, Hm.out]) (bytesV_one _) (bytesV_one _) (bytesV_one _) (by omega) (by omega) (by omega) fr3.lt).mono ?_
      rintro e w4_ ⟨A4, c4, rfl, hown4, hb4⟩
      have fm4 : Cells w4_ A4 (bytesV (root ++ twoL i ++ msg)) := by have := Cells.own hown4; rwa [← bytesV_append, ← bytesV_append] at this
      have fB4 := fB3.below hb4
      have fR4 := fR3.below hb4
      have fD4 := fD3.below hb4
      have ft4 := ft3.below hb4
      have fr4 := fr3.below hb4
      have Hb4 : Below w.heap.size w w4_ := below_of Hb3 hb4 Hb3.size
      have Zb4 : w1.heap.size ≤ w4_.heap.size := Nat.le_trans Zb3 hb4.size
      go_wp2_with (fail)
      refine hK.out _ _ Hb4 fun _ => ?_
      clear hK K
      try simp only [la0, la1, la2, Act.put, la3, la4, la5]
      refine wpAnyH_ready (rs := [6]) (by kernel_rfl) (by simp) (AllReadyH.cons rfl (fun K hK => ?_) AllReadyH.nil)
      go_simp
      refine (tagged_any ⟨#[109, 101, 115, 115, 97, 103, 101]⟩ _ _ _ (root ++ twoL i ++ msg) _ fm4 (by rw [List.length_append, List.length_append, Hr.out.1, twoL_length, Hm.out]) (by omega) ((Hr.out.2.append (twoL_byte i)).append Hm8.out) (by decide)).mono ?_
      rintro e w5_ ⟨he, hb5⟩
      have he : e = .returned (.agg (arrK .u8 d)) := by rw [← Hdd.out, msgS_eq]; exact he
      subst he
      have fB5 := fB4.below hb5
      have fR5 := fR4.below hb5
      have fD5 := fD4.below hb5
      have ft5 := ft4.below hb5
      have fr5 := fr4.below hb5
      have fm5 := fm4.below hb5
      have Hb5 : Below w.heap.size w w5_ := below_of Hb4 hb5 Hb4.size
      have Zb5 : w1.heap.size ≤ w5_.heap.size := Nat.le_trans Zb4 hb5.size
      go_wp2_with (fail)
      refine hK.out _ _ Hb5 fun _ => ?_
      clear hK K
      try simp only [la0, la1, la2, Act.put, la3, la4, la5]
      refine wpAnyH_ready (rs := [8]) (by kernel_rfl) (by simp) (AllReadyH.cons rfl (fun K hK => ?_) AllReadyH.nil)
      refine step_put_blk (by rfl) _ _ _ (by rfl) (wd.heap.size) (arrK .u8 (d)) (by rfl) (by rfl) _ _ fD5 (info32 lt.out) (by rw [len32 lt.out, len32 z32_length]) (arrK_all _ _) ?_
      intro w6_ fD6 hg6 hz6
      have neB6 := fB5.lt
      have fB6 := fB5.grown hg6 (by first | (simp; done) | (simp; omega))
      have neR6 := fR5.lt
      have fR6 := fR5.grown hg6 (by first | (simp; done) | (simp; omega))
      have net6 := ft5.lt
      have ft6 := ft5.grown hg6 (by first | (simp; done) | (simp; omega))
      have ner6 := fr5.lt
      have fr6 := fr5.grown hg6 (by first | (simp; done) | (simp; omega))
      have Hb6 : Below w.heap.size w w6_ := below_grown Hb5 hg6 Hb5.size (by first | (simp; done) | (simp; omega))
      have Zb6 : w1.heap.size ≤ w6_.heap.size := Nat.le_trans Zb5 hg6.size
      refine hK.out _ _ Hb6 fun _ => ?_
      clear hK K
      try simp only [la0, la1, la2, Act.put, la3, la4, la5]
      refine wpAnyH_done (by kernel_rfl) ?_ _
      go_wp2_with (fail)
      go_meet
      exact ⟨_, rfl, fD6, fR6, loD1, Hb6⟩
  case rest =>
    obtain ⟨D, rfl, hD, hR, hlo, hB⟩ := hcut
    have HD := Lib.hid hD
    have HR1 := Lib.hid hR
    have HB1 := Lib.hid hB
    clear hD hR hB
    go_wp2_with (fail)
    go_loopw [16] (fun v wr => ∃ k : Nat, k ≤ 64 ∧ v = .int .i64 k ∧ Hid (Blk wr D 28 (arrK .u8 d)) ∧ Hid (Blk wr (w.heap.size + 1) 100 (arrB (bitA d k))) ∧ Hid (Below w.heap.size w wr)) (fun v _ => 64 - (intOf v).toNat)
    case atStart => exact ⟨0, by omega, rfl, HD.out, (show Blk _ _ _ _ by rw [bitA_zero]; exact HR1.out), HB1.out⟩
    case round =>
      obtain ⟨k, hk64, rfl, hD, hR, hB⟩ := hrel
      by_cases hk : k < 64
      · have hdk : decide ((k : Int) < 64) = true := by simp; omega
        have e1 := hD.out.cellv (i := k / 8) (arrK_get (l := d) (by rw [lt.out]; omega))
        have e2 := hR.out.cellv (i := k) (arrB_get (by rw [bitA_length d hk64]; exact hk))
        have e3 := hR.out.frozen k
        have hk8 : k / 8 < 32 := by omega
        have hkI : (k : Int) / 8 < 32 := by omega
        have hkI2 : (k : Int) < 64 := by omega
        obtain ⟨x, hx⟩ : ∃ x, d.getD (k / 8) 0 = x := ⟨_, rfl⟩
        rw [hx] at e1
        have hbit := Lib.hid (bit_walk l8.out k x hx)
        have hx8 : x < 256 := by rw [← hx]; exact l8.out _
        clear hx
        generalize (bitA d k).getD k false = y at e2
        go_wp2_with (fail)
        go_roundw
        case rel =>
          refine ⟨k + 1, by omega, by go_num, ?_, ?_, ?_⟩
          · exact hD.out.far (by simp; omega) _
          · show Blk _ _ _ _
            rw [hbit.out, ← bitA_set d hk]
            exact hR.out.set_ k _
          · exact hB.out.setCell (by simp) _
        case measure => simp [intOf]; omega
      · obtain rfl : k = 64 := by omega
        have HRf := Lib.hid (show Blk wr (w.heap.size + 1) 100 (arrB (bitL d 64)) by have := hR.out; rwa [bitA_all] at this)
        go_wp2_with (first
          | (refine wpList_load_blk rfl 100 (.tmp 6) rfl (w.heap.size + 1) rfl 100 (arrB (bitL d 64)) (.array 64 4) HRf.out (by kernel_rfl) rfl (infoB (bitL_length d 64)) ?_)
          | (refine wpList_store_same rfl 100 (.tmp 6) (.tmp 32) rfl (w.heap.size + 1) (arrB (bitL d 64)) rfl rfl 100 HRf.out (infoB (bitL_length d 64)) (arrB_all _) ?_))
        exact ret_row rfl (w.heap.size + 1) 100 (arrB (bitL d 64)) (.array 64 4) rfl HRf.out (by kernel_rfl) rfl (infoB (bitL_length d 64)) rfl ⟨rfl, hB.out⟩
end Go.Proofs.Ytkflpoiobpblhaa
namespace Go.Proofs.Ytkflpoiobpblhaa
open Go.RowKit
theorem put3 {w : World} {g : Nat} {t : TypeId} {a b c : Value} (h : Blk w g t #[a, b, c]) (x y z : Value) :
    Blk (((w.setCell ⟨g, 0, none⟩ x).setCell ⟨g, 1, none⟩ y).setCell ⟨g, 2, none⟩ z) g t #[x, y, z] ∧ w.grownBy (((w.setCell ⟨g, 0, none⟩ x).setCell ⟨g, 1, none⟩ y).setCell ⟨g, 2, none⟩ z) (some g) :=
  ⟨((h.set_ 0 x).set_ 1 y).set_ 2 z, grown_trans (grown_trans (grown_setOne x) (grown_setOne y)) (grown_setOne z)⟩
set_option linter.unusedSimpArgs false in
set_option maxRecDepth 100000 in
set_option maxHeartbeats 4000000 in
theorem New_bad (A : Option Addr) (n c : Nat) (m : Int) (s : List Nat) (w : World) (hA : Cells w A (bytesV s)) (hs : s.length = n) (hn : n ≤ 200) (hnc : n ≤ c) (hcm : c ≤ maxLen) (hk : okKey n m 0 = false) :
    Calls Try.prog 11 #[.slice A n c, .int .i64 m] w fun e w' => e = .returned (.tuple #[.agg #[.slice none 0 0, .int .i64 0, .int .i64 0], .int .i64 40]) ∧ Below w.heap.size w w' := by
  have HA := Lib.hid hA
  have Hs := Lib.hid hs
  have Hcm := Lib.hid hcm
  have HV := Lib.hid (fun A c W => valid_any A n c m 0 W)
  rw [hk] at HV
  clear hA hs hcm hk
  go_enter Try.func11, Try.ntmps11
  go_wp2_with (fail)
  generalize hge : World.alloc _ _ = w1
  have HR := Lib.hid (show Blk w1 w.heap.size 41 #[.slice none 0 0, .int .i64 0, .int .i64 0] by subst hge; exact Blk.new w _ _)
  have HB := Lib.hid (show Below w.heap.size w w1 by subst hge; exact (Below.refl _ _).alloc (Nat.le_refl _) _)
  clear hge
  refine (clone_any A n c s w1 (HA.out.below HB.out) Hs.out (by omega) hnc Hcm.out).mono ?_
  rintro e w2 ⟨A2, c2, rfl, hc2, hm2, hC2, hne2, hb2⟩
  have HR2 := Lib.hid (HR.out.below hb2)
  have HB2 := Lib.hid (below_of HB.out hb2 HB.out.size)
  have C2 := Lib.hid hC2
  have Hm2 := Lib.hid hm2
  clear hb2 hC2 hm2
  go_wp2_with (fail)
  generalize hge : World.alloc _ _ = w3
  have HT3 := Lib.hid (show Blk w3 w2.heap.size 41 #[.slice A2 n c2, .int .i64 m, .int .i64 0] by subst hge; exact Blk.new w2 _ _)
  have hb3 : Below w2.heap.size w2 w3 := by subst hge; exact (Below.refl _ _).alloc (Nat.le_refl _) _
  have HR3 := Lib.hid (HR2.out.below hb3)
  have HB3 := Lib.hid (below_of HB2.out hb3 HB2.out.size)
  have C3 := Lib.hid (C2.out.below hb3)
  clear hge hb3
  refine (HV.out A2 c2 w3).mono ?_
  rintro e w4 ⟨rfl, hb4⟩
  have HT4 := Lib.hid (HT3.out.below hb4)
  have HR4 := Lib.hid (HR3.out.below hb4)
  have HB4 := Lib.hid (below_of HB3.out hb4 HB3.out.size)
  have C4 := Lib.hid (C3.out.below hb4)
  clear hb4
  have q0 := HR4.out.cellv (i := 0) rfl
  have q1 := HR4.out.cellv (i := 1) rfl
  have q2 := HR4.out.cellv (i := 2) rfl
  have g0 := HR4.out.frozen 0
  have g1 := HR4.out.frozen 1
  have g2 := HR4.out.frozen 2
  go_wp2_with (fail)
  have hp := put3 HR4.out (.slice none 0 0) (.int .i64 0) (.int .i64 0)
  exact ret_row2 rfl w.heap.size 41 #[.slice none 0 0, .int .i64 0, .int .i64 0] _ rfl rfl hp.1 Try.underlying41 rfl (by kernel_rfl) rfl ⟨rfl, below_grown HB4.out hp.2 HB4.out.size (by simp)⟩
set_option linter.unusedSimpArgs false in
set_option maxRecDepth 100000 in
set_option maxHeartbeats 4000000 in
theorem New_goodN (A : Option Addr) (n c : Nat) (m : Int) (s : List Nat) (w : World) (hA : Cells w A (bytesV s)) (hs : s.length = n) (hn : n ≤ 200) (hnc : n ≤ c) (hcm : c ≤ maxLen) (hk : okKey n m 0 = true) :
    Calls Try.prog 11 #[.slice A n c, .int .i64 m] w fun e w' => ∃ A2 c2, e = .returned (.tuple #[.agg #[.slice A2 n c2, .int .i64 m, .int .i64 0], .int .i64 0]) ∧ n ≤ c2 ∧ c2 ≤ maxLen ∧ Cells w' A2 (bytesV s) ∧ (∀ b off, A2 = some ⟨b, off, none⟩ → w.heap.size ≤ b) ∧ Below w.heap.size w w' := by
  have HA := Lib.hid hA
  have Hs := Lib.hid hs
  have Hcm := Lib.hid hcm
  have HV := Lib.hid (fun A c W => valid_any A n c m 0 W)
  rw [hk] at HV
  clear hA hs hcm hk
  go_enter Try.func11, Try.ntmps11
  go_wp2_with (fail)
  generalize hge : World.alloc _ _ = w1
  have HR := Lib.hid (show Blk w1 w.heap.size 41 #[.slice none 0 0, .int .i64 0, .int .i64 0] by subst hge; exact Blk.new w _ _)
  have HB := Lib.hid (show Below w.heap.size w w1 by subst hge; exact (Below.refl _ _).alloc (Nat.le_refl _) _)
  clear hge
  refine (clone_any A n c s w1 (HA.out.below HB.out) Hs.out (by omega) hnc Hcm.out).mono ?_
  rintro e w2 ⟨A2, c2, rfl, hc2, hm2, hC2, hne2, hb2⟩
  have HR2 := Lib.hid (HR.out.below hb2)
  have HB2 := Lib.hid (below_of HB.out hb2 HB.out.size)
  have C2 := Lib.hid hC2
  have Hm2 := Lib.hid hm2
  clear hb2 hC2 hm2
  go_wp2_with (fail)
  generalize hge : World.alloc _ _ = w3
  have HT3 := Lib.hid (show Blk w3 w2.heap.size 41 #[.slice A2 n c2, .int .i64 m, .int .i64 0] by subst hge; exact Blk.new w2 _ _)
  have hb3 : Below w2.heap.size w2 w3 := by subst hge; exact (Below.refl _ _).alloc (Nat.le_refl _) _
  have HR3 := Lib.hid (HR2.out.below hb3)
  have HB3 := Lib.hid (below_of HB2.out hb3 HB2.out.size)
  have C3 := Lib.hid (C2.out.below hb3)
  clear hge hb3
  refine (HV.out A2 c2 w3).mono ?_
  rintro e w4 ⟨rfl, hb4⟩
  have HT4 := Lib.hid (HT3.out.below hb4)
  have HR4 := Lib.hid (HR3.out.below hb4)
  have HB4 := Lib.hid (below_of HB3.out hb4 HB3.out.size)
  have C4 := Lib.hid (C3.out.below hb4)
  clear hb4
  have q0 := HR4.out.cellv (i := 0) rfl
  have q1 := HR4.out.cellv (i := 1) rfl
  have q2 := HR4.out.cellv (i := 2) rfl
  have g0 := HR4.out.frozen 0
  have g1 := HR4.out.frozen 1
  have g2 := HR4.out.frozen 2
  have p0 := HT4.out.cellv (i := 0) rfl
  have p1 := HT4.out.cellv (i := 1) rfl
  have p2 := HT4.out.cellv (i := 2) rfl
  go_wp2_with (fail)
  have hp := put3 HR4.out (.slice A2 n c2) (.int .i64 m) (.int .i64 0)
  exact ret_row2 rfl w.heap.size 41 #[.slice A2 n c2, .int .i64 m, .int .i64 0] _ rfl rfl hp.1 Try.underlying41 rfl (by kernel_rfl) rfl ⟨A2, c2, rfl, hc2, Hm2.out, C4.out.grown hp.2 (fun b off hA e => by have := hne2.out b off hA; have := HR.out.lt; injection e with e; omega), fun b off hA => by have := hne2.out b off hA; have := HR.out.lt; omega, below_grown HB4.out hp.2 HB4.out.size (by simp)⟩
theorem New_good (A : Option Addr) (n c : Nat) (m : Int) (s : List Nat) (w : World) (hA : Cells w A (bytesV s)) (hs : s.length = n) (hn : n ≤ 200) (hnc : n ≤ c) (hcm : c ≤ maxLen) (hk : okKey n m 0 = true) :
    Calls Try.prog 11 #[.slice A n c, .int .i64 m] w fun e w' => ∃ A2 c2, e = .returned (.tuple #[.agg #[.slice A2 n c2, .int .i64 m, .int .i64 0], .int .i64 0]) ∧ n ≤ c2 ∧ c2 ≤ maxLen ∧ Cells w' A2 (bytesV s) ∧ Below w.heap.size w w' :=
  (New_goodN A n c m s w hA hs hn hnc hcm hk).mono fun _ _ ⟨A2, c2, h1, h2, h3, h4, _, h5⟩ => ⟨A2, c2, h1, h2, h3, h4, h5⟩
end Go.Proofs.Ytkflpoiobpblhaa
