/- The reference's one, keys, Public (signing). -/
import Derived.Test.YtcijhakofoklcaaSigR
import Derived.Great.BuildSlice
namespace Go.Proofs.Ytcijhakofoklcaa
open Go.RowKit
theorem oneT_eq : oneT = strL ⟨#[111, 110, 101]⟩ := by unfold oneT; rfl
theorem run_twoD (a b : List Nat) (ha : IsD a) (hb : IsD b) (w : World) : (Instr.buildSlice 28 2 #[(0, .agg (arrK .u8 a)), (1, .agg (arrK .u8 b))]).run Try.prog w = .ok (.slice (some ⟨w.heap.size, 0, none⟩) 2 2) (w.alloc (.cells (arrK .u8 (a ++ b)) 37)) := by
  obtain ⟨ie, hie, h2⟩ := Option.map_eq_some_iff.1 info_dig
  obtain ⟨hz, hs, -⟩ : ie.zero = some (.agg (arrK .u8 z32)) ∧ ie.size = 32 ∧ ie.bytes = 32 := by simpa using h2
  have hf := Great.fill_whole (s := 32) (by omega) [.agg (arrK .u8 a), .agg (arrK .u8 b)] ((Array.range (2 * ie.size)).map ((Value.agg (arrK .u8 z32)).cells[· % (Value.agg (arrK .u8 z32)).cells.size]!)) (fun v hv => by
    rcases List.mem_cons.1 hv with rfl | hv
    · show (arrK .u8 a).size = 32; exact len32 ha.1
    · rw [List.mem_singleton] at hv; subst hv
      show (arrK .u8 b).size = 32; exact len32 hb.1) (by rw [hs]; simp)
  refine run_buildSlice w 28 37 2 _ _ ie _ (by kernel_rfl) hie hz (by rw [hs]; decide) (by rw [hs]; decide) ?_
  rw [hs] at hf ⊢
  rw [show ([Value.agg (arrK .u8 a), Value.agg (arrK .u8 b)].flatMap fun v => v.cells.toList).toArray = arrK .u8 (a ++ b) by simp [Value.cells, arrK]] at hf
  exact hf
section
variable {w : World} {ops : Array Oper} {rest : List Oper} {o : Oper} {a : Act} {Q : Exit → Act → World → Prop} {K : Act → World → Prop}
theorem step_twoD {E : Prop} (hgd : o.guard = none) (x y : Operand) (ho : o.op = .buildSlice 28 2 #[(0, x), (1, y)]) (d1 d2 : List Nat) (h1 : IsD d1) (h2 : IsD d2) (hx : a.eval x = .agg (arrK .u8 d1)) (hy : a.eval y = .agg (arrK .u8 d2))
    (h : K (a.put o.dst (.slice (some ⟨w.heap.size, 0, none⟩) 2 2)) (w.alloc (.cells (arrK .u8 (d1 ++ d2)) 37))) : if Region.wanted o (yielded ops a.tmps) = true then Oper.wp Try.prog o a w K Q else E := by
  have hw : Region.wanted o (yielded ops a.tmps) = true := by simp [Region.wanted, hgd]
  rw [if_pos hw]
  unfold Oper.wp execOp
  simp only [ho, List.map_toArray, List.map_cons, List.map_nil, hx, hy, Sem.run_bind, run_twoD d1 d2 h1 h2 w, Result.andThen_ok]
  exact h
end
set_option linter.unusedSimpArgs false in
set_option maxRecDepth 100000 in
set_option maxHeartbeats 4000000 in
theorem rone_any (l : List (List Nat)) (m : Nat) (A : Option Addr) (c : Nat) (w : World) (hl : l.length = m) (hL : IsL l) (hm : m ≤ 1000) (hA : Cells w A (bytesV l.flatten)) :
    Calls Try.prog 56 #[.slice A m c] w fun e w' => e = .returned (.agg (arrK .u8 (tagS oneT l.flatten))) ∧ Below w.heap.size w w' := by
  have Hl := Lib.hid hl
  have HL := Lib.hid hL
  have HA := Lib.hid hA
  have lt := Lib.hid (tagS_length oneT l.flatten)
  clear hl hL hA
  go_enter Try.func56, Try.ntmps56
  go_wp2_with (fail)
  go_loopw [3, 4] (fun v i wr => ∃ (k : Nat) (A' : Option Addr) (c' : Nat), k ≤ m ∧ i = .int .i64 k ∧ v = .slice A' (32 * k) c' ∧ Hid (wr.ownsRow (w.heap.size + 1) 5 1 (.slice A' (32 * k) c') (32 * k) (bytesV (l.take k).flatten)) ∧ Hid (Blk wr w.heap.size 37 (arrK .u8 z32)) ∧ w.heap.size + 1 ≤ wr.heap.size ∧ Hid (Below w.heap.size w wr)) (fun _ i _ => m - (intOf i).toNat)
  case atStart =>
    refine ⟨0, _, 0, by omega, rfl, rfl, ?_, (Blk.new w 37 (arrK .u8 z32)).alloc _, by simp, below_two (Below.refl _ _) (Nat.le_refl _) _ _⟩
    show World.ownsRow _ _ _ _ _ _ _
    have := World.ownsRow_lit (e := 5) (base := w.heap.size + 1) (size := 1) (w.alloc (.cells (arrK .u8 z32) 37)) #[] 0 (by simp) (Nat.zero_le _) rfl
    rw [World.size_alloc] at this
    have e : bytesV (l.take 0).flatten = [] := by simp [bytesV_nil]
    rw [e]
    exact this
  case round =>
    obtain ⟨k, A', c', hkm, rfl, rfl, hown, hR, hz, hB⟩ := hrel
    by_cases hk : k < m
    · have hdk : decide ((k : Int) < (m : Int)) = true := by simp; omega
      have hdk2 : decide (k < m) = true := by simp; omega
      have hkI : (k : Int) < (m : Int) := by omega
      obtain ⟨b, off, rfl, hbl, -⟩ := Cells.addr HA.out (by rw [bytesV_length, HL.out.flat_length, Hl.out]; omega)
      obtain ⟨d, hd⟩ := getElem?_lt (l := l) (k := k) (by rw [Hl.out]; exact hk)
      have Dd := Lib.hid (HL.out d (List.mem_of_getElem? hd))
      have Hd := Lib.hid hd
      clear hd
      go_wp2_with (
        (at_builtin
         refine wpList_append_cells rfl (.tmp 12) (.tmp 16) 22 rfl (w.heap.size + 1) 5 (.int .u8 0) 1 1 (by kernel_rfl) (by kernel_rfl) rfl (by omega) (.slice A' (32 * k) c') (32 * k) (bytesV (l.take k).flatten) hown.out rfl (some ⟨b, off + k * 32, none⟩) 32 32 (bytesV d) rfl (by rw [bytesV_length, Dd.out.1]) (elemC HL.out (HA.out.below hB.out) Hd.out) (bytesV_one _) (by unfold maxLen; omega) (by omega) hz ?_
         intro v3 w3 hown3 hg3 _
         have hz3 := Nat.le_trans hz hg3.size
         have HR3 := Lib.hid (hR.out.grown hg3 (fun e => absurd (own_base hown.out _ e.symm) (by omega)))
         have HB3 := Lib.hid (below_grown hB.out hg3 hB.out.size (fun k hk => Nat.le_trans (Nat.le_succ _) (own_base hown.out k hk)))
         rw [← bytesV_append] at hown3
         obtain ⟨A3, c3, rfl, -, -, -⟩ := own_form hown3
         have Hown3 := Lib.hid hown3
         clear hown3 hg3))
      go_roundw
      case rel =>
        refine ⟨k + 1, A3, c3, by omega, by go_num, by rw [show 32 * (k + 1) = 32 * k + 32 by omega], ?_, HR3.out, hz3, HB3.out⟩
        show World.ownsRow _ _ _ _ _ _ _
        rw [take_snoc Hd.out, List.flatten_append, show 32 * (k + 1) = 32 * k + 32 by omega]
        simpa using Hown3.out
      case measure => simp [intOf]; omega
    · obtain rfl : k = m := by omega
      have C := Lib.hid (show Cells wr A' (bytesV l.flatten) by have := Cells.own hown.out; rwa [List.take_of_length_le (by rw [Hl.out]; exact Nat.le_refl _)] at this)
      have hlen := Lib.hid (show l.flatten.length = 32 * k by rw [HL.out.flat_length, Hl.out]; omega)
      have H8 := Lib.hid HL.out.flat_byte
      go_wp2_with (fail)
      refine (rtagged_any ⟨#[111, 110, 101]⟩ A' (32 * k) c' l.flatten wr C.out hlen.out (by omega) H8.out (by decide)).mono ?_
      rintro e w5 ⟨he, hb5⟩
      have he : e = .returned (.agg (arrK .u8 (tagS oneT l.flatten))) := by rw [oneT_eq]; exact he
      subst he
      have HR5 := Lib.hid (hR.out.below hb5)
      have HB5 := Lib.hid (below_of hB.out hb5 hB.out.size)
      clear hb5
      go_wp2_with (
        (refine wpList_put_blk rfl 37 (.tmp 2) (.tmp 19) rfl w.heap.size (arrK .u8 (tagS oneT l.flatten)) rfl rfl 37 (arrK .u8 z32) HR5.out (info32 lt.out) (by rw [len32 lt.out, len32 z32_length]) (arrK_all _ _) ?_
         intro w6 HD6 hg6 hz6
         have HD6 := Lib.hid HD6
         have HB6 := below_grown HB5.out hg6 HB5.out.size (by simp)
         clear hg6 hz6))
      exact ret_row rfl w.heap.size 37 (arrK .u8 (tagS oneT l.flatten)) (.array 32 5) rfl HD6.out (by kernel_rfl) rfl (info32 lt.out) rfl ⟨rfl, HB6⟩
theorem two_isL (s : List Nat) (i j : Nat) : IsL [keyF s i j false, keyF s i j true] := (IsL.nil_.snoc (keyF_isD s i j false)).snoc (keyF_isD s i j true)
theorem two_cells {w : World} {g : Nat} {t : TypeId} {a b : List Nat} (h : Blk w g t (arrK .u8 (a ++ b))) : Cells w (some ⟨g, 0, none⟩) (bytesV [a, b].flatten) := by
  have := cells_dig h
  simpa using this
set_option linter.unusedSimpArgs false in
set_option maxRecDepth 100000 in
set_option maxHeartbeats 4000000 in
theorem rkeys_any (A : Option Addr) (n c m : Nat) (u : Int) (s : List Nat) (w : World) (hA : Cells w A (bytesV s)) (hs : s.length = n) (hn : n ≤ 1000) (h8 : ByteL s) (hm : m ≤ 4096) :
    Calls Try.prog 47 #[.agg #[.slice A n c, .int .i64 m, .int .i64 u]] w fun e w' => ∃ A' c', e = .returned (.slice A' m c') ∧ m ≤ c' ∧ c' ≤ maxLen ∧ Cells w' A' (bytesV (pubL s m).flatten) ∧ Below w.heap.size w w' := by
  have HA := Lib.hid hA
  have Hs := Lib.hid hs
  have Hs8 := Lib.hid h8
  clear hA hs h8
  go_enter Try.func47, Try.ntmps47
  go_wp2_with (fail)
  go_loopw [3, 4] (fun v i wr => ∃ (i0 : Nat) (A' : Option Addr) (c' : Nat), i0 ≤ m ∧ i = .int .i64 i0 ∧ v = .slice A' i0 c' ∧ Hid (wr.ownsRow (w.heap.size + 1) 37 32 (.slice A' i0 c') i0 (bytesV (pubL s i0).flatten)) ∧ Hid (Blk wr w.heap.size 24 #[.slice A n c, .int .i64 m, .int .i64 u]) ∧ w.heap.size + 1 ≤ wr.heap.size ∧ Hid (Below w.heap.size w wr)) (fun _ i _ => m - (intOf i).toNat)
  case atStart =>
    refine ⟨0, _, 0, by omega, rfl, rfl, ?_, (Blk.new w 24 _).alloc _, by simp, below_two (Below.refl _ _) (Nat.le_refl _) _ _⟩
    show World.ownsRow _ _ _ _ _ _ _
    rw [pubL_zero]
    have := ownD_empty (w.alloc (.cells #[.slice A n c, .int .i64 m, .int .i64 u] 24)) (w.heap.size + 1) (by simp)
    rwa [World.size_alloc] at this
  case round =>
    obtain ⟨i, A', c', him, rfl, rfl, hown, hK, hz, hB⟩ := hrel
    by_cases hi : i < m
    · have hdi : decide ((i : Int) < (m : Int)) = true := by simp; omega
      have hdi2 : decide (i < m) = true := by simp; omega
      have k1 := hK.out.cellv (i := 1) rfl
      obtain ⟨wo, rfl⟩ : ∃ wo : World, wo = wr := ⟨_, rfl⟩
      have k0 := hK.out.cellv (i := 0) rfl
      have k2 := hK.out.cellv (i := 2) rfl
      have ltK := hK.out.lt
      go_wp2_with (fail)
      go_loopw [5, 6] (fun v jv wq => ∃ (j : Nat) (A5 : Option Addr) (c5 : Nat), j ≤ 64 ∧ jv = .int .i64 j ∧ v = .slice A5 (2 * j) c5 ∧ Hid (wq.ownsRow wo.heap.size 37 32 (.slice A5 (2 * j) c5) (2 * j) (bytesV (bothL (keyF s i) j).flatten)) ∧ Hid (Below wo.heap.size wo wq)) (fun _ jv _ => 64 - (intOf jv).toNat)
      case atStart => exact ⟨0, _, 0, by omega, rfl, rfl, (show World.ownsRow _ _ _ _ _ _ _ by rw [bothL_zero]; exact ownD_empty wo _ (Nat.le_refl _)), (Below.refl _ _).alloc (Nat.le_refl _) _⟩
      case round =>
        obtain ⟨j, A5, c5, hj64, rfl, rfl, hli, hBi⟩ := hrel
        obtain ⟨wq, rfl⟩ : ∃ wq : World, wq = wr := ⟨_, rfl⟩
        by_cases hj : j < 64
        · have hdj : decide ((j : Int) < 64) = true := by simp; omega
          go_upto_region 9 with (fail)
          clear k1
          have k1 := hK.out.cellv (i := 1) rfl
          refine wp_region_held_drew (S := fun W => Below wo.heap.size wo W) (by kernel_rfl) (below_drewN hBi.out 1) (fun Hd => ?_)
          have Hd : Below wo.heap.size wo wq.drew := below_drewN hBi.out 1
          have Zd : wo.heap.size ≤ wq.drew.heap.size := hBi.out.size
          have fl : wq.drew.ownsRow (wo.heap.size) 37 32 (.slice A5 (2 * j) c5) (2 * j) (bytesV (bothL (keyF s i) j).flatten) := hli.out
          generalize World.drew wq = wd at *
          refine wpAnyH_take (i := 0) (v := ?_) rfl (by kernel_rfl) (by kernel_rfl) (by kernel_rfl) (fun _ _ _ h => h) (Or.inl ⟨by rfl, ?_⟩) Hd ?_
          rotate_left
          · intro wS hSw
            go_simp
            try with_reducible rfl
          try simp only [List.getElem_toArray, List.getElem_cons_zero, List.getElem_cons_succ, Act.put, List.setIfInBounds_toArray, List.set_cons_zero, List.set_cons_succ]
          refine wpAnyH_take (i := 1) (v := ?_) rfl (by kernel_rfl) (by kernel_rfl) (by kernel_rfl) (fun _ _ _ h => h) (Or.inl ⟨by rfl, ?_⟩) Hd ?_
          rotate_left
          · intro wS hSw
            have c0 := (hSw.cell (p := ⟨w.heap.size, 0, none⟩) ltK).trans k0
            have c1 := (hSw.cell (p := ⟨w.heap.size, 1, none⟩) ltK).trans k1
            have c2 := (hSw.cell (p := ⟨w.heap.size, 2, none⟩) ltK).trans k2
            go_simp
            try with_reducible rfl
          try simp only [List.getElem_toArray, List.getElem_cons_zero, List.getElem_cons_succ, Act.put, List.setIfInBounds_toArray, List.set_cons_zero, List.set_cons_succ]
          refine wpAnyH_take (i := 2) (v := ?_) rfl (by kernel_rfl) (by kernel_rfl) (by kernel_rfl) (fun _ _ _ h => h) (Or.inl ⟨by rfl, ?_⟩) Hd ?_
          rotate_left
          · intro wS hSw
            go_simp
            try with_reducible rfl
          try simp only [List.getElem_toArray, List.getElem_cons_zero, List.getElem_cons_succ, Act.put, List.setIfInBounds_toArray, List.set_cons_zero, List.set_cons_succ]
          refine wpAnyH_take (i := 3) (v := ?_) rfl (by kernel_rfl) (by kernel_rfl) (by kernel_rfl) (fun _ _ _ h => h) (Or.inl ⟨by rfl, ?_⟩) Hd ?_
          rotate_left
          · intro wS hSw
            go_simp
            try with_reducible rfl
          try simp only [List.getElem_toArray, List.getElem_cons_zero, List.getElem_cons_succ, Act.put, List.setIfInBounds_toArray, List.set_cons_zero, List.set_cons_succ]
          refine wpAnyH_take (i := 6) (v := ?_) rfl (by kernel_rfl) (by kernel_rfl) (by kernel_rfl) (fun _ _ _ h => h) (Or.inl ⟨by rfl, ?_⟩) Hd ?_
          rotate_left
          · intro wS hSw
            have c0 := (hSw.cell (p := ⟨w.heap.size, 0, none⟩) ltK).trans k0
            have c1 := (hSw.cell (p := ⟨w.heap.size, 1, none⟩) ltK).trans k1
            have c2 := (hSw.cell (p := ⟨w.heap.size, 2, none⟩) ltK).trans k2
            go_simp
            try with_reducible rfl
          try simp only [List.getElem_toArray, List.getElem_cons_zero, List.getElem_cons_succ, Act.put, List.setIfInBounds_toArray, List.set_cons_zero, List.set_cons_succ]
          refine wpAnyH_take (i := 7) (v := ?_) rfl (by kernel_rfl) (by kernel_rfl) (by kernel_rfl) (fun _ _ _ h => h) (Or.inl ⟨by rfl, ?_⟩) Hd ?_
          rotate_left
          · intro wS hSw
            go_simp
            try with_reducible rfl
          try simp only [List.getElem_toArray, List.getElem_cons_zero, List.getElem_cons_succ, Act.put, List.setIfInBounds_toArray, List.set_cons_zero, List.set_cons_succ]
          refine wpAnyH_take (i := 8) (v := ?_) rfl (by kernel_rfl) (by kernel_rfl) (by kernel_rfl) (fun _ _ _ h => h) (Or.inl ⟨by rfl, ?_⟩) Hd ?_
          rotate_left
          · intro wS hSw
            go_simp
            try with_reducible rfl
          try simp only [List.getElem_toArray, List.getElem_cons_zero, List.getElem_cons_succ, Act.put, List.setIfInBounds_toArray, List.set_cons_zero, List.set_cons_succ]
          refine wpAnyH_ready (rs := [4]) (by kernel_rfl) (by simp) (AllReadyH.cons rfl (fun K hK => ?_) AllReadyH.nil)
          go_simp
          refine (rsecret_any A n c m u s i j 0 _ (HA.out.below (below_of hB.out Hd hB.out.size)) Hs.out hn Hs8.out (by omega) hj (by omega)).mono ?_
          rintro e w1_ ⟨rfl, hb1⟩
          have fl1 := own_below fl hb1
          have Hb1 : Below wo.heap.size wo w1_ := below_of Hd hb1 Hd.size
          have Zb1 : wo.heap.size ≤ w1_.heap.size := Nat.le_trans Zd hb1.size
          go_wp2_with (fail)
          refine hK.out _ _ Hb1 fun _ => ?_
          clear hK K
          try simp only [List.getElem_toArray, List.getElem_cons_zero, List.getElem_cons_succ, Act.put, List.setIfInBounds_toArray, List.set_cons_zero, List.set_cons_succ]
          refine wpAnyH_ready (rs := [5]) (by kernel_rfl) (by simp) (AllReadyH.cons rfl (fun K hK => ?_) AllReadyH.nil)
          go_simp
          refine (rhash_any (secS s i j 0) _ (secS_isD _ _ _ _)).mono ?_
          rintro e w2_ ⟨he, hb2⟩
          have he : e = .returned (.agg (arrK .u8 (keyF s i j false))) := by rw [keyF_eq]; exact he
          subst he
          have fl2 := own_below fl1 hb2
          have Hb2 : Below wo.heap.size wo w2_ := below_of Hb1 hb2 Hb1.size
          have Zb2 : wo.heap.size ≤ w2_.heap.size := Nat.le_trans Zb1 hb2.size
          go_wp2_with (fail)
          refine hK.out _ _ Hb2 fun _ => ?_
          clear hK K
          try simp only [List.getElem_toArray, List.getElem_cons_zero, List.getElem_cons_succ, Act.put, List.setIfInBounds_toArray, List.set_cons_zero, List.set_cons_succ]
          refine wpAnyH_ready (rs := [9]) (by kernel_rfl) (by simp) (AllReadyH.cons rfl (fun K hK => ?_) AllReadyH.nil)
          go_simp
          refine (rsecret_any A n c m u s i j 1 _ (HA.out.below (below_of hB.out Hb2 hB.out.size)) Hs.out hn Hs8.out (by omega) hj (by omega)).mono ?_
          rintro e w3_ ⟨rfl, hb3⟩
          have fl3 := own_below fl2 hb3
          have Hb3 : Below wo.heap.size wo w3_ := below_of Hb2 hb3 Hb2.size
          have Zb3 : wo.heap.size ≤ w3_.heap.size := Nat.le_trans Zb2 hb3.size
          go_wp2_with (fail)
          refine hK.out _ _ Hb3 fun _ => ?_
          clear hK K
          try simp only [List.getElem_toArray, List.getElem_cons_zero, List.getElem_cons_succ, Act.put, List.setIfInBounds_toArray, List.set_cons_zero, List.set_cons_succ]
          refine wpAnyH_ready (rs := [10]) (by kernel_rfl) (by simp) (AllReadyH.cons rfl (fun K hK => ?_) AllReadyH.nil)
          go_simp
          refine (rhash_any (secS s i j 1) _ (secS_isD _ _ _ _)).mono ?_
          rintro e w4_ ⟨he, hb4⟩
          have he : e = .returned (.agg (arrK .u8 (keyF s i j true))) := by rw [keyF_eq]; exact he
          subst he
          have fl4 := own_below fl3 hb4
          have Hb4 : Below wo.heap.size wo w4_ := below_of Hb3 hb4 Hb3.size
          have Zb4 : wo.heap.size ≤ w4_.heap.size := Nat.le_trans Zb3 hb4.size
          go_wp2_with (fail)
          refine hK.out _ _ Hb4 fun _ => ?_
          clear hK K
          try simp only [List.getElem_toArray, List.getElem_cons_zero, List.getElem_cons_succ, Act.put, List.setIfInBounds_toArray, List.set_cons_zero, List.set_cons_succ]
          refine wpAnyH_ready (rs := [11]) (by kernel_rfl) (by simp) (AllReadyH.cons rfl (fun K hK => ?_) AllReadyH.nil)
          refine step_twoD (by rfl) _ _ (by rfl) (keyF s i j false) (keyF s i j true) (keyF_isD s i j false) (keyF_isD s i j true) (by rfl) (by rfl) ?_
          generalize hge : World.alloc _ _ = w5_
          have fb5 : Blk w5_ w4_.heap.size 37 (arrK .u8 (keyF s i j false ++ keyF s i j true)) := by subst hge; exact Blk.new _ _ _
          have hb5 : Below w4_.heap.size w4_ w5_ := by subst hge; exact (Below.refl _ _).alloc (Nat.le_refl _) _
          clear hge
          have fl5 := own_below fl4 hb5
          have aplb5 := apart_new fl4
          have lob5 : wo.heap.size ≤ w4_.heap.size := Zb4
          have Hb5 : Below wo.heap.size wo w5_ := below_of Hb4 hb5 Hb4.size
          have Zb5 : wo.heap.size ≤ w5_.heap.size := Nat.le_trans Zb4 hb5.size
          refine hK.out _ _ Hb5 fun _ => ?_
          clear hK K
          try simp only [List.getElem_toArray, List.getElem_cons_zero, List.getElem_cons_succ, Act.put, List.setIfInBounds_toArray, List.set_cons_zero, List.set_cons_succ]
          refine wpAnyH_ready (rs := [12]) (by kernel_rfl) (by simp) (AllReadyH.cons rfl (fun K hK => ?_) AllReadyH.nil)
          refine step_addDs (by rfl) (.tmp 19) (.tmp 30) (by rfl) (wo.heap.size) (.slice A5 (2 * j) c5) (2 * j) (bothL (keyF s i) j) fl5 (by rfl) (some ⟨w4_.heap.size, 0, none⟩) 2 2 [keyF s i j false, keyF s i j true] rfl (two_isL s i j) (two_cells fb5) (by rfl) (by omega) Zb5 ?_
          intro v6 w6_ fl6 hg6 st6
          have aplb6 := apart_sits st6 aplb5 fb5.lt
          have fb6 := fb5.grown hg6 (fun e => aplb5 e.symm)
          have Hb6 : Below wo.heap.size wo w6_ := below_grown Hb5 hg6 Hb5.size (own_base fl5)
          have Zb6 : wo.heap.size ≤ w6_.heap.size := Nat.le_trans Zb5 hg6.size
          obtain ⟨A6, c6, rfl, le6, lm6, -⟩ := own_form fl6
          refine hK.out _ _ Hb6 fun _ => ?_
          clear hK K
          try simp only [List.getElem_toArray, List.getElem_cons_zero, List.getElem_cons_succ, Act.put, List.setIfInBounds_toArray, List.set_cons_zero, List.set_cons_succ]
          refine wpAnyH_take (i := 13) (v := ?_) rfl (by kernel_rfl) (by kernel_rfl) (by kernel_rfl) (fun _ _ _ h => h) (Or.inl ⟨by rfl, ?_⟩) Hb6 ?_
          rotate_left
          · intro wS hSw
            go_simp
            try with_reducible rfl
          try simp only [List.getElem_toArray, List.getElem_cons_zero, List.getElem_cons_succ, Act.put, List.setIfInBounds_toArray, List.set_cons_zero, List.set_cons_succ]
          refine wpAnyH_done (by kernel_rfl) ?_ _
          go_wp2_with (fail)
          go_roundw
          case rel => exact ⟨j + 1, A6, c6, by omega, by go_num, by rw [show 2 * (j + 1) = 2 * j + 2 by omega], (show World.ownsRow _ _ _ _ _ _ _ by rw [bothL_succ, show 2 * (j + 1) = 2 * j + 2 by omega, List.append_assoc]; exact fl6), Hb6⟩
          case measure => simp [intOf]; omega
        · obtain rfl : j = 64 := by omega
          have C := Lib.hid (Cells.own hli.out)
          have Hown1 := Lib.hid (own_below hown.out hBi.out)
          have HK1 := Lib.hid (hK.out.below hBi.out)
          have HB1 := Lib.hid (below_of hB.out hBi.out hB.out.size)
          have hz1 : w.heap.size + 1 ≤ wq.heap.size := Nat.le_trans hz hBi.out.size
          have dD := Lib.hid (pubS_isD (keyF s i))
          clear k0 k1 k2
          go_wp2_with (fail)
          refine (rone_any (bothL (keyF s i) 64) (2 * 64) A5 c5 wq (bothL_length _ _) (bothL_isL _ _ (fun j b _ => keyF_isD s i j b)) (by omega) C.out).mono ?_
          rintro e wa ⟨he, hba⟩
          have he : e = .returned (.agg (arrK .u8 (pubS (keyF s i)))) := by rw [pubS_eq]; rw [oneT_eq] at he; exact he
          subst he
          have Hown2 := Lib.hid (own_below Hown1.out hba)
          have HK2 := Lib.hid (HK1.out.below hba)
          have HB2 := Lib.hid (below_of HB1.out hba HB1.out.size)
          have hz2 : w.heap.size + 1 ≤ wa.heap.size := Nat.le_trans hz1 hba.size
          clear hba
          go_wp2_with (first
            | (at_builtin
               refine wpList_pushD rfl (.tmp 32) (.tmp 35) rfl (w.heap.size + 1) (.slice A' i c') i (pubL s i) (pubS (keyF s i)) (own_below Hown2.out hb3.out) rfl wa.heap.size HD3.out dD.out rfl (by omega) (Nat.le_trans hz2 hb3.out.size) ?_
               intro v4 w4 hown4 hg4
               have HK4 := Lib.hid ((HK2.out.below hb3.out).grown hg4 (fun e => absurd (own_base Hown2.out _ e.symm) (by omega)))
               have HB4 := Lib.hid (below_grown (below_of HB2.out hb3.out HB2.out.size) hg4 (Nat.le_trans HB2.out.size hb3.out.size) (fun k hk => Nat.le_trans (Nat.le_succ _) (own_base Hown2.out k hk)))
               have hz4 : w.heap.size + 1 ≤ w4.heap.size := Nat.le_trans (Nat.le_trans hz2 hb3.out.size) hg4.size
               obtain ⟨A4, c4, rfl, -, -, -⟩ := own_form hown4
               have Hown4 := Lib.hid hown4
               clear hown4 hg4)
            | (refine wpList_oneD rfl (.tmp 34) rfl (pubS (keyF s i)) dD.out rfl ?_
               generalize hge3 : World.alloc _ _ = w3
               have HD3 := Lib.hid (show Blk w3 wa.heap.size 37 (arrK .u8 (pubS (keyF s i))) by subst hge3; exact Blk.new _ _ _)
               have hb3 := Lib.hid (show Below wa.heap.size wa w3 by subst hge3; exact (Below.refl _ _).alloc (Nat.le_refl _) _)
               clear hge3))
          go_roundw
          case rel => exact ⟨i + 1, A4, c4, by omega, by go_num, rfl, (show World.ownsRow _ _ _ _ _ _ _ by rw [pubL_succ]; exact Hown4.out), HK4.out, hz4, HB4.out⟩
          case measure => simp [intOf]; omega
    · obtain rfl : i = m := by omega
      have k1 := hK.out.cellv (i := 1) rfl
      go_wp2_with (fail)
      go_ret
      obtain ⟨A2, c2, hv, h1, h2, -⟩ := own_form hown.out
      cases hv
      exact ⟨A', c', rfl, h1, h2, Cells.own hown.out, hB.out⟩
end Go.Proofs.Ytcijhakofoklcaa
