/- The walk of Union (calendar). -/
import Derived.StillTailTactics
import Derived.Test.YtlijdbgknbeefaaDoorIvS
namespace Go.Proofs.YtlijdbgknbeefaaDoor
open Go.RowKit
set_option maxHeartbeats 2000000 in
theorem isorted_any (Bs : Nat) (A : Option Addr) (len cap : Nat) (zs : List (Int × Int)) (hz : zs.length = len) (hlen : len ≤ 1000000) (w : World) (hBs : Bs < w.heap.size) (hc : w.cell? ⟨Bs, 0, none⟩ = some (.slice A len cap)) (hC : IvC w A zs) :
    Calls Tryd.prog 35 #[.func (.func 46) #[] #[.pointer (some ⟨Bs, 0, none⟩)], .func (.func 37) #[] #[]] w fun e w' => ∃ B d, ∃ u : List (Int × Int), e = .returned (.slice B len d) ∧ len ≤ d ∧ d ≤ maxLen ∧ u.Perm zs ∧ u.Pairwise (fun a b => a.1 ≤ b.1) ∧ IvC w' B u ∧ Below w.heap.size w w' := by
  have HC := Lib.hid (icollect_any Bs A len cap zs hz hlen w hBs hc hC)
  have Hz := Lib.hid hz
  clear hz hC hc
  go_enter Tryd.func35, Tryd.ntmps35
  go_wp2_with (fail)
  refine HC.out.mono ?_
  rintro e w1 ⟨v, rfl, hown, hb⟩
  obtain ⟨B, d, rfl, h1, h2, -⟩ := own_form hown
  have Hown := Lib.hid hown
  have Hb := Lib.hid hb
  clear hown hb
  go_wp2_with (fail)
  refine (isort_any w.heap.size _ zs w1 Hown.out (by rw [Hz.out]; exact hlen)).mono ?_
  rintro e w2 ⟨rfl, u, hp, hs, hown2, hg⟩
  have Hown2 := Lib.hid hown2
  have Hp := Lib.hid hp
  have Hs := Lib.hid hs
  have Hb2 := Lib.hid (below_grown Hb.out hg Hb.out.size (own_base Hown.out))
  clear hown2 hp hs hg
  go_wp2_with (fail)
  go_ret
  exact ⟨B, d, u, by first | rfl | (rw [← Hz.out]; rfl), by have := Hz.out; omega, h2, Hp.out, Hs.out, Cells.own Hown2.out, Hb2.out⟩
def allI (l : List (Int × Int)) : Bool := l.all Iv.okI
def UnionPost (l : List (Int × Int)) (w : World) (e : Ending) (w' : World) : Prop :=
  (allI l = true ∧ ∃ A c, ∃ u : List (Int × Int), e = .returned (.tuple #[.slice A u.length c, .int .i64 0]) ∧ Iv.IsUnion l u ∧ u.length ≤ c ∧ c ≤ maxLen ∧ IvC w' A u ∧ Below w.heap.size w w') ∨
  (allI l = false ∧ e = .returned (.tuple #[.slice none 0 0, .int .i64 10]) ∧ Below w.heap.size w w')
theorem allI_take {l : List (Int × Int)} {k : Nat} {i : Int × Int} (h : allI (l.take k) = true) (hi : l[k]? = some i) (ho : Iv.okI i = true) : allI (l.take (k + 1)) = true := by
  rw [take_snoc hi]
  unfold allI at *
  simp [List.all_append, h, ho]
theorem allI_false {l : List (Int × Int)} {k : Nat} {i : Int × Int} (hi : l[k]? = some i) (ho : Iv.okI i = false) : allI l = false := by
  unfold allI
  rw [List.all_eq_false]
  exact ⟨i, List.mem_of_getElem? hi, by simp [ho]⟩
set_option maxRecDepth 100000 in
set_option maxHeartbeats 4000000 in
theorem Union_any (A : Option Addr) (n c : Nat) (l : List (Int × Int)) (w : World) (hl : l.length = n) (hn : n ≤ 1000000) (hC : IvC w A l) :
    Calls Tryd.prog 20 #[.slice A n c] w (UnionPost l w) := by
  have HC := Lib.hid hC
  have Hl := Lib.hid hl
  clear hC hl
  go_enter Tryd.func20, Tryd.ntmps20
  go_wp2_with (fail)
  go_loopw [2, 12] (fun v i wr => ∃ k : Nat, k ≤ n ∧ v = .slice none 0 0 ∧ i = .int .i64 k ∧ Hid (allI (l.take k) = true) ∧ Hid (Below w.heap.size w wr)) (fun _ i _ => n - (intOf i).toNat)
  case atStart => exact ⟨0, by omega, rfl, rfl, (show allI _ = true by simp [allI]), Below.refl _ _⟩
  case round =>
    obtain ⟨k, hk, rfl, rfl, hal, hB⟩ := hrel
    by_cases hlt : k < n
    · obtain ⟨⟨x, y⟩, hx⟩ := getElem?_lt (l := l) (k := k) (by rw [Hl.out]; exact hlt)
      obtain ⟨b, off, rfl, hb, hcs⟩ := HC.out.at_ (by rw [Hl.out]; omega)
      have hc1 := (hB.out.cell (p := ⟨b, off + k * 2, none⟩) hb).trans (hcs k _ hx).1
      have hc2 := (hB.out.cell (p := ⟨b, off + k * 2 + 1, none⟩) hb).trans (hcs k _ hx).2
      have Hx := Lib.hid hx
      clear hx hcs
      have hK := Lib.hid (fun W => Check_any x y W)
      cases hv : Iv.okI (x, y) with
      | true =>
        unfold chkE at hK
        rw [hv] at hK
        have Hv := Lib.hid hv
        clear hv
        go_wp2_with ((go_at_call 22; refine (hK.out _).mono ?_; rintro e w' ⟨rfl, rfl⟩))
        go_roundw
        case rel => exact ⟨k + 1, by omega, rfl, by go_num, allI_take hal.out Hx.out Hv.out, (hB.out.alloc hB.out.size _).alloc (by have := hB.out.size; simp; omega) _⟩
        case measure => simp [intOf]; omega
      | false =>
        unfold chkE at hK
        rw [hv] at hK
        have Hv := Lib.hid hv
        clear hv
        go_wp2_with ((go_at_call 22; refine (hK.out _).mono ?_; rintro e w' ⟨rfl, rfl⟩))
        go_ret2
        exact .inr ⟨allI_false Hx.out Hv.out, rfl, (hB.out.alloc hB.out.size _).alloc (by have := hB.out.size; simp; omega) _⟩
    · obtain rfl : k = n := by omega
      have Hal := Lib.hid (show allI l = true by have := hal.out; rwa [List.take_of_length_le (by rw [Hl.out]; omega)] at this)
      go_wp2_with ((go_at_call 36; refine (ivalues_any _ _ _ _).mono ?_; rintro e w' ⟨rfl, rfl⟩))
      refine (isorted_any wr.heap.size A k c l Hl.out hn _ (by simp) (Blk.cellv (Blk.new wr _ _) (i := 0) rfl) ((HC.out.below hB.out).below ((Below.refl _ wr).alloc (Nat.le_refl _) _))).mono ?_
      rintro e w2 ⟨B, d, s, rfl, hd1, hd2, hp, hs, hS, hb2⟩
      have HB2 := Lib.hid ((hB.out.alloc hB.out.size (.cells #[.slice A k c] 37)).trans (hb2.mono (by have := hB.out.size; simp; omega)))
      have hsl := Lib.hid (hp.length_eq.trans Hl.out)
      have hso := Lib.hid (show ∀ a ∈ s, Iv.okI a = true from fun a ha => List.all_eq_true.1 Hal.out a (hp.mem_iff.1 ha))
      have Hp := Lib.hid hp
      have Hs := Lib.hid hs
      have HS := Lib.hid hS
      clear hp hs hS hb2
      go_wp2_with (fail)
      go_loopw [2, 27] (fun v i wr => ∃ (j m : Nat) (A' : Option Addr) (c' : Nat), j ≤ k ∧ i = .int .i64 j ∧ v = .slice A' m c' ∧ Hid (m = (Iv.merge (s.take j)).length) ∧ Hid (wr.ownsRow w2.heap.size 43 2 (.slice A' m c') m (ivV (Iv.merge (s.take j)))) ∧ Hid (Below w2.heap.size w2 wr)) (fun _ i _ => k - (intOf i).toNat)
      case atStart => exact ⟨0, 0, none, 0, by omega, rfl, rfl, (show 0 = _ by simp [Iv.merge]), (show World.ownsRow _ _ _ _ _ _ _ from World.ownsRow_nil _ _ _ _), Below.refl _ _⟩
      case round =>
        obtain ⟨j, m, A', c', hj, rfl, rfl, hm, hown, hBx⟩ := hrel
        by_cases hlt : j < k
        · obtain ⟨⟨x, y⟩, hx⟩ := getElem?_lt (l := s) (k := j) (by rw [hsl.out]; exact hlt)
          obtain ⟨b, off, rfl, hb, hcs⟩ := HS.out.at_ (by rw [hsl.out]; omega)
          have hc1 := (hBx.out.cell (p := ⟨b, off + j * 2, none⟩) hb).trans (hcs j _ hx).1
          have hc2 := (hBx.out.cell (p := ⟨b, off + j * 2 + 1, none⟩) hb).trans (hcs j _ hx).2
          have ox := hso.out _ (List.mem_of_getElem? hx)
          obtain ⟨x1, x2, x3, x4, x5⟩ := (Iv.okI_iff _).1 ox
          simp only [] at x1 x2 x3 x4 x5
          have ht := take_snoc hx
          have Hx := Lib.hid hx
          have Ht := Lib.hid (show Iv.merge (s.take (j + 1)) = Iv.mstep (Iv.merge (s.take j)) (x, y) by rw [ht, Iv.merge_snoc])
          have Hok := Lib.hid (Iv.merged_take hso.out Hs.out j (by rw [hsl.out]; omega)).okay
          have Hlen := Lib.hid (Iv.merged_take hso.out Hs.out j (by rw [hsl.out]; omega)).len
          clear hx hcs ht ox
          go_upto_region 12 with (fail)
          generalize hge : World.alloc _ _ = w3
          have H8 := Lib.hid (show Blk w3 wr.heap.size 43 #[.int .i64 x, .int .i64 y] by subst hge; exact Blk.new wr _ _)
          have Hb3 := Lib.hid (show Below wr.heap.size wr w3 by subst hge; exact (Below.refl _ _).alloc (Nat.le_refl _) _)
          have HBx3 := Lib.hid (hBx.out.trans (Hb3.out.mono hBx.out.size))
          have Hown3 := Lib.hid (own_below hown.out Hb3.out)
          have Hlt := Lib.hid (fun k hk => (hown.out.lt k hk).2)
          clear hge
          obtain ⟨I8, hI8⟩ : ∃ X, wr.heap.size = X := ⟨_, rfl⟩
          have HI8 := Lib.hid (show w2.heap.size ≤ I8 by rw [← hI8]; exact hBx.out.size)
          rw [hI8] at H8 Hb3 Hlt ⊢
          clear hI8 hc1 hc2
          have p0 := Blk.cellv H8.out (i := 0) rfl
          have p1 := Blk.cellv H8.out (i := 1) rfl
          rcases Iv.snoc_or (Iv.merge (s.take j)) with hnil | ⟨ys, ⟨zx, zy⟩, hsn⟩
          · have hm0 : m = 0 := by have := hm.out; rw [hnil] at this; simpa using this
            subst hm0
            have Hnil := Lib.hid hnil
            clear hnil hm
            go_wp2_with (fail)
            go_quiet (fail)
            generalize hge : World.drewN _ _ = w4
            have H8b := Lib.hid (show Blk w4 I8 43 #[.int .i64 x, .int .i64 y] by subst hge; exact H8.out)
            have HBx4 := Lib.hid (show Below w2.heap.size w2 w4 by subst hge; exact below_drewN HBx3.out _)
            have Hown4 := Lib.hid (show w4.ownsRow w2.heap.size 43 2 (.slice A' 0 c') 0 (ivV (Iv.merge (s.take j))) by subst hge; exact own_drawn Hown3.out ⟨_, rfl⟩)
            clear hge p0 p1
            have p0 := Blk.cellv H8b.out (i := 0) rfl
            have p1 := Blk.cellv H8b.out (i := 1) rfl
            go_wp2_with (
              (at_builtin
               refine push2 rfl _ _ 37 rfl w2.heap.size 43 (.agg #[.int .i64 0, .int .i64 0]) 16 (by kernel_rfl) (by kernel_rfl) rfl (.slice A' 0 c') 0 (ivV (Iv.merge (s.take j))) (.int .i64 x) (.int .i64 y) Hown4.out rfl rfl rfl rfl (by unfold maxLen; omega) (by omega) HBx4.out.size ?_
               intro v5 w5 hown5 hg5 _
               have HBx5 := Lib.hid (below_grown HBx4.out hg5 HBx4.out.size (own_base Hown4.out))
               obtain ⟨A5, c5, rfl, -, -, -⟩ := own_form hown5
               have Hown5 := Lib.hid hown5
               clear hown5 hg5))
            go_roundw
            case rel => exact ⟨j + 1, 1, A5, c5, by omega, by go_num, rfl, (show 1 = _ by rw [Ht.out, Hnil.out]; rfl), (show World.ownsRow _ _ _ _ _ _ _ by have := Hown5.out; rw [Hnil.out] at this; rw [Ht.out, Hnil.out]; exact this), HBx5.out⟩
            case measure => simp [intOf]; omega
          · obtain ⟨p, hp⟩ : ∃ p, ys.length = p := ⟨_, rfl⟩
            have hmp : m = p + 1 := by have := hm.out; rw [hsn] at this; simpa [hp] using this
            subst hmp
            have Hp2 := Lib.hid hp
            have Hsn := Lib.hid hsn
            have hpl : p + 1 ≤ 1000000 := by have := Hlen.out; rw [hsn, List.length_append, List.length_take] at this; simp [hp] at this; omega
            obtain ⟨z1, z2, z3, z4, z5⟩ := (Iv.okI_iff _).1 (Hok.out (zx, zy) (by rw [hsn]; simp))
            simp only [] at z1 z2 z3 z4 z5
            have hown3 := Hown3.out
            rw [hsn] at hown3
            clear hp hsn hm Hok Hlen
            rcases hown3.2 with ⟨_, h0⟩ | ⟨g, cap, cur, hv, hbase, hgb, hq1, hq2, hq3, hq4⟩
            · simp at h0
            cases hv
            have hzz : (ys ++ [(zx, zy)])[p]? = some (zx, zy) := by rw [← Hp2.out]; simp
            obtain ⟨b', off', hA', -, hcz⟩ := IvC.at_ (show IvC w3 (some ⟨g, 0, none⟩) (ys ++ [(zx, zy)]) from Cells.own hown3) (by simp)
            cases hA'
            have hz1 := (hcz p _ hzz).1
            have hz2 := (hcz p _ hzz).2
            simp only [Nat.zero_add] at hz1 hz2
            have hfz : w3.frozen? ⟨g, p * 2 + 1, none⟩ = false := Blk.frozen (t := 43) (cs := cur) hgb _
            have Hown3' := Lib.hid hown3
            have Hgb := Lib.hid hgb
            have Hne := Lib.hid (show g ≠ I8 by have := Hlt.out g rfl; omega)
            clear hown3 hcz hzz hgb hq4
            go_wp2_with (fail)
            by_cases hj2 : x ≤ zy + 1
            · go_quiet (fail)
              generalize hge : World.drewN _ _ = w4
              have H8b := Lib.hid (show Blk w4 I8 43 #[.int .i64 x, .int .i64 y] by subst hge; exact H8.out)
              have HBx4 := Lib.hid (show Below w2.heap.size w2 w4 by subst hge; exact below_drewN HBx3.out _)
              have Hown4 := Lib.hid (show w4.ownsRow w2.heap.size 43 2 (.slice (some ⟨g, 0, none⟩) (p + 1) c') (p + 1) (ivV (ys ++ [(zx, zy)])) by subst hge; exact own_drawn Hown3'.out ⟨_, rfl⟩)
              have hz2b : w4.cell? ⟨g, p * 2 + 1, none⟩ = some (.int .i64 zy) := by subst hge; exact hz2
              have hfzb : w4.frozen? ⟨g, p * 2 + 1, none⟩ = false := by subst hge; exact hfz
              clear hge p0 p1 hz1 hz2 hfz
              have p0 := Blk.cellv H8b.out (i := 0) rfl
              have p1 := Blk.cellv H8b.out (i := 1) rfl
              go_wp2_with (fail)
              have Hmx := Lib.hid (show max zy y = if zy < y then y else zy by split <;> omega)
              have g1 : IntKind.i64.wrap ((p : Int) + 1 - 1) = (p : Int) := by rw [Int.add_sub_cancel]; exact IntWalk.i64_in _ (by omega)
              have g2 : 0 ≤ (p : Int) := by omega
              have g3 : (p : Int) < (p : Int) + 1 := by omega
              have g4 : IntKind.i64.wrap (p : Int) = (p : Int) := IntWalk.i64_in _ (by omega)
              refine wp_region_still_tail 14 (by kernel_rfl) (by kernel_rfl) ?_
              simp only [List.take_succ_cons, List.take_zero, List.drop_succ_cons, List.drop_zero]
              repeat still_step
              refine wpStill_nil ?_
              change wpList _ _ _ _ _ w4.drew
              go_wp2_with (fail)
              go_roundw
              case rel => exact ⟨j + 1, p + 1, some ⟨g, 0, none⟩, c', by omega, by go_num, rfl, (show _ = _ by rw [Ht.out, Hsn.out, Iv.mstep_join _ _ _ hj2, List.length_append, Hp2.out]; rfl), (show World.ownsRow _ _ _ _ _ _ _ by rw [Ht.out, Hsn.out, Iv.mstep_join _ _ _ hj2, Hmx.out]; exact own_below (own_setY _ Hown4.out Hp2.out) (below_drewN (Below.refl _ _) 1)), below_drewN (HBx4.out.setCell (p := ⟨g, p * 2 + 1, none⟩) hbase _) 1⟩
              case measure => simp [intOf]; omega
            · go_quiet (fail)
              generalize hge : World.drewN _ _ = w4
              have H8b := Lib.hid (show Blk w4 I8 43 #[.int .i64 x, .int .i64 y] by subst hge; exact H8.out)
              have HBx4 := Lib.hid (show Below w2.heap.size w2 w4 by subst hge; exact below_drewN HBx3.out _)
              have Hown4 := Lib.hid (show w4.ownsRow w2.heap.size 43 2 (.slice (some ⟨g, 0, none⟩) (p + 1) c') (p + 1) (ivV (ys ++ [(zx, zy)])) by subst hge; exact own_drawn Hown3'.out ⟨_, rfl⟩)
              clear hge p0 p1 hz1 hz2 hfz
              have p0 := Blk.cellv H8b.out (i := 0) rfl
              have p1 := Blk.cellv H8b.out (i := 1) rfl
              go_wp2_with (
                (at_builtin
                 refine push2 rfl _ _ 37 rfl w2.heap.size 43 (.agg #[.int .i64 0, .int .i64 0]) 16 (by kernel_rfl) (by kernel_rfl) rfl (.slice (some ⟨g, 0, none⟩) (p + 1) c') (p + 1) (ivV (ys ++ [(zx, zy)])) (.int .i64 x) (.int .i64 y) Hown4.out rfl rfl rfl rfl (by unfold maxLen; omega) (by omega) HBx4.out.size ?_
                 intro v5 w5 hown5 hg5 _
                 have HBx5 := Lib.hid (below_grown HBx4.out hg5 HBx4.out.size (own_base Hown4.out))
                 obtain ⟨A5, c5, rfl, -, -, -⟩ := own_form hown5
                 have Hown5 := Lib.hid hown5
                 clear hown5 hg5))
              go_roundw
              case rel => exact ⟨j + 1, p + 1 + 1, A5, c5, by omega, by go_num, rfl, (show _ = _ by rw [Ht.out, Hsn.out, Iv.mstep_new _ _ _ hj2, List.length_append, List.length_append, Hp2.out]; rfl), (show World.ownsRow _ _ _ _ _ _ _ by rw [Ht.out, Hsn.out, Iv.mstep_new _ _ _ hj2, ivV_append]; exact Hown5.out), HBx5.out⟩
              case measure => simp [intOf]; omega
        · obtain rfl : j = k := by omega
          go_wp2_with (fail)
          go_ret2
          obtain ⟨A2, c2, hv, h1, h2, -⟩ := own_form hown.out
          cases hv
          have eq1 : s.take j = s := List.take_of_length_le (by rw [hsl.out]; omega)
          have hm' := hm.out
          have hown' := hown.out
          rw [eq1] at hm' hown'
          subst hm'
          exact .inl ⟨Hal.out, A', c', Iv.merge s, rfl, Iv.union_merge (fun a ha => List.all_eq_true.1 Hal.out a ha) Hp.out Hs.out, h1, h2, Cells.own hown', HB2.out.trans (hBx.out.mono HB2.out.size)⟩
end Go.Proofs.YtlijdbgknbeefaaDoor
