/- The walks of the reference's add and Union (intervals). -/
import Derived.StillTailTactics
import Derived.Test.YtlijdbgknbeefaaDoorIvJ
namespace Go.Proofs.YtlijdbgknbeefaaDoor
open Go.RowKit
theorem ado_take {l : List (Int × Int)} {k : Nat} {a i : Int × Int} (h : l[k]? = some a) : Iv.ado (l.take (k + 1)) i = Iv.astep (Iv.ado (l.take k) i) a := by rw [take_snoc h, Iv.ado_snoc]
theorem ado_zero (l : List (Int × Int)) (i : Int × Int) : Iv.ado (l.take 0) i = ⟨[], false, i⟩ := by simp [Iv.ado]
theorem grown_set1 (w : World) (b i : Nat) (v : Value) : w.grownBy (w.setCell ⟨b, i, none⟩ v) (some b) :=
  ⟨rfl, rfl, rfl, (KeepsWalks.setCell w _ v).size, fun k _ hk => Below.heap_setCell _ _ _ k (fun e => hk (by rw [e]))⟩
/-- Two cells of a block below a row's base are written: the row stays. -/
theorem own_off2 {w : World} {base : Nat} {e : TypeId} {size : Nat} {v : Value} {n : Nat} {xs : List Value} {b : Nat} (h : w.ownsRow base e size v n xs) (hb : b < base) (u1 u2 : Value) : ((w.setCell ⟨b, 0, none⟩ u1).setCell ⟨b, 1, none⟩ u2).ownsRow base e size v n xs :=
  (h.kept (grown_set1 w b 0 u1) (own_ne h hb)).kept (grown_set1 _ b 1 u2) (own_ne (h.kept (grown_set1 w b 0 u1) (own_ne h hb)) hb)
theorem astep_1 {out : List (Int × Int)} {dn : Bool} {p q x y : Int} (h : y + 1 < p) : Iv.astep ⟨out, dn, (p, q)⟩ (x, y) = ⟨out ++ [(x, y)], dn, (p, q)⟩ := by simp [Iv.astep, h]
theorem astep_2 {out : List (Int × Int)} {p q x y : Int} (h : ¬ y + 1 < p) (h2 : q + 1 < x) : Iv.astep ⟨out, true, (p, q)⟩ (x, y) = ⟨out ++ [(x, y)], true, (p, q)⟩ := by simp [Iv.astep, h, h2]
theorem astep_3 {out : List (Int × Int)} {p q x y : Int} (h : ¬ y + 1 < p) (h2 : q + 1 < x) : Iv.astep ⟨out, false, (p, q)⟩ (x, y) = ⟨out ++ [(p, q)] ++ [(x, y)], true, (p, q)⟩ := by simp [Iv.astep, h, h2]
theorem astep_4 {out : List (Int × Int)} {dn : Bool} {p q x y : Int} (h : ¬ y + 1 < p) (h2 : ¬ q + 1 < x) : Iv.astep ⟨out, dn, (p, q)⟩ (x, y) = ⟨out, dn, (min p x, max q y)⟩ := by simp [Iv.astep, h, h2]
set_option maxRecDepth 100000 in
set_option maxHeartbeats 8000000 in
/-- add onto a list of at most a million valid intervals. -/
theorem add_any (A : Option Addr) (n c : Nat) (l : List (Int × Int)) (ix iy : Int) (w : World) (hl : l.length = n) (hn : n ≤ 100000) (hC : IvC w A l) (hs : Iv.Sep l) (ho : ∀ a ∈ l, Iv.okI a = true) (hi : Iv.okI (ix, iy) = true) :
    Calls Tryd.prog 41 #[.slice A n c, .agg #[.int .i64 ix, .int .i64 iy]] w fun e w' => ∃ B d, e = .returned (.slice B (Iv.add l (ix, iy)).length d) ∧ (Iv.add l (ix, iy)).length ≤ d ∧ d ≤ maxLen ∧ IvC w' B (Iv.add l (ix, iy)) ∧ Below w.heap.size w w' := by
  have HC := Lib.hid hC
  have Hl := Lib.hid hl
  have Hs := Lib.hid hs
  have Ho := Lib.hid ho
  have Hi := Lib.hid hi
  clear hC hl hs ho hi
  go_enter Tryd.func41, Tryd.ntmps41
  go_wp2_with (fail)
  generalize hge : World.alloc _ _ = w1
  have H1 := Lib.hid (show Blk w1 w.heap.size 43 #[.int .i64 ix, .int .i64 iy] by subst hge; first | exact Blk.new w _ _ | exact (Blk.new w _ _).alloc _)
  have HB := Lib.hid (show Below w.heap.size w w1 by subst hge; first | exact (Below.refl _ _).alloc (Nat.le_refl _) _ | exact ((Below.refl _ _).alloc (Nat.le_refl _) _).alloc (by simp) _)
  have Hown := Lib.hid (show w1.ownsRow (w.heap.size + 1) 43 2 (.slice (some ⟨w.heap.size + 1, 0, none⟩) 0 0) 0 (ivV []) by
    subst hge
    have := World.ownsRow_lit (e := 43) (size := 2) (w.alloc (.cells #[.int .i64 ix, .int .i64 iy] 43)) #[] 0 (base := w.heap.size + 1) (by simp) (Nat.zero_le _) rfl
    simpa [ivV] using this)
  have hz1 : w.heap.size + 1 ≤ w1.heap.size := H1.out.lt
  clear hge
  go_loopw [5, 6, 7] (fun v dnv i wr => ∃ (k : Nat) (A' : Option Addr) (c' : Nat) (out : List (Int × Int)) (dn : Bool) (p q : Int), k ≤ n ∧ i = .int .i64 k ∧ dnv = .bool dn ∧ v = .slice A' out.length c' ∧ Hid (Iv.ado (l.take k) (ix, iy) = ⟨out, dn, (p, q)⟩) ∧ Hid (wr.ownsRow (w.heap.size + 1) 43 2 (.slice A' out.length c') out.length (ivV out)) ∧ Hid (Blk wr w.heap.size 43 #[.int .i64 p, .int .i64 q]) ∧ w.heap.size + 1 ≤ wr.heap.size ∧ Hid (Below w.heap.size w wr)) (fun _ _ i _ => n - (intOf i).toNat)
  case atStart => exact ⟨0, some ⟨w.heap.size + 1, 0, none⟩, 0, [], false, ix, iy, by omega, rfl, rfl, rfl, ado_zero l _, Hown.out, H1.out, hz1, HB.out⟩
  case round =>
    obtain ⟨k, A', c', out, dn, p, q, hk, rfl, rfl, rfl, hst, hown, hI, hz, hB⟩ := hrel
    have hadd := Iv.added_take Hs.out Ho.out Hi.out k (by rw [Hl.out]; exact hk)
    rw [hst.out] at hadd
    have hpq := hadd.oki
    have hlo := hadd.len
    have hle : out.length ≤ 100001 := by
      have : (l.take k).length ≤ k := List.length_take_le _ _
      simp only [] at hlo
      split at hlo <;> omega
    obtain ⟨o1, o2, o3, o4, o5⟩ := (Iv.okI_iff _).1 hpq
    simp only [] at o1 o2 o3 o4 o5
    clear hadd hpq hlo
    obtain ⟨m, hm⟩ : ∃ m, out.length = m := ⟨_, rfl⟩
    have Hm := Lib.hid hm
    rw [hm] at hown hle ⊢
    clear hm
    by_cases hlt : k < n
    · obtain ⟨⟨x, y⟩, hx⟩ := getElem?_lt (l := l) (k := k) (by rw [Hl.out]; exact hlt)
      obtain ⟨b, off, rfl, hb, hcs⟩ := HC.out.at_ (by rw [Hl.out]; omega)
      have hc1 := (hB.out.cell (p := ⟨b, off + k * 2, none⟩) hb).trans (hcs k _ hx).1
      have hc2 := (hB.out.cell (p := ⟨b, off + k * 2 + 1, none⟩) hb).trans (hcs k _ hx).2
      obtain ⟨x1, x2, x3, x4, x5⟩ := (Iv.okI_iff _).1 (Ho.out _ (List.mem_of_getElem? hx))
      simp only [] at x1 x2 x3 x4 x5
      have Hcw1 := Lib.hid (hcs k _ hx).1
      have Hcw2 := Lib.hid (hcs k _ hx).2
      have Hst := Lib.hid (show Iv.ado (l.take (k + 1)) (ix, iy) = Iv.astep ⟨out, dn, (p, q)⟩ (x, y) by rw [ado_take hx, hst.out])
      have q0 := Blk.cellv hI.out (i := 0) rfl
      have q1 := Blk.cellv hI.out (i := 1) rfl
      clear hx hcs
      have s1 : IntKind.i64.wrap (y + 1) = y + 1 := IntWalk.i64_in _ (by omega)
      have s2 : IntKind.i64.wrap (q + 1) = q + 1 := IntWalk.i64_in _ (by omega)
      by_cases h1 : y + 1 < p
      · have h1b : decide (y + 1 < p) = true := by simpa using h1
        go_wp2_with (fail)
        go_quiet (fail)
        generalize hge : World.drewN _ _ = wa
        have HIwa := Lib.hid (show Blk wa w.heap.size 43 #[.int .i64 p, .int .i64 q] by subst hge; exact hI.out)
        have HOwa := Lib.hid (show wa.ownsRow (w.heap.size + 1) 43 2 (.slice A' m c') m (ivV out) by subst hge; exact own_drawn hown.out ⟨_, rfl⟩)
        have HBwa := Lib.hid (show Below w.heap.size w wa by subst hge; exact below_drewN hB.out _)
        have hzwa : w.heap.size + 1 ≤ wa.heap.size := by subst hge; exact hz
        have hc1' : wa.cell? ⟨b, off + k * 2, none⟩ = some (.int .i64 x) := by subst hge; exact hc1
        have hc2' : wa.cell? ⟨b, off + k * 2 + 1, none⟩ = some (.int .i64 y) := by subst hge; exact hc2
        clear hge q0 q1 hc1 hc2
        have hc1 := hc1'
        have hc2 := hc2'
        clear hc1' hc2'
        have q0 := Blk.cellv HIwa.out (i := 0) rfl
        have q1 := Blk.cellv HIwa.out (i := 1) rfl
        go_wp2_with (
          (at_builtin
           refine push2 rfl _ _ 37 rfl (w.heap.size + 1) 43 (.agg #[.int .i64 0, .int .i64 0]) 16 (by kernel_rfl) (by kernel_rfl) rfl (.slice A' m c') m (ivV out) (.int .i64 x) (.int .i64 y) HOwa.out rfl rfl rfl rfl (by unfold maxLen; omega) (by omega) hzwa ?_
           intro v5 w5 hown5 hg5 _
           have HI5 := Lib.hid (HIwa.out.grown hg5 (fun e => absurd (own_base HOwa.out _ e.symm) (by omega)))
           have HB5 := Lib.hid (below_grown HBwa.out hg5 HBwa.out.size (fun k hk => Nat.le_trans (Nat.le_succ _) (own_base HOwa.out k hk)))
           have hz5 : w.heap.size + 1 ≤ w5.heap.size := Nat.le_trans hzwa hg5.size
           obtain ⟨A5, c5, rfl, -, -, -⟩ := own_form hown5
           have Hown5 := Lib.hid hown5
           clear hown5 hg5)
        )
        go_roundw
        case rel => exact ⟨k + 1, A5, c5, out ++ [(x, y)], dn, p, q, by omega, by go_num, rfl, (by rw [List.length_append, Hm.out]; rfl), (show _ = _ by rw [Hst.out, astep_1 (by omega)]), (show World.ownsRow _ _ _ _ _ _ _ by rw [List.length_append, Hm.out, ivV_append]; exact Hown5.out), HI5.out, hz5, HB5.out⟩
        case measure => simp [intOf]; omega
      · have h1b : decide (y + 1 < p) = false := by simpa using h1
        by_cases h2 : q + 1 < x
        · have h2b : decide (q + 1 < x) = true := by simpa using h2
          cases dn
          · skip
            go_wp2_with (fail)
            go_quiet (fail)
            generalize hge : World.drewN _ _ = wa
            have HIwa := Lib.hid (show Blk wa w.heap.size 43 #[.int .i64 p, .int .i64 q] by subst hge; exact hI.out)
            have HOwa := Lib.hid (show wa.ownsRow (w.heap.size + 1) 43 2 (.slice A' m c') m (ivV out) by subst hge; exact own_drawn hown.out ⟨_, rfl⟩)
            have HBwa := Lib.hid (show Below w.heap.size w wa by subst hge; exact below_drewN hB.out _)
            have hzwa : w.heap.size + 1 ≤ wa.heap.size := by subst hge; exact hz
            have hc1' : wa.cell? ⟨b, off + k * 2, none⟩ = some (.int .i64 x) := by subst hge; exact hc1
            have hc2' : wa.cell? ⟨b, off + k * 2 + 1, none⟩ = some (.int .i64 y) := by subst hge; exact hc2
            clear hge q0 q1 hc1 hc2
            have hc1 := hc1'
            have hc2 := hc2'
            clear hc1' hc2'
            have q0 := Blk.cellv HIwa.out (i := 0) rfl
            have q1 := Blk.cellv HIwa.out (i := 1) rfl
            go_wp2_with (fail)
            go_quiet (fail)
            generalize hge : World.drewN _ _ = wb
            have HIwb := Lib.hid (show Blk wb w.heap.size 43 #[.int .i64 p, .int .i64 q] by subst hge; exact HIwa.out)
            have HOwb := Lib.hid (show wb.ownsRow (w.heap.size + 1) 43 2 (.slice A' m c') m (ivV out) by subst hge; exact own_drawn HOwa.out ⟨_, rfl⟩)
            have HBwb := Lib.hid (show Below w.heap.size w wb by subst hge; exact below_drewN HBwa.out _)
            have hzwb : w.heap.size + 1 ≤ wb.heap.size := by subst hge; exact hzwa
            have hc1' : wb.cell? ⟨b, off + k * 2, none⟩ = some (.int .i64 x) := by subst hge; exact hc1
            have hc2' : wb.cell? ⟨b, off + k * 2 + 1, none⟩ = some (.int .i64 y) := by subst hge; exact hc2
            clear hge q0 q1 hc1 hc2
            have hc1 := hc1'
            have hc2 := hc2'
            clear hc1' hc2'
            have q0 := Blk.cellv HIwb.out (i := 0) rfl
            have q1 := Blk.cellv HIwb.out (i := 1) rfl
            go_upto_region 13 with (
              (at_builtin
               refine push2 rfl _ _ 37 rfl (w.heap.size + 1) 43 (.agg #[.int .i64 0, .int .i64 0]) 16 (by kernel_rfl) (by kernel_rfl) rfl (.slice A' m c') m (ivV out) (.int .i64 p) (.int .i64 q) HOwb.out rfl rfl rfl rfl (by unfold maxLen; omega) (by omega) hzwb ?_
               intro v4 w4 hown4 hg4 _
               have HI4 := Lib.hid (HIwb.out.grown hg4 (fun e => absurd (own_base HOwb.out _ e.symm) (by omega)))
               have HB4 := Lib.hid (below_grown HBwb.out hg4 HBwb.out.size (fun k hk => Nat.le_trans (Nat.le_succ _) (own_base HOwb.out k hk)))
               have hz4 : w.heap.size + 1 ≤ w4.heap.size := Nat.le_trans hzwb hg4.size
               obtain ⟨A4, c4, rfl, -, -, -⟩ := own_form hown4
               have Hown4 := Lib.hid hown4
               clear hown4 hg4)
            )
            have hd1 : w4.cell? ⟨b, off + k * 2, none⟩ = some (.int .i64 x) := (HB4.out.cell (p := ⟨b, off + k * 2, none⟩) hb).trans Hcw1.out
            have hd2 : w4.cell? ⟨b, off + k * 2 + 1, none⟩ = some (.int .i64 y) := (HB4.out.cell (p := ⟨b, off + k * 2 + 1, none⟩) hb).trans Hcw2.out
            clear hc1 hc2 q0 q1
            go_wp2_with (
              (at_builtin
               refine push2 rfl _ _ 37 rfl (w.heap.size + 1) 43 (.agg #[.int .i64 0, .int .i64 0]) 16 (by kernel_rfl) (by kernel_rfl) rfl (.slice A4 (m + 1) c4) (m + 1) (ivV out ++ [.int .i64 p, .int .i64 q]) (.int .i64 x) (.int .i64 y) Hown4.out rfl rfl rfl rfl (by unfold maxLen; omega) (by omega) hz4 ?_
               intro v5 w5 hown5 hg5 _
               have HI5 := Lib.hid (HI4.out.grown hg5 (fun e => absurd (own_base Hown4.out _ e.symm) (by omega)))
               have HB5 := Lib.hid (below_grown HB4.out hg5 HB4.out.size (fun k hk => Nat.le_trans (Nat.le_succ _) (own_base Hown4.out k hk)))
               have hz5 : w.heap.size + 1 ≤ w5.heap.size := Nat.le_trans hz4 hg5.size
               obtain ⟨A5, c5, rfl, -, -, -⟩ := own_form hown5
               have Hown5 := Lib.hid hown5
               clear hown5 hg5)
            )
            go_roundw
            case rel => exact ⟨k + 1, A5, c5, out ++ [(p, q)] ++ [(x, y)], true, p, q, by omega, by go_num, rfl, (by rw [List.length_append, List.length_append, Hm.out]; rfl), (show _ = _ by rw [Hst.out, astep_3 (by omega) (by omega)]), (show World.ownsRow _ _ _ _ _ _ _ by rw [List.length_append, List.length_append, Hm.out, ivV_append, ivV_append]; exact Hown5.out), HI5.out, hz5, HB5.out⟩
            case measure => simp [intOf]; omega
          · skip
            go_wp2_with (fail)
            go_quiet (fail)
            generalize hge : World.drewN _ _ = wa
            have HIwa := Lib.hid (show Blk wa w.heap.size 43 #[.int .i64 p, .int .i64 q] by subst hge; exact hI.out)
            have HOwa := Lib.hid (show wa.ownsRow (w.heap.size + 1) 43 2 (.slice A' m c') m (ivV out) by subst hge; exact own_drawn hown.out ⟨_, rfl⟩)
            have HBwa := Lib.hid (show Below w.heap.size w wa by subst hge; exact below_drewN hB.out _)
            have hzwa : w.heap.size + 1 ≤ wa.heap.size := by subst hge; exact hz
            have hc1' : wa.cell? ⟨b, off + k * 2, none⟩ = some (.int .i64 x) := by subst hge; exact hc1
            have hc2' : wa.cell? ⟨b, off + k * 2 + 1, none⟩ = some (.int .i64 y) := by subst hge; exact hc2
            clear hge q0 q1 hc1 hc2
            have hc1 := hc1'
            have hc2 := hc2'
            clear hc1' hc2'
            have q0 := Blk.cellv HIwa.out (i := 0) rfl
            have q1 := Blk.cellv HIwa.out (i := 1) rfl
            go_wp2_with (fail)
            go_quiet (fail)
            generalize hge : World.drewN _ _ = wb
            have HIwb := Lib.hid (show Blk wb w.heap.size 43 #[.int .i64 p, .int .i64 q] by subst hge; exact HIwa.out)
            have HOwb := Lib.hid (show wb.ownsRow (w.heap.size + 1) 43 2 (.slice A' m c') m (ivV out) by subst hge; exact own_drawn HOwa.out ⟨_, rfl⟩)
            have HBwb := Lib.hid (show Below w.heap.size w wb by subst hge; exact below_drewN HBwa.out _)
            have hzwb : w.heap.size + 1 ≤ wb.heap.size := by subst hge; exact hzwa
            have hc1' : wb.cell? ⟨b, off + k * 2, none⟩ = some (.int .i64 x) := by subst hge; exact hc1
            have hc2' : wb.cell? ⟨b, off + k * 2 + 1, none⟩ = some (.int .i64 y) := by subst hge; exact hc2
            clear hge q0 q1 hc1 hc2
            have hc1 := hc1'
            have hc2 := hc2'
            clear hc1' hc2'
            have q0 := Blk.cellv HIwb.out (i := 0) rfl
            have q1 := Blk.cellv HIwb.out (i := 1) rfl
            go_wp2_with (
              (at_builtin
               refine push2 rfl _ _ 37 rfl (w.heap.size + 1) 43 (.agg #[.int .i64 0, .int .i64 0]) 16 (by kernel_rfl) (by kernel_rfl) rfl (.slice A' m c') m (ivV out) (.int .i64 x) (.int .i64 y) HOwb.out rfl rfl rfl rfl (by unfold maxLen; omega) (by omega) hzwb ?_
               intro v5 w5 hown5 hg5 _
               have HI5 := Lib.hid (HIwb.out.grown hg5 (fun e => absurd (own_base HOwb.out _ e.symm) (by omega)))
               have HB5 := Lib.hid (below_grown HBwb.out hg5 HBwb.out.size (fun k hk => Nat.le_trans (Nat.le_succ _) (own_base HOwb.out k hk)))
               have hz5 : w.heap.size + 1 ≤ w5.heap.size := Nat.le_trans hzwb hg5.size
               obtain ⟨A5, c5, rfl, -, -, -⟩ := own_form hown5
               have Hown5 := Lib.hid hown5
               clear hown5 hg5)
            )
            go_roundw
            case rel => exact ⟨k + 1, A5, c5, out ++ [(x, y)], true, p, q, by omega, by go_num, rfl, (by rw [List.length_append, Hm.out]; rfl), (show _ = _ by rw [Hst.out, astep_2 (by omega) (by omega)]), (show World.ownsRow _ _ _ _ _ _ _ by rw [List.length_append, Hm.out, ivV_append]; exact Hown5.out), HI5.out, hz5, HB5.out⟩
            case measure => simp [intOf]; omega
        · have h2b : decide (q + 1 < x) = false := by simpa using h2
          go_wp2_with (fail)
          go_quiet (fail)
          generalize hge : World.drewN _ _ = wa
          have HIwa := Lib.hid (show Blk wa w.heap.size 43 #[.int .i64 p, .int .i64 q] by subst hge; exact hI.out)
          have HOwa := Lib.hid (show wa.ownsRow (w.heap.size + 1) 43 2 (.slice A' m c') m (ivV out) by subst hge; exact own_drawn hown.out ⟨_, rfl⟩)
          have HBwa := Lib.hid (show Below w.heap.size w wa by subst hge; exact below_drewN hB.out _)
          have hzwa : w.heap.size + 1 ≤ wa.heap.size := by subst hge; exact hz
          have hc1' : wa.cell? ⟨b, off + k * 2, none⟩ = some (.int .i64 x) := by subst hge; exact hc1
          have hc2' : wa.cell? ⟨b, off + k * 2 + 1, none⟩ = some (.int .i64 y) := by subst hge; exact hc2
          clear hge q0 q1 hc1 hc2
          have hc1 := hc1'
          have hc2 := hc2'
          clear hc1' hc2'
          have q0 := Blk.cellv HIwa.out (i := 0) rfl
          have q1 := Blk.cellv HIwa.out (i := 1) rfl
          go_wp2_with (fail)
          go_quiet (fail)
          generalize hge : World.drewN _ _ = wb
          have HIwb := Lib.hid (show Blk wb w.heap.size 43 #[.int .i64 p, .int .i64 q] by subst hge; exact HIwa.out)
          have HOwb := Lib.hid (show wb.ownsRow (w.heap.size + 1) 43 2 (.slice A' m c') m (ivV out) by subst hge; exact own_drawn HOwa.out ⟨_, rfl⟩)
          have HBwb := Lib.hid (show Below w.heap.size w wb by subst hge; exact below_drewN HBwa.out _)
          have hzwb : w.heap.size + 1 ≤ wb.heap.size := by subst hge; exact hzwa
          have hc1' : wb.cell? ⟨b, off + k * 2, none⟩ = some (.int .i64 x) := by subst hge; exact hc1
          have hc2' : wb.cell? ⟨b, off + k * 2 + 1, none⟩ = some (.int .i64 y) := by subst hge; exact hc2
          clear hge q0 q1 hc1 hc2
          have hc1 := hc1'
          have hc2 := hc2'
          clear hc1' hc2'
          have q0 := Blk.cellv HIwb.out (i := 0) rfl
          have q1 := Blk.cellv HIwb.out (i := 1) rfl
          have f0 := HIwb.out.frozen 0
          have f1 := HIwb.out.frozen 1
          go_wp2_with (fail)
          refine wp_region_still_tail 17 (by kernel_rfl) (by kernel_rfl) ?_
          simp only [List.take_succ_cons, List.take_zero, List.drop_succ_cons, List.drop_zero]
          repeat still_step
          refine wpStill_nil ?_
          change wpList _ _ _ _ _ wb.drew
          go_wp2_with (fail)
          go_roundw
          case rel => exact ⟨k + 1, A', c', out, dn, min p x, max q y, by omega, by go_num, rfl, by rw [Hm.out], (show _ = _ by rw [Hst.out, astep_4 (by omega) (by omega)]), (show World.ownsRow _ _ _ _ _ _ _ by rw [Hm.out]; exact own_below (own_off2 HOwb.out (Nat.lt_succ_self _) _ _) (below_drewN (Below.refl _ _) 1)), ((HIwb.out.set_ 0 _).set_ 1 _).drewN 1, (by simpa using hzwb), below_drewN ((HBwb.out.setCell (p := ⟨w.heap.size, 0, none⟩) (Nat.le_refl _) _).setCell (p := ⟨w.heap.size, 1, none⟩) (Nat.le_refl _) _) 1⟩
          case measure => simp [intOf]; omega
    · obtain rfl : k = n := by omega
      have eq1 : l.take k = l := List.take_of_length_le (by rw [Hl.out]; omega)
      have Hfin := Lib.hid (show Iv.add l (ix, iy) = Iv.fin ⟨out, dn, (p, q)⟩ by have := hst.out; rw [eq1] at this; unfold Iv.add; rw [this])
      have q0 := Blk.cellv hI.out (i := 0) rfl
      have q1 := Blk.cellv hI.out (i := 1) rfl
      cases dn
      · skip
        go_wp2_with (
          (at_builtin
           refine push2 rfl _ _ 37 rfl (w.heap.size + 1) 43 (.agg #[.int .i64 0, .int .i64 0]) 16 (by kernel_rfl) (by kernel_rfl) rfl (.slice A' m c') m (ivV out) (.int .i64 p) (.int .i64 q) hown.out rfl rfl rfl rfl (by unfold maxLen; omega) (by omega) hz ?_
           intro v5 w5 hown5 hg5 _
           have HI5 := Lib.hid (hI.out.grown hg5 (fun e => absurd (own_base hown.out _ e.symm) (by omega)))
           have HB5 := Lib.hid (below_grown hB.out hg5 hB.out.size (fun k hk => Nat.le_trans (Nat.le_succ _) (own_base hown.out k hk)))
           have hz5 : w.heap.size + 1 ≤ w5.heap.size := Nat.le_trans hz hg5.size
           obtain ⟨A5, c5, rfl, -, -, -⟩ := own_form hown5
           have Hown5 := Lib.hid hown5
           clear hown5 hg5)
        )
        go_ret
        obtain ⟨A2, c2, hv, d1, d2, -⟩ := own_form Hown5.out
        cases hv
        have e : Iv.add l (ix, iy) = out ++ [(p, q)] := by rw [Hfin.out]; rfl
        rw [e, List.length_append, Hm.out]
        exact ⟨A5, c5, rfl, d1, d2, (show Cells _ _ _ by rw [ivV_append]; exact Cells.own Hown5.out), HB5.out⟩
      · obtain ⟨A2, c2, hv, d1, d2, -⟩ := own_form hown.out
        cases hv
        go_wp2_with (fail)
        go_ret
        have e := Hfin.out
        simp only [Iv.fin, if_true] at e
        rw [e]
        exact ⟨A', c', by rw [Hm.out]; rfl, by rw [Hm.out]; exact d1, d2, Cells.own hown.out, hB.out⟩
theorem unionR_ok {l : List (Int × Int)} (h : allI l = true) : Iv.Sep (Iv.unionR l) ∧ (∀ a ∈ Iv.unionR l, Iv.okI a = true) ∧ (Iv.unionR l).length ≤ l.length := by
  have := Iv.unionR_take (l := l) (fun a ha => List.all_eq_true.1 h a ha) l.length (Nat.le_refl _)
  rw [List.take_length] at this
  exact ⟨this.1, this.2.2.1, this.2.2.2⟩
theorem rCheck_of (x y : Int) (W : World) (b : Bool) (h : Iv.okI (x, y) = b) :
    Calls Tryd.prog 27 #[.agg #[.int .i64 x, .int .i64 y]] W fun e w' => e = .returned (.int .i64 (if b then 0 else 10)) ∧ w' = W.alloc (.cells #[.int .i64 x, .int .i64 y] 43) := by
  have := rCheck_any x y W
  unfold chkE at this
  rwa [h] at this
set_option maxRecDepth 100000 in
set_option maxHeartbeats 4000000 in
theorem rUnion_any (A : Option Addr) (n c : Nat) (l : List (Int × Int)) (w : World) (hl : l.length = n) (hn : n ≤ 100000) (hC : IvC w A l) :
    Calls Tryd.prog 26 #[.slice A n c] w (UnionPost l w) := by
  have HC := Lib.hid hC
  have Hl := Lib.hid hl
  clear hC hl
  go_enter Tryd.func26, Tryd.ntmps26
  go_wp2_with (fail)
  generalize hge : World.alloc _ _ = w1
  have HB := Lib.hid (show Below w.heap.size w w1 by subst hge; exact (Below.refl _ _).alloc (Nat.le_refl _) _)
  clear hge
  go_loopw [4, 5] (fun v i wr => ∃ (k m : Nat) (A' : Option Addr) (c' : Nat), k ≤ n ∧ m ≤ k ∧ i = .int .i64 k ∧ v = .slice A' m c' ∧ m ≤ c' ∧ c' ≤ maxLen ∧ Hid (m = (Iv.unionR (l.take k)).length) ∧ Hid (allI (l.take k) = true) ∧ Hid (IvC wr A' (Iv.unionR (l.take k))) ∧ Hid (Below w.heap.size w wr)) (fun _ i _ => n - (intOf i).toNat)
  case atStart => exact ⟨0, 0, some ⟨w.heap.size, 0, none⟩, 0, by omega, by omega, rfl, rfl, by omega, Nat.zero_le _, (show 0 = _ by simp [Iv.unionR]), (show allI _ = true by simp [allI]), (show IvC _ _ _ by simpa [Iv.unionR] using IvC.nil_ _ _), HB.out⟩
  case round =>
    obtain ⟨k, m, A', c', hk, hmk, rfl, rfl, hc', hcm', hm, hal, hC', hB⟩ := hrel
    by_cases hlt : k < n
    · obtain ⟨⟨x, y⟩, hx⟩ := getElem?_lt (l := l) (k := k) (by rw [Hl.out]; exact hlt)
      obtain ⟨b, off, rfl, hb, hcs⟩ := HC.out.at_ (by rw [Hl.out]; omega)
      have hc1 := (hB.out.cell (p := ⟨b, off + k * 2, none⟩) hb).trans (hcs k _ hx).1
      have hc2 := (hB.out.cell (p := ⟨b, off + k * 2 + 1, none⟩) hb).trans (hcs k _ hx).2
      have Hx := Lib.hid hx
      have Hsn := Lib.hid (take_snoc hx)
      clear hx hcs
      cases hv : Iv.okI (x, y) with
      | true =>
        have Hv := Lib.hid hv
        have hK := Lib.hid (fun W => rCheck_of x y W true hv)
        have Hal := Lib.hid (allI_take hal.out Hx.out hv)
        have hu := unionR_ok hal.out
        have HA := Lib.hid (fun W (h : IvC W A' (Iv.unionR (l.take k))) => add_any A' m c' (Iv.unionR (l.take k)) x y W hm.out.symm (by omega) h hu.1 hu.2.1 hv)
        have hu2 := (unionR_ok Hal.out).2.2
        rw [Hsn.out, Iv.unionR_snoc, ← Hsn.out] at hu2
        have hlen : (l.take (k + 1)).length ≤ k + 1 := List.length_take_le _ _
        have Hu := Lib.hid (show Iv.unionR (l.take (k + 1)) = Iv.add (Iv.unionR (l.take k)) (x, y) by rw [Hsn.out, Iv.unionR_snoc])
        obtain ⟨u', hu'⟩ : ∃ u', Iv.add (Iv.unionR (l.take k)) (x, y) = u' := ⟨_, rfl⟩
        rw [hu'] at HA hu2 Hu
        have hl2 : u'.length ≤ k + 1 := Nat.le_trans hu2 hlen
        clear hu hu2 hlen hu' hv
        go_wp2_with (fail)
        refine (hK.out wr).mono ?_
        rintro e w2 ⟨rfl, rfl⟩
        have hd1 : (wr.alloc (.cells #[.int .i64 x, .int .i64 y] 43)).cell? ⟨b, off + k * 2, none⟩ = some (.int .i64 x) := Lib.cell?_alloc_some _ hc1
        have hd2 : (wr.alloc (.cells #[.int .i64 x, .int .i64 y] 43)).cell? ⟨b, off + k * 2 + 1, none⟩ = some (.int .i64 y) := Lib.cell?_alloc_some _ hc2
        have hba : Below wr.heap.size wr (wr.alloc (.cells #[.int .i64 x, .int .i64 y] 43)) := (Below.refl _ _).alloc (Nat.le_refl _) _
        have HBa := Lib.hid (below_of hB.out hba hB.out.size)
        have HCa := Lib.hid (hC'.out.below hba)
        obtain ⟨w2, hw2⟩ : ∃ w2, wr.alloc (.cells #[.int .i64 x, .int .i64 y] 43) = w2 := ⟨_, rfl⟩
        rw [hw2] at hd1 hd2 HBa HCa ⊢
        clear hw2 hba hc1 hc2
        go_wp2_with (fail)
        refine (HA.out w2 HCa.out).mono ?_
        rintro e w3 ⟨B, d, rfl, hd3, hd4, hC3, hb3⟩
        have HC3 := Lib.hid hC3
        have HB3 := Lib.hid (below_of HBa.out hb3 HBa.out.size)
        clear hC3 hb3 hd1 hd2
        obtain ⟨m3, hm3⟩ : ∃ m3, u'.length = m3 := ⟨_, rfl⟩
        have Hm3 := Lib.hid hm3
        rw [hm3] at hd3 hl2 ⊢
        clear hm3
        go_wp2_with (fail)
        go_roundw
        case rel => exact ⟨k + 1, m3, B, d, by omega, hl2, by go_num, rfl, hd3, hd4, (show _ = _ by rw [Hu.out, Hm3.out]), Hal.out, (show IvC _ _ _ by rw [Hu.out]; exact HC3.out), HB3.out⟩
        case measure => simp [intOf]; omega
      | false =>
        have Hv := Lib.hid hv
        have hK := Lib.hid (fun W => rCheck_of x y W false hv)
        clear hv
        go_wp2_with (fail)
        refine (hK.out wr).mono ?_
        rintro e w2 ⟨rfl, rfl⟩
        go_wp2_with (fail)
        go_ret2
        exact .inr ⟨allI_false Hx.out Hv.out, rfl, hB.out.alloc hB.out.size _⟩
    · obtain rfl : k = n := by omega
      have eq1 : l.take k = l := List.take_of_length_le (by rw [Hl.out]; omega)
      have Hal := Lib.hid (show allI l = true by have := hal.out; rwa [eq1] at this)
      have Hm := Lib.hid (show m = (Iv.unionR l).length by have := hm.out; rwa [eq1] at this)
      have HCu := Lib.hid (show IvC wr A' (Iv.unionR l) by have := hC'.out; rwa [eq1] at this)
      clear eq1
      go_wp2_with (fail)
      go_ret2
      have e := Hm.out
      subst e
      exact .inl ⟨Hal.out, A', c', Iv.unionR l, rfl, Iv.union_ref (fun a ha => List.all_eq_true.1 Hal.out a ha), hc', hcm', HCu.out, hB.out⟩
end Go.Proofs.YtlijdbgknbeefaaDoor