/- Walks and plain laws that the statement rests on: ShaU, Blk, Ref1, Ref2, Ref3. -/
import Derived.Deep.MidRow
import Derived.Deep.RegionHeld
import Derived.StillTailTactics
import Derived.Test.YtkflpoiobpblhaaP00
import Derived.Test.YtkflpoiobpblhaaP05
namespace Go.Proofs.Ytkflpoiobpblhaa
open Go.RowKit
theorem setRow_id {w : World} {g : Nat} {t : TypeId} {cs : Array Value} (h : Blk w g t cs) : w.setRow g cs = w := by
  unfold Blk at h
  have e : (w.setRow g cs).heap = w.heap := by
    unfold World.setRow
    apply Array.ext_getElem?
    intro i
    rw [Array.getElem?_modify]
    by_cases hi : g = i
    · subst hi; simp [h]
    · simp [hi]
  show World.mk (w.setRow g cs).heap _ _ _ _ = w
  rw [e]
theorem rangeAt_blk {w : World} {g : Nat} {t : TypeId} {cs : List Value} (h : Blk w g t cs.toArray) : w.rangeAt g 0 cs := fun j v hv => by
  rw [Nat.zero_add, h.cell j]
  simpa using hv
theorem rangeAt_arr {w : World} {g : Nat} {t : TypeId} {q : IntKind} {l : List Nat} (h : Blk w g t (arrK q l)) : w.rangeAt g 0 (l.map fun (n : Nat) => Value.int q (n : Int)) := rangeAt_blk h
section
variable {P : Program} {w : World} {ops : Array Oper} {rest : List Oper} {o : Oper} {a : Act} {Q : Exit → Act → World → Prop} {K : Act → World → Prop}
theorem step_load_blk {E : Prop} (hgd : o.guard = none) (ty : TypeId) (x : Operand) (ho : o.op = .load ty x) (g : Nat) (hx : a.eval x = .pointer (some ⟨g, 0, none⟩)) (t : TypeId) (cs : Array Value) (d : TypeDesc) (hg : Blk w g t cs)
    (hu : P.underlying ty = some d) (hd : (match d with | .struct _ | .array _ _ => true | _ => false) = true) (hi : (P.info? ty).map (·.size) = some cs.size)
    (h : K (a.put o.dst (.agg cs)) w) : if Region.wanted o (yielded ops a.tmps) = true then Oper.wp P o a w K Q else E := by
  have hw : Region.wanted o (yielded ops a.tmps) = true := by simp [Region.wanted, hgd]
  rw [if_pos hw]
  exact wp_load_row ty x ho g hx t cs (0, 0) d hg hu hd hi h
theorem step_store_same {E : Prop} (hgd : o.guard = none) (ty : TypeId) (x y : Operand) (ho : o.op = .store ty x y) (g : Nat) (hx : a.eval x = .pointer (some ⟨g, 0, none⟩)) (t : TypeId) (cs : Array Value) (hy : a.eval y = .agg cs) (hg : Blk w g t cs)
    (hi : (P.info? ty).map (·.size) = some cs.size) (h1 : cs.all (·.oneCell') = true)
    (h : K (a.put o.dst undef) w) : if Region.wanted o (yielded ops a.tmps) = true then Oper.wp P o a w K Q else E := by
  have hw : Region.wanted o (yielded ops a.tmps) = true := by simp [Region.wanted, hgd]
  rw [if_pos hw]
  exact wp_store_row ty x y ho g cs hx hy t cs hg hi rfl h1 (by rw [setRow_id hg]; exact h)
end
theorem arrK_all (q : IntKind) (l : List Nat) : (arrK q l).all (·.oneCell') = true := by
  simp [arrK, Value.oneCell']
theorem Blk.setRow_same {w : World} {g : Nat} {t : TypeId} {cs cs' : Array Value} (h : Blk w g t cs) : Blk (w.setRow g cs') g t cs' := by
  unfold Blk at h ⊢
  simp [World.setRow, Array.getElem?_modify, h]
set_option linter.unusedSimpArgs false in
set_option maxRecDepth 100000 in
set_option maxHeartbeats 4000000 in
theorem tables_any (w : World) :
    Calls Try.prog 81 #[] w fun e w' =>
      e = .returned (.tuple #[.agg (arrK .i64 placeL), .agg (arrK .i64 turnL), .agg (arrK .u64 constL)]) ∧ Below w.heap.size w w' := by
  go_enter Try.func81, Try.ntmps81
  go_wp2_with (fail)
  generalize hge : World.alloc _ _ = w1
  have HP := Lib.hid (show Blk w1 w.heap.size 137 (arrK .i64 (List.replicate 25 0)) by subst hge; exact ((Blk.new w 137 (arrK .i64 (List.replicate 25 0))).alloc _).alloc _)
  have HT := Lib.hid (show Blk w1 (w.heap.size + 1) 137 (arrK .i64 (List.replicate 25 0)) by
    subst hge
    have := (Blk.new (w.alloc (.cells (arrK .i64 (List.replicate 25 0)) 137)) 137 (arrK .i64 (List.replicate 25 0))).alloc (.cells (arrK .u64 (List.replicate 24 0)) 138)
    rw [World.size_alloc] at this; exact this)
  have HK := Lib.hid (show Blk w1 (w.heap.size + 1 + 1) 138 (arrK .u64 (List.replicate 24 0)) by
    subst hge
    have := Blk.new ((w.alloc (.cells (arrK .i64 (List.replicate 25 0)) 137)).alloc (.cells (arrK .i64 (List.replicate 25 0)) 137)) 138 (arrK .u64 (List.replicate 24 0))
    rw [World.size_alloc, World.size_alloc] at this; exact this)
  have hB : Below w.heap.size w w1 := by subst hge; exact (((Below.refl _ _).alloc (Nat.le_refl _) _).alloc (by simp) _).alloc (by simp; omega) _
  clear hge
  go_loopw [3, 4, 12] (fun x y i wr => ∃ k : Nat, k ≤ 24 ∧ i = .int .i64 k ∧ x = .int .i64 (tAcc k).1 ∧ y = .int .i64 (tAcc k).2.1 ∧ Hid (Blk wr (w.heap.size + 1) 137 (arrK .i64 (tAcc k).2.2)) ∧ w1.grownBy wr (some (w.heap.size + 1))) (fun _ _ i _ => 24 - (intOf i).toNat)
  case atStart => exact ⟨0, by omega, rfl, by rw [tAcc_zero]; rfl, by rw [tAcc_zero]; rfl, by show Blk _ _ _ _; rw [tAcc_zero]; exact HT.out, World.grownBy.refl _ _⟩
  case round =>
    obtain ⟨k, hk, rfl, rfl, rfl, Ht, hg⟩ := hrel
    obtain ⟨hx, hy, hl⟩ := tAcc_small k hk
    by_cases hlk : k < 24
    · have hdk : decide ((k : Int) < 24) = true := by simp; omega
      have e : tAcc (k + 1) = tStep (tAcc k) k := tAcc_succ k
      have Hst := Lib.hid (show Blk (wr.setCell ⟨w.heap.size + 1, 5 * (tAcc k).2.1 + (tAcc k).1, none⟩ (.int .i64 ((k + 1) * (k + 2) / 2 % 64 : Nat))) (w.heap.size + 1) 137 (arrK .i64 (tAcc (k + 1)).2.2) by
        rw [e]; exact Ht.out.put _ _)
      have ex : (tAcc (k + 1)).1 = (tAcc k).2.1 := by rw [e]; rfl
      have ey : (tAcc (k + 1)).2.1 = (2 * (tAcc k).1 + 3 * (tAcc k).2.1) % 5 := by rw [e]; rfl
      have hf := Ht.out.frozen (5 * (tAcc k).2.1 + (tAcc k).1)
      have hc := Ht.out.word (i := 5 * (tAcc k).2.1 + (tAcc k).1) (by omega)
      clear e
      generalize (tAcc k).2.2.getD (5 * (tAcc k).2.1 + (tAcc k).1) 0 = old at *
      generalize (tAcc k).1 = x at *
      generalize (tAcc k).2.1 = y at *
      have Ex := Lib.hid ex
      have Ey := Lib.hid ey
      clear ex ey hl
      have g0 : ((k : Int) + 1) * ((k : Int) + 2) = (((k + 1) * (k + 2) : Nat) : Int) := by simp
      have hq : (k + 1) * (k + 2) ≤ 600 := Nat.mul_le_mul (show k + 1 ≤ 24 by omega) (show k + 2 ≤ 25 by omega)
      generalize (k + 1) * (k + 2) = q at *
      have g1 : IntKind.i64.wrap (q : Int) = (q : Int) := IntWalk.i64_in _ (by omega)
      have g2 : (q : Int).tdiv 2 = ((q / 2 : Nat) : Int) := by rw [Int.tdiv_eq_ediv_of_nonneg (by omega)]; omega
      have g3 : (((q / 2 : Nat) : Int)).tmod 64 = ((q / 2 % 64 : Nat) : Int) := by rw [Int.tmod_eq_emod_of_nonneg (by omega)]; omega
      have g4 : (2 * (x : Int) + 3 * (y : Int)).tmod 5 = (((2 * x + 3 * y) % 5 : Nat) : Int) := by rw [Int.tmod_eq_emod_of_nonneg (by omega)]; omega
      have g5 : (5 * (y : Int) + (x : Int)).toNat = 5 * y + x := by omega
      have g6 : 5 * (y : Int) + (x : Int) < 25 := by omega
      have g7 : 0 ≤ 5 * (y : Int) + (x : Int) := by omega
      have g8 : ((q / 2 % 64 : Nat) : Int) = (q : Int) / 2 % 64 := by omega
      have g9 : (((2 * x + 3 * y) % 5 : Nat) : Int) = (2 * (x : Int) + 3 * (y : Int)) % 5 := by omega
      rw [g8] at Hst
      clear g8
      have hg2 := Lib.hid (show w1.grownBy (wr.setCell ⟨w.heap.size + 1, 5 * y + x, none⟩ (.int .i64 ((q : Int) / 2 % 64))) (some (w.heap.size + 1)) from grown_trans hg (grown_setCell _ _ _))
      go_wp2_with (fail)
      refine ⟨⟨k + 1, by omega, by simp, by rw [Ex.out], by rw [Ey.out, g9], Hst, hg2.out⟩, ?_⟩
      simp [intOf]; omega
    · have hk24 : Hid (k = 24) := by show k = 24; omega
      have hdk : decide ((k : Int) < 24) = false := by simp; omega
      have HT2 := Lib.hid (show Blk wr (w.heap.size + 1) 137 (arrK .i64 turnL) by have := Ht.out; rw [hk24.out, tAcc_all] at this; exact this)
      have HP2 := Lib.hid (HP.out.grown hg (by simp))
      have HK2 := Lib.hid (HK.out.grown hg (by simp))
      have hB2 := below_grown hB hg (Nat.le_of_lt HP.out.lt) (by simp)
      clear Ht HT HP HK hB hx hy hl
      obtain ⟨w2, rfl⟩ : ∃ w2 : World, w2 = wr := ⟨_, rfl⟩
      go_wp2_with (fail)
      go_loopw [35] (fun i wr => ∃ k : Nat, k ≤ 25 ∧ i = .int .i64 k ∧ Hid (Blk wr w.heap.size 137 (arrK .i64 (pAcc k))) ∧ w2.grownBy wr (some w.heap.size)) (fun i _ => 25 - (intOf i).toNat)
      case atStart => exact ⟨0, by omega, rfl, by show Blk _ _ _ _; rw [pAcc_zero]; exact HP2.out, World.grownBy.refl _ _⟩
      case round =>
        obtain ⟨k, hk, rfl, Hp, hg3⟩ := hrel
        by_cases hlk : k < 25
        · have hdk : decide ((k : Int) < 25) = true := by simp; omega
          have hf := Hp.out.frozen k
          have hc := Hp.out.word (i := k) (by rw [pAcc_length]; exact hlk)
          have Hst := Lib.hid (show Blk (wr.setCell ⟨w.heap.size, k, none⟩ (.int .i64 (5 * ((2 * (k % 5) + 3 * (k / 5)) % 5) + k / 5 : Nat))) w.heap.size 137 (arrK .i64 (pAcc (k + 1))) by
            rw [pAcc_succ, pVal_eq]; exact Hp.out.put _ _)
          generalize (pAcc k).getD k 0 = old at *
          have hg4 := Lib.hid (fun v => show w2.grownBy (wr.setCell ⟨w.heap.size, k, none⟩ v) (some w.heap.size) from grown_trans hg3 (grown_setCell _ _ _))
          have g8 : ((5 * ((2 * (k % 5) + 3 * (k / 5)) % 5) + k / 5 : Nat) : Int) = 5 * ((2 * ((k : Int) % 5) + 3 * ((k : Int) / 5)) % 5) + (k : Int) / 5 := by omega
          rw [g8] at Hst
          clear g8
          go_wp2_with (fail)
          refine ⟨⟨k + 1, by omega, by simp, Hst, hg4.out _⟩, ?_⟩
          simp [intOf]; omega
        · have hk25 : Hid (k = 25) := by show k = 25; omega
          have hdk : decide ((k : Int) < 25) = false := by simp; omega
          have HP3 := Lib.hid (show Blk wr w.heap.size 137 (arrK .i64 placeL) by have := Hp.out; rw [hk25.out, pAcc_all] at this; exact this)
          have HT3 := Lib.hid (HT2.out.grown hg3 (by simp))
          have HK3 := Lib.hid (HK2.out.grown hg3 (by simp; omega))
          have hB3 := below_grown hB2 hg3 (Nat.le_of_lt HP2.out.lt) (by simp)
          clear Hp HT2 HP2 HK2 hB2
          obtain ⟨w3, rfl⟩ : ∃ w3 : World, w3 = wr := ⟨_, rfl⟩
          go_wp2_with (fail)
          go_loopw [9, 54] (fun s i wr => ∃ r : Nat, r ≤ 24 ∧ i = .int .i64 r ∧ s = .int .i64 (kOut r).2 ∧ Hid (Blk wr (w.heap.size + 1 + 1) 138 (arrK .u64 (kOut r).1)) ∧ w3.grownBy wr (some (w.heap.size + 1 + 1))) (fun _ i _ => 24 - (intOf i).toNat)
          case atStart => exact ⟨0, by omega, rfl, by rw [kOut_zero]; rfl, by show Blk _ _ _ _; rw [kOut_zero]; exact HK3.out, World.grownBy.refl _ _⟩
          case round =>
            obtain ⟨r, hr, rfl, rfl, Hk, hg5⟩ := hrel
            by_cases hlr : r < 24
            · have hdr : decide ((r : Int) < 24) = true := by simp; omega
              obtain ⟨P, hP⟩ : ∃ P, kOut r = P := ⟨_, rfl⟩
              have hsm := kOut_small r
              have hw := kOut_w r
              have hnx : kOut (r + 1) = kIn r P 7 := by rw [kOut_succ, hP]
              rw [hP] at Hk hsm hw ⊢
              clear hP
              have Hsm := Lib.hid hsm
              have Hw := Lib.hid hw
              have Hnx := Lib.hid hnx
              clear hsm hw hnx
              obtain ⟨w4, rfl⟩ : ∃ w4 : World, w4 = wr := ⟨_, rfl⟩
              go_wp2_with (fail)
              go_loopw [9, 57] (fun s i wr => ∃ j : Nat, j ≤ 7 ∧ i = .int .i64 j ∧ s = .int .i64 (kIn r P j).2 ∧ Hid (Blk wr (w.heap.size + 1 + 1) 138 (arrK .u64 (kIn r P j).1)) ∧ w4.grownBy wr (some (w.heap.size + 1 + 1))) (fun _ i _ => 7 - (intOf i).toNat)
              case atStart => exact ⟨0, by omega, rfl, by rw [kIn_zero], by show Blk _ _ _ _; rw [kIn_zero]; exact Hk.out, World.grownBy.refl _ _⟩
              case round =>
                obtain ⟨j, hj, rfl, rfl, Hj, hg6⟩ := hrel
                by_cases hlj : j < 7
                · have hdj : decide ((j : Int) < 7) = true := by simp; omega
                  obtain ⟨hl, hs⟩ := kIn_small r P Hsm.out j
                  have f1 := Hj.out.word (i := r) (by rw [hl]; exact hlr)
                  have f2 := Hj.out.frozen r
                  have wz := kIn_w r P Hw.out j (by omega) r
                  have wb := kBit_w (s := (kIn r P j).2) hlj
                  have e := kIn_succ r P j
                  have Hst := Lib.hid (show Blk ((wr.drew).setCell ⟨w.heap.size + 1 + 1, r, none⟩ (.int .u64 ((kIn r P j).1.getD r 0 ||| kBit (kIn r P j).2 j : Nat))) (w.heap.size + 1 + 1) 138 (arrK .u64 (kIn r P (j + 1)).1) by
                    rw [e]; exact (Hj.out.drewN 1).put _ _)
                  have Hs2 := Lib.hid (show (kIn r P (j + 1)).2 = lfsr (kIn r P j).2 by rw [e])
                  clear e hl
                  generalize (kIn r P j).1.getD r 0 = z at *
                  generalize (kIn r P j).2 = s at *
                  have ho := kor_walk wz hs hlj
                  have hr24 : (r : Int) < 24 := by omega
                  go_wp2_with (fail)
                  refine wp_region_still_tail 12 (by kernel_rfl) (by kernel_rfl) ?_
                  simp only [List.take_succ_cons, List.take_zero, List.drop_succ_cons, List.drop_zero]
                  repeat still_step
                  refine wpStill_nil ?_
                  change wpList _ _ _ _ _ wr.drew
                  have hxs := kxor_walk hs
                  have hg7 := Lib.hid (show w4.grownBy (wr.drew) (some (w.heap.size + 1 + 1)) from grown_trans hg6 (grown_of_below (((Drawn.refl wr).drewN 1).below _) _))
                  clear ho wz wb
                  by_cases hbig : 2 * s > 255
                  · have hdb : decide ((255 : Int) < (s : Int) * 2) = true := by simp; omega
                    have Hs3 := Lib.hid (show (kIn r P (j + 1)).2 = 2 * s ^^^ 369 by rw [Hs2.out, lfsr_eq, if_pos hbig])
                    go_wp2_with (fail)
                    go_roundw
                    case rel => exact ⟨j + 1, by omega, by go_num, by rw [Hs3.out], Hst.out, grown_trans hg7.out (grown_setCell _ _ _)⟩
                    case measure => simp [intOf]; omega
                  · have hdb : decide ((255 : Int) < (s : Int) * 2) = false := by simp; omega
                    have Hs3 := Lib.hid (show (kIn r P (j + 1)).2 = 2 * s by rw [Hs2.out, lfsr_eq, if_neg hbig])
                    go_wp2_with (fail)
                    go_roundw
                    case rel => exact ⟨j + 1, by omega, by go_num, by rw [Hs3.out]; go_num, Hst.out, grown_trans hg7.out (grown_setCell _ _ _)⟩
                    case measure => simp [intOf]; omega
                · have hj7 : Hid (j = 7) := by show j = 7; omega
                  have hdj : decide ((j : Int) < 7) = false := by simp; omega
                  have Hj2 := Lib.hid (show Blk wr (w.heap.size + 1 + 1) 138 (arrK .u64 (kOut (r + 1)).1) by have := Hj.out; rw [hj7.out, ← Hnx.out] at this; exact this)
                  have Hj3 := Lib.hid (show (kIn r P j).2 = (kOut (r + 1)).2 by rw [hj7.out, ← Hnx.out])
                  have hg8 := Lib.hid (grown_trans hg5 hg6)
                  clear Hj
                  generalize (kIn r P j).2 = s at *
                  go_wp2_with (fail)
                  go_roundw
                  case rel => exact ⟨r + 1, by omega, by go_num, by rw [Hj3.out], Hj2.out, hg8.out⟩
                  case measure => simp [intOf]; omega
            · have hr24 : Hid (r = 24) := by show r = 24; omega
              have hdr : decide ((r : Int) < 24) = false := by simp; omega
              have HK4 := Lib.hid (show Blk wr (w.heap.size + 1 + 1) 138 (arrK .u64 constL) by have := Hk.out; rw [hr24.out, kOut_all] at this; exact this)
              have HP4 := Lib.hid (HP3.out.grown hg5 (by simp; omega))
              have HT4 := Lib.hid (HT3.out.grown hg5 (by simp))
              have hB4 := Lib.hid (below_grown hB3 hg5 (Nat.le_of_lt HP3.out.lt) (by simp; omega))
              clear Hk
              generalize (kOut r).2 = s at *
              go_wp2_with (fail)
              refine wp_region_held (S := fun W => W = wr.drew) (by kernel_rfl) ?_
              refine wpAnyH_take (i := 0) rfl (by kernel_rfl) (by kernel_rfl) (by kernel_rfl) (fun _ _ _ h => h) (yieldsIf_load_mid rfl _ _ rfl _ _ rfl (placeL.map fun (n : Nat) => Value.int .i64 (n : Int)) (.array 25 3) (fun W hW => by rw [hW]; exact rangeAt_arr (HP4.out.drewN 1)) (by kernel_rfl) rfl (by kernel_rfl)) rfl ?_
              simp only [la0, la1, la2, Act.put, la3, la4, la5]
              refine wpAnyH_take (i := 1) rfl (by kernel_rfl) (by kernel_rfl) (by kernel_rfl) (fun _ _ _ h => h) (yieldsIf_load_mid rfl _ _ rfl _ _ rfl (turnL.map fun (n : Nat) => Value.int .i64 (n : Int)) (.array 25 3) (fun W hW => by rw [hW]; exact rangeAt_arr (HT4.out.drewN 1)) (by kernel_rfl) rfl (by kernel_rfl)) rfl ?_
              simp only [la0, la1, la2, Act.put, la3, la4, la5]
              refine wpAnyH_take (i := 2) rfl (by kernel_rfl) (by kernel_rfl) (by kernel_rfl) (fun _ _ _ h => h) (yieldsIf_load_mid rfl _ _ rfl _ _ rfl (constL.map fun (n : Nat) => Value.int .u64 (n : Int)) (.array 24 126) (fun W hW => by rw [hW]; exact rangeAt_arr (HK4.out.drewN 1)) (by kernel_rfl) rfl (by kernel_rfl)) rfl ?_
              simp only [la0, la1, la2, Act.put, la3, la4, la5]
              refine wpAnyH_ready (rs := [3]) (by kernel_rfl) (by simp) (AllReadyH.cons rfl (fun K hK => ?_) AllReadyH.nil)
              refine step_store_same rfl _ _ _ rfl _ rfl _ _ rfl (HP4.out.drewN 1) (by kernel_rfl) (arrK_all _ _) (hK.out _ _ rfl fun _ => ?_)
              clear hK
              simp only [la0, la1, la2, Act.put, la3, la4, la5]
              refine wpAnyH_ready (rs := [4]) (by kernel_rfl) (by simp) (AllReadyH.cons rfl (fun K hK => ?_) AllReadyH.nil)
              refine step_store_same rfl _ _ _ rfl _ rfl _ _ rfl (HT4.out.drewN 1) (by kernel_rfl) (arrK_all _ _) (hK.out _ _ rfl fun _ => ?_)
              clear hK
              simp only [la0, la1, la2, Act.put, la3, la4, la5]
              refine wpAnyH_ready (rs := [5]) (by kernel_rfl) (by simp) (AllReadyH.cons rfl (fun K hK => ?_) AllReadyH.nil)
              refine step_store_same rfl _ _ _ rfl _ rfl _ _ rfl (HK4.out.drewN 1) (by kernel_rfl) (arrK_all _ _) (hK.out _ _ rfl fun _ => ?_)
              clear hK
              simp only [la0, la1, la2, Act.put, la3, la4, la5]
              refine wpAnyH_done (by kernel_rfl) ?_ _
              change Exit.then _ _ _ _ wr.drew
              go_wp2_with (fail)
              refine bodyPost_ret_by (v := .tuple #[.agg (arrK .i64 placeL), .agg (arrK .i64 turnL), .agg (arrK .u64 constL)]) ?_ rfl ⟨rfl, below_drewN hB4.out 1⟩
              have l1 := run_loadVar_row (P := Try.prog) wr.drew w.heap.size 137 137 (arrK .i64 placeL) (0, 0) (.array 25 3) (HP4.out.drewN 1) (by kernel_rfl) rfl (by kernel_rfl)
              have l2 := run_loadVar_row (P := Try.prog) wr.drew (w.heap.size + 1) 137 137 (arrK .i64 turnL) (0, 0) (.array 25 3) (HT4.out.drewN 1) (by kernel_rfl) rfl (by kernel_rfl)
              have l3 := run_loadVar_row (P := Try.prog) wr.drew (w.heap.size + 1 + 1) 138 138 (arrK .u64 constL) (0, 0) (.array 24 126) (HK4.out.drewN 1) (by kernel_rfl) rfl (by kernel_rfl)
              simp [results, Try.func81, asAddr, l1, l2, l3]
end Go.Proofs.Ytkflpoiobpblhaa
namespace Go.Proofs.Ytkflpoiobpblhaa
open Go.RowKit
theorem grown_setRow {w : World} {g : Nat} (cs : Array Value) : w.grownBy (w.setRow g cs) (some g) :=
  ⟨rfl, rfl, rfl, by simp [World.setRow], fun k _ hne => by
    have h : ¬ g = k := fun e => hne (by rw [e])
    simp [World.setRow, Array.getElem?_modify, h]⟩
theorem setRow_size (w : World) (g : Nat) (cs : Array Value) : (w.setRow g cs).heap.size = w.heap.size := by simp [World.setRow]
section
variable {P : Program} {w : World} {ops : Array Oper} {rest : List Oper} {o : Oper} {a : Act} {Q : Exit → Act → World → Prop}
theorem wpList_put_blk (hgd : o.guard = none) (ty : TypeId) (x y : Operand) (ho : o.op = .store ty x y) (g : Nat) (cells : Array Value) (hx : a.eval x = .pointer (some ⟨g, 0, none⟩)) (hy : a.eval y = .agg cells)
    (t : TypeId) (old : Array Value) (hg : Blk w g t old) (hi : (P.info? ty).map (·.size) = some cells.size) (hold : old.size = cells.size) (h1 : cells.all (·.oneCell') = true)
    (h : ∀ w', Blk w' g t cells → w.grownBy w' (some g) → w'.heap.size = w.heap.size → wpList P ops Q rest (a.put o.dst undef) w') : wpList P ops Q (o :: rest) a w :=
  wpList_store_row hgd ty x y ho g cells hx hy t old hg hi hold h1 (h _ (Blk.setRow_same hg) (grown_setRow _) (setRow_size _ _ _))
theorem wpList_store_same (hgd : o.guard = none) (ty : TypeId) (x y : Operand) (ho : o.op = .store ty x y) (g : Nat) (cells : Array Value) (hx : a.eval x = .pointer (some ⟨g, 0, none⟩)) (hy : a.eval y = .agg cells)
    (t : TypeId) (hg : Blk w g t cells) (hi : (P.info? ty).map (·.size) = some cells.size) (h1 : cells.all (·.oneCell') = true)
    (h : wpList P ops Q rest (a.put o.dst undef) w) : wpList P ops Q (o :: rest) a w :=
  wpList_store_row hgd ty x y ho g cells hx hy t cells hg hi rfl h1 (by rw [setRow_id hg]; exact h)
theorem wpList_load_blk (hgd : o.guard = none) (ty : TypeId) (x : Operand) (ho : o.op = .load ty x)
    (g : Nat) (hx : a.eval x = .pointer (some ⟨g, 0, none⟩)) (t : TypeId) (cs : Array Value) (d : TypeDesc) (hg : Blk w g t cs)
    (hu : P.underlying ty = some d) (hd : (match d with | .struct _ | .array _ _ => true | _ => false) = true) (hi : (P.info? ty).map (·.size) = some cs.size)
    (h : wpList P ops Q rest (a.put o.dst (.agg cs)) w) : wpList P ops Q (o :: rest) a w :=
  wpList_load_row hgd ty x ho g hx t cs (0, 0) d hg hu hd hi h
end
section
variable {P : Program} {w : World} {ops : Array Oper} {rest : List Oper} {o : Oper} {a : Act} {Q : Exit → Act → World → Prop} {K : Act → World → Prop}
theorem step_put_blk {E : Prop} (hgd : o.guard = none) (ty : TypeId) (x y : Operand) (ho : o.op = .store ty x y) (g : Nat) (cells : Array Value) (hx : a.eval x = .pointer (some ⟨g, 0, none⟩)) (hy : a.eval y = .agg cells)
    (t : TypeId) (old : Array Value) (hg : Blk w g t old) (hi : (P.info? ty).map (·.size) = some cells.size) (hold : old.size = cells.size) (h1 : cells.all (·.oneCell') = true)
    (h : ∀ w', Blk w' g t cells → w.grownBy w' (some g) → w'.heap.size = w.heap.size → K (a.put o.dst undef) w') : if Region.wanted o (yielded ops a.tmps) = true then Oper.wp P o a w K Q else E := by
  have hw : Region.wanted o (yielded ops a.tmps) = true := by simp [Region.wanted, hgd]
  rw [if_pos hw]
  exact wp_store_row ty x y ho g cells hx hy t old hg hi hold h1 (h _ (Blk.setRow_same hg) (grown_setRow _) (setRow_size _ _ _))
end
theorem make_letter {P : Program} (t e : TypeId) (z : Value) (bytes : Nat) (ht : P.underlying t = some (.slice e)) (hi : (P.info? e).map (fun i => (i.zero, i.size, i.bytes)) = some (some z, 1, bytes)) (hzc : z.cells = #[z])
    (n : Nat) (hb : bytes * n ≤ 281474976710656) (h63 : n ≤ 9223372036854775807) :
    ∃ mk : World → World, (∀ W, (Instr.makeSlice t (.int .i64 (n : Int)) (.int .i64 (n : Int))).run P W = .ok (.slice (some ⟨W.heap.size, 0, none⟩) n n) (mk W)) ∧
      (∀ W, Blk (mk W) W.heap.size e (List.replicate n z).toArray) ∧ (∀ W, Below W.heap.size W (mk W)) ∧ (∀ W, (mk W).heap.size = W.heap.size + 1) :=
  ⟨fun W => W.alloc (.cells (List.replicate n z).toArray e), fun W => run_make1 t e z bytes ht hi hzc n hb h63 W, fun W => Blk.new W e _, fun W => (Below.refl _ _).alloc (Nat.le_refl _) _, fun W => by simp⟩
def bytesV (b : List Nat) : List Value := b.map fun (n : Nat) => Value.int .u8 (n : Int)
theorem bytesV_length (b : List Nat) : (bytesV b).length = b.length := by simp [bytesV]
theorem bytesV_one (b : List Nat) : ∀ u ∈ bytesV b, u.oneCell' = true := by
  intro u hu
  unfold bytesV at hu
  rw [List.mem_map] at hu
  obtain ⟨x, _, rfl⟩ := hu
  rfl
theorem bytesV_append (a b : List Nat) : bytesV (a ++ b) = bytesV a ++ bytesV b := by simp [bytesV]
theorem bytesV_drop (b : List Nat) (k : Nat) : bytesV (b.drop k) = (bytesV b).drop k := by simp [bytesV]
theorem bytesV_get {b : List Nat} {k : Nat} (h : k < b.length) : (bytesV b)[k]? = some (.int .u8 ((b.getD k 0 : Nat) : Int)) := by
  simp [bytesV, h]
theorem cells_blk {w : World} {g : Nat} {t : TypeId} {cs : Array Value} (h : Blk w g t cs) : Cells w (some ⟨g, 0, none⟩) cs.toList :=
  .inr ⟨g, 0, rfl, h.lt, fun j u hu => by rw [Nat.zero_add, h.cell j]; simpa using hu⟩
theorem arrK_toList (q : IntKind) (l : List Nat) : (arrK q l).toList = l.map fun (n : Nat) => Value.int q (n : Int) := by simp [arrK]
theorem blk_two (w : World) (cs1 cs2 : Array Value) (t1 t2 : TypeId) : Blk ((w.alloc (.cells cs1 t1)).alloc (.cells cs2 t2)) w.heap.size t1 cs1 ∧ Blk ((w.alloc (.cells cs1 t1)).alloc (.cells cs2 t2)) (w.heap.size + 1) t2 cs2 := by
  refine ⟨(Blk.new _ _ _).alloc _, ?_⟩
  have := Blk.new (w.alloc (.cells cs1 t1)) t2 cs2
  rw [World.size_alloc] at this
  exact this
theorem ret_row {P : Program} {fn : Func} {R : Ending → World → Prop} {a : Act} {w : World} {p : Tmp} {ty : TypeId} (h : fn.results = #[.cell p ty]) (g : Nat) (t : TypeId) (cs : Array Value) (d : TypeDesc)
    (hp : a.tmps.getD p undef = .pointer (some ⟨g, 0, none⟩)) (hg : Blk w g t cs) (hu : P.underlying ty = some d) (hd : (match d with | .struct _ | .array _ _ => true | _ => false) = true) (hi : (P.info? ty).map (·.size) = some cs.size)
    (hdf : a.defers = []) (hR : R (.returned (.agg cs)) w) : bodyPost P fn R .ret a w :=
  bodyPost_ret (results_cell_row h a.tmps w g t cs (0, 0) d hp hg hu hd hi) hdf hR
theorem arrK_size (q : IntKind) (l : List Nat) : (arrK q l).size = l.length := by simp [arrK]
attribute [irreducible] bytesV
end Go.Proofs.Ytkflpoiobpblhaa
namespace Go.Proofs.Ytkflpoiobpblhaa
open Go.RowKit
end Go.Proofs.Ytkflpoiobpblhaa
namespace Go.Proofs.Ytkflpoiobpblhaa
open Go.RowKit
end Go.Proofs.Ytkflpoiobpblhaa
namespace Go.Proofs.Ytkflpoiobpblhaa
open Go.RowKit
end Go.Proofs.Ytkflpoiobpblhaa
