/- Walks and plain laws that the statement rests on: ShaU, Blk, Ref1, Ref2. -/
import Derived.Deep.MidRow
import Derived.Deep.RegionHeld
import Derived.StillTailTactics
import Derived.Test.YtkflpoiobpblhaaGreatP00
import Derived.Test.YtkflpoiobpblhaaGreatP05
import Derived.Test.YtkflpoiobpblhaaGreatPS
namespace Go.Proofs.YtkflpoiobpblhaaGreat
open Go.RowKit
theorem setRow_id {w : World} {g : Nat} {t : TypeId} {cs : Array Value} (h : Blk w g t cs) : w.setRow g cs = w := by
 unfold Blk at h
 have e : (w.setRow g cs).heap = w.heap := by
  unfold World.setRow
  apply Array.ext_getElem?
  intro i
  rw [Array.getElem?_modify]
  by_cases hi : g = i
  · subst hi; simp [h]
  · simp [hi]
 show World.mk (w.setRow g cs).heap _ _ _ _ = w
 rw [e]
theorem rangeAt_blk {w : World} {g : Nat} {t : TypeId} {cs : List Value} (h : Blk w g t cs.toArray) : w.rangeAt g 0 cs := fun j v hv => by
 rw [Nat.zero_add, h.cell j]
 simpa using hv
theorem rangeAt_arr {w : World} {g : Nat} {t : TypeId} {q : IntKind} {l : List Nat} (h : Blk w g t (arrK q l)) : w.rangeAt g 0 (l.map fun (n : Nat) => Value.int q (n : Int)) := rangeAt_blk h
section
variable {P : Program} {w : World} {ops : Array Oper} {rest : List Oper} {o : Oper} {a : Act} {Q : Exit → Act → World → Prop} {K : Act → World → Prop}
theorem step_load_blk {E : Prop} (hgd : o.guard = none) (ty : TypeId) (x : Operand) (ho : o.op = .load ty x) (g : Nat) (hx : a.eval x = .pointer (some ⟨g, 0, none⟩)) (t : TypeId) (cs : Array Value) (d : TypeDesc) (hg : Blk w g t cs)
    (hu : P.underlying ty = some d) (hd : (match d with | .struct _ | .array _ _ => true | _ => false) = true) (hi : (P.info? ty).map (·.size) = some cs.size)
    (h : K (a.put o.dst (.agg cs)) w) : if Region.wanted o (yielded ops a.tmps) = true then Oper.wp P o a w K Q else E := by
 have hw : Region.wanted o (yielded ops a.tmps) = true := by simp [Region.wanted, hgd]
 rw [if_pos hw]
 exact wp_load_row ty x ho g hx t cs (0, 0) d hg hu hd hi h
theorem step_store_same {E : Prop} (hgd : o.guard = none) (ty : TypeId) (x y : Operand) (ho : o.op = .store ty x y) (g : Nat) (hx : a.eval x = .pointer (some ⟨g, 0, none⟩)) (t : TypeId) (cs : Array Value) (hy : a.eval y = .agg cs) (hg : Blk w g t cs)
    (hi : (P.info? ty).map (·.size) = some cs.size) (h1 : cs.all (·.oneCell') = true)
    (h : K (a.put o.dst undef) w) : if Region.wanted o (yielded ops a.tmps) = true then Oper.wp P o a w K Q else E := by
 have hw : Region.wanted o (yielded ops a.tmps) = true := by simp [Region.wanted, hgd]
 rw [if_pos hw]
 exact wp_store_row ty x y ho g cs hx hy t cs hg hi rfl h1 (by rw [setRow_id hg]; exact h)
end
theorem arrK_all (q : IntKind) (l : List Nat) : (arrK q l).all (·.oneCell') = true := by
 simp [arrK, Value.oneCell']
theorem Blk.setRow_same {w : World} {g : Nat} {t : TypeId} {cs cs' : Array Value} (h : Blk w g t cs) : Blk (w.setRow g cs') g t cs' := by
 unfold Blk at h ⊢
 simp [World.setRow, Array.getElem?_modify, h]
set_option linter.unusedSimpArgs false in
set_option maxRecDepth 100000 in
set_option maxHeartbeats 4000000 in
theorem tables_any (w : World) :
    Calls Tryz.prog 117 #[] w fun e w' =>
     e = .returned (.tuple #[.agg (arrK .i64 placeL), .agg (arrK .i64 turnL), .agg (arrK .u64 constL)]) ∧ Below w.heap.size w w' := by
 go_enter Tryz.func117, Tryz.ntmps117
 go_wp2_with (fail)
 generalize hge : World.alloc _ _ = w1
 have HP := Lib.hid (show Blk w1 w.heap.size 143 (arrK .i64 (List.replicate 25 0)) by subst hge; exact ((Blk.new w 143 (arrK .i64 (List.replicate 25 0))).alloc _).alloc _)
 have HT := Lib.hid (show Blk w1 (w.heap.size + 1) 143 (arrK .i64 (List.replicate 25 0)) by
  subst hge
  have := (Blk.new (w.alloc (.cells (arrK .i64 (List.replicate 25 0)) 143)) 143 (arrK .i64 (List.replicate 25 0))).alloc (.cells (arrK .u64 (List.replicate 24 0)) 144)
  rw [World.size_alloc] at this; exact this)
 have HK := Lib.hid (show Blk w1 (w.heap.size + 1 + 1) 144 (arrK .u64 (List.replicate 24 0)) by
  subst hge
  have := Blk.new ((w.alloc (.cells (arrK .i64 (List.replicate 25 0)) 143)).alloc (.cells (arrK .i64 (List.replicate 25 0)) 143)) 144 (arrK .u64 (List.replicate 24 0))
  rw [World.size_alloc, World.size_alloc] at this; exact this)
 have hB : Below w.heap.size w w1 := by subst hge; exact (((Below.refl _ _).alloc (Nat.le_refl _) _).alloc (by simp) _).alloc (by simp; omega) _
 clear hge
 go_loopw [3, 4, 12] (fun x y i wr => ∃ k : Nat, k ≤ 24 ∧ i = .int .i64 k ∧ x = .int .i64 (tAcc k).1 ∧ y = .int .i64 (tAcc k).2.1 ∧ Hid (Blk wr (w.heap.size + 1) 143 (arrK .i64 (tAcc k).2.2)) ∧ w1.grownBy wr (some (w.heap.size + 1))) (fun _ _ i _ => 24 - (intOf i).toNat)
 case atStart => exact ⟨0, by omega, rfl, by rw [tAcc_zero]; rfl, by rw [tAcc_zero]; rfl, by show Blk _ _ _ _; rw [tAcc_zero]; exact HT.out, World.grownBy.refl _ _⟩
 case round =>
  obtain ⟨k, hk, rfl, rfl, rfl, Ht, hg⟩ := hrel
  obtain ⟨hx, hy, hl⟩ := tAcc_small k hk
  by_cases hlk : k < 24
  · have hdk : decide ((k : Int) < 24) = true := by simp; omega
    have e : tAcc (k + 1) = tStep (tAcc k) k := tAcc_succ k
    have Hst := Lib.hid (show Blk (wr.setCell ⟨w.heap.size + 1, 5 * (tAcc k).2.1 + (tAcc k).1, none⟩ (.int .i64 ((k + 1) * (k + 2) / 2 % 64 : Nat))) (w.heap.size + 1) 143 (arrK .i64 (tAcc (k + 1)).2.2) by
     rw [e]; exact Ht.out.put _ _)
    have ex : (tAcc (k + 1)).1 = (tAcc k).2.1 := by rw [e]; rfl
    have ey : (tAcc (k + 1)).2.1 = (2 * (tAcc k).1 + 3 * (tAcc k).2.1) % 5 := by rw [e]; rfl
    have hf := Ht.out.frozen (5 * (tAcc k).2.1 + (tAcc k).1)
    have hc := Ht.out.word (i := 5 * (tAcc k).2.1 + (tAcc k).1) (by omega)
    clear e
    generalize (tAcc k).2.2.getD (5 * (tAcc k).2.1 + (tAcc k).1) 0 = old at *
    generalize (tAcc k).1 = x at *
    generalize (tAcc k).2.1 = y at *
    have Ex := Lib.hid ex
    have Ey := Lib.hid ey
    clear ex ey hl
    have g0 : ((k : Int) + 1) * ((k : Int) + 2) = (((k + 1) * (k + 2) : Nat) : Int) := by simp
    have hq : (k + 1) * (k + 2) ≤ 600 := Nat.mul_le_mul (show k + 1 ≤ 24 by omega) (show k + 2 ≤ 25 by omega)
    generalize (k + 1) * (k + 2) = q at *
    have g1 : IntKind.i64.wrap (q : Int) = (q : Int) := IntWalk.i64_in _ (by omega)
    have g2 : (q : Int).tdiv 2 = ((q / 2 : Nat) : Int) := by rw [Int.tdiv_eq_ediv_of_nonneg (by omega)]; omega
    have g3 : (((q / 2 : Nat) : Int)).tmod 64 = ((q / 2 % 64 : Nat) : Int) := by rw [Int.tmod_eq_emod_of_nonneg (by omega)]; omega
    have g4 : (2 * (x : Int) + 3 * (y : Int)).tmod 5 = (((2 * x + 3 * y) % 5 : Nat) : Int) := by rw [Int.tmod_eq_emod_of_nonneg (by omega)]; omega
    have g5 : (5 * (y : Int) + (x : Int)).toNat = 5 * y + x := by omega
    have g6 : 5 * (y : Int) + (x : Int) < 25 := by omega
    have g7 : 0 ≤ 5 * (y : Int) + (x : Int) := by omega
    have g8 : ((q / 2 % 64 : Nat) : Int) = (q : Int) / 2 % 64 := by omega
    have g9 : (((2 * x + 3 * y) % 5 : Nat) : Int) = (2 * (x : Int) + 3 * (y : Int)) % 5 := by omega
    rw [g8] at Hst
    clear g8
    have hg2 := Lib.hid (show w1.grownBy (wr.setCell ⟨w.heap.size + 1, 5 * y + x, none⟩ (.int .i64 ((q : Int) / 2 % 64))) (some (w.heap.size + 1)) from grown_trans hg (grown_setCell _ _ _))
    go_wp2_with (fail)
    refine ⟨⟨k + 1, by omega, by simp, by rw [Ex.out], by rw [Ey.out, g9], Hst, hg2.out⟩, ?_⟩
    simp [intOf]; omega
  · have hk24 : Hid (k = 24) := by show k = 24; omega
    have hdk : decide ((k : Int) < 24) = false := by simp; omega
    have HT2 := Lib.hid (show Blk wr (w.heap.size + 1) 143 (arrK .i64 turnL) by have := Ht.out; rw [hk24.out, tAcc_all] at this; exact this)
    have HP2 := Lib.hid (HP.out.grown hg (by simp))
    have HK2 := Lib.hid (HK.out.grown hg (by simp))
    have hB2 := below_grown hB hg (Nat.le_of_lt HP.out.lt) (by simp)
    clear Ht HT HP HK hB hx hy hl
    obtain ⟨w2, rfl⟩ : ∃ w2 : World, w2 = wr := ⟨_, rfl⟩
    go_wp2_with (fail)
    go_loopw [35] (fun i wr => ∃ k : Nat, k ≤ 25 ∧ i = .int .i64 k ∧ Hid (Blk wr w.heap.size 143 (arrK .i64 (pAcc k))) ∧ w2.grownBy wr (some w.heap.size)) (fun i _ => 25 - (intOf i).toNat)
    case atStart => exact ⟨0, by omega, rfl, by show Blk _ _ _ _; rw [pAcc_zero]; exact HP2.out, World.grownBy.refl _ _⟩
    case round =>
     obtain ⟨k, hk, rfl, Hp, hg3⟩ := hrel
     by_cases hlk : k < 25
     · have hdk : decide ((k : Int) < 25) = true := by simp; omega
       have hf := Hp.out.frozen k
       have hc := Hp.out.word (i := k) (by rw [pAcc_length]; exact hlk)
       have Hst := Lib.hid (show Blk (wr.setCell ⟨w.heap.size, k, none⟩ (.int .i64 (5 * ((2 * (k % 5) + 3 * (k / 5)) % 5) + k / 5 : Nat))) w.heap.size 143 (arrK .i64 (pAcc (k + 1))) by
        rw [pAcc_succ, pVal_eq]; exact Hp.out.put _ _)
       generalize (pAcc k).getD k 0 = old at *
       have hg4 := Lib.hid (fun v => show w2.grownBy (wr.setCell ⟨w.heap.size, k, none⟩ v) (some w.heap.size) from grown_trans hg3 (grown_setCell _ _ _))
       have g8 : ((5 * ((2 * (k % 5) + 3 * (k / 5)) % 5) + k / 5 : Nat) : Int) = 5 * ((2 * ((k : Int) % 5) + 3 * ((k : Int) / 5)) % 5) + (k : Int) / 5 := by omega
       rw [g8] at Hst
       clear g8
       go_wp2_with (fail)
       refine ⟨⟨k + 1, by omega, by simp, Hst, hg4.out _⟩, ?_⟩
       simp [intOf]; omega
     · have hk25 : Hid (k = 25) := by show k = 25; omega
       have hdk : decide ((k : Int) < 25) = false := by simp; omega
       have HP3 := Lib.hid (show Blk wr w.heap.size 143 (arrK .i64 placeL) by have := Hp.out; rw [hk25.out, pAcc_all] at this; exact this)
       have HT3 := Lib.hid (HT2.out.grown hg3 (by simp))
       have HK3 := Lib.hid (HK2.out.grown hg3 (by simp; omega))
       have hB3 := below_grown hB2 hg3 (Nat.le_of_lt HP2.out.lt) (by simp)
       clear Hp HT2 HP2 HK2 hB2
       obtain ⟨w3, rfl⟩ : ∃ w3 : World, w3 = wr := ⟨_, rfl⟩
       go_wp2_with (fail)
       go_loopw [9, 54] (fun s i wr => ∃ r : Nat, r ≤ 24 ∧ i = .int .i64 r ∧ s = .int .i64 (kOut r).2 ∧ Hid (Blk wr (w.heap.size + 1 + 1) 144 (arrK .u64 (kOut r).1)) ∧ w3.grownBy wr (some (w.heap.size + 1 + 1))) (fun _ i _ => 24 - (intOf i).toNat)
       case atStart => exact ⟨0, by omega, rfl, by rw [kOut_zero]; rfl, by show Blk _ _ _ _; rw [kOut_zero]; exact HK3.out, World.grownBy.refl _ _⟩
       case round =>
        obtain ⟨r, hr, rfl, rfl, Hk, hg5⟩ := hrel
        by_cases hlr : r < 24
        · have hdr : decide ((r : Int) < 24) = true := by simp; omega
          obtain ⟨P, hP⟩ : ∃ P, kOut r = P := ⟨_, rfl⟩
          have hsm := kOut_small r
          have hw := kOut_w r
          have hnx : kOut (r + 1) = kIn r P 7 := by rw [kOut_succ, hP]
          rw [hP] at Hk hsm hw ⊢
          clear hP
          have Hsm := Lib.hid hsm
          have Hw := Lib.hid hw
          have Hnx := Lib.hid hnx
          clear hsm hw hnx
          obtain ⟨w4, rfl⟩ : ∃ w4 : World, w4 = wr := ⟨_, rfl⟩
          go_wp2_with (fail)
          go_loopw [9, 57] (fun s i wr => ∃ j : Nat, j ≤ 7 ∧ i = .int .i64 j ∧ s = .int .i64 (kIn r P j).2 ∧ Hid (Blk wr (w.heap.size + 1 + 1) 144 (arrK .u64 (kIn r P j).1)) ∧ w4.grownBy wr (some (w.heap.size + 1 + 1))) (fun _ i _ => 7 - (intOf i).toNat)
          case atStart => exact ⟨0, by omega, rfl, by rw [kIn_zero], by show Blk _ _ _ _; rw [kIn_zero]; exact Hk.out, World.grownBy.refl _ _⟩
          case round =>
           obtain ⟨j, hj, rfl, rfl, Hj, hg6⟩ := hrel
           by_cases hlj : j < 7
           · have hdj : decide ((j : Int) < 7) = true := by simp; omega
             obtain ⟨hl, hs⟩ := kIn_small r P Hsm.out j
             have f1 := Hj.out.word (i := r) (by rw [hl]; exact hlr)
             have f2 := Hj.out.frozen r
             have wz := kIn_w r P Hw.out j (by omega) r
             have wb := kBit_w (s := (kIn r P j).2) hlj
             have e := kIn_succ r P j
             have Hst := Lib.hid (show Blk ((wr.drew).setCell ⟨w.heap.size + 1 + 1, r, none⟩ (.int .u64 ((kIn r P j).1.getD r 0 ||| kBit (kIn r P j).2 j : Nat))) (w.heap.size + 1 + 1) 144 (arrK .u64 (kIn r P (j + 1)).1) by
              rw [e]; exact (Hj.out.drewN 1).put _ _)
             have Hs2 := Lib.hid (show (kIn r P (j + 1)).2 = lfsr (kIn r P j).2 by rw [e])
             clear e hl
             generalize (kIn r P j).1.getD r 0 = z at *
             generalize (kIn r P j).2 = s at *
             have ho := kor_walk wz hs hlj
             have hr24 : (r : Int) < 24 := by omega
             go_wp2_with (fail)
             refine wp_region_still_tail 12 (by kernel_rfl) (by kernel_rfl) ?_
             simp only [List.take_succ_cons, List.take_zero, List.drop_succ_cons, List.drop_zero]
             repeat still_step
             refine wpStill_nil ?_
             change wpList _ _ _ _ _ wr.drew
             have hxs := kxor_walk hs
             have hg7 := Lib.hid (show w4.grownBy (wr.drew) (some (w.heap.size + 1 + 1)) from grown_trans hg6 (grown_of_below (((Drawn.refl wr).drewN 1).below _) _))
             clear ho wz wb
             by_cases hbig : 2 * s > 255
             · have hdb : decide ((255 : Int) < (s : Int) * 2) = true := by simp; omega
               have Hs3 := Lib.hid (show (kIn r P (j + 1)).2 = 2 * s ^^^ 369 by rw [Hs2.out, lfsr_eq, if_pos hbig])
               go_wp2_with (fail)
               go_roundw
               case rel => exact ⟨j + 1, by omega, by go_num, by rw [Hs3.out], Hst.out, grown_trans hg7.out (grown_setCell _ _ _)⟩
               case measure => simp [intOf]; omega
             · have hdb : decide ((255 : Int) < (s : Int) * 2) = false := by simp; omega
               have Hs3 := Lib.hid (show (kIn r P (j + 1)).2 = 2 * s by rw [Hs2.out, lfsr_eq, if_neg hbig])
               go_wp2_with (fail)
               go_roundw
               case rel => exact ⟨j + 1, by omega, by go_num, by rw [Hs3.out]; go_num, Hst.out, grown_trans hg7.out (grown_setCell _ _ _)⟩
               case measure => simp [intOf]; omega
           · have hj7 : Hid (j = 7) := by show j = 7; omega
             have hdj : decide ((j : Int) < 7) = false := by simp; omega
             have Hj2 := Lib.hid (show Blk wr (w.heap.size + 1 + 1) 144 (arrK .u64 (kOut (r + 1)).1) by have := Hj.out; rw [hj7.out, ← Hnx.out] at this; exact this)
             have Hj3 := Lib.hid (show (kIn r P j).2 = (kOut (r + 1)).2 by rw [hj7.out, ← Hnx.out])
             have hg8 := Lib.hid (grown_trans hg5 hg6)
             clear Hj
             generalize (kIn r P j).2 = s at *
             go_wp2_with (fail)
             go_roundw
             case rel => exact ⟨r + 1, by omega, by go_num, by rw [Hj3.out], Hj2.out, hg8.out⟩
             case measure => simp [intOf]; omega
        · have hr24 : Hid (r = 24) := by show r = 24; omega
          have hdr : decide ((r : Int) < 24) = false := by simp; omega
          have HK4 := Lib.hid (show Blk wr (w.heap.size + 1 + 1) 144 (arrK .u64 constL) by have := Hk.out; rw [hr24.out, kOut_all] at this; exact this)
          have HP4 := Lib.hid (HP3.out.grown hg5 (by simp; omega))
          have HT4 := Lib.hid (HT3.out.grown hg5 (by simp))
          have hB4 := Lib.hid (below_grown hB3 hg5 (Nat.le_of_lt HP3.out.lt) (by simp; omega))
          clear Hk
          generalize (kOut r).2 = s at *
          go_wp2_with (fail)
          refine wp_region_held (S := fun W => W = wr.drew) (by kernel_rfl) ?_
          refine wpAnyH_take (i := 0) rfl (by kernel_rfl) (by kernel_rfl) (by kernel_rfl) (fun _ _ _ h => h) (yieldsIf_load_mid rfl _ _ rfl _ _ rfl (placeL.map fun (n : Nat) => Value.int .i64 (n : Int)) (.array 25 3) (fun W hW => by rw [hW]; exact rangeAt_arr (HP4.out.drewN 1)) (by kernel_rfl) rfl (by kernel_rfl)) rfl ?_
          simp only [la, Act.put]
          refine wpAnyH_take (i := 1) rfl (by kernel_rfl) (by kernel_rfl) (by kernel_rfl) (fun _ _ _ h => h) (yieldsIf_load_mid rfl _ _ rfl _ _ rfl (turnL.map fun (n : Nat) => Value.int .i64 (n : Int)) (.array 25 3) (fun W hW => by rw [hW]; exact rangeAt_arr (HT4.out.drewN 1)) (by kernel_rfl) rfl (by kernel_rfl)) rfl ?_
          simp only [la, Act.put]
          refine wpAnyH_take (i := 2) rfl (by kernel_rfl) (by kernel_rfl) (by kernel_rfl) (fun _ _ _ h => h) (yieldsIf_load_mid rfl _ _ rfl _ _ rfl (constL.map fun (n : Nat) => Value.int .u64 (n : Int)) (.array 24 129) (fun W hW => by rw [hW]; exact rangeAt_arr (HK4.out.drewN 1)) (by kernel_rfl) rfl (by kernel_rfl)) rfl ?_
          simp only [la, Act.put]
          refine ty 3 rfl (fun K hK => ?_)
          refine step_store_same rfl _ _ _ rfl _ rfl _ _ rfl (HP4.out.drewN 1) (by kernel_rfl) (arrK_all _ _) (hK.out _ _ rfl fun _ => ?_)
          clear hK
          simp only [la, Act.put]
          refine ty 4 rfl (fun K hK => ?_)
          refine step_store_same rfl _ _ _ rfl _ rfl _ _ rfl (HT4.out.drewN 1) (by kernel_rfl) (arrK_all _ _) (hK.out _ _ rfl fun _ => ?_)
          clear hK
          simp only [la, Act.put]
          refine ty 5 rfl (fun K hK => ?_)
          refine step_store_same rfl _ _ _ rfl _ rfl _ _ rfl (HK4.out.drewN 1) (by kernel_rfl) (arrK_all _ _) (hK.out _ _ rfl fun _ => ?_)
          clear hK
          simp only [la, Act.put]
          refine td ?_ _
          change Exit.then _ _ _ _ wr.drew
          go_wp2_with (fail)
          refine bodyPost_ret_by (v := .tuple #[.agg (arrK .i64 placeL), .agg (arrK .i64 turnL), .agg (arrK .u64 constL)]) ?_ rfl ⟨rfl, below_drewN hB4.out 1⟩
          have l1 := run_loadVar_row (P := Tryz.prog) wr.drew w.heap.size 143 143 (arrK .i64 placeL) (0, 0) (.array 25 3) (HP4.out.drewN 1) (by kernel_rfl) rfl (by kernel_rfl)
          have l2 := run_loadVar_row (P := Tryz.prog) wr.drew (w.heap.size + 1) 143 143 (arrK .i64 turnL) (0, 0) (.array 25 3) (HT4.out.drewN 1) (by kernel_rfl) rfl (by kernel_rfl)
          have l3 := run_loadVar_row (P := Tryz.prog) wr.drew (w.heap.size + 1 + 1) 144 144 (arrK .u64 constL) (0, 0) (.array 24 129) (HK4.out.drewN 1) (by kernel_rfl) rfl (by kernel_rfl)
          simp [results, Tryz.func117, asAddr, l1, l2, l3]
end Go.Proofs.YtkflpoiobpblhaaGreat
namespace Go.Proofs.YtkflpoiobpblhaaGreat
open Go.RowKit
theorem grown_setRow {w : World} {g : Nat} (cs : Array Value) : w.grownBy (w.setRow g cs) (some g) :=
 ⟨rfl, rfl, rfl, by simp [World.setRow], fun k _ hne => by
  have h : ¬ g = k := fun e => hne (by rw [e])
  simp [World.setRow, Array.getElem?_modify, h]⟩
theorem setRow_size (w : World) (g : Nat) (cs : Array Value) : (w.setRow g cs).heap.size = w.heap.size := by simp [World.setRow]
section
variable {P : Program} {w : World} {ops : Array Oper} {rest : List Oper} {o : Oper} {a : Act} {Q : Exit → Act → World → Prop}
theorem wpList_put_blk (hgd : o.guard = none) (ty : TypeId) (x y : Operand) (ho : o.op = .store ty x y) (g : Nat) (cells : Array Value) (hx : a.eval x = .pointer (some ⟨g, 0, none⟩)) (hy : a.eval y = .agg cells)
    (t : TypeId) (old : Array Value) (hg : Blk w g t old) (hi : (P.info? ty).map (·.size) = some cells.size) (hold : old.size = cells.size) (h1 : cells.all (·.oneCell') = true)
    (h : ∀ w', Blk w' g t cells → w.grownBy w' (some g) → w'.heap.size = w.heap.size → wpList P ops Q rest (a.put o.dst undef) w') : wpList P ops Q (o :: rest) a w :=
 wpList_store_row hgd ty x y ho g cells hx hy t old hg hi hold h1 (h _ (Blk.setRow_same hg) (grown_setRow _) (setRow_size _ _ _))
theorem wpList_store_same (hgd : o.guard = none) (ty : TypeId) (x y : Operand) (ho : o.op = .store ty x y) (g : Nat) (cells : Array Value) (hx : a.eval x = .pointer (some ⟨g, 0, none⟩)) (hy : a.eval y = .agg cells)
    (t : TypeId) (hg : Blk w g t cells) (hi : (P.info? ty).map (·.size) = some cells.size) (h1 : cells.all (·.oneCell') = true)
    (h : wpList P ops Q rest (a.put o.dst undef) w) : wpList P ops Q (o :: rest) a w :=
 wpList_store_row hgd ty x y ho g cells hx hy t cells hg hi rfl h1 (by rw [setRow_id hg]; exact h)
theorem wpList_load_blk (hgd : o.guard = none) (ty : TypeId) (x : Operand) (ho : o.op = .load ty x)
    (g : Nat) (hx : a.eval x = .pointer (some ⟨g, 0, none⟩)) (t : TypeId) (cs : Array Value) (d : TypeDesc) (hg : Blk w g t cs)
    (hu : P.underlying ty = some d) (hd : (match d with | .struct _ | .array _ _ => true | _ => false) = true) (hi : (P.info? ty).map (·.size) = some cs.size)
    (h : wpList P ops Q rest (a.put o.dst (.agg cs)) w) : wpList P ops Q (o :: rest) a w :=
 wpList_load_row hgd ty x ho g hx t cs (0, 0) d hg hu hd hi h
end
section
variable {P : Program} {w : World} {ops : Array Oper} {rest : List Oper} {o : Oper} {a : Act} {Q : Exit → Act → World → Prop} {K : Act → World → Prop}
theorem step_put_blk {E : Prop} (hgd : o.guard = none) (ty : TypeId) (x y : Operand) (ho : o.op = .store ty x y) (g : Nat) (cells : Array Value) (hx : a.eval x = .pointer (some ⟨g, 0, none⟩)) (hy : a.eval y = .agg cells)
    (t : TypeId) (old : Array Value) (hg : Blk w g t old) (hi : (P.info? ty).map (·.size) = some cells.size) (hold : old.size = cells.size) (h1 : cells.all (·.oneCell') = true)
    (h : ∀ w', Blk w' g t cells → w.grownBy w' (some g) → w'.heap.size = w.heap.size → K (a.put o.dst undef) w') : if Region.wanted o (yielded ops a.tmps) = true then Oper.wp P o a w K Q else E := by
 have hw : Region.wanted o (yielded ops a.tmps) = true := by simp [Region.wanted, hgd]
 rw [if_pos hw]
 exact wp_store_row ty x y ho g cells hx hy t old hg hi hold h1 (h _ (Blk.setRow_same hg) (grown_setRow _) (setRow_size _ _ _))
end
theorem make_letter {P : Program} (t e : TypeId) (z : Value) (bytes : Nat) (ht : P.underlying t = some (.slice e)) (hi : (P.info? e).map (fun i => (i.zero, i.size, i.bytes)) = some (some z, 1, bytes)) (hzc : z.cells = #[z])
    (n : Nat) (hb : bytes * n ≤ 281474976710656) (h63 : n ≤ 9223372036854775807) :
    ∃ mk : World → World, (∀ W, (Instr.makeSlice t (.int .i64 (n : Int)) (.int .i64 (n : Int))).run P W = .ok (.slice (some ⟨W.heap.size, 0, none⟩) n n) (mk W)) ∧
     (∀ W, Blk (mk W) W.heap.size e (List.replicate n z).toArray) ∧ (∀ W, Below W.heap.size W (mk W)) ∧ (∀ W, (mk W).heap.size = W.heap.size + 1) :=
 ⟨fun W => W.alloc (.cells (List.replicate n z).toArray e), fun W => run_make1 t e z bytes ht hi hzc n hb h63 W, fun W => Blk.new W e _, fun W => (Below.refl _ _).alloc (Nat.le_refl _) _, fun W => by simp⟩
def bytesV (b : List Nat) : List Value := b.map fun (n : Nat) => Value.int .u8 (n : Int)
theorem bytesV_length (b : List Nat) : (bytesV b).length = b.length := by simp [bytesV]
theorem bytesV_one (b : List Nat) : ∀ u ∈ bytesV b, u.oneCell' = true := by
 intro u hu
 unfold bytesV at hu
 rw [List.mem_map] at hu
 obtain ⟨x, _, rfl⟩ := hu
 rfl
theorem bytesV_append (a b : List Nat) : bytesV (a ++ b) = bytesV a ++ bytesV b := by simp [bytesV]
theorem bytesV_drop (b : List Nat) (k : Nat) : bytesV (b.drop k) = (bytesV b).drop k := by simp [bytesV]
theorem bytesV_get {b : List Nat} {k : Nat} (h : k < b.length) : (bytesV b)[k]? = some (.int .u8 ((b.getD k 0 : Nat) : Int)) := by
 simp [bytesV, h]
theorem cells_blk {w : World} {g : Nat} {t : TypeId} {cs : Array Value} (h : Blk w g t cs) : Cells w (some ⟨g, 0, none⟩) cs.toList :=
 .inr ⟨g, 0, rfl, h.lt, fun j u hu => by rw [Nat.zero_add, h.cell j]; simpa using hu⟩
theorem arrK_toList (q : IntKind) (l : List Nat) : (arrK q l).toList = l.map fun (n : Nat) => Value.int q (n : Int) := by simp [arrK]
theorem blk_two (w : World) (cs1 cs2 : Array Value) (t1 t2 : TypeId) : Blk ((w.alloc (.cells cs1 t1)).alloc (.cells cs2 t2)) w.heap.size t1 cs1 ∧ Blk ((w.alloc (.cells cs1 t1)).alloc (.cells cs2 t2)) (w.heap.size + 1) t2 cs2 := by
 refine ⟨(Blk.new _ _ _).alloc _, ?_⟩
 have := Blk.new (w.alloc (.cells cs1 t1)) t2 cs2
 rw [World.size_alloc] at this
 exact this
theorem ret_row {P : Program} {fn : Func} {R : Ending → World → Prop} {a : Act} {w : World} {p : Tmp} {ty : TypeId} (h : fn.results = #[.cell p ty]) (g : Nat) (t : TypeId) (cs : Array Value) (d : TypeDesc)
    (hp : a.tmps.getD p undef = .pointer (some ⟨g, 0, none⟩)) (hg : Blk w g t cs) (hu : P.underlying ty = some d) (hd : (match d with | .struct _ | .array _ _ => true | _ => false) = true) (hi : (P.info? ty).map (·.size) = some cs.size)
    (hdf : a.defers = []) (hR : R (.returned (.agg cs)) w) : bodyPost P fn R .ret a w :=
 bodyPost_ret (results_cell_row h a.tmps w g t cs (0, 0) d hp hg hu hd hi) hdf hR
theorem arrK_size (q : IntKind) (l : List Nat) : (arrK q l).size = l.length := by simp [arrK]
attribute [irreducible] bytesV
end Go.Proofs.YtkflpoiobpblhaaGreat
namespace Go.Proofs.YtkflpoiobpblhaaGreat
open Go.RowKit
theorem at_any (x y : Int) (w : World) (hx : 0 ≤ x) (hx2 : x ≤ 100) (hy : -5 ≤ y) (hy2 : y ≤ 100) :
    Calls Tryz.prog 130 #[.int .i64 x, .int .i64 y] w fun e w' => e = .returned (.int .i64 (5 * ((y + 5) % 5) + (x + 5) % 5)) ∧ w = w' := by
 have h1 : 0 ≤ y + 5 := by omega
 have h2 : 0 ≤ x + 5 := by omega
 have h3 : 0 ≤ (y + 5) % 5 := by omega
 have h4 : (y + 5) % 5 < 5 := by omega
 have h5 : 0 ≤ (x + 5) % 5 := by omega
 have h6 : (x + 5) % 5 < 5 := by omega
 go_enter Tryz.func130, Tryz.ntmps130
 go_wp2
 go_ret
 exact ⟨ret_int (by omega), rfl⟩
theorem at_xy (x y : Nat) (w : World) (hx : x < 5) (hy : y < 5) :
    Calls Tryz.prog 130 #[.int .i64 x, .int .i64 y] w fun e w' => e = .returned (.int .i64 (5 * y + x : Nat)) ∧ w' = w := by
 refine (at_any x y w (by omega) (by omega) (by omega) (by omega)).mono ?_
 rintro e w' ⟨rfl, rfl⟩
 exact ⟨ret_int (by omega), rfl⟩
theorem rol_any (v s : Nat) (hs : s < 64) (hv : IsW v) (w : World) :
    Calls Tryz.prog 131 #[.int .u64 v, .int .i64 s] w fun e w' => e = .returned (.int .u64 (rotl v s : Nat)) ∧ ∃ m, w' = w.drewN m := by
 have hsI : (s : Int) < 64 := by omega
 have hm : (s : Int) % 64 = s := by omega
 by_cases h0 : s = 0
 · subst h0
   have hv0 : rotl v 0 = v := by
    unfold rotl
    rw [Nat.shiftLeft_zero, Nat.mod_eq_of_lt hv, Nat.shiftRight_eq_div_pow, Nat.div_eq_of_lt (by exact hv)]
    simp
   rw [hv0]
   clear hv0 hm hsI
   go_enter Tryz.func131, Tryz.ntmps131
   go_wp2
   go_ret
   exact ⟨rfl, 0, rfl⟩
 · have h1 : ((s : Int) == 0) = false := by simp; omega
   have hm2 : (s : Int).tmod 64 = s := by rw [Int.tmod_eq_emod_of_nonneg (by omega)]; omega
   go_enter Tryz.func131, Tryz.ntmps131
   go_wp2
   go_quiet (fail)
   go_wp2
   go_ret
   exact ⟨ret_int (rot_eq hv), _, rfl⟩
set_option maxRecDepth 100000 in
set_option maxHeartbeats 4000000 in
theorem turns_any (w : World) : Calls Tryz.prog 119 #[] w fun e w' => e = .returned (.agg (arrK .i64 turnL)) ∧ Below w.heap.size w w' := by
 go_enter Tryz.func119, Tryz.ntmps119
 go_wp2_with (
  (refine wpList_store_same rfl 143 (.tmp 1) (.tmp 6) rfl (w.heap.size + 1) (arrK .i64 (List.replicate 25 0)) rfl rfl 143 (blk_two w (arrK .i64 (List.replicate 25 0)) (arrK .i64 (List.replicate 25 0)) 143 143).2 (by kernel_rfl) (arrK_all _ _) ?_
   generalize hge : World.alloc _ _ = w1
   have H1 := Lib.hid (show Blk w1 w.heap.size 143 (arrK .i64 (List.replicate 25 0)) by subst hge; exact (blk_two w (arrK .i64 (List.replicate 25 0)) (arrK .i64 (List.replicate 25 0)) 143 143).1)
   have H2 := Lib.hid (show Blk w1 (w.heap.size + 1) 143 (arrK .i64 (List.replicate 25 0)) by subst hge; exact (blk_two w (arrK .i64 (List.replicate 25 0)) (arrK .i64 (List.replicate 25 0)) 143 143).2)
   have hB : Below w.heap.size w w1 := by subst hge; exact ((Below.refl _ _).alloc (Nat.le_refl _) _).alloc (by simp) _
   clear hge))
 go_loopw [2, 3, 4] (fun x y i wr => ∃ k : Nat, k ≤ 24 ∧ i = .int .i64 k ∧ x = .int .i64 (tAcc k).1 ∧ y = .int .i64 (tAcc k).2.1 ∧ Hid (Blk wr (w.heap.size + 1) 143 (arrK .i64 (tAcc k).2.2)) ∧ w1.grownBy wr (some (w.heap.size + 1))) (fun _ _ i _ => 24 - (intOf i).toNat)
 case atStart => exact ⟨0, by omega, rfl, by rw [tAcc_zero]; rfl, by rw [tAcc_zero]; rfl, by show Blk _ _ _ _; rw [tAcc_zero]; exact H2.out, World.grownBy.refl _ _⟩
 case round =>
  obtain ⟨k, hk, rfl, rfl, rfl, Ht, hg⟩ := hrel
  obtain ⟨hx, hy, hl⟩ := tAcc_small k hk
  by_cases hlk : k < 24
  · have hdk : decide ((k : Int) < 24) = true := by simp; omega
    have e : tAcc (k + 1) = tStep (tAcc k) k := tAcc_succ k
    have Hst := Lib.hid (show Blk (wr.setCell ⟨w.heap.size + 1, 5 * (tAcc k).2.1 + (tAcc k).1, none⟩ (.int .i64 ((k + 1) * (k + 2) / 2 % 64 : Nat))) (w.heap.size + 1) 143 (arrK .i64 (tAcc (k + 1)).2.2) by
     rw [e]; exact Ht.out.put _ _)
    have ex : (tAcc (k + 1)).1 = (tAcc k).2.1 := by rw [e]; rfl
    have ey : (tAcc (k + 1)).2.1 = (2 * (tAcc k).1 + 3 * (tAcc k).2.1) % 5 := by rw [e]; rfl
    have hf := Ht.out.frozen (5 * (tAcc k).2.1 + (tAcc k).1)
    have hc := Ht.out.word (i := 5 * (tAcc k).2.1 + (tAcc k).1) (by omega)
    clear e
    generalize (tAcc k).2.2.getD (5 * (tAcc k).2.1 + (tAcc k).1) 0 = old at *
    generalize (tAcc k).1 = x at *
    generalize (tAcc k).2.1 = y at *
    have Ex := Lib.hid ex
    have Ey := Lib.hid ey
    clear ex ey hl
    have g0 : ((k : Int) + 1) * ((k : Int) + 2) = (((k + 1) * (k + 2) : Nat) : Int) := by simp
    have hq : (k + 1) * (k + 2) ≤ 600 := Nat.mul_le_mul (show k + 1 ≤ 24 by omega) (show k + 2 ≤ 25 by omega)
    generalize (k + 1) * (k + 2) = q at *
    have g1 : IntKind.i64.wrap (q : Int) = (q : Int) := IntWalk.i64_in _ (by omega)
    have g2 : (q : Int).tdiv 2 = ((q / 2 : Nat) : Int) := by rw [Int.tdiv_eq_ediv_of_nonneg (by omega)]; omega
    have g3 : (((q / 2 : Nat) : Int)).tmod 64 = ((q / 2 % 64 : Nat) : Int) := by rw [Int.tmod_eq_emod_of_nonneg (by omega)]; omega
    have g4 : (2 * (x : Int) + 3 * (y : Int)).tmod 5 = (((2 * x + 3 * y) % 5 : Nat) : Int) := by rw [Int.tmod_eq_emod_of_nonneg (by omega)]; omega
    have g5 : (((5 * y + x : Nat)) : Int) < 25 := by omega
    have g8 : ((q / 2 % 64 : Nat) : Int) = (q : Int) / 2 % 64 := by omega
    have g9 : (((2 * x + 3 * y) % 5 : Nat) : Int) = (2 * (x : Int) + 3 * (y : Int)) % 5 := by omega
    have g6 : (5 * (y : Int) + (x : Int)).toNat = 5 * y + x := by omega
    have g7 : 5 * (y : Int) + (x : Int) < 25 := by omega
    have g10 : 0 ≤ 5 * (y : Int) + (x : Int) := by omega
    rw [g8] at Hst
    clear g8
    have hg2 := Lib.hid (show w1.grownBy (wr.setCell ⟨w.heap.size + 1, 5 * y + x, none⟩ (.int .i64 ((q : Int) / 2 % 64))) (some (w.heap.size + 1)) from grown_trans hg (grown_setCell _ _ _))
    go_wp2_with (go_at_call 130; refine (at_xy x y _ hx hy).mono ?_; rintro e w' ⟨rfl, rfl⟩)
    refine ⟨⟨k + 1, by omega, by simp, by rw [Ex.out], by rw [Ey.out, g9], Hst, hg2.out⟩, ?_⟩
    simp [intOf]; omega
  · have hk24 : Hid (k = 24) := by show k = 24; omega
    have hdk : decide ((k : Int) < 24) = false := by simp; omega
    have HT2 := Lib.hid (show Blk wr (w.heap.size + 1) 143 (arrK .i64 turnL) by have := Ht.out; rw [hk24.out, tAcc_all] at this; exact this)
    have HR2 := Lib.hid (H1.out.grown hg (by simp))
    have hB2 := below_grown hB hg (Nat.le_of_lt H1.out.lt) (by simp)
    clear Ht H1 H2 hB hx hy hl
    go_wp2_with (first
     | (refine wpList_load_blk rfl 143 (.tmp 1) rfl (w.heap.size + 1) rfl 143 (arrK .i64 turnL) (.array 25 3) HT2.out (by kernel_rfl) rfl (by kernel_rfl) ?_)
     | (refine wpList_put_blk rfl 143 (.tmp 0) (.tmp 30) rfl w.heap.size (arrK .i64 turnL) rfl rfl 143 (arrK .i64 (List.replicate 25 0)) HR2.out (by kernel_rfl) (by kernel_rfl) (arrK_all _ _) ?_
        intro w3 H3 hg3 hz3
        have HR3 := Lib.hid H3
        have hB3 := below_grown hB2 hg3 hB2.size (by simp)
        clear H3 hz3))
    exact ret_row rfl w.heap.size 143 (arrK .i64 turnL) (.array 25 3) rfl HR3.out (by kernel_rfl) rfl (by kernel_rfl) rfl ⟨rfl, hB3⟩
end Go.Proofs.YtkflpoiobpblhaaGreat
namespace Go.Proofs.YtkflpoiobpblhaaGreat
open Go.RowKit
theorem and1 {s : Nat} (hs : s < 256) : IntKind.u64.wrap (bits .and .i64 (s : Int) 1) = ((s &&& 1 : Nat) : Int) := by
 have h : ∀ s : Fin 256, IntKind.u64.wrap (bits .and .i64 (s.1 : Int) 1) = ((s.1 &&& 1 : Nat) : Int) := by decide +kernel
 exact h ⟨s, hs⟩
set_option maxRecDepth 100000 in
set_option maxHeartbeats 4000000 in
theorem constants_any (w : World) : Calls Tryz.prog 120 #[] w fun e w' => e = .returned (.agg (arrK .u64 constL)) ∧ Below w.heap.size w w' := by
 have hz168 : ∀ W, (zeroValue 165).run Tryz.prog W = .ok (.agg (arrK .u64 (List.replicate 168 0))) W := fun W => by kernel_rfl
 go_enter Tryz.func120, Tryz.ntmps120
 go_wp2_with (
  (refine wpList_store_same rfl 165 (.tmp 1) (.tmp 7) rfl (w.heap.size + 1) (arrK .u64 (List.replicate 168 0)) rfl rfl 165 (blk_two w (arrK .u64 (List.replicate 24 0)) (arrK .u64 (List.replicate 168 0)) 144 165).2 (by kernel_rfl) (arrK_all _ _) ?_
   generalize hge : World.alloc _ _ = w1
   have H1 := Lib.hid (show Blk w1 w.heap.size 144 (arrK .u64 (List.replicate 24 0)) by subst hge; exact (blk_two w (arrK .u64 (List.replicate 24 0)) (arrK .u64 (List.replicate 168 0)) 144 165).1)
   have H2 := Lib.hid (show Blk w1 (w.heap.size + 1) 165 (arrK .u64 (List.replicate 168 0)) by subst hge; exact (blk_two w (arrK .u64 (List.replicate 24 0)) (arrK .u64 (List.replicate 168 0)) 144 165).2)
   have hB : Below w.heap.size w w1 := by subst hge; exact ((Below.refl _ _).alloc (Nat.le_refl _) _).alloc (by simp) _
   clear hge))
 clear hz168
 go_loopw [2, 3] (fun s i wr => ∃ k : Nat, k ≤ 168 ∧ i = .int .i64 k ∧ s = .int .i64 (csAcc k).2 ∧ Hid (Blk wr (w.heap.size + 1) 165 (arrK .u64 (csAcc k).1)) ∧ w1.grownBy wr (some (w.heap.size + 1))) (fun _ i _ => 168 - (intOf i).toNat)
 case atStart => exact ⟨0, by omega, rfl, by rw [csAcc_zero]; rfl, by show Blk _ _ _ _; rw [csAcc_zero]; exact H2.out, World.grownBy.refl _ _⟩
 case round =>
  obtain ⟨k, hk, rfl, rfl, Ht, hg⟩ := hrel
  obtain ⟨hl, hs, -⟩ := csAcc_small k
  by_cases hlk : k < 168
  · have hdk : decide ((k : Int) < 168) = true := by simp; omega
    have e := csAcc_succ k
    have Hst := Lib.hid (show Blk (wr.setCell ⟨w.heap.size + 1, k, none⟩ (.int .u64 ((csAcc k).2 &&& 1 : Nat))) (w.heap.size + 1) 165 (arrK .u64 (csAcc (k + 1)).1) by
     rw [e]; exact Ht.out.put _ _)
    have ey : (csAcc (k + 1)).2 = lfsr (csAcc k).2 := by rw [e]
    have hf := Ht.out.frozen k
    have hc := Ht.out.word (i := k) (by omega)
    clear e
    generalize (csAcc k).1.getD k 0 = old at *
    generalize (csAcc k).2 = s at *
    have Ey := Lib.hid ey
    clear ey hl
    have g1 := and1 hs
    generalize s &&& 1 = bt at *
    have hg2 := Lib.hid (show w1.grownBy (wr.setCell ⟨w.heap.size + 1, k, none⟩ (.int .u64 (bt : Nat))) (some (w.heap.size + 1)) from grown_trans hg (grown_setCell _ _ _))
    by_cases hbig : 2 * s > 255
    · have hdb : decide ((256 : Int) ≤ 2 * (s : Int)) = true := by simp; omega
      have hx := lfsr_ref hs
      have Hs3 := Lib.hid (show lfsr s = 2 * s ^^^ 369 by rw [lfsr_eq, if_pos hbig])
      go_wp2_with (fail)
      go_roundw
      case rel => exact ⟨k + 1, by omega, by go_num, by rw [Ey.out, Hs3.out], Hst.out, hg2.out⟩
      case measure => simp [intOf]; omega
    · have hdb : decide ((256 : Int) ≤ 2 * (s : Int)) = false := by simp; omega
      have Hs3 := Lib.hid (show lfsr s = 2 * s by rw [lfsr_eq, if_neg hbig])
      go_wp2_with (fail)
      go_roundw
      case rel => exact ⟨k + 1, by omega, by go_num, by rw [Ey.out, Hs3.out]; go_num, Hst.out, hg2.out⟩
      case measure => simp [intOf]; omega
  · have hk168 : Hid (k = 168) := by show k = 168; omega
    have hdk : decide ((k : Int) < 168) = false := by simp; omega
    have HC2 := Lib.hid (show Blk wr (w.heap.size + 1) 165 (arrK .u64 bitsL) by have := Ht.out; rw [hk168.out, ← bitsL_eq] at this; exact this)
    have hcl : bitsL.length = 168 ∧ ∀ i, bitsL.getD i 0 < 2 := by rw [bitsL_eq]; exact ⟨(csAcc_small 168).1, (csAcc_small 168).2.2⟩
    have Hcl := Lib.hid hcl
    have HR2 := Lib.hid (H1.out.grown hg (by simp))
    have hB2 := below_grown hB hg (Nat.le_of_lt H1.out.lt) (by simp)
    have hS2 : w.heap.size + 1 + 1 ≤ wr.heap.size := HC2.out.lt
    clear Ht H1 H2 hB hs hl hcl
    generalize (csAcc k).2 = sl at *
    obtain ⟨w2, rfl⟩ : ∃ w2 : World, w2 = wr := ⟨_, rfl⟩
    go_wp2_with (
     (refine wpList_store_same rfl 144 (.tmp 4) (.tmp 24) rfl w2.heap.size (arrK .u64 (List.replicate 24 0)) rfl rfl 144 (Blk.new w2 144 (arrK .u64 (List.replicate 24 0))) (by kernel_rfl) (arrK_all _ _) ?_
      generalize hge : World.alloc _ _ = w3
      have HK3 := Lib.hid (show Blk w3 w2.heap.size 144 (arrK .u64 (List.replicate 24 0)) by subst hge; exact Blk.new w2 _ _)
      have HC3 := Lib.hid (show Blk w3 (w.heap.size + 1) 165 (arrK .u64 bitsL) by subst hge; exact HC2.out.alloc _)
      have HR3 := Lib.hid (show Blk w3 w.heap.size 144 (arrK .u64 (List.replicate 24 0)) by subst hge; exact HR2.out.alloc _)
      have hB3 : Below w.heap.size w w3 := by subst hge; exact hB2.alloc hB2.size _
      clear hge HC2 HR2 hB2))
    go_loopw [5] (fun i wr => ∃ r : Nat, r ≤ 24 ∧ i = .int .i64 r ∧ Hid (Blk wr w2.heap.size 144 (arrK .u64 (rkOut bitsL r))) ∧ w3.grownBy wr (some w2.heap.size)) (fun i _ => 24 - (intOf i).toNat)
    case atStart => exact ⟨0, by omega, rfl, by show Blk _ _ _ _; rw [rkOut_zero]; exact HK3.out, World.grownBy.refl _ _⟩
    case round =>
     obtain ⟨r, hr, rfl, Hk, hg5⟩ := hrel
     by_cases hlr : r < 24
     · have hdr : decide ((r : Int) < 24) = true := by simp; omega
       obtain ⟨P, hP⟩ : ∃ P, rkOut bitsL r = P := ⟨_, rfl⟩
       have Hpl := Lib.hid (show P.length = 24 ∧ AllW P by rw [← hP]; exact ⟨rkOut_length _ _, rkOut_w Hcl.out.2 r⟩)
       have Hnx := Lib.hid (show rkOut bitsL (r + 1) = rkIn bitsL r P 7 by rw [rkOut_succ, hP])
       rw [hP] at Hk
       clear hP
       obtain ⟨w5, rfl⟩ : ∃ w5 : World, w5 = wr := ⟨_, rfl⟩
       go_wp2_with (fail)
       go_loopw [6] (fun i wr => ∃ j : Nat, j ≤ 7 ∧ i = .int .i64 j ∧ Hid (Blk wr w2.heap.size 144 (arrK .u64 (rkIn bitsL r P j))) ∧ w5.grownBy wr (some w2.heap.size)) (fun i _ => 7 - (intOf i).toNat)
       case atStart => exact ⟨0, by omega, rfl, by show Blk _ _ _ _; rw [rkIn_zero]; exact Hk.out, World.grownBy.refl _ _⟩
       case round =>
        obtain ⟨j, hj, rfl, Hj, hg6⟩ := hrel
        by_cases hlj : j < 7
        · have hdj : decide ((j : Int) < 7) = true := by simp; omega
          have hcj := Hcl.out.2 (7 * r + j)
          have HCr := (HC3.out.grown hg5 (by simp; omega)).grown hg6 (by simp; omega)
          have e1 := Hj.out.word (i := r) (by rw [rkIn_length, Hpl.out.1]; exact hlr)
          have f1 := Hj.out.frozen r
          have e2 := HCr.word (i := 7 * r + j) (by rw [Hcl.out.1]; omega)
          have wz := rkIn_w Hcl.out.2 r Hpl.out.2 j (by omega) r
          have Hst := Lib.hid (show Blk (wr.drew.setCell ⟨w2.heap.size, r, none⟩ (.int .u64 ((rkIn bitsL r P j).getD r 0 ||| (bitsL.getD (7 * r + j) 0 <<< (2 ^ j - 1)) : Nat))) w2.heap.size 144 (arrK .u64 (rkIn bitsL r P (j + 1))) by
           rw [rkIn_succ]; exact (Hj.out.drewN 1).put _ _)
          clear HCr
          generalize (rkIn bitsL r P j).getD r 0 = z at *
          generalize bitsL.getD (7 * r + j) 0 = cv at *
          have hor := or_w wz (rkV_w hcj hlj)
          have hsh := rk_walk hcj hlj
          have hrI : (r : Int) < 24 := by omega
          have g7 : ((7 * r + j : Nat) : Int) < 168 := by omega
          have g8 : 7 * (r : Int) + (j : Int) < 168 := by omega
          have g9 : (7 * (r : Int) + (j : Int)).toNat = 7 * r + j := by omega
          have g10 : IntKind.i64.wrap (7 * (r : Int) + (j : Int)) = 7 * (r : Int) + (j : Int) := IntWalk.i64_in _ (by omega)
          have g11 : 0 ≤ 7 * (r : Int) + (j : Int) := by omega
          have g12 : IntKind.i64.wrap (7 * (r : Int)) = 7 * (r : Int) := IntWalk.i64_in _ (by omega)
          have hg7 := Lib.hid (show w5.grownBy wr.drew (some w2.heap.size) from grown_trans hg6 (grown_of_below (((Drawn.refl wr).drewN 1).below _) _))
          generalize cv <<< (2 ^ j - 1) = sv at *
          go_wp2_with (fail)
          refine wp_region_still_tail 16 (by kernel_rfl) (by kernel_rfl) ?_
          simp only [List.take_succ_cons, List.take_zero, List.drop_succ_cons, List.drop_zero]
          repeat still_step
          refine wpStill_nil ?_
          change wpList _ _ _ _ _ wr.drew
          go_wp2_with (fail)
          go_roundw
          case rel => exact ⟨j + 1, by omega, by go_num, Hst.out, grown_trans hg7.out (grown_setCell _ _ _)⟩
          case measure => simp [intOf]; omega
        · have hj7 : Hid (j = 7) := by show j = 7; omega
          have hdj : decide ((j : Int) < 7) = false := by simp; omega
          have Hj2 := Lib.hid (show Blk wr w2.heap.size 144 (arrK .u64 (rkOut bitsL (r + 1))) by have := Hj.out; rw [hj7.out, ← Hnx.out] at this; exact this)
          have hg8 := Lib.hid (grown_trans hg5 hg6)
          clear Hj
          go_wp2_with (fail)
          go_roundw
          case rel => exact ⟨r + 1, by omega, by go_num, Hj2.out, hg8.out⟩
          case measure => simp [intOf]; omega
     · have hr24 : Hid (r = 24) := by show r = 24; omega
       have hdr : decide ((r : Int) < 24) = false := by simp; omega
       have HK4 := Lib.hid (show Blk wr w2.heap.size 144 (arrK .u64 constL) by have := Hk.out; rw [hr24.out, rk_all] at this; exact this)
       have HR4 := Lib.hid (HR3.out.grown hg5 (by simp; omega))
       have hB4 := below_grown hB3 hg5 (Nat.le_of_lt HR3.out.lt) (by simp; omega)
       clear Hk
       go_wp2_with (first
        | (refine wpList_load_blk rfl 144 (.tmp 4) rfl w2.heap.size rfl 144 (arrK .u64 constL) (.array 24 129) HK4.out (by kernel_rfl) rfl (by kernel_rfl) ?_)
        | (refine wpList_put_blk rfl 144 (.tmp 0) (.tmp 49) rfl w.heap.size (arrK .u64 constL) rfl rfl 144 (arrK .u64 (List.replicate 24 0)) HR4.out (by kernel_rfl) (by kernel_rfl) (arrK_all _ _) ?_
           intro w6 H6 hg6 hz6
           have HR6 := Lib.hid H6
           have hB6 := below_grown hB4 hg6 hB4.size (by simp)
           clear H6 hz6))
       exact ret_row rfl w.heap.size 144 (arrK .u64 constL) (.array 24 129) rfl HR6.out (by kernel_rfl) rfl (by kernel_rfl) rfl ⟨rfl, hB6⟩
end Go.Proofs.YtkflpoiobpblhaaGreat
