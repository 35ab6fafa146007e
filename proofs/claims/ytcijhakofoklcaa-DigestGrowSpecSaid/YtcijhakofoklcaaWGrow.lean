/- The walk of Grow: its inner function calls itself through a variable, and appends to the result's. -/
import Derived.Test.YtcijhakofoklcaaOne
import Derived.Test.YtcijhakofoklcaaGrowQ
import Derived.Deep.RegionHeld3
import Derived.Deep.DeepCutAuto
import Derived.Laws.EntriesVeiled
namespace Go.Proofs.Ytcijhakofoklcaa
open Go.RowKit
/-- Grow's inner function, as a value. -/
def GC (pc gc : Nat) : Value := .func (.func 62) #[] #[.pointer (some ⟨pc, 0, none⟩), .pointer (some ⟨gc, 0, none⟩)]
/-- What a call of the inner function leaves. -/
def GrowPost (w0 : World) (pc gc : Nat) (pl g : List (List Nat)) (e : Ending) (w' : World) : Prop :=
  e = .returned (.tuple #[]) ∧ ∃ A' c' q', Blk w' pc 28 #[.slice A' q' c'] ∧ q' = pl.length + g.length ∧ Blk w' gc 77 #[GC pc gc] ∧ w'.ownsRow w0.heap.size 37 32 (.slice A' q' c') q' (bytesV (pl ++ g).flatten) ∧ Apart (.slice A' q' c') pc ∧ Apart (.slice A' q' c') gc ∧ Below w0.heap.size w0 w'
theorem cellv1 {w : World} {g : Nat} {t : TypeId} {v : Value} (h : Blk w g t #[v]) : w.cell? ⟨g, 0, none⟩ = some v := (h.cell 0).trans rfl
set_option linter.unusedVariables false in
set_option linter.unusedSimpArgs false in
set_option maxRecDepth 100000 in
set_option maxHeartbeats 8000000 in
theorem grow1_any : ∀ (m : Nat) (l : List (List Nat)) (n : Nat) (wh : Bool) (A : Option Addr) (c : Nat) (w0 w : World) (pc gc : Nat) (pl : List (List Nat)) (Ap : Option Addr) (qp cp : Nat),
    l.length = m → IsL l → 1 ≤ n → n ≤ m → m ≤ c → m ≤ 1000 → pl.length = qp → qp + grownS n m wh ≤ 1000 → Cells w0 A (bytesV l.flatten) → Below w0.heap.size w0 w → w0.heap.size ≤ pc → w0.heap.size ≤ gc → pc ≠ gc →
    Blk w pc 28 #[.slice Ap qp cp] → Blk w gc 77 #[GC pc gc] → w.ownsRow w0.heap.size 37 32 (.slice Ap qp cp) qp (bytesV pl.flatten) → Apart (.slice Ap qp cp) pc → Apart (.slice Ap qp cp) gc →
    Calls Try.prog 62 #[.slice A m c, .int .i64 n, .bool wh, .pointer (some ⟨pc, 0, none⟩), .pointer (some ⟨gc, 0, none⟩)] w (GrowPost w0 pc gc pl (growS l n wh)) := by
  intro m
  induction m using Nat.strongRecOn with
  | _ m ih =>
  intro l n wh A c w0 w pc gc pl Ap qp cp hl hL hn1 hn hmc hm hpl hq hA hB hpc hgc hne HP HG HO a1 a2
  have IH := Lib.hid ih
  have Hl := Lib.hid hl
  have HL := Lib.hid hL
  have HA := Lib.hid hA
  have HB := Lib.hid hB
  replace HP := Lib.hid HP
  replace HG := Lib.hid HG
  replace HO := Lib.hid HO
  replace a1 := Lib.hid a1
  replace a2 := Lib.hid a2
  have hz := hB.size
  clear ih hl hL hA hB
  by_cases h0 : n = m
  · have q1 : ((n : Int) == (m : Int)) = true := by simp; omega
    have q2 : (n == m) = true := by simp; omega
    cases wh
    · rw [growS_part (h0.trans Hl.out.symm)]
      have HT := Lib.hid (fun W (h : Below w0.heap.size w0 W) => tree_any m l A c W Hl.out HL.out hmc (by omega) (HA.out.below h))
      have Dt := Lib.hid (treeS_isD l)
      rw [grownS_part h0] at hq
      generalize treeS l = tl at *
      clear h0
      go_enter Try.func62, Try.ntmps62
      go_upto_region 2 with (fail)
      refine wp_region_held_drew (S := fun W => Below w0.heap.size w0 W) (by kernel_rfl) (below_drewN HB.out 1) (fun Hd => ?_)
      have Hd : Below w0.heap.size w0 w.drew := below_drewN HB.out 1
      have Zd : w0.heap.size ≤ w.drew.heap.size := HB.out.size
      have fP : Blk w.drew pc 28 #[.slice Ap (qp) cp] := HP.out
      have fG : Blk w.drew gc 77 #[GC pc gc] := HG.out
      have fo : w.drew.ownsRow w0.heap.size 37 32 (.slice Ap (qp) cp) (qp) (bytesV (pl).flatten) := HO.out
      have apP := a1.out
      have apG := a2.out
      generalize World.drew w = wd at *
      refine wpAnyH_take (i := 1) (v := ?_) rfl (by kernel_rfl) (by kernel_rfl) (by kernel_rfl) (fun _ _ _ h => h) (Or.inl ⟨by rfl, ?_⟩) Hd ?_
      rotate_left
      · intro wS hSw
        go_simp
        try with_reducible rfl
      try simp only [List.getElem_toArray, List.getElem_cons_zero, List.getElem_cons_succ, Act.put, List.setIfInBounds_toArray, List.set_cons_zero, List.set_cons_succ]
      refine wpAnyH_ready (rs := [0, 2]) (by kernel_rfl) (by simp) (AllReadyH.cons rfl (fun K hK => ?_) (AllReadyH.cons rfl (fun K hK => ?_) AllReadyH.nil))
      · have qP := cellv1 fP
        go_simp
        first | with_reducible rfl | skip
        refine hK.out _ _ Hd fun _ => ?_
        clear hK K
        try simp only [List.getElem_toArray, List.getElem_cons_zero, List.getElem_cons_succ, Act.put, List.setIfInBounds_toArray, List.set_cons_zero, List.set_cons_succ]
        refine wpAnyH_ready (rs := [2]) (by kernel_rfl) (by simp) (AllReadyH.cons rfl (fun K hK => ?_) AllReadyH.nil)
        go_simp
        refine (HT.out _ Hd).mono ?_
        rintro e w1_ ⟨rfl, hb1⟩
        have fP1 := fP.below hb1
        have fG1 := fG.below hb1
        have fo1 := own_below fo hb1
        have Hb1 : Below w0.heap.size w0 w1_ := below_of Hd hb1 Hd.size
        have Zb1 : w0.heap.size ≤ w1_.heap.size := Nat.le_trans Zd hb1.size
        go_wp2_with (fail)
        refine hK.out _ _ Hb1 fun _ => ?_
        clear hK K
        try simp only [List.getElem_toArray, List.getElem_cons_zero, List.getElem_cons_succ, Act.put, List.setIfInBounds_toArray, List.set_cons_zero, List.set_cons_succ]
        refine wpAnyH_ready (rs := [3]) (by kernel_rfl) (by simp) (AllReadyH.cons rfl (fun K hK => ?_) AllReadyH.nil)
        refine step_oneD (by rfl) _ (by rfl) (tl) Dt.out (by rfl) ?_
        generalize hge : World.alloc _ _ = w2_
        have fe2 : Blk w2_ w1_.heap.size 37 (arrK .u8 (tl)) := by subst hge; exact Blk.new _ _ _
        have hb2 : Below w1_.heap.size w1_ w2_ := by subst hge; exact (Below.refl _ _).alloc (Nat.le_refl _) _
        clear hge
        have fP2 := fP1.below hb2
        have fG2 := fG1.below hb2
        have fo2 := own_below fo1 hb2
        have ltPe2 := fP1.lt
        have ltGe2 := fG1.lt
        have apoe2 := apart_new fo1
        have loe2 : w0.heap.size ≤ w1_.heap.size := Zb1
        have Hb2 : Below w0.heap.size w0 w2_ := below_of Hb1 hb2 Hb1.size
        have Zb2 : w0.heap.size ≤ w2_.heap.size := Nat.le_trans Zb1 hb2.size
        refine hK.out _ _ Hb2 fun _ => ?_
        clear hK K
        try simp only [List.getElem_toArray, List.getElem_cons_zero, List.getElem_cons_succ, Act.put, List.setIfInBounds_toArray, List.set_cons_zero, List.set_cons_succ]
        refine wpAnyH_ready (rs := [4]) (by kernel_rfl) (by simp) (AllReadyH.cons rfl (fun K hK => ?_) AllReadyH.nil)
        refine step_pushDs (by rfl) _ _ (by rfl) (w0.heap.size) (.slice Ap (qp) cp) (qp) (pl) (tl) fo2 (by rfl) (w1_.heap.size) fe2 Dt.out (by rfl) (by omega) Zb2 ?_
        intro v3 w3_ fo3 hg3 st3
        have apoP3 := apart_sits st3 apP fP2.lt
        have apoG3 := apart_sits st3 apG fG2.lt
        have apoe3 := apart_sits st3 apoe2 fe2.lt
        have fP3 := fP2.grown hg3 (fun e => apP e.symm)
        have fG3 := fG2.grown hg3 (fun e => apG e.symm)
        have fe3 := fe2.grown hg3 (fun e => apoe2 e.symm)
        have Hb3 : Below w0.heap.size w0 w3_ := below_grown Hb2 hg3 Hb2.size (own_base fo2)
        have Zb3 : w0.heap.size ≤ w3_.heap.size := Nat.le_trans Zb2 hg3.size
        obtain ⟨A3, c3, rfl, le3, lm3, -⟩ := own_form fo3
        refine hK.out _ _ Hb3 fun _ => ?_
        clear hK K
        try simp only [List.getElem_toArray, List.getElem_cons_zero, List.getElem_cons_succ, Act.put, List.setIfInBounds_toArray, List.set_cons_zero, List.set_cons_succ]
        refine wpAnyH_ready (rs := [5]) (by kernel_rfl) (by simp) (AllReadyH.cons rfl (fun K hK => ?_) AllReadyH.nil)
        refine step_put_one (by rfl) 28 _ _ (by rfl) pc (.slice A3 (qp + 1) c3) (by rfl) (by rfl) _ _ fP3 (by kernel_rfl) (by rfl) ?_
        intro w4_ fP4 hg4 hz4
        have fG4 := fG3.grown hg4 (fun e => hne (Option.some.inj e).symm)
        have fo4 := fo3.kept hg4 (.inr apoP3)
        have Hb4 : Below w0.heap.size w0 w4_ := below_grown Hb3 hg4 Hb3.size (fun k hk => by cases hk; exact hpc)
        have Zb4 : w0.heap.size ≤ w4_.heap.size := Hb4.size
        refine hK.out _ _ Hb4 fun _ => ?_
        clear hK K
        try simp only [List.getElem_toArray, List.getElem_cons_zero, List.getElem_cons_succ, Act.put, List.setIfInBounds_toArray, List.set_cons_zero, List.set_cons_succ]
        refine wpAnyH_done (by kernel_rfl) ?_ _
        go_wp2_with (fail)
        go_end0
        exact ⟨rfl, A3, c3, _, fP4, by simp [hpl], fG4, fo4, apoP3, apoG3, Hb4⟩
      · go_simp
        refine (HT.out _ Hd).mono ?_
        rintro e w1_ ⟨rfl, hb1⟩
        have fP1 := fP.below hb1
        have fG1 := fG.below hb1
        have fo1 := own_below fo hb1
        have Hb1 : Below w0.heap.size w0 w1_ := below_of Hd hb1 Hd.size
        have Zb1 : w0.heap.size ≤ w1_.heap.size := Nat.le_trans Zd hb1.size
        go_wp2_with (fail)
        refine hK.out _ _ Hb1 fun _ => ?_
        clear hK K
        try simp only [List.getElem_toArray, List.getElem_cons_zero, List.getElem_cons_succ, Act.put, List.setIfInBounds_toArray, List.set_cons_zero, List.set_cons_succ]
        refine wpAnyH_ready (rs := [0, 3]) (by kernel_rfl) (by simp) (AllReadyH.cons rfl (fun K hK => ?_) (AllReadyH.cons rfl (fun K hK => ?_) AllReadyH.nil))
        · have qP := cellv1 fP1
          go_simp
          first | with_reducible rfl | skip
          refine hK.out _ _ Hb1 fun _ => ?_
          clear hK K
          try simp only [List.getElem_toArray, List.getElem_cons_zero, List.getElem_cons_succ, Act.put, List.setIfInBounds_toArray, List.set_cons_zero, List.set_cons_succ]
          refine wpAnyH_ready (rs := [3]) (by kernel_rfl) (by simp) (AllReadyH.cons rfl (fun K hK => ?_) AllReadyH.nil)
          refine step_oneD (by rfl) _ (by rfl) (tl) Dt.out (by rfl) ?_
          generalize hge : World.alloc _ _ = w2_
          have fe2 : Blk w2_ w1_.heap.size 37 (arrK .u8 (tl)) := by subst hge; exact Blk.new _ _ _
          have hb2 : Below w1_.heap.size w1_ w2_ := by subst hge; exact (Below.refl _ _).alloc (Nat.le_refl _) _
          clear hge
          have fP2 := fP1.below hb2
          have fG2 := fG1.below hb2
          have fo2 := own_below fo1 hb2
          have ltPe2 := fP1.lt
          have ltGe2 := fG1.lt
          have apoe2 := apart_new fo1
          have loe2 : w0.heap.size ≤ w1_.heap.size := Zb1
          have Hb2 : Below w0.heap.size w0 w2_ := below_of Hb1 hb2 Hb1.size
          have Zb2 : w0.heap.size ≤ w2_.heap.size := Nat.le_trans Zb1 hb2.size
          refine hK.out _ _ Hb2 fun _ => ?_
          clear hK K
          try simp only [List.getElem_toArray, List.getElem_cons_zero, List.getElem_cons_succ, Act.put, List.setIfInBounds_toArray, List.set_cons_zero, List.set_cons_succ]
          refine wpAnyH_ready (rs := [4]) (by kernel_rfl) (by simp) (AllReadyH.cons rfl (fun K hK => ?_) AllReadyH.nil)
          refine step_pushDs (by rfl) _ _ (by rfl) (w0.heap.size) (.slice Ap (qp) cp) (qp) (pl) (tl) fo2 (by rfl) (w1_.heap.size) fe2 Dt.out (by rfl) (by omega) Zb2 ?_
          intro v3 w3_ fo3 hg3 st3
          have apoP3 := apart_sits st3 apP fP2.lt
          have apoG3 := apart_sits st3 apG fG2.lt
          have apoe3 := apart_sits st3 apoe2 fe2.lt
          have fP3 := fP2.grown hg3 (fun e => apP e.symm)
          have fG3 := fG2.grown hg3 (fun e => apG e.symm)
          have fe3 := fe2.grown hg3 (fun e => apoe2 e.symm)
          have Hb3 : Below w0.heap.size w0 w3_ := below_grown Hb2 hg3 Hb2.size (own_base fo2)
          have Zb3 : w0.heap.size ≤ w3_.heap.size := Nat.le_trans Zb2 hg3.size
          obtain ⟨A3, c3, rfl, le3, lm3, -⟩ := own_form fo3
          refine hK.out _ _ Hb3 fun _ => ?_
          clear hK K
          try simp only [List.getElem_toArray, List.getElem_cons_zero, List.getElem_cons_succ, Act.put, List.setIfInBounds_toArray, List.set_cons_zero, List.set_cons_succ]
          refine wpAnyH_ready (rs := [5]) (by kernel_rfl) (by simp) (AllReadyH.cons rfl (fun K hK => ?_) AllReadyH.nil)
          refine step_put_one (by rfl) 28 _ _ (by rfl) pc (.slice A3 (qp + 1) c3) (by rfl) (by rfl) _ _ fP3 (by kernel_rfl) (by rfl) ?_
          intro w4_ fP4 hg4 hz4
          have fG4 := fG3.grown hg4 (fun e => hne (Option.some.inj e).symm)
          have fo4 := fo3.kept hg4 (.inr apoP3)
          have Hb4 : Below w0.heap.size w0 w4_ := below_grown Hb3 hg4 Hb3.size (fun k hk => by cases hk; exact hpc)
          have Zb4 : w0.heap.size ≤ w4_.heap.size := Hb4.size
          refine hK.out _ _ Hb4 fun _ => ?_
          clear hK K
          try simp only [List.getElem_toArray, List.getElem_cons_zero, List.getElem_cons_succ, Act.put, List.setIfInBounds_toArray, List.set_cons_zero, List.set_cons_succ]
          refine wpAnyH_done (by kernel_rfl) ?_ _
          go_wp2_with (fail)
          go_end0
          exact ⟨rfl, A3, c3, _, fP4, by simp [hpl], fG4, fo4, apoP3, apoG3, Hb4⟩
        · refine step_oneD (by rfl) _ (by rfl) (tl) Dt.out (by rfl) ?_
          generalize hge : World.alloc _ _ = w2_
          have fe2 : Blk w2_ w1_.heap.size 37 (arrK .u8 (tl)) := by subst hge; exact Blk.new _ _ _
          have hb2 : Below w1_.heap.size w1_ w2_ := by subst hge; exact (Below.refl _ _).alloc (Nat.le_refl _) _
          clear hge
          have fP2 := fP1.below hb2
          have fG2 := fG1.below hb2
          have fo2 := own_below fo1 hb2
          have ltPe2 := fP1.lt
          have ltGe2 := fG1.lt
          have apoe2 := apart_new fo1
          have loe2 : w0.heap.size ≤ w1_.heap.size := Zb1
          have Hb2 : Below w0.heap.size w0 w2_ := below_of Hb1 hb2 Hb1.size
          have Zb2 : w0.heap.size ≤ w2_.heap.size := Nat.le_trans Zb1 hb2.size
          refine hK.out _ _ Hb2 fun _ => ?_
          clear hK K
          try simp only [List.getElem_toArray, List.getElem_cons_zero, List.getElem_cons_succ, Act.put, List.setIfInBounds_toArray, List.set_cons_zero, List.set_cons_succ]
          refine wpAnyH_ready (rs := [0]) (by kernel_rfl) (by simp) (AllReadyH.cons rfl (fun K hK => ?_) AllReadyH.nil)
          have qP := cellv1 fP2
          go_simp
          first | with_reducible rfl | skip
          refine hK.out _ _ Hb2 fun _ => ?_
          clear hK K
          try simp only [List.getElem_toArray, List.getElem_cons_zero, List.getElem_cons_succ, Act.put, List.setIfInBounds_toArray, List.set_cons_zero, List.set_cons_succ]
          refine wpAnyH_ready (rs := [4]) (by kernel_rfl) (by simp) (AllReadyH.cons rfl (fun K hK => ?_) AllReadyH.nil)
          refine step_pushDs (by rfl) _ _ (by rfl) (w0.heap.size) (.slice Ap (qp) cp) (qp) (pl) (tl) fo2 (by rfl) (w1_.heap.size) fe2 Dt.out (by rfl) (by omega) Zb2 ?_
          intro v3 w3_ fo3 hg3 st3
          have apoP3 := apart_sits st3 apP fP2.lt
          have apoG3 := apart_sits st3 apG fG2.lt
          have apoe3 := apart_sits st3 apoe2 fe2.lt
          have fP3 := fP2.grown hg3 (fun e => apP e.symm)
          have fG3 := fG2.grown hg3 (fun e => apG e.symm)
          have fe3 := fe2.grown hg3 (fun e => apoe2 e.symm)
          have Hb3 : Below w0.heap.size w0 w3_ := below_grown Hb2 hg3 Hb2.size (own_base fo2)
          have Zb3 : w0.heap.size ≤ w3_.heap.size := Nat.le_trans Zb2 hg3.size
          obtain ⟨A3, c3, rfl, le3, lm3, -⟩ := own_form fo3
          refine hK.out _ _ Hb3 fun _ => ?_
          clear hK K
          try simp only [List.getElem_toArray, List.getElem_cons_zero, List.getElem_cons_succ, Act.put, List.setIfInBounds_toArray, List.set_cons_zero, List.set_cons_succ]
          refine wpAnyH_ready (rs := [5]) (by kernel_rfl) (by simp) (AllReadyH.cons rfl (fun K hK => ?_) AllReadyH.nil)
          refine step_put_one (by rfl) 28 _ _ (by rfl) pc (.slice A3 (qp + 1) c3) (by rfl) (by rfl) _ _ fP3 (by kernel_rfl) (by rfl) ?_
          intro w4_ fP4 hg4 hz4
          have fG4 := fG3.grown hg4 (fun e => hne (Option.some.inj e).symm)
          have fo4 := fo3.kept hg4 (.inr apoP3)
          have Hb4 : Below w0.heap.size w0 w4_ := below_grown Hb3 hg4 Hb3.size (fun k hk => by cases hk; exact hpc)
          have Zb4 : w0.heap.size ≤ w4_.heap.size := Hb4.size
          refine hK.out _ _ Hb4 fun _ => ?_
          clear hK K
          try simp only [List.getElem_toArray, List.getElem_cons_zero, List.getElem_cons_succ, Act.put, List.setIfInBounds_toArray, List.set_cons_zero, List.set_cons_succ]
          refine wpAnyH_done (by kernel_rfl) ?_ _
          go_wp2_with (fail)
          go_end0
          exact ⟨rfl, A3, c3, _, fP4, by simp [hpl], fG4, fo4, apoP3, apoG3, Hb4⟩
    · rw [growS_whole (h0.trans Hl.out.symm)]
      clear h0
      go_enter Try.func62, Try.ntmps62
      go_wp2_with (fail)
      go_end0
      exact ⟨rfl, Ap, cp, qp, HP.out, by simp [hpl], HG.out, by rw [List.append_nil]; exact HO.out, a1.out, a2.out, HB.out⟩
  · have q1 : ((n : Int) == (m : Int)) = false := by simp; omega
    have q2 : (n == m) = false := by simp; omega
    have h2 : 2 ≤ m := by omega
    have hk1 := half_lt h2
    have hk2 := half_pos m
    have HH := Lib.hid (fun W => half_any m W h2 (by omega))
    obtain ⟨b, off, rfl, hb, -⟩ := Cells.addr HA.out (by rw [bytesV_length, HL.out.flat_length, Hl.out]; omega)
    have dlo := Lib.hid (fun h => growS_lo (l := l) (n := n) wh (by rw [Hl.out]; exact h0) (by rw [Hl.out]; exact h2) h)
    have dhi := Lib.hid (fun h => growS_hi (l := l) (n := n) wh (by rw [Hl.out]; exact h0) (by rw [Hl.out]; exact h2) h)
    have glo := Lib.hid (fun h => grownS_lo (n := n) (m := m) wh h0 h2 h)
    have ghi := Lib.hid (fun h => grownS_hi (n := n) (m := m) wh h0 h2 h)
    rw [Hl.out] at dlo dhi
    generalize halfN m = k at *
    have C1 := Lib.hid (show Cells w0 (some ⟨b, off, none⟩) (bytesV (l.take k).flatten) by
      rw [HL.out.flat_take k]
      have := HA.out.take_ (k * 32)
      rwa [show (bytesV l.flatten).take (k * 32) = bytesV (l.flatten.take (k * 32)) by unfold bytesV; rw [List.map_take]] at this)
    have C2 := Lib.hid (show Cells w0 (some ⟨b, off + k * 32, none⟩) (bytesV (l.drop k).flatten) by
      rw [HL.out.flat_drop k, bytesV_drop]
      exact HA.out.drop_ (k * 32))
    have L1 := Lib.hid (show (l.take k).length = k by rw [List.length_take, Hl.out]; omega)
    have L2 := Lib.hid (show (l.drop k).length = m - k by rw [List.length_drop, Hl.out])
    have I1 := Lib.hid (show IsL (l.take k) from fun x hx => HL.out x (List.mem_of_mem_take hx))
    have I2 := Lib.hid (show IsL (l.drop k) from fun x hx => HL.out x (List.mem_of_mem_drop hx))
    have T1 := Lib.hid (fun W (h : Below w0.heap.size w0 W) => tree_any k (l.take k) (some ⟨b, off, none⟩) c W L1.out I1.out (by omega) (by omega) (C1.out.below h))
    have T2 := Lib.hid (fun W (h : Below w0.heap.size w0 W) => tree_any (m - k) (l.drop k) (some ⟨b, off + k * 32, none⟩) (c - k) W L2.out I2.out (by omega) (by omega) (C2.out.below h))
    have Dt1 := Lib.hid (treeS_isD (l.take k))
    have Dt2 := Lib.hid (treeS_isD (l.drop k))
    have hkm : (k : Int) ≤ (m : Int) := by omega
    have hkc : (k : Int) ≤ (c : Int) := by omega
    have hmc' : (m : Int) ≤ (c : Int) := by omega
    have hck : ¬ c = k := by omega
    have hck2 : (c == k) = false := by simp; omega
    by_cases hk : n ≤ k
    · have hdk : decide ((n : Int) ≤ (k : Int)) = true := by simp; omega
      have hdk2 : decide (n ≤ k) = true := by simp; omega
      rw [dlo.out hk]
      rw [glo.out hk] at hq
      have GL := Lib.hid (growS_length k (l.take k) n wh L1.out hn1 hk)
      have P := Lib.hid (fun W (hB : Below w0.heap.size w0 W) hP hG hO h1 h2 => IH.out k hk1 (l.take k) n wh (some ⟨b, off, none⟩) c w0 W pc gc pl Ap qp cp L1.out I1.out hn1 hk (by omega) (by omega) hpl (by omega) C1.out hB hpc hgc hne hP hG hO h1 h2)
      generalize growS (l.take k) n wh = gs at *
      generalize treeS (l.drop k) = tl at *
      rw [← GL.out] at hq
      clear dlo dhi glo ghi h0
      go_enter Try.func62, Try.ntmps62
      go_wp2_with (fail)
      refine (HH.out _).mono ?_
      rintro e w' ⟨rfl, rfl⟩
      go_upto_region 5 with (fail)
      refine wp_region_held_drew (S := fun W => Below w0.heap.size w0 W ∧ Blk W gc 77 #[GC pc gc]) (by kernel_rfl) (⟨below_drewN HB.out 1, HG.out⟩) (fun Hd => ?_)
      have Hd : Below w0.heap.size w0 w.drew := below_drewN HB.out 1
      have Zd : w0.heap.size ≤ w.drew.heap.size := HB.out.size
      have fP : Blk w.drew pc 28 #[.slice Ap qp cp] := HP.out
      have fG : Blk w.drew gc 77 #[GC pc gc] := HG.out
      have fo : w.drew.ownsRow w0.heap.size 37 32 (.slice Ap qp cp) qp (bytesV pl.flatten) := HO.out
      generalize World.drew w = wd at *
      refine wpAnyH_take (i := 0) (v := ?_) rfl (by kernel_rfl) (by kernel_rfl) (by kernel_rfl) (fun _ _ _ h => h) (Or.inl ⟨by rfl, ?_⟩) ⟨Hd, fG⟩ ?_
      rotate_left
      · intro wS hSw
        have qG := cellv1 hSw.2
        go_simp
        try with_reducible rfl
      try simp only [List.getElem_toArray, List.getElem_cons_zero, List.getElem_cons_succ, Act.put, List.setIfInBounds_toArray, List.set_cons_zero, List.set_cons_succ]
      refine wpAnyH_take (i := 1) (v := ?_) rfl (by kernel_rfl) (by kernel_rfl) (by kernel_rfl) (fun _ _ _ h => h) (Or.inl ⟨by rfl, ?_⟩) ⟨Hd, fG⟩ ?_
      rotate_left
      · intro wS hSw
        go_simp
        try with_reducible rfl
      try simp only [List.getElem_toArray, List.getElem_cons_zero, List.getElem_cons_succ, Act.put, List.setIfInBounds_toArray, List.set_cons_zero, List.set_cons_succ]
      refine wpAnyH_take (i := 2) (v := ?_) rfl (by kernel_rfl) (by kernel_rfl) (by kernel_rfl) (fun _ _ _ h => h) (Or.inl ⟨by rfl, ?_⟩) ⟨Hd, fG⟩ ?_
      rotate_left
      · intro wS hSw
        go_simp
        try with_reducible rfl
      try simp only [List.getElem_toArray, List.getElem_cons_zero, List.getElem_cons_succ, Act.put, List.setIfInBounds_toArray, List.set_cons_zero, List.set_cons_succ]
      refine wpAnyH_take (i := 3) (v := ?_) rfl (by kernel_rfl) (by kernel_rfl) (by kernel_rfl) (fun _ _ _ h => h) (Or.inl ⟨by rfl, ?_⟩) ⟨Hd, fG⟩ ?_
      rotate_left
      · intro wS hSw
        go_simp
        try with_reducible rfl
      try simp only [List.getElem_toArray, List.getElem_cons_zero, List.getElem_cons_succ, Act.put, List.setIfInBounds_toArray, List.set_cons_zero, List.set_cons_succ]
      refine wpAnyH_take (i := 4) (v := ?_) rfl (by kernel_rfl) (by kernel_rfl) (by kernel_rfl) (fun _ _ _ h => h) (Or.inl ⟨by rfl, ?_⟩) ⟨Hd, fG⟩ ?_
      rotate_left
      · intro wS hSw
        go_simp
        try with_reducible rfl
      try simp only [List.getElem_toArray, List.getElem_cons_zero, List.getElem_cons_succ, Act.put, List.setIfInBounds_toArray, List.set_cons_zero, List.set_cons_succ]
      refine wpAnyH_take (i := 5) (v := ?_) rfl (by kernel_rfl) (by kernel_rfl) (by kernel_rfl) (fun _ _ _ h => h) (Or.inl ⟨by rfl, ?_⟩) ⟨Hd, fG⟩ ?_
      rotate_left
      · intro wS hSw
        go_simp
        try with_reducible rfl
      try simp only [List.getElem_toArray, List.getElem_cons_zero, List.getElem_cons_succ, Act.put, List.setIfInBounds_toArray, List.set_cons_zero, List.set_cons_succ]
      refine wpAnyH_ready (rs := [6]) (by kernel_rfl) (by simp) (AllReadyH.cons rfl (fun K hK => ?_) AllReadyH.nil)
      go_simp
      refine (P.out _ Hd fP fG fo a1.out a2.out).mono ?_
      rintro e w1_ ⟨rfl, A1, c1, q1, gP, gq, gG, gO, b1, b2, Hb1⟩
      have Zb1 : w0.heap.size ≤ w1_.heap.size := Hb1.size
      go_wp2_with (fail)
      refine hK.out _ _ ⟨Hb1, gG⟩ fun _ => ?_
      clear hK K
      try simp only [List.getElem_toArray, List.getElem_cons_zero, List.getElem_cons_succ, Act.put, List.setIfInBounds_toArray, List.set_cons_zero, List.set_cons_succ]
      refine wpAnyH_done (by kernel_rfl) ?_ _
      obtain ⟨w9, hw9⟩ : ∃ w9, w9 = w1_ := ⟨_, rfl⟩
      subst hw9
      have hq1b : q1 ≤ 1000 := by omega
      replace gq := Lib.hid gq
      have gB := Lib.hid Hb1
      have gP := Lib.hid gP
      have gG := Lib.hid gG
      have gO := Lib.hid gO
      have b1 := Lib.hid b1
      have b2 := Lib.hid b2
      clear Hd fP fG fo HB HP HG HO a1 a2
      go_upto_region 6 with (fail)
      refine wp_region_held_drew (S := fun W => Below w0.heap.size w0 W) (by kernel_rfl) (below_drewN gB.out 1) (fun Hd => ?_)
      have Hd : Below w0.heap.size w0 w9.drew := below_drewN gB.out 1
      have Zd : w0.heap.size ≤ w9.drew.heap.size := gB.out.size
      have fP : Blk w9.drew pc 28 #[.slice A1 (q1) c1] := gP.out
      have fG : Blk w9.drew gc 77 #[GC pc gc] := gG.out
      have fo : w9.drew.ownsRow w0.heap.size 37 32 (.slice A1 (q1) c1) (q1) (bytesV (pl ++ gs).flatten) := gO.out
      have apP := b1.out
      have apG := b2.out
      generalize World.drew w9 = wd at *
      refine wpAnyH_take (i := 1) (v := ?_) rfl (by kernel_rfl) (by kernel_rfl) (by kernel_rfl) (fun _ _ _ h => h) (Or.inl ⟨by rfl, ?_⟩) Hd ?_
      rotate_left
      · intro wS hSw
        go_simp
        try with_reducible rfl
      try simp only [List.getElem_toArray, List.getElem_cons_zero, List.getElem_cons_succ, Act.put, List.setIfInBounds_toArray, List.set_cons_zero, List.set_cons_succ]
      refine wpAnyH_take (i := 2) (v := ?_) rfl (by kernel_rfl) (by kernel_rfl) (by kernel_rfl) (fun _ _ _ h => h) (Or.inl ⟨by rfl, ?_⟩) Hd ?_
      rotate_left
      · intro wS hSw
        go_simp
        try with_reducible rfl
      try simp only [List.getElem_toArray, List.getElem_cons_zero, List.getElem_cons_succ, Act.put, List.setIfInBounds_toArray, List.set_cons_zero, List.set_cons_succ]
      refine wpAnyH_take (i := 3) (v := ?_) rfl (by kernel_rfl) (by kernel_rfl) (by kernel_rfl) (fun _ _ _ h => h) (Or.inl ⟨by rfl, ?_⟩) Hd ?_
      rotate_left
      · intro wS hSw
        go_simp
        try with_reducible rfl
      try simp only [List.getElem_toArray, List.getElem_cons_zero, List.getElem_cons_succ, Act.put, List.setIfInBounds_toArray, List.set_cons_zero, List.set_cons_succ]
      refine wpAnyH_ready (rs := [0, 4]) (by kernel_rfl) (by simp) (AllReadyH.cons rfl (fun K hK => ?_) (AllReadyH.cons rfl (fun K hK => ?_) AllReadyH.nil))
      · have qP := cellv1 fP
        go_simp
        first | with_reducible rfl | skip
        refine hK.out _ _ Hd fun _ => ?_
        clear hK K
        try simp only [List.getElem_toArray, List.getElem_cons_zero, List.getElem_cons_succ, Act.put, List.setIfInBounds_toArray, List.set_cons_zero, List.set_cons_succ]
        refine wpAnyH_ready (rs := [4]) (by kernel_rfl) (by simp) (AllReadyH.cons rfl (fun K hK => ?_) AllReadyH.nil)
        go_simp
        refine (T2.out _ Hd).mono ?_
        rintro e w1_ ⟨rfl, hb1⟩
        have fP1 := fP.below hb1
        have fG1 := fG.below hb1
        have fo1 := own_below fo hb1
        have Hb1 : Below w0.heap.size w0 w1_ := below_of Hd hb1 Hd.size
        have Zb1 : w0.heap.size ≤ w1_.heap.size := Nat.le_trans Zd hb1.size
        go_wp2_with (fail)
        refine hK.out _ _ Hb1 fun _ => ?_
        clear hK K
        try simp only [List.getElem_toArray, List.getElem_cons_zero, List.getElem_cons_succ, Act.put, List.setIfInBounds_toArray, List.set_cons_zero, List.set_cons_succ]
        refine wpAnyH_ready (rs := [5]) (by kernel_rfl) (by simp) (AllReadyH.cons rfl (fun K hK => ?_) AllReadyH.nil)
        refine step_oneD (by rfl) _ (by rfl) (tl) Dt2.out (by rfl) ?_
        generalize hge : World.alloc _ _ = w2_
        have fe2 : Blk w2_ w1_.heap.size 37 (arrK .u8 (tl)) := by subst hge; exact Blk.new _ _ _
        have hb2 : Below w1_.heap.size w1_ w2_ := by subst hge; exact (Below.refl _ _).alloc (Nat.le_refl _) _
        clear hge
        have fP2 := fP1.below hb2
        have fG2 := fG1.below hb2
        have fo2 := own_below fo1 hb2
        have ltPe2 := fP1.lt
        have ltGe2 := fG1.lt
        have apoe2 := apart_new fo1
        have loe2 : w0.heap.size ≤ w1_.heap.size := Zb1
        have Hb2 : Below w0.heap.size w0 w2_ := below_of Hb1 hb2 Hb1.size
        have Zb2 : w0.heap.size ≤ w2_.heap.size := Nat.le_trans Zb1 hb2.size
        refine hK.out _ _ Hb2 fun _ => ?_
        clear hK K
        try simp only [List.getElem_toArray, List.getElem_cons_zero, List.getElem_cons_succ, Act.put, List.setIfInBounds_toArray, List.set_cons_zero, List.set_cons_succ]
        refine wpAnyH_ready (rs := [6]) (by kernel_rfl) (by simp) (AllReadyH.cons rfl (fun K hK => ?_) AllReadyH.nil)
        refine step_pushDs (by rfl) _ _ (by rfl) (w0.heap.size) (.slice A1 (q1) c1) (q1) (pl ++ gs) (tl) fo2 (by rfl) (w1_.heap.size) fe2 Dt2.out (by rfl) (by omega) Zb2 ?_
        intro v3 w3_ fo3 hg3 st3
        have apoP3 := apart_sits st3 apP fP2.lt
        have apoG3 := apart_sits st3 apG fG2.lt
        have apoe3 := apart_sits st3 apoe2 fe2.lt
        have fP3 := fP2.grown hg3 (fun e => apP e.symm)
        have fG3 := fG2.grown hg3 (fun e => apG e.symm)
        have fe3 := fe2.grown hg3 (fun e => apoe2 e.symm)
        have Hb3 : Below w0.heap.size w0 w3_ := below_grown Hb2 hg3 Hb2.size (own_base fo2)
        have Zb3 : w0.heap.size ≤ w3_.heap.size := Nat.le_trans Zb2 hg3.size
        obtain ⟨A3, c3, rfl, le3, lm3, -⟩ := own_form fo3
        refine hK.out _ _ Hb3 fun _ => ?_
        clear hK K
        try simp only [List.getElem_toArray, List.getElem_cons_zero, List.getElem_cons_succ, Act.put, List.setIfInBounds_toArray, List.set_cons_zero, List.set_cons_succ]
        refine wpAnyH_ready (rs := [7]) (by kernel_rfl) (by simp) (AllReadyH.cons rfl (fun K hK => ?_) AllReadyH.nil)
        refine step_put_one (by rfl) 28 _ _ (by rfl) pc (.slice A3 (q1 + 1) c3) (by rfl) (by rfl) _ _ fP3 (by kernel_rfl) (by rfl) ?_
        intro w4_ fP4 hg4 hz4
        have fG4 := fG3.grown hg4 (fun e => hne (Option.some.inj e).symm)
        have fo4 := fo3.kept hg4 (.inr apoP3)
        have Hb4 : Below w0.heap.size w0 w4_ := below_grown Hb3 hg4 Hb3.size (fun k hk => by cases hk; exact hpc)
        have Zb4 : w0.heap.size ≤ w4_.heap.size := Hb4.size
        refine hK.out _ _ Hb4 fun _ => ?_
        clear hK K
        try simp only [List.getElem_toArray, List.getElem_cons_zero, List.getElem_cons_succ, Act.put, List.setIfInBounds_toArray, List.set_cons_zero, List.set_cons_succ]
        refine wpAnyH_done (by kernel_rfl) ?_ _
        go_wp2_with (fail)
        go_end0
        exact ⟨rfl, A3, c3, _, fP4, by have := gq.out; simp [hpl] at this ⊢; omega, fG4, by rw [← List.append_assoc]; exact fo4, apoP3, apoG3, Hb4⟩
      · go_simp
        refine (T2.out _ Hd).mono ?_
        rintro e w1_ ⟨rfl, hb1⟩
        have fP1 := fP.below hb1
        have fG1 := fG.below hb1
        have fo1 := own_below fo hb1
        have Hb1 : Below w0.heap.size w0 w1_ := below_of Hd hb1 Hd.size
        have Zb1 : w0.heap.size ≤ w1_.heap.size := Nat.le_trans Zd hb1.size
        go_wp2_with (fail)
        refine hK.out _ _ Hb1 fun _ => ?_
        clear hK K
        try simp only [List.getElem_toArray, List.getElem_cons_zero, List.getElem_cons_succ, Act.put, List.setIfInBounds_toArray, List.set_cons_zero, List.set_cons_succ]
        refine wpAnyH_ready (rs := [0, 5]) (by kernel_rfl) (by simp) (AllReadyH.cons rfl (fun K hK => ?_) (AllReadyH.cons rfl (fun K hK => ?_) AllReadyH.nil))
        · have qP := cellv1 fP1
          go_simp
          first | with_reducible rfl | skip
          refine hK.out _ _ Hb1 fun _ => ?_
          clear hK K
          try simp only [List.getElem_toArray, List.getElem_cons_zero, List.getElem_cons_succ, Act.put, List.setIfInBounds_toArray, List.set_cons_zero, List.set_cons_succ]
          refine wpAnyH_ready (rs := [5]) (by kernel_rfl) (by simp) (AllReadyH.cons rfl (fun K hK => ?_) AllReadyH.nil)
          refine step_oneD (by rfl) _ (by rfl) (tl) Dt2.out (by rfl) ?_
          generalize hge : World.alloc _ _ = w2_
          have fe2 : Blk w2_ w1_.heap.size 37 (arrK .u8 (tl)) := by subst hge; exact Blk.new _ _ _
          have hb2 : Below w1_.heap.size w1_ w2_ := by subst hge; exact (Below.refl _ _).alloc (Nat.le_refl _) _
          clear hge
          have fP2 := fP1.below hb2
          have fG2 := fG1.below hb2
          have fo2 := own_below fo1 hb2
          have ltPe2 := fP1.lt
          have ltGe2 := fG1.lt
          have apoe2 := apart_new fo1
          have loe2 : w0.heap.size ≤ w1_.heap.size := Zb1
          have Hb2 : Below w0.heap.size w0 w2_ := below_of Hb1 hb2 Hb1.size
          have Zb2 : w0.heap.size ≤ w2_.heap.size := Nat.le_trans Zb1 hb2.size
          refine hK.out _ _ Hb2 fun _ => ?_
          clear hK K
          try simp only [List.getElem_toArray, List.getElem_cons_zero, List.getElem_cons_succ, Act.put, List.setIfInBounds_toArray, List.set_cons_zero, List.set_cons_succ]
          refine wpAnyH_ready (rs := [6]) (by kernel_rfl) (by simp) (AllReadyH.cons rfl (fun K hK => ?_) AllReadyH.nil)
          refine step_pushDs (by rfl) _ _ (by rfl) (w0.heap.size) (.slice A1 (q1) c1) (q1) (pl ++ gs) (tl) fo2 (by rfl) (w1_.heap.size) fe2 Dt2.out (by rfl) (by omega) Zb2 ?_
          intro v3 w3_ fo3 hg3 st3
          have apoP3 := apart_sits st3 apP fP2.lt
          have apoG3 := apart_sits st3 apG fG2.lt
          have apoe3 := apart_sits st3 apoe2 fe2.lt
          have fP3 := fP2.grown hg3 (fun e => apP e.symm)
          have fG3 := fG2.grown hg3 (fun e => apG e.symm)
          have fe3 := fe2.grown hg3 (fun e => apoe2 e.symm)
          have Hb3 : Below w0.heap.size w0 w3_ := below_grown Hb2 hg3 Hb2.size (own_base fo2)
          have Zb3 : w0.heap.size ≤ w3_.heap.size := Nat.le_trans Zb2 hg3.size
          obtain ⟨A3, c3, rfl, le3, lm3, -⟩ := own_form fo3
          refine hK.out _ _ Hb3 fun _ => ?_
          clear hK K
          try simp only [List.getElem_toArray, List.getElem_cons_zero, List.getElem_cons_succ, Act.put, List.setIfInBounds_toArray, List.set_cons_zero, List.set_cons_succ]
          refine wpAnyH_ready (rs := [7]) (by kernel_rfl) (by simp) (AllReadyH.cons rfl (fun K hK => ?_) AllReadyH.nil)
          refine step_put_one (by rfl) 28 _ _ (by rfl) pc (.slice A3 (q1 + 1) c3) (by rfl) (by rfl) _ _ fP3 (by kernel_rfl) (by rfl) ?_
          intro w4_ fP4 hg4 hz4
          have fG4 := fG3.grown hg4 (fun e => hne (Option.some.inj e).symm)
          have fo4 := fo3.kept hg4 (.inr apoP3)
          have Hb4 : Below w0.heap.size w0 w4_ := below_grown Hb3 hg4 Hb3.size (fun k hk => by cases hk; exact hpc)
          have Zb4 : w0.heap.size ≤ w4_.heap.size := Hb4.size
          refine hK.out _ _ Hb4 fun _ => ?_
          clear hK K
          try simp only [List.getElem_toArray, List.getElem_cons_zero, List.getElem_cons_succ, Act.put, List.setIfInBounds_toArray, List.set_cons_zero, List.set_cons_succ]
          refine wpAnyH_done (by kernel_rfl) ?_ _
          go_wp2_with (fail)
          go_end0
          exact ⟨rfl, A3, c3, _, fP4, by have := gq.out; simp [hpl] at this ⊢; omega, fG4, by rw [← List.append_assoc]; exact fo4, apoP3, apoG3, Hb4⟩
        · refine step_oneD (by rfl) _ (by rfl) (tl) Dt2.out (by rfl) ?_
          generalize hge : World.alloc _ _ = w2_
          have fe2 : Blk w2_ w1_.heap.size 37 (arrK .u8 (tl)) := by subst hge; exact Blk.new _ _ _
          have hb2 : Below w1_.heap.size w1_ w2_ := by subst hge; exact (Below.refl _ _).alloc (Nat.le_refl _) _
          clear hge
          have fP2 := fP1.below hb2
          have fG2 := fG1.below hb2
          have fo2 := own_below fo1 hb2
          have ltPe2 := fP1.lt
          have ltGe2 := fG1.lt
          have apoe2 := apart_new fo1
          have loe2 : w0.heap.size ≤ w1_.heap.size := Zb1
          have Hb2 : Below w0.heap.size w0 w2_ := below_of Hb1 hb2 Hb1.size
          have Zb2 : w0.heap.size ≤ w2_.heap.size := Nat.le_trans Zb1 hb2.size
          refine hK.out _ _ Hb2 fun _ => ?_
          clear hK K
          try simp only [List.getElem_toArray, List.getElem_cons_zero, List.getElem_cons_succ, Act.put, List.setIfInBounds_toArray, List.set_cons_zero, List.set_cons_succ]
          refine wpAnyH_ready (rs := [0]) (by kernel_rfl) (by simp) (AllReadyH.cons rfl (fun K hK => ?_) AllReadyH.nil)
          have qP := cellv1 fP2
          go_simp
          first | with_reducible rfl | skip
          refine hK.out _ _ Hb2 fun _ => ?_
          clear hK K
          try simp only [List.getElem_toArray, List.getElem_cons_zero, List.getElem_cons_succ, Act.put, List.setIfInBounds_toArray, List.set_cons_zero, List.set_cons_succ]
          refine wpAnyH_ready (rs := [6]) (by kernel_rfl) (by simp) (AllReadyH.cons rfl (fun K hK => ?_) AllReadyH.nil)
          refine step_pushDs (by rfl) _ _ (by rfl) (w0.heap.size) (.slice A1 (q1) c1) (q1) (pl ++ gs) (tl) fo2 (by rfl) (w1_.heap.size) fe2 Dt2.out (by rfl) (by omega) Zb2 ?_
          intro v3 w3_ fo3 hg3 st3
          have apoP3 := apart_sits st3 apP fP2.lt
          have apoG3 := apart_sits st3 apG fG2.lt
          have apoe3 := apart_sits st3 apoe2 fe2.lt
          have fP3 := fP2.grown hg3 (fun e => apP e.symm)
          have fG3 := fG2.grown hg3 (fun e => apG e.symm)
          have fe3 := fe2.grown hg3 (fun e => apoe2 e.symm)
          have Hb3 : Below w0.heap.size w0 w3_ := below_grown Hb2 hg3 Hb2.size (own_base fo2)
          have Zb3 : w0.heap.size ≤ w3_.heap.size := Nat.le_trans Zb2 hg3.size
          obtain ⟨A3, c3, rfl, le3, lm3, -⟩ := own_form fo3
          refine hK.out _ _ Hb3 fun _ => ?_
          clear hK K
          try simp only [List.getElem_toArray, List.getElem_cons_zero, List.getElem_cons_succ, Act.put, List.setIfInBounds_toArray, List.set_cons_zero, List.set_cons_succ]
          refine wpAnyH_ready (rs := [7]) (by kernel_rfl) (by simp) (AllReadyH.cons rfl (fun K hK => ?_) AllReadyH.nil)
          refine step_put_one (by rfl) 28 _ _ (by rfl) pc (.slice A3 (q1 + 1) c3) (by rfl) (by rfl) _ _ fP3 (by kernel_rfl) (by rfl) ?_
          intro w4_ fP4 hg4 hz4
          have fG4 := fG3.grown hg4 (fun e => hne (Option.some.inj e).symm)
          have fo4 := fo3.kept hg4 (.inr apoP3)
          have Hb4 : Below w0.heap.size w0 w4_ := below_grown Hb3 hg4 Hb3.size (fun k hk => by cases hk; exact hpc)
          have Zb4 : w0.heap.size ≤ w4_.heap.size := Hb4.size
          refine hK.out _ _ Hb4 fun _ => ?_
          clear hK K
          try simp only [List.getElem_toArray, List.getElem_cons_zero, List.getElem_cons_succ, Act.put, List.setIfInBounds_toArray, List.set_cons_zero, List.set_cons_succ]
          refine wpAnyH_done (by kernel_rfl) ?_ _
          go_wp2_with (fail)
          go_end0
          exact ⟨rfl, A3, c3, _, fP4, by have := gq.out; simp [hpl] at this ⊢; omega, fG4, by rw [← List.append_assoc]; exact fo4, apoP3, apoG3, Hb4⟩
    · have hdk : decide ((n : Int) ≤ (k : Int)) = false := by simp; omega
      have hdk2 : decide (n ≤ k) = false := by simp; omega
      rw [dhi.out hk]
      rw [ghi.out hk] at hq
      have GL := Lib.hid (growS_length (m - k) (l.drop k) (n - k) false L2.out (by omega) (by omega))
      have P := Lib.hid (fun W (hB : Below w0.heap.size w0 W) hP hG hO h1 h2 => IH.out (m - k) (by omega) (l.drop k) (n - k) false (some ⟨b, off + k * 32, none⟩) (c - k) w0 W pc gc pl Ap qp cp L2.out I2.out (by omega) (by omega) (by omega) (by omega) hpl (by omega) C2.out hB hpc hgc hne hP hG hO h1 h2)
      generalize growS (l.drop k) (n - k) false = gs at *
      generalize treeS (l.take k) = tl at *
      rw [← GL.out] at hq
      have s3 : (n : Int) - (k : Int) = ((n - k : Nat) : Int) := by omega
      have s4 : IntKind.i64.wrap ((n - k : Nat) : Int) = ((n - k : Nat) : Int) := IntWalk.i64_in _ (by omega)
      clear dlo dhi glo ghi h0
      go_enter Try.func62, Try.ntmps62
      go_wp2_with (fail)
      refine (HH.out _).mono ?_
      rintro e w' ⟨rfl, rfl⟩
      go_upto_region 7 with (fail)
      refine wp_region_held_drew (S := fun W => Below w0.heap.size w0 W ∧ Blk W gc 77 #[GC pc gc]) (by kernel_rfl) (⟨below_drewN HB.out 1, HG.out⟩) (fun Hd => ?_)
      have Hd : Below w0.heap.size w0 w.drew := below_drewN HB.out 1
      have Zd : w0.heap.size ≤ w.drew.heap.size := HB.out.size
      have fP : Blk w.drew pc 28 #[.slice Ap qp cp] := HP.out
      have fG : Blk w.drew gc 77 #[GC pc gc] := HG.out
      have fo : w.drew.ownsRow w0.heap.size 37 32 (.slice Ap qp cp) qp (bytesV pl.flatten) := HO.out
      generalize World.drew w = wd at *
      refine wpAnyH_take (i := 0) (v := ?_) rfl (by kernel_rfl) (by kernel_rfl) (by kernel_rfl) (fun _ _ _ h => h) (Or.inl ⟨by rfl, ?_⟩) ⟨Hd, fG⟩ ?_
      rotate_left
      · intro wS hSw
        have qG := cellv1 hSw.2
        go_simp
        try with_reducible rfl
      try simp only [List.getElem_toArray, List.getElem_cons_zero, List.getElem_cons_succ, Act.put, List.setIfInBounds_toArray, List.set_cons_zero, List.set_cons_succ]
      refine wpAnyH_take (i := 1) (v := ?_) rfl (by kernel_rfl) (by kernel_rfl) (by kernel_rfl) (fun _ _ _ h => h) (Or.inl ⟨by rfl, ?_⟩) ⟨Hd, fG⟩ ?_
      rotate_left
      · intro wS hSw
        go_simp
        try with_reducible rfl
      try simp only [List.getElem_toArray, List.getElem_cons_zero, List.getElem_cons_succ, Act.put, List.setIfInBounds_toArray, List.set_cons_zero, List.set_cons_succ]
      refine wpAnyH_take (i := 2) (v := ?_) rfl (by kernel_rfl) (by kernel_rfl) (by kernel_rfl) (fun _ _ _ h => h) (Or.inl ⟨by rfl, ?_⟩) ⟨Hd, fG⟩ ?_
      rotate_left
      · intro wS hSw
        go_simp
        try with_reducible rfl
      try simp only [List.getElem_toArray, List.getElem_cons_zero, List.getElem_cons_succ, Act.put, List.setIfInBounds_toArray, List.set_cons_zero, List.set_cons_succ]
      refine wpAnyH_take (i := 3) (v := ?_) rfl (by kernel_rfl) (by kernel_rfl) (by kernel_rfl) (fun _ _ _ h => h) (Or.inl ⟨by rfl, ?_⟩) ⟨Hd, fG⟩ ?_
      rotate_left
      · intro wS hSw
        go_simp
        try with_reducible rfl
      try simp only [List.getElem_toArray, List.getElem_cons_zero, List.getElem_cons_succ, Act.put, List.setIfInBounds_toArray, List.set_cons_zero, List.set_cons_succ]
      refine wpAnyH_take (i := 4) (v := ?_) rfl (by kernel_rfl) (by kernel_rfl) (by kernel_rfl) (fun _ _ _ h => h) (Or.inl ⟨by rfl, ?_⟩) ⟨Hd, fG⟩ ?_
      rotate_left
      · intro wS hSw
        go_simp
        try with_reducible rfl
      try simp only [List.getElem_toArray, List.getElem_cons_zero, List.getElem_cons_succ, Act.put, List.setIfInBounds_toArray, List.set_cons_zero, List.set_cons_succ]
      refine wpAnyH_take (i := 5) (v := ?_) rfl (by kernel_rfl) (by kernel_rfl) (by kernel_rfl) (fun _ _ _ h => h) (Or.inl ⟨by rfl, ?_⟩) ⟨Hd, fG⟩ ?_
      rotate_left
      · intro wS hSw
        go_simp
        try with_reducible rfl
      try simp only [List.getElem_toArray, List.getElem_cons_zero, List.getElem_cons_succ, Act.put, List.setIfInBounds_toArray, List.set_cons_zero, List.set_cons_succ]
      refine wpAnyH_take (i := 6) (v := ?_) rfl (by kernel_rfl) (by kernel_rfl) (by kernel_rfl) (fun _ _ _ h => h) (Or.inl ⟨by rfl, ?_⟩) ⟨Hd, fG⟩ ?_
      rotate_left
      · intro wS hSw
        go_simp
        try with_reducible rfl
      try simp only [List.getElem_toArray, List.getElem_cons_zero, List.getElem_cons_succ, Act.put, List.setIfInBounds_toArray, List.set_cons_zero, List.set_cons_succ]
      refine wpAnyH_ready (rs := [7]) (by kernel_rfl) (by simp) (AllReadyH.cons rfl (fun K hK => ?_) AllReadyH.nil)
      go_simp
      refine (P.out _ Hd fP fG fo a1.out a2.out).mono ?_
      rintro e w1_ ⟨rfl, A1, c1, q1, gP, gq, gG, gO, b1, b2, Hb1⟩
      have Zb1 : w0.heap.size ≤ w1_.heap.size := Hb1.size
      go_wp2_with (fail)
      refine hK.out _ _ ⟨Hb1, gG⟩ fun _ => ?_
      clear hK K
      try simp only [List.getElem_toArray, List.getElem_cons_zero, List.getElem_cons_succ, Act.put, List.setIfInBounds_toArray, List.set_cons_zero, List.set_cons_succ]
      refine wpAnyH_done (by kernel_rfl) ?_ _
      obtain ⟨w9, hw9⟩ : ∃ w9, w9 = w1_ := ⟨_, rfl⟩
      subst hw9
      have hq1b : q1 ≤ 1000 := by omega
      replace gq := Lib.hid gq
      have gB := Lib.hid Hb1
      have gP := Lib.hid gP
      have gG := Lib.hid gG
      have gO := Lib.hid gO
      have b1 := Lib.hid b1
      have b2 := Lib.hid b2
      clear Hd fP fG fo HB HP HG HO a1 a2
      go_upto_region 8 with (fail)
      refine wp_region_held_drew (S := fun W => Below w0.heap.size w0 W) (by kernel_rfl) (below_drewN gB.out 1) (fun Hd => ?_)
      have Hd : Below w0.heap.size w0 w9.drew := below_drewN gB.out 1
      have Zd : w0.heap.size ≤ w9.drew.heap.size := gB.out.size
      have fP : Blk w9.drew pc 28 #[.slice A1 (q1) c1] := gP.out
      have fG : Blk w9.drew gc 77 #[GC pc gc] := gG.out
      have fo : w9.drew.ownsRow w0.heap.size 37 32 (.slice A1 (q1) c1) (q1) (bytesV (pl ++ gs).flatten) := gO.out
      have apP := b1.out
      have apG := b2.out
      generalize World.drew w9 = wd at *
      refine wpAnyH_take (i := 1) (v := ?_) rfl (by kernel_rfl) (by kernel_rfl) (by kernel_rfl) (fun _ _ _ h => h) (Or.inl ⟨by rfl, ?_⟩) Hd ?_
      rotate_left
      · intro wS hSw
        go_simp
        try with_reducible rfl
      try simp only [List.getElem_toArray, List.getElem_cons_zero, List.getElem_cons_succ, Act.put, List.setIfInBounds_toArray, List.set_cons_zero, List.set_cons_succ]
      refine wpAnyH_take (i := 2) (v := ?_) rfl (by kernel_rfl) (by kernel_rfl) (by kernel_rfl) (fun _ _ _ h => h) (Or.inl ⟨by rfl, ?_⟩) Hd ?_
      rotate_left
      · intro wS hSw
        go_simp
        try with_reducible rfl
      try simp only [List.getElem_toArray, List.getElem_cons_zero, List.getElem_cons_succ, Act.put, List.setIfInBounds_toArray, List.set_cons_zero, List.set_cons_succ]
      refine wpAnyH_take (i := 3) (v := ?_) rfl (by kernel_rfl) (by kernel_rfl) (by kernel_rfl) (fun _ _ _ h => h) (Or.inl ⟨by rfl, ?_⟩) Hd ?_
      rotate_left
      · intro wS hSw
        go_simp
        try with_reducible rfl
      try simp only [List.getElem_toArray, List.getElem_cons_zero, List.getElem_cons_succ, Act.put, List.setIfInBounds_toArray, List.set_cons_zero, List.set_cons_succ]
      refine wpAnyH_ready (rs := [0, 4]) (by kernel_rfl) (by simp) (AllReadyH.cons rfl (fun K hK => ?_) (AllReadyH.cons rfl (fun K hK => ?_) AllReadyH.nil))
      · have qP := cellv1 fP
        go_simp
        first | with_reducible rfl | skip
        refine hK.out _ _ Hd fun _ => ?_
        clear hK K
        try simp only [List.getElem_toArray, List.getElem_cons_zero, List.getElem_cons_succ, Act.put, List.setIfInBounds_toArray, List.set_cons_zero, List.set_cons_succ]
        refine wpAnyH_ready (rs := [4]) (by kernel_rfl) (by simp) (AllReadyH.cons rfl (fun K hK => ?_) AllReadyH.nil)
        go_simp
        refine (T1.out _ Hd).mono ?_
        rintro e w1_ ⟨rfl, hb1⟩
        have fP1 := fP.below hb1
        have fG1 := fG.below hb1
        have fo1 := own_below fo hb1
        have Hb1 : Below w0.heap.size w0 w1_ := below_of Hd hb1 Hd.size
        have Zb1 : w0.heap.size ≤ w1_.heap.size := Nat.le_trans Zd hb1.size
        go_wp2_with (fail)
        refine hK.out _ _ Hb1 fun _ => ?_
        clear hK K
        try simp only [List.getElem_toArray, List.getElem_cons_zero, List.getElem_cons_succ, Act.put, List.setIfInBounds_toArray, List.set_cons_zero, List.set_cons_succ]
        refine wpAnyH_ready (rs := [5]) (by kernel_rfl) (by simp) (AllReadyH.cons rfl (fun K hK => ?_) AllReadyH.nil)
        refine step_oneD (by rfl) _ (by rfl) (tl) Dt1.out (by rfl) ?_
        generalize hge : World.alloc _ _ = w2_
        have fe2 : Blk w2_ w1_.heap.size 37 (arrK .u8 (tl)) := by subst hge; exact Blk.new _ _ _
        have hb2 : Below w1_.heap.size w1_ w2_ := by subst hge; exact (Below.refl _ _).alloc (Nat.le_refl _) _
        clear hge
        have fP2 := fP1.below hb2
        have fG2 := fG1.below hb2
        have fo2 := own_below fo1 hb2
        have ltPe2 := fP1.lt
        have ltGe2 := fG1.lt
        have apoe2 := apart_new fo1
        have loe2 : w0.heap.size ≤ w1_.heap.size := Zb1
        have Hb2 : Below w0.heap.size w0 w2_ := below_of Hb1 hb2 Hb1.size
        have Zb2 : w0.heap.size ≤ w2_.heap.size := Nat.le_trans Zb1 hb2.size
        refine hK.out _ _ Hb2 fun _ => ?_
        clear hK K
        try simp only [List.getElem_toArray, List.getElem_cons_zero, List.getElem_cons_succ, Act.put, List.setIfInBounds_toArray, List.set_cons_zero, List.set_cons_succ]
        refine wpAnyH_ready (rs := [6]) (by kernel_rfl) (by simp) (AllReadyH.cons rfl (fun K hK => ?_) AllReadyH.nil)
        refine step_pushDs (by rfl) _ _ (by rfl) (w0.heap.size) (.slice A1 (q1) c1) (q1) (pl ++ gs) (tl) fo2 (by rfl) (w1_.heap.size) fe2 Dt1.out (by rfl) (by omega) Zb2 ?_
        intro v3 w3_ fo3 hg3 st3
        have apoP3 := apart_sits st3 apP fP2.lt
        have apoG3 := apart_sits st3 apG fG2.lt
        have apoe3 := apart_sits st3 apoe2 fe2.lt
        have fP3 := fP2.grown hg3 (fun e => apP e.symm)
        have fG3 := fG2.grown hg3 (fun e => apG e.symm)
        have fe3 := fe2.grown hg3 (fun e => apoe2 e.symm)
        have Hb3 : Below w0.heap.size w0 w3_ := below_grown Hb2 hg3 Hb2.size (own_base fo2)
        have Zb3 : w0.heap.size ≤ w3_.heap.size := Nat.le_trans Zb2 hg3.size
        obtain ⟨A3, c3, rfl, le3, lm3, -⟩ := own_form fo3
        refine hK.out _ _ Hb3 fun _ => ?_
        clear hK K
        try simp only [List.getElem_toArray, List.getElem_cons_zero, List.getElem_cons_succ, Act.put, List.setIfInBounds_toArray, List.set_cons_zero, List.set_cons_succ]
        refine wpAnyH_ready (rs := [7]) (by kernel_rfl) (by simp) (AllReadyH.cons rfl (fun K hK => ?_) AllReadyH.nil)
        refine step_put_one (by rfl) 28 _ _ (by rfl) pc (.slice A3 (q1 + 1) c3) (by rfl) (by rfl) _ _ fP3 (by kernel_rfl) (by rfl) ?_
        intro w4_ fP4 hg4 hz4
        have fG4 := fG3.grown hg4 (fun e => hne (Option.some.inj e).symm)
        have fo4 := fo3.kept hg4 (.inr apoP3)
        have Hb4 : Below w0.heap.size w0 w4_ := below_grown Hb3 hg4 Hb3.size (fun k hk => by cases hk; exact hpc)
        have Zb4 : w0.heap.size ≤ w4_.heap.size := Hb4.size
        refine hK.out _ _ Hb4 fun _ => ?_
        clear hK K
        try simp only [List.getElem_toArray, List.getElem_cons_zero, List.getElem_cons_succ, Act.put, List.setIfInBounds_toArray, List.set_cons_zero, List.set_cons_succ]
        refine wpAnyH_done (by kernel_rfl) ?_ _
        go_wp2_with (fail)
        go_end0
        exact ⟨rfl, A3, c3, _, fP4, by have := gq.out; simp [hpl] at this ⊢; omega, fG4, by rw [← List.append_assoc]; exact fo4, apoP3, apoG3, Hb4⟩
      · go_simp
        refine (T1.out _ Hd).mono ?_
        rintro e w1_ ⟨rfl, hb1⟩
        have fP1 := fP.below hb1
        have fG1 := fG.below hb1
        have fo1 := own_below fo hb1
        have Hb1 : Below w0.heap.size w0 w1_ := below_of Hd hb1 Hd.size
        have Zb1 : w0.heap.size ≤ w1_.heap.size := Nat.le_trans Zd hb1.size
        go_wp2_with (fail)
        refine hK.out _ _ Hb1 fun _ => ?_
        clear hK K
        try simp only [List.getElem_toArray, List.getElem_cons_zero, List.getElem_cons_succ, Act.put, List.setIfInBounds_toArray, List.set_cons_zero, List.set_cons_succ]
        refine wpAnyH_ready (rs := [0, 5]) (by kernel_rfl) (by simp) (AllReadyH.cons rfl (fun K hK => ?_) (AllReadyH.cons rfl (fun K hK => ?_) AllReadyH.nil))
        · have qP := cellv1 fP1
          go_simp
          first | with_reducible rfl | skip
          refine hK.out _ _ Hb1 fun _ => ?_
          clear hK K
          try simp only [List.getElem_toArray, List.getElem_cons_zero, List.getElem_cons_succ, Act.put, List.setIfInBounds_toArray, List.set_cons_zero, List.set_cons_succ]
          refine wpAnyH_ready (rs := [5]) (by kernel_rfl) (by simp) (AllReadyH.cons rfl (fun K hK => ?_) AllReadyH.nil)
          refine step_oneD (by rfl) _ (by rfl) (tl) Dt1.out (by rfl) ?_
          generalize hge : World.alloc _ _ = w2_
          have fe2 : Blk w2_ w1_.heap.size 37 (arrK .u8 (tl)) := by subst hge; exact Blk.new _ _ _
          have hb2 : Below w1_.heap.size w1_ w2_ := by subst hge; exact (Below.refl _ _).alloc (Nat.le_refl _) _
          clear hge
          have fP2 := fP1.below hb2
          have fG2 := fG1.below hb2
          have fo2 := own_below fo1 hb2
          have ltPe2 := fP1.lt
          have ltGe2 := fG1.lt
          have apoe2 := apart_new fo1
          have loe2 : w0.heap.size ≤ w1_.heap.size := Zb1
          have Hb2 : Below w0.heap.size w0 w2_ := below_of Hb1 hb2 Hb1.size
          have Zb2 : w0.heap.size ≤ w2_.heap.size := Nat.le_trans Zb1 hb2.size
          refine hK.out _ _ Hb2 fun _ => ?_
          clear hK K
          try simp only [List.getElem_toArray, List.getElem_cons_zero, List.getElem_cons_succ, Act.put, List.setIfInBounds_toArray, List.set_cons_zero, List.set_cons_succ]
          refine wpAnyH_ready (rs := [6]) (by kernel_rfl) (by simp) (AllReadyH.cons rfl (fun K hK => ?_) AllReadyH.nil)
          refine step_pushDs (by rfl) _ _ (by rfl) (w0.heap.size) (.slice A1 (q1) c1) (q1) (pl ++ gs) (tl) fo2 (by rfl) (w1_.heap.size) fe2 Dt1.out (by rfl) (by omega) Zb2 ?_
          intro v3 w3_ fo3 hg3 st3
          have apoP3 := apart_sits st3 apP fP2.lt
          have apoG3 := apart_sits st3 apG fG2.lt
          have apoe3 := apart_sits st3 apoe2 fe2.lt
          have fP3 := fP2.grown hg3 (fun e => apP e.symm)
          have fG3 := fG2.grown hg3 (fun e => apG e.symm)
          have fe3 := fe2.grown hg3 (fun e => apoe2 e.symm)
          have Hb3 : Below w0.heap.size w0 w3_ := below_grown Hb2 hg3 Hb2.size (own_base fo2)
          have Zb3 : w0.heap.size ≤ w3_.heap.size := Nat.le_trans Zb2 hg3.size
          obtain ⟨A3, c3, rfl, le3, lm3, -⟩ := own_form fo3
          refine hK.out _ _ Hb3 fun _ => ?_
          clear hK K
          try simp only [List.getElem_toArray, List.getElem_cons_zero, List.getElem_cons_succ, Act.put, List.setIfInBounds_toArray, List.set_cons_zero, List.set_cons_succ]
          refine wpAnyH_ready (rs := [7]) (by kernel_rfl) (by simp) (AllReadyH.cons rfl (fun K hK => ?_) AllReadyH.nil)
          refine step_put_one (by rfl) 28 _ _ (by rfl) pc (.slice A3 (q1 + 1) c3) (by rfl) (by rfl) _ _ fP3 (by kernel_rfl) (by rfl) ?_
          intro w4_ fP4 hg4 hz4
          have fG4 := fG3.grown hg4 (fun e => hne (Option.some.inj e).symm)
          have fo4 := fo3.kept hg4 (.inr apoP3)
          have Hb4 : Below w0.heap.size w0 w4_ := below_grown Hb3 hg4 Hb3.size (fun k hk => by cases hk; exact hpc)
          have Zb4 : w0.heap.size ≤ w4_.heap.size := Hb4.size
          refine hK.out _ _ Hb4 fun _ => ?_
          clear hK K
          try simp only [List.getElem_toArray, List.getElem_cons_zero, List.getElem_cons_succ, Act.put, List.setIfInBounds_toArray, List.set_cons_zero, List.set_cons_succ]
          refine wpAnyH_done (by kernel_rfl) ?_ _
          go_wp2_with (fail)
          go_end0
          exact ⟨rfl, A3, c3, _, fP4, by have := gq.out; simp [hpl] at this ⊢; omega, fG4, by rw [← List.append_assoc]; exact fo4, apoP3, apoG3, Hb4⟩
        · refine step_oneD (by rfl) _ (by rfl) (tl) Dt1.out (by rfl) ?_
          generalize hge : World.alloc _ _ = w2_
          have fe2 : Blk w2_ w1_.heap.size 37 (arrK .u8 (tl)) := by subst hge; exact Blk.new _ _ _
          have hb2 : Below w1_.heap.size w1_ w2_ := by subst hge; exact (Below.refl _ _).alloc (Nat.le_refl _) _
          clear hge
          have fP2 := fP1.below hb2
          have fG2 := fG1.below hb2
          have fo2 := own_below fo1 hb2
          have ltPe2 := fP1.lt
          have ltGe2 := fG1.lt
          have apoe2 := apart_new fo1
          have loe2 : w0.heap.size ≤ w1_.heap.size := Zb1
          have Hb2 : Below w0.heap.size w0 w2_ := below_of Hb1 hb2 Hb1.size
          have Zb2 : w0.heap.size ≤ w2_.heap.size := Nat.le_trans Zb1 hb2.size
          refine hK.out _ _ Hb2 fun _ => ?_
          clear hK K
          try simp only [List.getElem_toArray, List.getElem_cons_zero, List.getElem_cons_succ, Act.put, List.setIfInBounds_toArray, List.set_cons_zero, List.set_cons_succ]
          refine wpAnyH_ready (rs := [0]) (by kernel_rfl) (by simp) (AllReadyH.cons rfl (fun K hK => ?_) AllReadyH.nil)
          have qP := cellv1 fP2
          go_simp
          first | with_reducible rfl | skip
          refine hK.out _ _ Hb2 fun _ => ?_
          clear hK K
          try simp only [List.getElem_toArray, List.getElem_cons_zero, List.getElem_cons_succ, Act.put, List.setIfInBounds_toArray, List.set_cons_zero, List.set_cons_succ]
          refine wpAnyH_ready (rs := [6]) (by kernel_rfl) (by simp) (AllReadyH.cons rfl (fun K hK => ?_) AllReadyH.nil)
          refine step_pushDs (by rfl) _ _ (by rfl) (w0.heap.size) (.slice A1 (q1) c1) (q1) (pl ++ gs) (tl) fo2 (by rfl) (w1_.heap.size) fe2 Dt1.out (by rfl) (by omega) Zb2 ?_
          intro v3 w3_ fo3 hg3 st3
          have apoP3 := apart_sits st3 apP fP2.lt
          have apoG3 := apart_sits st3 apG fG2.lt
          have apoe3 := apart_sits st3 apoe2 fe2.lt
          have fP3 := fP2.grown hg3 (fun e => apP e.symm)
          have fG3 := fG2.grown hg3 (fun e => apG e.symm)
          have fe3 := fe2.grown hg3 (fun e => apoe2 e.symm)
          have Hb3 : Below w0.heap.size w0 w3_ := below_grown Hb2 hg3 Hb2.size (own_base fo2)
          have Zb3 : w0.heap.size ≤ w3_.heap.size := Nat.le_trans Zb2 hg3.size
          obtain ⟨A3, c3, rfl, le3, lm3, -⟩ := own_form fo3
          refine hK.out _ _ Hb3 fun _ => ?_
          clear hK K
          try simp only [List.getElem_toArray, List.getElem_cons_zero, List.getElem_cons_succ, Act.put, List.setIfInBounds_toArray, List.set_cons_zero, List.set_cons_succ]
          refine wpAnyH_ready (rs := [7]) (by kernel_rfl) (by simp) (AllReadyH.cons rfl (fun K hK => ?_) AllReadyH.nil)
          refine step_put_one (by rfl) 28 _ _ (by rfl) pc (.slice A3 (q1 + 1) c3) (by rfl) (by rfl) _ _ fP3 (by kernel_rfl) (by rfl) ?_
          intro w4_ fP4 hg4 hz4
          have fG4 := fG3.grown hg4 (fun e => hne (Option.some.inj e).symm)
          have fo4 := fo3.kept hg4 (.inr apoP3)
          have Hb4 : Below w0.heap.size w0 w4_ := below_grown Hb3 hg4 Hb3.size (fun k hk => by cases hk; exact hpc)
          have Zb4 : w0.heap.size ≤ w4_.heap.size := Hb4.size
          refine hK.out _ _ Hb4 fun _ => ?_
          clear hK K
          try simp only [List.getElem_toArray, List.getElem_cons_zero, List.getElem_cons_succ, Act.put, List.setIfInBounds_toArray, List.set_cons_zero, List.set_cons_succ]
          refine wpAnyH_done (by kernel_rfl) ?_ _
          go_wp2_with (fail)
          go_end0
          exact ⟨rfl, A3, c3, _, fP4, by have := gq.out; simp [hpl] at this ⊢; omega, fG4, by rw [← List.append_assoc]; exact fo4, apoP3, apoG3, Hb4⟩
end Go.Proofs.Ytcijhakofoklcaa
