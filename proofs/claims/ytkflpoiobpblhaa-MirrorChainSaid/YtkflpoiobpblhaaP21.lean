/- Walks and plain laws that the statement rests on: Path2, Own. -/
import Derived.Test.YtkflpoiobpblhaaP00
import Derived.Test.YtkflpoiobpblhaaP18
import Derived.Test.YtkflpoiobpblhaaP20
namespace Go.Proofs.Ytkflpoiobpblhaa
open Go.RowKit
def lenOf : Value → Nat | .slice _ m _ => m | _ => 0
theorem errArg_true : errArg true = 0 := by unfold errArg; rfl
theorem errArg_false : errArg false = 1 := by unfold errArg; rfl
theorem own_addr {w : World} {base : Nat} {e : TypeId} {size : Nat} {A : Option Addr} {n m c : Nat} {xs : List Value} (h : w.ownsRow base e size (.slice A m c) n xs) (hn : 0 < n) : ∃ g, A = some ⟨g, 0, none⟩ := by
  obtain ⟨-, ⟨hv, hn0⟩ | ⟨g, d, cur, hv, -⟩⟩ := h
  · omega
  · cases hv; exact ⟨g, rfl⟩
def pathR (l : List (List Nat)) (at_ : Int) : List (List Nat) := if 0 ≤ at_ ∧ at_ < (l.length : Int) then pathS l at_.toNat else []
def okPath (l : List (List Nat)) (at_ : Int) : Bool := decide (0 ≤ at_ ∧ at_ < (l.length : Int))
theorem pathR_isL (l : List (List Nat)) (at_ : Int) : IsL (pathR l at_) := by
  unfold pathR
  split
  · exact pathS_isL _ _ _ rfl
  · exact IsL.nil_
def NewA (B : Nat) (A : Option Addr) (l : List Nat) : Prop := l = [] ∨ ∀ b off, A = some ⟨b, off, none⟩ → B ≤ b
theorem NewA.mono {B B' : Nat} {A : Option Addr} {l : List Nat} (h : NewA B A l) (hb : B' ≤ B) : NewA B' A l := h.imp id fun h b off e => Nat.le_trans hb (h b off e)
theorem NewA.own {w : World} {B size n c : Nat} {e : TypeId} {A : Option Addr} {xs : List Value} {l : List Nat} (h : w.ownsRow B e size (.slice A n c) n xs) : NewA B A l := .inr fun b off hA => own_base h b (by rw [hA]; rfl)
set_option linter.unusedSimpArgs false in
set_option maxRecDepth 100000 in
set_option maxHeartbeats 4000000 in
theorem path_good (l0 : List (List Nat)) (at0 m0 : Nat) (A0 : Option Addr) (c0 : Nat) (w : World) (hl : l0.length = m0) (hL : IsL l0) (hat : at0 < m0) (hmc : m0 ≤ c0) (hcm : c0 ≤ maxLen) (hm : m0 ≤ 1000000) (hA : Cells w A0 (bytesV l0.flatten)) :
    Calls Try.prog 47 #[.slice A0 m0 c0, .int .i64 at0] w fun e w' => ∃ A' q c', e = .returned (.tuple #[.slice A' q c', .int .i64 0]) ∧ (pathS l0 at0).length = q ∧ q ≤ c' ∧ c' ≤ maxLen ∧ Cells w' A' (bytesV (pathS l0 at0).flatten) ∧ NewA w.heap.size A' (pathS l0 at0).flatten ∧ Below w.heap.size w w' := by
  have Hl0 := Lib.hid hl
  have HL0 := Lib.hid hL
  have HA0 := Lib.hid hA
  have Hcm := Lib.hid hcm
  clear hl hL hA hcm
  have q1 : decide ((at0 : Int) < 0) = false := by simp
  have q2 : decide ((m0 : Int) ≤ (at0 : Int)) = false := by simp; omega
  have q3 : decide (m0 ≤ at0) = false := by simp; omega
  go_enter Try.func47, Try.ntmps47
  go_wp2_with (fail)
  go_loopw [4, 0, 1] (fun o x y wr => ∃ (at_ m c q cp : Nat) (A Ap : Option Addr) (l pl : List (List Nat)), o = .slice Ap q cp ∧ x = .slice A m c ∧ y = .int .i64 at_ ∧ at_ < m ∧ m ≤ c ∧ Hid (c ≤ maxLen) ∧ q + m ≤ m0 ∧ Hid (l.length = m) ∧ Hid (IsL l) ∧ Hid (pl.length = q) ∧ Hid (IsL pl) ∧ Hid (pathS l0 at0 = pathS l at_ ++ pl.reverse) ∧ Hid (Cells w A (bytesV l.flatten)) ∧ Hid (wr.ownsRow w.heap.size 28 32 (.slice Ap q cp) q (bytesV pl.flatten)) ∧ Hid (Below w.heap.size w wr)) (fun _ x _ _ => lenOf x)
  case atStart => exact ⟨at0, m0, c0, 0, 0, A0, none, l0, [], rfl, rfl, rfl, hat, hmc, Hcm.out, by omega, Hl0.out, HL0.out, rfl, IsL.nil_, by show _ = _; simp, HA0.out, ownD_nil _ _, Below.refl _ _⟩
  case round =>
    obtain ⟨at_, m, c, q, cp, A, Ap, l, pl, rfl, rfl, rfl, hat', hmc', Hc, hqm, Hl, HL, Hq, HP, Hpath, HA, Ho, hb⟩ := hrel
    have hmI : m ≤ 1000000 := by omega
    by_cases h2 : 2 ≤ m
    · have hd1 : decide ((1 : Int) < (m : Int)) = true := by simp; omega
      have hd2 : decide (1 < m) = true := by simp; omega
      have hk1 := half_lt h2
      have hk2 := half_pos m
      have HH := Lib.hid (fun W => half_any m W h2 (by omega))
      have plo := Lib.hid (fun h => pathS_lo (l := l) (at_ := at_) (by rw [Hl.out]; exact h2) h)
      have phi := Lib.hid (fun h => pathS_hi (l := l) (at_ := at_) (by rw [Hl.out]; exact h2) h)
      rw [Hl.out] at plo phi
      generalize halfN m = k at *
      obtain ⟨b, off, rfl, hb', hcell⟩ := Cells.addr HA.out (by rw [bytesV_length, HL.out.flat_length, Hl.out]; omega)
      clear hcell hb'
      have C1 := Lib.hid (show Cells w (some ⟨b, off, none⟩) (bytesV (l.take k).flatten) by
        rw [HL.out.flat_take k]
        have := HA.out.take_ (k * 32)
        rwa [show (bytesV l.flatten).take (k * 32) = bytesV (l.flatten.take (k * 32)) by unfold bytesV; rw [List.map_take]] at this)
      have C2 := Lib.hid (show Cells w (some ⟨b, off + k * 32, none⟩) (bytesV (l.drop k).flatten) by
        rw [HL.out.flat_drop k, bytesV_drop]
        exact HA.out.drop_ (k * 32))
      have L1 := Lib.hid (show (l.take k).length = k by rw [List.length_take, Hl.out]; omega)
      have L2 := Lib.hid (show (l.drop k).length = m - k by rw [List.length_drop, Hl.out])
      have T1 := Lib.hid (fun W h => tree_any k (l.take k) (some ⟨b, off, none⟩) c W L1.out (HL.out.take k) (by omega) (by omega) h)
      have T2 := Lib.hid (fun W h => tree_any (m - k) (l.drop k) (some ⟨b, off + k * 32, none⟩) (c - k) W L2.out (HL.out.drop k) (by omega) (by omega) h)
      have hkm : (k : Int) ≤ (m : Int) := by omega
      have hkc : (k : Int) ≤ (c : Int) := by omega
      have hmcI : (m : Int) ≤ (c : Int) := by omega
      have hck : ¬ c = k := by omega
      have hck2 : (c == k) = false := by simp; omega
      clear HA
      by_cases hk : at_ < k
      · have hdk : decide ((at_ : Int) < (k : Int)) = true := by simp; omega
        have hdk2 : decide (at_ < k) = true := by simp; omega
        have Hp2 := Lib.hid (show pathS l0 at0 = pathS (l.take k) at_ ++ (pl ++ [treeS (l.drop k)]).reverse by rw [Hpath.out, plo.out hk]; simp)
        have Dt := Lib.hid (treeS_isD (l.drop k))
        have Hk := Lib.hid hk
        clear plo phi hk
        go_wp2_with (go_at_call 66; refine (HH.out _).mono ?_; rintro e w' ⟨rfl, rfl⟩)
        refine wp_region_held_drew (S := fun W => Below w.heap.size w W) (by kernel_rfl) (hb.out.trans (below_drewN (Below.refl _ _) 1)) (fun Hd => ?_)
        replace Hd : Below w.heap.size w wr.drew := Hd
        have HoD := Lib.hid (show wr.drew.ownsRow w.heap.size 28 32 (.slice Ap q cp) q (bytesV pl.flatten) from own_below Ho.out (below_drewN (Below.refl _ _) 1))
        generalize World.drew wr = wd at *
        refine wpAnyH_take (i := 0) (v := ?_) rfl (by kernel_rfl) (by kernel_rfl) (by kernel_rfl) (fun _ _ _ h => h) (Or.inl ⟨by rfl, ?_⟩) Hd ?_
        rotate_left
        · intro w hSw; go_simp; try with_reducible rfl
        simp only [la0, la1, la2, Act.put, la3, la4, la5]
        refine wpAnyH_take (i := 1) (v := ?_) rfl (by kernel_rfl) (by kernel_rfl) (by kernel_rfl) (fun _ _ _ h => h) (Or.inl ⟨by rfl, ?_⟩) Hd ?_
        rotate_left
        · intro w hSw; go_simp; try with_reducible rfl
        simp only [la0, la1, la2, Act.put, la3, la4, la5]
        refine wpAnyH_take (i := 2) (v := ?_) rfl (by kernel_rfl) (by kernel_rfl) (by kernel_rfl) (fun _ _ _ h => h) (Or.inl ⟨by rfl, ?_⟩) Hd ?_
        rotate_left
        · intro w hSw; go_simp; try with_reducible rfl
        simp only [la0, la1, la2, Act.put, la3, la4, la5]
        refine wpAnyH_take (i := 3) (v := ?_) rfl (by kernel_rfl) (by kernel_rfl) (by kernel_rfl) (fun _ _ _ h => h) (Or.inl ⟨by rfl, ?_⟩) Hd ?_
        rotate_left
        · intro w hSw; go_simp; try with_reducible rfl
        simp only [la0, la1, la2, Act.put, la3, la4, la5]
        refine wpAnyH_take (i := 7) (v := ?_) rfl (by kernel_rfl) (by kernel_rfl) (by kernel_rfl) (fun _ _ _ h => h) (Or.inl ⟨by rfl, ?_⟩) Hd ?_
        rotate_left
        · intro w hSw; go_simp; try with_reducible rfl
        simp only [la0, la1, la2, Act.put, la3, la4, la5]
        refine wpAnyH_take (i := 8) (v := ?_) rfl (by kernel_rfl) (by kernel_rfl) (by kernel_rfl) (fun _ _ _ h => h) (Or.inl ⟨by rfl, ?_⟩) Hd ?_
        rotate_left
        · intro w hSw; go_simp; try with_reducible rfl
        simp only [la0, la1, la2, Act.put, la3, la4, la5]
        refine wpAnyH_take (i := 9) (v := ?_) rfl (by kernel_rfl) (by kernel_rfl) (by kernel_rfl) (fun _ _ _ h => h) (Or.inl ⟨by rfl, ?_⟩) Hd ?_
        rotate_left
        · intro w hSw; go_simp; try with_reducible rfl
        simp only [la0, la1, la2, Act.put, la3, la4, la5]
        refine wpAnyH_ready (rs := [4]) (by kernel_rfl) (by simp) (AllReadyH.cons rfl (fun K hK => ?_) AllReadyH.nil)
        go_simp
        refine (T2.out _ (C2.out.below Hd)).mono ?_
        rintro e w4 ⟨rfl, hb4⟩
        have hb4' : Below w.heap.size w w4 := below_of Hd hb4 Hd.size
        have Hown4 := Lib.hid (own_below HoD.out hb4)
        go_wp2_with (fail)
        refine hK.out _ _ hb4' fun _ => ?_
        clear hK K
        try simp only [la0, la1, la2, Act.put, la3, la4, la5]
        refine wpAnyH_ready (rs := [5]) (by kernel_rfl) (by simp) (AllReadyH.cons rfl (fun K hK => ?_) AllReadyH.nil)
        refine step_oneD (by rfl) _ (by rfl) _ Dt.out (by rfl) ?_
        have hbA : Below w.heap.size w (w4.alloc (.cells (arrK .u8 (treeS (l.drop k))) 28)) := hb4'.alloc hb4'.size _
        have HD := Lib.hid (Blk.new w4 28 (arrK .u8 (treeS (l.drop k))))
        have Hown5 := Lib.hid (Hown4.out.alloc (.cells (arrK .u8 (treeS (l.drop k))) 28))
        generalize World.alloc _ _ = w5 at *
        refine hK.out _ _ hbA fun _ => ?_
        clear hK K
        try simp only [la0, la1, la2, Act.put, la3, la4, la5]
        refine wpAnyH_ready (rs := [6]) (by kernel_rfl) (by simp) (AllReadyH.cons rfl (fun K hK => ?_) AllReadyH.nil)
        refine step_pushD (by rfl) (.tmp 24) (.tmp 29) (by rfl) w.heap.size (.slice Ap q cp) q pl (treeS (l.drop k)) Hown5.out (by rfl) w4.heap.size HD.out Dt.out (by rfl) (by omega) hbA.size ?_
        intro v6 w6 hown6 hg6
        obtain ⟨A6, c6, rfl, -, -, -⟩ := own_form hown6
        have hb6 : Below w.heap.size w w6 := below_grown hbA hg6 hbA.size (own_base Hown5.out)
        have Hown6 := Lib.hid hown6
        clear hown6 hg6
        refine hK.out _ _ hb6 fun _ => ?_
        clear hK K
        try simp only [la0, la1, la2, Act.put, la3, la4, la5]
        refine wpAnyH_take (i := 10) (v := ?_) rfl (by kernel_rfl) (by kernel_rfl) (by kernel_rfl) (fun _ _ _ h => h) (Or.inl ⟨by rfl, ?_⟩) hb6 ?_
        rotate_left
        · intro w hSw; go_simp; try with_reducible rfl
        simp only [la0, la1, la2, Act.put, la3, la4, la5]
        refine wpAnyH_take (i := 11) (v := ?_) rfl (by kernel_rfl) (by kernel_rfl) (by kernel_rfl) (fun _ _ _ h => h) (Or.inl ⟨by rfl, ?_⟩) hb6 ?_
        rotate_left
        · intro w hSw; go_simp; try with_reducible rfl
        simp only [la0, la1, la2, Act.put, la3, la4, la5]
        refine wpAnyH_done (by kernel_rfl) ?_ _
        go_wp2_with (fail)
        go_roundw
        case rel => exact ⟨at_, k, c, q + 1, c6, some ⟨b, off, none⟩, A6, l.take k, pl ++ [treeS (l.drop k)], rfl, rfl, rfl, Hk.out, by omega, Hc.out, by omega, L1.out, HL.out.take k, by show _ = _; simp [Hq.out], HP.out.snoc Dt.out, Hp2.out, C1.out, Hown6.out, hb6⟩
        case measure => simp [lenOf]; omega
      · have hdk : decide ((at_ : Int) < (k : Int)) = false := by simp; omega
        have hdk2 : decide (at_ < k) = false := by simp; omega
        have Hp2 := Lib.hid (show pathS l0 at0 = pathS (l.drop k) (at_ - k) ++ (pl ++ [treeS (l.take k)]).reverse by rw [Hpath.out, phi.out hk]; simp)
        have Dt := Lib.hid (treeS_isD (l.take k))
        have s1 : (at_ : Int) - (k : Int) = ((at_ - k : Nat) : Int) := by omega
        have s3 : IntKind.i64.wrap ((at_ - k : Nat) : Int) = ((at_ - k : Nat) : Int) := IntWalk.i64_in _ (by omega)
        clear plo phi
        go_wp2_with (go_at_call 66; refine (HH.out _).mono ?_; rintro e w' ⟨rfl, rfl⟩)
        refine wp_region_held_drew (S := fun W => Below w.heap.size w W) (by kernel_rfl) (hb.out.trans (below_drewN (Below.refl _ _) 1)) (fun Hd => ?_)
        replace Hd : Below w.heap.size w wr.drew := Hd
        have HoD := Lib.hid (show wr.drew.ownsRow w.heap.size 28 32 (.slice Ap q cp) q (bytesV pl.flatten) from own_below Ho.out (below_drewN (Below.refl _ _) 1))
        generalize World.drew wr = wd at *
        refine wpAnyH_take (i := 0) (v := ?_) rfl (by kernel_rfl) (by kernel_rfl) (by kernel_rfl) (fun _ _ _ h => h) (Or.inl ⟨by rfl, ?_⟩) Hd ?_
        rotate_left
        · intro w hSw; go_simp; try with_reducible rfl
        simp only [la0, la1, la2, Act.put, la3, la4, la5]
        refine wpAnyH_take (i := 1) (v := ?_) rfl (by kernel_rfl) (by kernel_rfl) (by kernel_rfl) (fun _ _ _ h => h) (Or.inl ⟨by rfl, ?_⟩) Hd ?_
        rotate_left
        · intro w hSw; go_simp; try with_reducible rfl
        simp only [la0, la1, la2, Act.put, la3, la4, la5]
        refine wpAnyH_take (i := 2) (v := ?_) rfl (by kernel_rfl) (by kernel_rfl) (by kernel_rfl) (fun _ _ _ h => h) (Or.inl ⟨by rfl, ?_⟩) Hd ?_
        rotate_left
        · intro w hSw; go_simp; try with_reducible rfl
        simp only [la0, la1, la2, Act.put, la3, la4, la5]
        refine wpAnyH_take (i := 3) (v := ?_) rfl (by kernel_rfl) (by kernel_rfl) (by kernel_rfl) (fun _ _ _ h => h) (Or.inl ⟨by rfl, ?_⟩) Hd ?_
        rotate_left
        · intro w hSw; go_simp; try with_reducible rfl
        simp only [la0, la1, la2, Act.put, la3, la4, la5]
        refine wpAnyH_take (i := 7) (v := ?_) rfl (by kernel_rfl) (by kernel_rfl) (by kernel_rfl) (fun _ _ _ h => h) (Or.inl ⟨by rfl, ?_⟩) Hd ?_
        rotate_left
        · intro w hSw; go_simp; try with_reducible rfl
        simp only [la0, la1, la2, Act.put, la3, la4, la5]
        refine wpAnyH_take (i := 8) (v := ?_) rfl (by kernel_rfl) (by kernel_rfl) (by kernel_rfl) (fun _ _ _ h => h) (Or.inl ⟨by rfl, ?_⟩) Hd ?_
        rotate_left
        · intro w hSw; go_simp; try with_reducible rfl
        simp only [la0, la1, la2, Act.put, la3, la4, la5]
        refine wpAnyH_take (i := 9) (v := ?_) rfl (by kernel_rfl) (by kernel_rfl) (by kernel_rfl) (fun _ _ _ h => h) (Or.inl ⟨by rfl, ?_⟩) Hd ?_
        rotate_left
        · intro w hSw; go_simp; try with_reducible rfl
        simp only [la0, la1, la2, Act.put, la3, la4, la5]
        refine wpAnyH_take (i := 10) (v := ?_) rfl (by kernel_rfl) (by kernel_rfl) (by kernel_rfl) (fun _ _ _ h => h) (Or.inl ⟨by rfl, ?_⟩) Hd ?_
        rotate_left
        · intro w hSw; go_simp; try with_reducible rfl
        simp only [la0, la1, la2, Act.put, la3, la4, la5]
        refine wpAnyH_take (i := 11) (v := ?_) rfl (by kernel_rfl) (by kernel_rfl) (by kernel_rfl) (fun _ _ _ h => h) (Or.inl ⟨by rfl, ?_⟩) Hd ?_
        rotate_left
        · intro w hSw; go_simp; try with_reducible rfl
        simp only [la0, la1, la2, Act.put, la3, la4, la5]
        refine wpAnyH_take (i := 12) (v := ?_) rfl (by kernel_rfl) (by kernel_rfl) (by kernel_rfl) (fun _ _ _ h => h) (Or.inl ⟨by rfl, ?_⟩) Hd ?_
        rotate_left
        · intro w hSw; go_simp; try with_reducible rfl
        simp only [la0, la1, la2, Act.put, la3, la4, la5]
        refine wpAnyH_ready (rs := [4]) (by kernel_rfl) (by simp) (AllReadyH.cons rfl (fun K hK => ?_) AllReadyH.nil)
        go_simp
        refine (T1.out _ (C1.out.below Hd)).mono ?_
        rintro e w4 ⟨rfl, hb4⟩
        have hb4' : Below w.heap.size w w4 := below_of Hd hb4 Hd.size
        have Hown4 := Lib.hid (own_below HoD.out hb4)
        go_wp2_with (fail)
        refine hK.out _ _ hb4' fun _ => ?_
        clear hK K
        try simp only [la0, la1, la2, Act.put, la3, la4, la5]
        refine wpAnyH_ready (rs := [5]) (by kernel_rfl) (by simp) (AllReadyH.cons rfl (fun K hK => ?_) AllReadyH.nil)
        refine step_oneD (by rfl) _ (by rfl) _ Dt.out (by rfl) ?_
        have hbA : Below w.heap.size w (w4.alloc (.cells (arrK .u8 (treeS (l.take k))) 28)) := hb4'.alloc hb4'.size _
        have HD := Lib.hid (Blk.new w4 28 (arrK .u8 (treeS (l.take k))))
        have Hown5 := Lib.hid (Hown4.out.alloc (.cells (arrK .u8 (treeS (l.take k))) 28))
        generalize World.alloc _ _ = w5 at *
        refine hK.out _ _ hbA fun _ => ?_
        clear hK K
        try simp only [la0, la1, la2, Act.put, la3, la4, la5]
        refine wpAnyH_ready (rs := [6]) (by kernel_rfl) (by simp) (AllReadyH.cons rfl (fun K hK => ?_) AllReadyH.nil)
        refine step_pushD (by rfl) (.tmp 34) (.tmp 39) (by rfl) w.heap.size (.slice Ap q cp) q pl (treeS (l.take k)) Hown5.out (by rfl) w4.heap.size HD.out Dt.out (by rfl) (by omega) hbA.size ?_
        intro v6 w6 hown6 hg6
        obtain ⟨A6, c6, rfl, -, -, -⟩ := own_form hown6
        have hb6 : Below w.heap.size w w6 := below_grown hbA hg6 hbA.size (own_base Hown5.out)
        have Hown6 := Lib.hid hown6
        clear hown6 hg6
        refine hK.out _ _ hb6 fun _ => ?_
        clear hK K
        try simp only [la0, la1, la2, Act.put, la3, la4, la5]
        refine wpAnyH_take (i := 13) (v := ?_) rfl (by kernel_rfl) (by kernel_rfl) (by kernel_rfl) (fun _ _ _ h => h) (Or.inl ⟨by rfl, ?_⟩) hb6 ?_
        rotate_left
        · intro w hSw; go_simp; try with_reducible rfl
        simp only [la0, la1, la2, Act.put, la3, la4, la5]
        refine wpAnyH_take (i := 14) (v := ?_) rfl (by kernel_rfl) (by kernel_rfl) (by kernel_rfl) (fun _ _ _ h => h) (Or.inl ⟨by rfl, ?_⟩) hb6 ?_
        rotate_left
        · intro w hSw; go_simp; try with_reducible rfl
        simp only [la0, la1, la2, Act.put, la3, la4, la5]
        refine wpAnyH_take (i := 15) (v := ?_) rfl (by kernel_rfl) (by kernel_rfl) (by kernel_rfl) (fun _ _ _ h => h) (Or.inl ⟨by rfl, ?_⟩) hb6 ?_
        rotate_left
        · intro w hSw; go_simp; try with_reducible rfl
        simp only [la0, la1, la2, Act.put, la3, la4, la5]
        refine wpAnyH_done (by kernel_rfl) ?_ _
        go_wp2_with (fail)
        go_roundw
        case rel => exact ⟨at_ - k, m - k, c - k, q + 1, c6, some ⟨b, off + k * 32, none⟩, A6, l.drop k, pl ++ [treeS (l.take k)], rfl, rfl, rfl, by omega, by omega, Nat.le_trans (Nat.sub_le _ _) Hc.out, by omega, L2.out, HL.out.drop k, by show _ = _; simp [Hq.out], HP.out.snoc Dt.out, Hp2.out, C2.out, Hown6.out, hb6⟩
        case measure => simp [lenOf]; omega
    · have hd1 : decide ((1 : Int) < (m : Int)) = false := by simp; omega
      have hd2 : decide (1 < m) = false := by simp; omega
      have Hfin := Lib.hid (show pathS l0 at0 = pl.reverse by rw [Hpath.out, pathS_one _ (by rw [Hl.out]; omega)]; rfl)
      obtain ⟨A2, c2, hv, g1, g2, -⟩ := own_form Ho.out
      cases hv
      rcases Nat.eq_zero_or_pos q with rfl | hq
      · have hpl : pl = [] := List.eq_nil_of_length_eq_zero Hq.out
        subst hpl
        have RV := Lib.hid (fun W => reverse_none Ap cp W)
        go_wp2_with (go_at_call 71; refine (RV.out _).mono ?_; rintro e w' ⟨rfl, rfl⟩)
        go_ret2
        exact ⟨Ap, 0, cp, rfl, by rw [Hfin.out]; rfl, g1, g2, by rw [Hfin.out]; exact Cells.own Ho.out, NewA.own Ho.out, hb.out⟩
      · obtain ⟨g, rfl⟩ : ∃ g, Ap = some ⟨g, 0, none⟩ := own_addr Ho.out hq
        have RV := Lib.hid (reverse_any g q cp w.heap.size pl wr Ho.out Hq.out HP.out (by omega))
        go_wp2_with (go_at_call 71; refine RV.out.mono ?_; rintro e w5 ⟨rfl, hc5, hg5⟩; have Hc5 := Lib.hid hc5; have Hg5 := Lib.hid hg5; clear hc5 hg5)
        go_ret2
        exact ⟨some ⟨g, 0, none⟩, q, cp, rfl, by rw [Hfin.out, List.length_reverse, Hq.out], g1, g2, by rw [Hfin.out]; exact Hc5.out, NewA.own Ho.out, below_grown hb.out Hg5.out hb.out.size (own_base Ho.out)⟩
theorem path_any (l : List (List Nat)) (at_ : Int) (m : Nat) (A : Option Addr) (c : Nat) (w : World) (hl : l.length = m) (hL : IsL l) (hmc : m ≤ c) (hcm : c ≤ maxLen) (hm : m ≤ 1000000) (hA : Cells w A (bytesV l.flatten)) :
    Calls Try.prog 47 #[.slice A m c, .int .i64 at_] w fun e w' => ∃ A' q c', e = .returned (.tuple #[.slice A' q c', .int .i64 (errArg (okPath l at_))]) ∧ (pathR l at_).length = q ∧ q ≤ c' ∧ c' ≤ maxLen ∧ Cells w' A' (bytesV (pathR l at_).flatten) ∧ NewA w.heap.size A' (pathR l at_).flatten ∧ Below w.heap.size w w' := by
  by_cases h : 0 ≤ at_ ∧ at_ < (m : Int)
  · obtain ⟨n, rfl⟩ := Int.eq_ofNat_of_zero_le h.1
    refine (path_good l n m A c w hl hL (by omega) hmc hcm hm hA).mono ?_
    rintro e w' ⟨A', q, c', rfl, g⟩
    have h' : 0 ≤ (n : Int) ∧ (n : Int) < (l.length : Int) := by rw [hl]; exact h
    refine ⟨A', q, c', by unfold okPath; rw [decide_eq_true h', errArg_true], ?_⟩
    unfold pathR
    rw [if_pos h', Int.toNat_natCast]
    exact g
  · refine (path_none at_ A m c w (by omega)).mono ?_
    rintro e w' ⟨rfl, rfl⟩
    have h' : ¬ (0 ≤ at_ ∧ at_ < (l.length : Int)) := by rw [hl]; exact h
    refine ⟨none, 0, 0, by unfold okPath; rw [decide_eq_false h', errArg_false], ?_⟩
    unfold pathR
    rw [if_neg h']
    exact ⟨rfl, Nat.le_refl _, Nat.zero_le _, nilBytes w none, .inl rfl, Below.refl _ _⟩
end Go.Proofs.Ytkflpoiobpblhaa
namespace Go.Proofs.Ytkflpoiobpblhaa
open Go.RowKit
def Apart (v : Value) (b : Nat) : Prop := v.ownBlock ≠ some b
theorem apart_new {w : World} {base : Nat} {e : TypeId} {size : Nat} {v : Value} {n : Nat} {xs : List Value} (h : w.ownsRow base e size v n xs) : Apart v w.heap.size := by
  intro e
  have := (h.lt _ e).2
  omega
theorem apart_sits {v v' : Value} {w : World} {b : Nat} (hs : Sits v v' w) (ha : Apart v b) (hb : b < w.heap.size) : Apart v' b := by
  rcases hs with h | ⟨g, h, hg⟩
  · unfold Apart; rw [h]; exact ha
  · unfold Apart; rw [h]
    intro e
    cases e
    omega
section
variable {w : World} {ops : Array Oper} {rest : List Oper} {o : Oper} {a : Act} {Q : Exit → Act → World → Prop} {K : Act → World → Prop}
theorem step_pushDs {E : Prop} (hgd : o.guard = none) (s x : Operand) (ho : o.op = .call { callee := .builtin .append, args := #[s, x], argTypes := #[34, 34] })
    (base : Nat) (v : Value) (n : Nat) (l : List (List Nat)) (d : List Nat) (hown : w.ownsRow base 28 32 v n (bytesV l.flatten)) (hs : a.eval s = v) (g : Nat) (hg : Blk w g 28 (arrK .u8 d)) (hd : IsD d)
    (hx : a.eval x = .slice (some ⟨g, 0, none⟩) 1 1) (hn : n ≤ 1000000) (hbase : base ≤ w.heap.size)
    (h : ∀ v' w', w'.ownsRow base 28 32 v' (n + 1) (bytesV (l ++ [d]).flatten) → w.grownBy w' v.ownBlock → Sits v v' w → K (a.put o.dst v') w') : if Region.wanted o (yielded ops a.tmps) = true then Oper.wp Try.prog o a w K Q else E :=
  step_append_cells hgd s x 34 ho base 28 (.agg (arrK .u8 z32)) 32 32 (by kernel_rfl) info_dig (by show (arrK .u8 z32).size = 32; exact len32 z32_length) (by omega) v n (bytesV l.flatten) hown hs (some ⟨g, 0, none⟩) 1 1 (bytesV d) hx (by rw [bytesV_length, hd.1])
    (by have := cells_blk hg; rwa [arrK_bytesV] at this) (bytesV_one _) (by unfold maxLen; omega) (by omega) hbase fun v' w' h1 h2 h3 => h v' w' (by rwa [flat_snoc] at h1) h2 h3
end
theorem yields_load_blk {P : Program} {ops : Array Oper} {o : Oper} {a : Act} {S : World → Prop} (hw : Region.wanted o (yielded ops a.tmps) = true) (ty : TypeId) (x : Operand) (ho : o.op = .load ty x) (g : Nat) (hx : a.eval x = .pointer (some ⟨g, 0, none⟩)) (t : TypeId) (cs : Array Value) (d : TypeDesc)
    (hS : ∀ w, S w → Blk w g t cs) (hu : P.underlying ty = some d) (hd : (match d with | .struct _ | .array _ _ => true | _ => false) = true) (hi : (P.info? ty).map (·.size) = some cs.size) : YieldsIf P ops S o (.agg cs) a :=
  .inl ⟨hw, fun w hw' => by
    unfold execOp
    simp only [ho, hx, Instr.loadAt, Instr.sureAddr, Sem.run_bind, Sem.run_pure, Result.andThen_ok, run_loadVar_row w g t ty cs (0, 0) d (hS w hw') hu hd hi]⟩
end Go.Proofs.Ytkflpoiobpblhaa
