/- Walks and plain laws that the statement rests on: Path2, Own, Ref6, Ref7. -/
import Derived.Test.YtkflpoiobpblhaaGreatP00
import Derived.Test.YtkflpoiobpblhaaGreatP19
import Derived.Test.YtkflpoiobpblhaaGreatP21
import Derived.Test.YtkflpoiobpblhaaGreatPS
namespace Go.Proofs.YtkflpoiobpblhaaGreat
open Go.RowKit
def lenOf : Value → Nat | .slice _ m _ => m | _ => 0
theorem errArg_true : errArg true = 0 := by unfold errArg; rfl
theorem errArg_false : errArg false = 1 := by unfold errArg; rfl
theorem own_addr {w : World} {base : Nat} {e : TypeId} {size : Nat} {A : Option Addr} {n m c : Nat} {xs : List Value} (h : w.ownsRow base e size (.slice A m c) n xs) (hn : 0 < n) : ∃ g, A = some ⟨g, 0, none⟩ := by
 obtain ⟨-, ⟨hv, hn0⟩ | ⟨g, d, cur, hv, -⟩⟩ := h
 · omega
 · cases hv; exact ⟨g, rfl⟩
def pathR (l : List (List Nat)) (at_ : Int) : List (List Nat) := if 0 ≤ at_ ∧ at_ < (l.length : Int) then pathS l at_.toNat else []
def okPath (l : List (List Nat)) (at_ : Int) : Bool := decide (0 ≤ at_ ∧ at_ < (l.length : Int))
theorem pathR_isL (l : List (List Nat)) (at_ : Int) : IsL (pathR l at_) := by
 unfold pathR
 split
 · exact pathS_isL _ _ _ rfl
 · exact IsL.nil_
def NewA (B : Nat) (A : Option Addr) (l : List Nat) : Prop := l = [] ∨ ∀ b off, A = some ⟨b, off, none⟩ → B ≤ b
theorem NewA.mono {B B' : Nat} {A : Option Addr} {l : List Nat} (h : NewA B A l) (hb : B' ≤ B) : NewA B' A l := h.imp id fun h b off e => Nat.le_trans hb (h b off e)
theorem NewA.own {w : World} {B size n c : Nat} {e : TypeId} {A : Option Addr} {xs : List Value} {l : List Nat} (h : w.ownsRow B e size (.slice A n c) n xs) : NewA B A l := .inr fun b off hA => own_base h b (by rw [hA]; rfl)
set_option linter.unusedSimpArgs false in
set_option maxRecDepth 100000 in
set_option maxHeartbeats 4000000 in
theorem path_good (l0 : List (List Nat)) (at0 m0 : Nat) (A0 : Option Addr) (c0 : Nat) (w : World) (hl : l0.length = m0) (hL : IsL l0) (hat : at0 < m0) (hmc : m0 ≤ c0) (hcm : c0 ≤ maxLen) (hm : m0 ≤ 1000000) (hA : Cells w A0 (bytesV l0.flatten)) :
    Calls Tryz.prog 58 #[.slice A0 m0 c0, .int .i64 at0] w fun e w' => ∃ A' q c', e = .returned (.tuple #[.slice A' q c', .int .i64 0]) ∧ (pathS l0 at0).length = q ∧ q ≤ c' ∧ c' ≤ maxLen ∧ Cells w' A' (bytesV (pathS l0 at0).flatten) ∧ NewA w.heap.size A' (pathS l0 at0).flatten ∧ Below w.heap.size w w' := by
 have Hl0 := Lib.hid hl
 have HL0 := Lib.hid hL
 have HA0 := Lib.hid hA
 have Hcm := Lib.hid hcm
 clear hl hL hA hcm
 have q1 : decide ((at0 : Int) < 0) = false := by simp
 have q2 : decide ((m0 : Int) ≤ (at0 : Int)) = false := by simp; omega
 have q3 : decide (m0 ≤ at0) = false := by simp; omega
 go_enter Tryz.func58, Tryz.ntmps58
 go_wp2_with (fail)
 go_loopw [4, 0, 1] (fun o x y wr => ∃ (at_ m c q cp : Nat) (A Ap : Option Addr) (l pl : List (List Nat)), o = .slice Ap q cp ∧ x = .slice A m c ∧ y = .int .i64 at_ ∧ at_ < m ∧ m ≤ c ∧ Hid (c ≤ maxLen) ∧ q + m ≤ m0 ∧ Hid (l.length = m) ∧ Hid (IsL l) ∧ Hid (pl.length = q) ∧ Hid (IsL pl) ∧ Hid (pathS l0 at0 = pathS l at_ ++ pl.reverse) ∧ Hid (Cells w A (bytesV l.flatten)) ∧ Hid (wr.ownsRow w.heap.size 29 32 (.slice Ap q cp) q (bytesV pl.flatten)) ∧ Hid (Below w.heap.size w wr)) (fun _ x _ _ => lenOf x)
 case atStart => exact ⟨at0, m0, c0, 0, 0, A0, none, l0, [], rfl, rfl, rfl, hat, hmc, Hcm.out, by omega, Hl0.out, HL0.out, rfl, IsL.nil_, by show _ = _; simp, HA0.out, ownD_nil _ _, Below.refl _ _⟩
 case round =>
  obtain ⟨at_, m, c, q, cp, A, Ap, l, pl, rfl, rfl, rfl, hat', hmc', Hc, hqm, Hl, HL, Hq, HP, Hpath, HA, Ho, hb⟩ := hrel
  have hmI : m ≤ 1000000 := by omega
  by_cases h2 : 2 ≤ m
  · have hd1 : decide ((1 : Int) < (m : Int)) = true := by simp; omega
    have hd2 : decide (1 < m) = true := by simp; omega
    have hk1 := half_lt h2
    have hk2 := half_pos m
    have HH := Lib.hid (fun W => half_any m W h2 (by omega))
    have plo := Lib.hid (fun h => pathS_lo (l := l) (at_ := at_) (by rw [Hl.out]; exact h2) h)
    have phi := Lib.hid (fun h => pathS_hi (l := l) (at_ := at_) (by rw [Hl.out]; exact h2) h)
    rw [Hl.out] at plo phi
    generalize halfN m = k at *
    obtain ⟨b, off, rfl, hb', hcell⟩ := Cells.addr HA.out (by rw [bytesV_length, HL.out.flat_length, Hl.out]; omega)
    clear hcell hb'
    have C1 := Lib.hid (show Cells w (some ⟨b, off, none⟩) (bytesV (l.take k).flatten) by
     rw [HL.out.flat_take k]
     have := HA.out.take_ (k * 32)
     rwa [show (bytesV l.flatten).take (k * 32) = bytesV (l.flatten.take (k * 32)) by unfold bytesV; rw [List.map_take]] at this)
    have C2 := Lib.hid (show Cells w (some ⟨b, off + k * 32, none⟩) (bytesV (l.drop k).flatten) by
     rw [HL.out.flat_drop k, bytesV_drop]
     exact HA.out.drop_ (k * 32))
    have L1 := Lib.hid (show (l.take k).length = k by rw [List.length_take, Hl.out]; omega)
    have L2 := Lib.hid (show (l.drop k).length = m - k by rw [List.length_drop, Hl.out])
    have T1 := Lib.hid (fun W h => tree_any k (l.take k) (some ⟨b, off, none⟩) c W L1.out (HL.out.take k) (by omega) (by omega) h)
    have T2 := Lib.hid (fun W h => tree_any (m - k) (l.drop k) (some ⟨b, off + k * 32, none⟩) (c - k) W L2.out (HL.out.drop k) (by omega) (by omega) h)
    have hkm : (k : Int) ≤ (m : Int) := by omega
    have hkc : (k : Int) ≤ (c : Int) := by omega
    have hmcI : (m : Int) ≤ (c : Int) := by omega
    have hck : ¬ c = k := by omega
    have hck2 : (c == k) = false := by simp; omega
    clear HA
    by_cases hk : at_ < k
    · have hdk : decide ((at_ : Int) < (k : Int)) = true := by simp; omega
      have hdk2 : decide (at_ < k) = true := by simp; omega
      have Hp2 := Lib.hid (show pathS l0 at0 = pathS (l.take k) at_ ++ (pl ++ [treeS (l.drop k)]).reverse by rw [Hpath.out, plo.out hk]; simp)
      have Dt := Lib.hid (treeS_isD (l.drop k))
      have Hk := Lib.hid hk
      clear plo phi hk
      go_wp2_with (go_at_call 92; refine (HH.out _).mono ?_; rintro e w' ⟨rfl, rfl⟩)
      refine wp_region_held_drew (S := fun W => Below w.heap.size w W) (by kernel_rfl) (hb.out.trans (below_drewN (Below.refl _ _) 1)) (fun Hd => ?_)
      replace Hd : Below w.heap.size w wr.drew := Hd
      have HoD := Lib.hid (show wr.drew.ownsRow w.heap.size 29 32 (.slice Ap q cp) q (bytesV pl.flatten) from own_below Ho.out (below_drewN (Below.refl _ _) 1))
      generalize World.drew wr = wd at *
      refine tq 0 rfl Hd ?_
      simp only [la, Act.put]
      refine tq 1 rfl Hd ?_
      simp only [la, Act.put]
      refine tq 2 rfl Hd ?_
      simp only [la, Act.put]
      refine tq 3 rfl Hd ?_
      simp only [la, Act.put]
      refine tq 7 rfl Hd ?_
      simp only [la, Act.put]
      refine tq 8 rfl Hd ?_
      simp only [la, Act.put]
      refine tq 9 rfl Hd ?_
      simp only [la, Act.put]
      refine ty 4 rfl (fun K hK => ?_)
      go_simp
      refine (T2.out _ (C2.out.below Hd)).mono ?_
      rintro e w4 ⟨rfl, hb4⟩
      have hb4' : Below w.heap.size w w4 := below_of Hd hb4 Hd.size
      have Hown4 := Lib.hid (own_below HoD.out hb4)
      go_wp2_with (fail)
      refine hK.out _ _ hb4' fun _ => ?_
      clear hK K
      try simp only [la, Act.put]
      refine ty 5 rfl (fun K hK => ?_)
      refine step_oneD (by rfl) _ (by rfl) _ Dt.out (by rfl) ?_
      have hbA : Below w.heap.size w (w4.alloc (.cells (arrK .u8 (treeS (l.drop k))) 29)) := hb4'.alloc hb4'.size _
      have HD := Lib.hid (Blk.new w4 29 (arrK .u8 (treeS (l.drop k))))
      have Hown5 := Lib.hid (Hown4.out.alloc (.cells (arrK .u8 (treeS (l.drop k))) 29))
      generalize World.alloc _ _ = w5 at *
      refine hK.out _ _ hbA fun _ => ?_
      clear hK K
      try simp only [la, Act.put]
      refine ty 6 rfl (fun K hK => ?_)
      refine step_pushD (by rfl) (.tmp 24) (.tmp 29) (by rfl) w.heap.size (.slice Ap q cp) q pl (treeS (l.drop k)) Hown5.out (by rfl) w4.heap.size HD.out Dt.out (by rfl) (by omega) hbA.size ?_
      intro v6 w6 hown6 hg6
      obtain ⟨A6, c6, rfl, -, -, -⟩ := own_form hown6
      have hb6 : Below w.heap.size w w6 := below_grown hbA hg6 hbA.size (own_base Hown5.out)
      have Hown6 := Lib.hid hown6
      clear hown6 hg6
      refine hK.out _ _ hb6 fun _ => ?_
      clear hK K
      refine tq 10 rfl hb6 ?_
      simp only [la, Act.put]
      refine tq 11 rfl hb6 ?_
      simp only [la, Act.put]
      refine td ?_ _
      go_wp2_with (fail)
      go_roundw
      case rel => exact ⟨at_, k, c, q + 1, c6, some ⟨b, off, none⟩, A6, l.take k, pl ++ [treeS (l.drop k)], rfl, rfl, rfl, Hk.out, by omega, Hc.out, by omega, L1.out, HL.out.take k, by show _ = _; simp [Hq.out], HP.out.snoc Dt.out, Hp2.out, C1.out, Hown6.out, hb6⟩
      case measure => simp [lenOf]; omega
    · have hdk : decide ((at_ : Int) < (k : Int)) = false := by simp; omega
      have hdk2 : decide (at_ < k) = false := by simp; omega
      have Hp2 := Lib.hid (show pathS l0 at0 = pathS (l.drop k) (at_ - k) ++ (pl ++ [treeS (l.take k)]).reverse by rw [Hpath.out, phi.out hk]; simp)
      have Dt := Lib.hid (treeS_isD (l.take k))
      have s1 : (at_ : Int) - (k : Int) = ((at_ - k : Nat) : Int) := by omega
      have s3 : IntKind.i64.wrap ((at_ - k : Nat) : Int) = ((at_ - k : Nat) : Int) := IntWalk.i64_in _ (by omega)
      clear plo phi
      go_wp2_with (go_at_call 92; refine (HH.out _).mono ?_; rintro e w' ⟨rfl, rfl⟩)
      refine wp_region_held_drew (S := fun W => Below w.heap.size w W) (by kernel_rfl) (hb.out.trans (below_drewN (Below.refl _ _) 1)) (fun Hd => ?_)
      replace Hd : Below w.heap.size w wr.drew := Hd
      have HoD := Lib.hid (show wr.drew.ownsRow w.heap.size 29 32 (.slice Ap q cp) q (bytesV pl.flatten) from own_below Ho.out (below_drewN (Below.refl _ _) 1))
      generalize World.drew wr = wd at *
      refine tq 0 rfl Hd ?_
      simp only [la, Act.put]
      refine tq 1 rfl Hd ?_
      simp only [la, Act.put]
      refine tq 2 rfl Hd ?_
      simp only [la, Act.put]
      refine tq 3 rfl Hd ?_
      simp only [la, Act.put]
      refine tq 7 rfl Hd ?_
      simp only [la, Act.put]
      refine tq 8 rfl Hd ?_
      simp only [la, Act.put]
      refine tq 9 rfl Hd ?_
      simp only [la, Act.put]
      refine tq 10 rfl Hd ?_
      simp only [la, Act.put]
      refine tq 11 rfl Hd ?_
      simp only [la, Act.put]
      refine tq 12 rfl Hd ?_
      simp only [la, Act.put]
      refine ty 4 rfl (fun K hK => ?_)
      go_simp
      refine (T1.out _ (C1.out.below Hd)).mono ?_
      rintro e w4 ⟨rfl, hb4⟩
      have hb4' : Below w.heap.size w w4 := below_of Hd hb4 Hd.size
      have Hown4 := Lib.hid (own_below HoD.out hb4)
      go_wp2_with (fail)
      refine hK.out _ _ hb4' fun _ => ?_
      clear hK K
      try simp only [la, Act.put]
      refine ty 5 rfl (fun K hK => ?_)
      refine step_oneD (by rfl) _ (by rfl) _ Dt.out (by rfl) ?_
      have hbA : Below w.heap.size w (w4.alloc (.cells (arrK .u8 (treeS (l.take k))) 29)) := hb4'.alloc hb4'.size _
      have HD := Lib.hid (Blk.new w4 29 (arrK .u8 (treeS (l.take k))))
      have Hown5 := Lib.hid (Hown4.out.alloc (.cells (arrK .u8 (treeS (l.take k))) 29))
      generalize World.alloc _ _ = w5 at *
      refine hK.out _ _ hbA fun _ => ?_
      clear hK K
      try simp only [la, Act.put]
      refine ty 6 rfl (fun K hK => ?_)
      refine step_pushD (by rfl) (.tmp 34) (.tmp 39) (by rfl) w.heap.size (.slice Ap q cp) q pl (treeS (l.take k)) Hown5.out (by rfl) w4.heap.size HD.out Dt.out (by rfl) (by omega) hbA.size ?_
      intro v6 w6 hown6 hg6
      obtain ⟨A6, c6, rfl, -, -, -⟩ := own_form hown6
      have hb6 : Below w.heap.size w w6 := below_grown hbA hg6 hbA.size (own_base Hown5.out)
      have Hown6 := Lib.hid hown6
      clear hown6 hg6
      refine hK.out _ _ hb6 fun _ => ?_
      clear hK K
      try simp only [la, Act.put]
      refine tq 13 rfl hb6 ?_
      simp only [la, Act.put]
      refine tq 14 rfl hb6 ?_
      simp only [la, Act.put]
      refine tq 15 rfl hb6 ?_
      simp only [la, Act.put]
      refine td ?_ _
      go_wp2_with (fail)
      go_roundw
      case rel => exact ⟨at_ - k, m - k, c - k, q + 1, c6, some ⟨b, off + k * 32, none⟩, A6, l.drop k, pl ++ [treeS (l.take k)], rfl, rfl, rfl, by omega, by omega, Nat.le_trans (Nat.sub_le _ _) Hc.out, by omega, L2.out, HL.out.drop k, by show _ = _; simp [Hq.out], HP.out.snoc Dt.out, Hp2.out, C2.out, Hown6.out, hb6⟩
      case measure => simp [lenOf]; omega
  · have hd1 : decide ((1 : Int) < (m : Int)) = false := by simp; omega
    have hd2 : decide (1 < m) = false := by simp; omega
    have Hfin := Lib.hid (show pathS l0 at0 = pl.reverse by rw [Hpath.out, pathS_one _ (by rw [Hl.out]; omega)]; rfl)
    obtain ⟨A2, c2, hv, g1, g2, -⟩ := own_form Ho.out
    cases hv
    rcases Nat.eq_zero_or_pos q with rfl | hq
    · have hpl : pl = [] := List.eq_nil_of_length_eq_zero Hq.out
      subst hpl
      have RV := Lib.hid (fun W => reverse_none Ap cp W)
      go_wp2_with (go_at_call 97; refine (RV.out _).mono ?_; rintro e w' ⟨rfl, rfl⟩)
      go_ret2
      exact ⟨Ap, 0, cp, rfl, by rw [Hfin.out]; rfl, g1, g2, by rw [Hfin.out]; exact Cells.own Ho.out, NewA.own Ho.out, hb.out⟩
    · obtain ⟨g, rfl⟩ : ∃ g, Ap = some ⟨g, 0, none⟩ := own_addr Ho.out hq
      have RV := Lib.hid (reverse_any g q cp w.heap.size pl wr Ho.out Hq.out HP.out (by omega))
      go_wp2_with (go_at_call 97; refine RV.out.mono ?_; rintro e w5 ⟨rfl, hc5, hg5⟩; have Hc5 := Lib.hid hc5; have Hg5 := Lib.hid hg5; clear hc5 hg5)
      go_ret2
      exact ⟨some ⟨g, 0, none⟩, q, cp, rfl, by rw [Hfin.out, List.length_reverse, Hq.out], g1, g2, by rw [Hfin.out]; exact Hc5.out, NewA.own Ho.out, below_grown hb.out Hg5.out hb.out.size (own_base Ho.out)⟩
theorem path_any (l : List (List Nat)) (at_ : Int) (m : Nat) (A : Option Addr) (c : Nat) (w : World) (hl : l.length = m) (hL : IsL l) (hmc : m ≤ c) (hcm : c ≤ maxLen) (hm : m ≤ 1000000) (hA : Cells w A (bytesV l.flatten)) :
    Calls Tryz.prog 58 #[.slice A m c, .int .i64 at_] w fun e w' => ∃ A' q c', e = .returned (.tuple #[.slice A' q c', .int .i64 (errArg (okPath l at_))]) ∧ (pathR l at_).length = q ∧ q ≤ c' ∧ c' ≤ maxLen ∧ Cells w' A' (bytesV (pathR l at_).flatten) ∧ NewA w.heap.size A' (pathR l at_).flatten ∧ Below w.heap.size w w' := by
 by_cases h : 0 ≤ at_ ∧ at_ < (m : Int)
 · obtain ⟨n, rfl⟩ := Int.eq_ofNat_of_zero_le h.1
   refine (path_good l n m A c w hl hL (by omega) hmc hcm hm hA).mono ?_
   rintro e w' ⟨A', q, c', rfl, g⟩
   have h' : 0 ≤ (n : Int) ∧ (n : Int) < (l.length : Int) := by rw [hl]; exact h
   refine ⟨A', q, c', by unfold okPath; rw [decide_eq_true h', errArg_true], ?_⟩
   unfold pathR
   rw [if_pos h', Int.toNat_natCast]
   exact g
 · refine (path_none at_ A m c w (by omega)).mono ?_
   rintro e w' ⟨rfl, rfl⟩
   have h' : ¬ (0 ≤ at_ ∧ at_ < (l.length : Int)) := by rw [hl]; exact h
   refine ⟨none, 0, 0, by unfold okPath; rw [decide_eq_false h', errArg_false], ?_⟩
   unfold pathR
   rw [if_neg h']
   exact ⟨rfl, Nat.le_refl _, Nat.zero_le _, nilBytes w none, .inl rfl, Below.refl _ _⟩
theorem rpath_out (l : List (List Nat)) (at_ : Int) (m : Nat) (A : Option Addr) (c : Nat) (w : World) (hl : l.length = m) (hL : IsL l) (hmc : m ≤ c) (hm : m ≤ 1000000) (hA : Cells w A (bytesV l.flatten)) :
    Calls Tryz.prog 72 #[.slice A m c, .int .i64 at_] w fun e w' => ∃ A' q c', e = .returned (.tuple #[.slice A' q c', .int .i64 (errArg (okPath l at_))]) ∧ (pathR l at_).length = q ∧ q ≤ c' ∧ c' ≤ maxLen ∧ Cells w' A' (bytesV (pathR l at_).flatten) ∧ NewA w.heap.size A' (pathR l at_).flatten ∧ Below w.heap.size w w' := by
 have hmv := Lib.hid hm
 by_cases h : 0 ≤ at_ ∧ at_ < (m : Int)
 · obtain ⟨n, rfl⟩ := Int.eq_ofNat_of_zero_le h.1
   have h' : 0 ≤ (n : Int) ∧ (n : Int) < (l.length : Int) := by rw [hl]; exact h
   have Hok : okPath l n = true := by unfold okPath; rw [decide_eq_true h']
   have Hr : pathR l n = pathS l n := by unfold pathR; rw [if_pos h', Int.toNat_natCast]
   rw [Hok, Hr, errArg_true]
   have RP := Lib.hid (rpath_any m l n A c w hl hL (by omega) hmc hm hA)
   have q1 : decide ((n : Int) < 0) = false := by simp
   have q2 : decide ((m : Int) ≤ (n : Int)) = false := by simp; omega
   have q3 : decide (m ≤ n) = false := by simp; omega
   clear Hok Hr h' h hl hL hA
   go_enter Tryz.func72, Tryz.ntmps72
   go_wp2_with (fail)
   refine RP.out.mono ?_
   rintro e w' ⟨A', q, c', rfl, g1, g2, g3⟩
   have G := Lib.hid (And.intro g1 (And.intro g2 g3))
   clear g1 g2 g3
   go_wp2_with (fail)
   go_ret2
   obtain ⟨g1, g2, g3⟩ := G.out
   obtain ⟨A2, c2, hv, k1, k2, -⟩ := own_form g2
   cases hv
   exact ⟨A', q, c', rfl, g1, k1, k2, Cells.own g2, NewA.own g2, g3⟩
 · have h' : ¬ (0 ≤ at_ ∧ at_ < (l.length : Int)) := by rw [hl]; exact h
   have Hok : okPath l at_ = false := by unfold okPath; rw [decide_eq_false h']
   have Hr : pathR l at_ = [] := by unfold pathR; rw [if_neg h']
   rw [Hok, Hr, errArg_false]
   clear Hok Hr h' hl hL hA
   have h2 : at_ < 0 ∨ (0 ≤ at_ ∧ (m : Int) ≤ at_) := by omega
   clear h
   rcases h2 with h | ⟨h0, h⟩
   · go_enter Tryz.func72, Tryz.ntmps72
     go_wp2_with (fail)
     go_ret2
     exact ⟨none, 0, 0, rfl, rfl, Nat.le_refl _, Nat.zero_le _, nilBytes w none, .inl rfl, Below.refl _ _⟩
   · go_enter Tryz.func72, Tryz.ntmps72
     go_wp2_with (fail)
     go_ret2
     exact ⟨none, 0, 0, rfl, rfl, Nat.le_refl _, Nat.zero_le _, nilBytes w none, .inl rfl, Below.refl _ _⟩
end Go.Proofs.YtkflpoiobpblhaaGreat
namespace Go.Proofs.YtkflpoiobpblhaaGreat
open Go.RowKit
def Apart (v : Value) (b : Nat) : Prop := v.ownBlock ≠ some b
theorem apart_new {w : World} {base : Nat} {e : TypeId} {size : Nat} {v : Value} {n : Nat} {xs : List Value} (h : w.ownsRow base e size v n xs) : Apart v w.heap.size := by
 intro e
 have := (h.lt _ e).2
 omega
theorem apart_sits {v v' : Value} {w : World} {b : Nat} (hs : Sits v v' w) (ha : Apart v b) (hb : b < w.heap.size) : Apart v' b := by
 rcases hs with h | ⟨g, h, hg⟩
 · unfold Apart; rw [h]; exact ha
 · unfold Apart; rw [h]
   intro e
   cases e
   omega
section
variable {w : World} {ops : Array Oper} {rest : List Oper} {o : Oper} {a : Act} {Q : Exit → Act → World → Prop} {K : Act → World → Prop}
theorem step_pushDs {E : Prop} (hgd : o.guard = none) (s x : Operand) (ho : o.op = .call { callee := .builtin .append, args := #[s, x], argTypes := #[30, 30] })
    (base : Nat) (v : Value) (n : Nat) (l : List (List Nat)) (d : List Nat) (hown : w.ownsRow base 29 32 v n (bytesV l.flatten)) (hs : a.eval s = v) (g : Nat) (hg : Blk w g 29 (arrK .u8 d)) (hd : IsD d)
    (hx : a.eval x = .slice (some ⟨g, 0, none⟩) 1 1) (hn : n ≤ 1000000) (hbase : base ≤ w.heap.size)
    (h : ∀ v' w', w'.ownsRow base 29 32 v' (n + 1) (bytesV (l ++ [d]).flatten) → w.grownBy w' v.ownBlock → Sits v v' w → K (a.put o.dst v') w') : if Region.wanted o (yielded ops a.tmps) = true then Oper.wp Tryz.prog o a w K Q else E :=
 step_append_cells hgd s x 30 ho base 29 (.agg (arrK .u8 z32)) 32 32 (by kernel_rfl) info_dig (by show (arrK .u8 z32).size = 32; exact len32 z32_length) (by omega) v n (bytesV l.flatten) hown hs (some ⟨g, 0, none⟩) 1 1 (bytesV d) hx (by rw [bytesV_length, hd.1])
  (by have := cells_blk hg; rwa [arrK_bytesV] at this) (bytesV_one _) (by unfold maxLen; omega) (by omega) hbase fun v' w' h1 h2 h3 => h v' w' (by rwa [flat_snoc] at h1) h2 h3
theorem step_addDs {E : Prop} (hgd : o.guard = none) (s x : Operand) (ho : o.op = .call { callee := .builtin .append, args := #[s, x], argTypes := #[30, 30] })
    (base : Nat) (v : Value) (n : Nat) (l : List (List Nat)) (hown : w.ownsRow base 29 32 v n (bytesV l.flatten)) (hs : a.eval s = v) (A : Option Addr) (m c : Nat) (p : List (List Nat)) (hp : p.length = m) (hP : IsL p) (hA : Cells w A (bytesV p.flatten))
    (hx : a.eval x = .slice A m c) (hn : n + m ≤ 1000000) (hbase : base ≤ w.heap.size)
    (h : ∀ v' w', w'.ownsRow base 29 32 v' (n + m) (bytesV (l ++ p).flatten) → w.grownBy w' v.ownBlock → Sits v v' w → K (a.put o.dst v') w') : if Region.wanted o (yielded ops a.tmps) = true then Oper.wp Tryz.prog o a w K Q else E :=
 step_append_cells hgd s x 30 ho base 29 (.agg (arrK .u8 z32)) 32 32 (by kernel_rfl) info_dig (by show (arrK .u8 z32).size = 32; exact len32 z32_length) (by omega) v n (bytesV l.flatten) hown hs A m c (bytesV p.flatten) hx (by rw [bytesV_length, hP.flat_length, hp])
  hA (bytesV_one _) (by unfold maxLen; omega) (by omega) hbase fun v' w' h1 h2 h3 => h v' w' (by rwa [← bytesV_append, ← List.flatten_append] at h1) h2 h3
end
theorem yields_load_blk {P : Program} {ops : Array Oper} {o : Oper} {a : Act} {S : World → Prop} (hw : Region.wanted o (yielded ops a.tmps) = true) (ty : TypeId) (x : Operand) (ho : o.op = .load ty x) (g : Nat) (hx : a.eval x = .pointer (some ⟨g, 0, none⟩)) (t : TypeId) (cs : Array Value) (d : TypeDesc)
    (hS : ∀ w, S w → Blk w g t cs) (hu : P.underlying ty = some d) (hd : (match d with | .struct _ | .array _ _ => true | _ => false) = true) (hi : (P.info? ty).map (·.size) = some cs.size) : YieldsIf P ops S o (.agg cs) a :=
 .inl ⟨hw, fun w hw' => by
  unfold execOp
  simp only [ho, hx, Instr.loadAt, Instr.sureAddr, Sem.run_bind, Sem.run_pure, Result.andThen_ok, run_loadVar_row w g t ty cs (0, 0) d (hS w hw') hu hd hi]⟩
end Go.Proofs.YtkflpoiobpblhaaGreat
namespace Go.Proofs.YtkflpoiobpblhaaGreat
open Go.RowKit
set_option linter.unusedSimpArgs false in
set_option maxRecDepth 100000 in
set_option maxHeartbeats 4000000 in
theorem rlength_any : ∀ (n at_ : Nat) (w : World), at_ < n → n ≤ 1099511627776 →
    Calls Tryz.prog 104 #[.int .i64 at_, .int .i64 n] w fun e w' => e = .returned (.int .i64 ((dirsS at_ n).length : Nat)) ∧ w = w' := by
 intro n
 induction n using Nat.strongRecOn with
 | _ n ih =>
 intro at_ w hat hn
 have IH := Lib.hid ih
 clear ih
 by_cases h1 : n = 1
 · have hq1 : ((n : Int) == 1) = true := by simp; omega
   rw [dirsS_one at_ n (by omega)]
   go_enter Tryz.func104, Tryz.ntmps104
   go_wp2_with (fail)
   go_ret
   exact ⟨rfl, rfl⟩
 have h2 : 2 ≤ n := by omega
 have hq1 : ((n : Int) == 1) = false := by simp; omega
 have hk1 := half_lt h2
 have hk2 := half_pos n
 have HH := Lib.hid (fun W => rhalf_any n W h2 (by omega))
 have dlo := Lib.hid (fun h => dirsS_lo (at_ := at_) h2 h)
 have dhi := Lib.hid (fun h => dirsS_hi (at_ := at_) h2 h)
 generalize halfN n = k at *
 clear h1
 by_cases hk : at_ < k
 · have hdk : decide ((at_ : Int) < (k : Int)) = true := by simp; omega
   have hdk2 : decide (at_ < k) = true := by simp; omega
   have P := Lib.hid (fun W => IH.out k hk1 at_ W hk (by omega))
   have hb := dirsS_lt k at_ hk2
   rw [dlo.out hk, List.length_cons]
   generalize (dirsS at_ k).length = q at *
   have s1 : (1 : Int) + (q : Int) = ((q + 1 : Nat) : Int) := by omega
   have s2 : IntKind.i64.wrap ((q + 1 : Nat) : Int) = ((q + 1 : Nat) : Int) := IntWalk.i64_in _ (by omega)
   clear dlo dhi
   go_enter Tryz.func104, Tryz.ntmps104
   go_wp2_with (fail)
   refine (HH.out _).mono ?_
   rintro e w' ⟨rfl, rfl⟩
   go_wp2_with (go_at_call 104; refine (P.out _).mono ?_; rintro e w3 ⟨rfl, rfl⟩)
   go_ret
   exact ⟨ret_int (by omega), rfl⟩
 · have hdk : decide ((at_ : Int) < (k : Int)) = false := by simp; omega
   have hdk2 : decide (at_ < k) = false := by simp; omega
   have P := Lib.hid (fun W => IH.out (n - k) (by omega) (at_ - k) W (by omega) (by omega))
   have hb := dirsS_lt (n - k) (at_ - k) (by omega)
   rw [dhi.out hk, List.length_cons]
   generalize (dirsS (at_ - k) (n - k)).length = q at *
   have s1 : (1 : Int) + (q : Int) = ((q + 1 : Nat) : Int) := by omega
   have s2 : IntKind.i64.wrap ((q + 1 : Nat) : Int) = ((q + 1 : Nat) : Int) := IntWalk.i64_in _ (by omega)
   have s3 : (at_ : Int) - (k : Int) = ((at_ - k : Nat) : Int) := by omega
   have s4 : IntKind.i64.wrap ((at_ - k : Nat) : Int) = ((at_ - k : Nat) : Int) := IntWalk.i64_in _ (by omega)
   have s5 : (n : Int) - (k : Int) = ((n - k : Nat) : Int) := by omega
   have s6 : IntKind.i64.wrap ((n - k : Nat) : Int) = ((n - k : Nat) : Int) := IntWalk.i64_in _ (by omega)
   clear dlo dhi
   go_enter Tryz.func104, Tryz.ntmps104
   go_wp2_with (fail)
   refine (HH.out _).mono ?_
   rintro e w' ⟨rfl, rfl⟩
   go_wp2_with (go_at_call 104; refine (P.out _).mono ?_; rintro e w3 ⟨rfl, rfl⟩)
   go_ret
   exact ⟨ret_int (by omega), rfl⟩
theorem snoc_of {α : Type} (p : List α) (h : 1 ≤ p.length) : ∃ p' o, p = p' ++ [o] := ⟨p.dropLast, p.getLast (by intro e; rw [e] at h; simp at h), (List.dropLast_concat_getLast _).symm⟩
set_option linter.unusedSimpArgs false in
set_option maxRecDepth 100000 in
set_option maxHeartbeats 4000000 in
theorem rclimb_in : ∀ (n at_ q : Nat) (d : List Nat) (p : List (List Nat)) (A : Option Addr) (c : Nat) (w : World), at_ < n → n ≤ 1099511627776 → IsD d → p.length = q → IsL p → q = (dirsS at_ n).length → q ≤ c → Hid (c ≤ maxLen) → Cells w A (bytesV p.flatten) →
    Calls Tryz.prog 105 #[.agg (arrK .u8 d), .int .i64 at_, .int .i64 n, .slice A q c] w fun e w' => e = .returned (.agg (arrK .u8 (climbS d at_ n p))) ∧ Below w.heap.size w w' := by
 intro n
 induction n using Nat.strongRecOn with
 | _ n ih =>
 intro at_ q d p A c w hat hn hd hp hP hq hqc Hcm hA
 have IH := Lib.hid ih
 have HDd := Lib.hid hd
 have Hp := Lib.hid hp
 have HP := Lib.hid hP
 have HA := Lib.hid hA
 have hb := dirsS_lt n at_ (by omega)
 clear ih hd hp hP hA
 have hqI : q ≤ 1099511627776 := by omega
 by_cases h1 : n = 1
 · have hq1 : ((n : Int) == 1) = true := by simp; omega
   have he : climbS d at_ n p = leafS d := by subst h1; exact climbS_one d at_ p
   rw [he]
   have HL := Lib.hid (fun W A h => rtagged_any ⟨#[108, 101, 97, 102]⟩ A 32 32 d W h HDd.out.1 (by omega) HDd.out.2 (by decide))
   rw [← leafS_eq] at HL
   have lt := Lib.hid (leafS_isD d).1
   clear he hb hq h1
   go_enter Tryz.func105, Tryz.ntmps105
   go_wp2_with (fail)
   generalize hge : World.alloc _ _ = w1
   have H1 := (show Blk w1 w.heap.size 29 (arrK .u8 d) by subst hge; exact (blk_two w (arrK .u8 d) (arrK .u8 z32) 29 29).1)
   have HR := Lib.hid (show Blk w1 (w.heap.size + 1) 29 (arrK .u8 z32) by subst hge; exact (blk_two w (arrK .u8 d) (arrK .u8 z32) 29 29).2)
   have HB := Lib.hid (al2 hge)
   have C1 : Cells w1 (some ⟨w.heap.size, 0, none⟩) (bytesV d) := by have := cells_blk H1; rwa [arrK_bytesV] at this
   clear hge H1
   refine (HL.out _ _ C1).mono ?_
   rintro e w5 ⟨rfl, hb5⟩
   have HR5 := Lib.hid (HR.out.below hb5)
   have HB5 := Lib.hid (HB.out.trans (hb5.mono HB.out.size))
   clear hb5 C1
   go_wp2_with (
    (refine wpList_put_blk rfl 29 (.tmp 8) (.tmp 14) rfl (w.heap.size + 1) (arrK .u8 (leafS d)) rfl rfl 29 (arrK .u8 z32) HR5.out (info32 lt.out) (by rw [len32 lt.out, len32 z32_length]) (arrK_all _ _) ?_
     intro w6 HD6 hg6 hz6
     have HD6 := Lib.hid HD6
     have HB6 := below_grown HB5.out hg6 HB5.out.size (by simp)
     clear hg6 hz6))
   exact ret_row rfl (w.heap.size + 1) 29 (arrK .u8 (leafS d)) (.array 32 5) rfl HD6.out (by kernel_rfl) rfl (info32 lt.out) rfl ⟨rfl, HB6⟩
 have h2 : 2 ≤ n := by omega
 have hq1 : ((n : Int) == 1) = false := by simp; omega
 have hk1 := half_lt h2
 have hk2 := half_pos n
 have HH := Lib.hid (fun W => rhalf_any n W h2 (by omega))
 have dlo := Lib.hid (fun h => dirsS_lo (at_ := at_) h2 h)
 have dhi := Lib.hid (fun h => dirsS_hi (at_ := at_) h2 h)
 have clo := Lib.hid (fun h => climbS_lo (d := d) (at_ := at_) h2 h)
 have chi := Lib.hid (fun h => climbS_hi (d := d) (at_ := at_) h2 h)
 generalize halfN n = k at *
 have hq0 : 1 ≤ q := by
  rw [hq]
  by_cases hk : at_ < k
  · rw [dlo.out hk]; simp
  · rw [dhi.out hk]; simp
 obtain ⟨p', o, rfl⟩ := snoc_of p (by rw [Hp.out]; exact hq0)
 obtain ⟨j, rfl⟩ : ∃ j, q = j + 1 := ⟨q - 1, by omega⟩
 obtain ⟨q, hqj⟩ : ∃ q, j + 1 = q := ⟨_, rfl⟩
 have Hp' := Lib.hid (show p'.length = j by have := Hp.out; simp at this; omega)
 have Ho := Lib.hid (HP.out o (by simp))
 have HP' := Lib.hid (show IsL p' from fun x hx => HP.out x (by simp [hx]))
 obtain ⟨pb, po, rfl, -, -⟩ := Cells.addr HA.out (by rw [bytesV_length, HP.out.flat_length, Hp.out]; omega)
 have C1 := Lib.hid (show Cells w (some ⟨pb, po, none⟩) (bytesV p'.flatten) by
  have := HA.out.take_ (j * 32)
  rw [show (bytesV (p' ++ [o]).flatten).take (j * 32) = bytesV p'.flatten by
   rw [List.flatten_append, bytesV_append, List.take_append_of_le_length (by rw [bytesV_length, HP'.out.flat_length, Hp'.out]; exact Nat.le_refl _), List.take_of_length_le (by rw [bytesV_length, HP'.out.flat_length, Hp'.out]; exact Nat.le_refl _)]] at this
  exact this)
 have hlast : (p' ++ [o])[j]? = some o := by rw [← Hp'.out]; simp
 have HRo := Lib.hid (fun W (h : Below w.heap.size w W) => range_at (k := j) HP.out (HA.out.below h) hlast)
 have i1 : (q : Int) - 1 = (j : Int) := by omega
 have i2 : (j : Int) < (q : Int) := by omega
 have i3 : IntKind.i64.wrap (j : Int) = (j : Int) := IntWalk.i64_in _ (by omega)
 have i4 : (j : Int) ≤ (q : Int) := by omega
 have i5 : (j : Int) ≤ (c : Int) := by omega
 have i6 : (q : Int) ≤ (c : Int) := by omega
 have lz := Lib.hid z32_length
 rw [hqj] at hq hqc hqI ⊢
 clear hlast h1 hq0 Hp
 by_cases hk : at_ < k
 · have hdk : decide ((at_ : Int) < (k : Int)) = true := by simp; omega
   have hdk2 : decide (at_ < k) = true := by simp; omega
   have hj : j = (dirsS at_ k).length := by rw [dlo.out hk, List.length_cons] at hq; omega
   have P1 := Lib.hid (fun W h => IH.out k hk1 at_ j d p' (some ⟨pb, po, none⟩) c W hk (by omega) HDd.out Hp'.out HP'.out hj (by omega) Hcm h)
   rw [clo.out hk p' o (by rw [Hp'.out, hj])]
   have Dx := Lib.hid (climbS_isD d at_ k p')
   generalize climbS d at_ k p' = x at *
   have Dn := Lib.hid (nodeS_isD x o)
   clear dlo dhi clo chi hj hq hb
   go_enter Tryz.func105, Tryz.ntmps105
   go_wp2_with (fail)
   generalize hge : World.alloc _ _ = w1
   have HX := Lib.hid (show Blk w1 w.heap.size 29 (arrK .u8 d) by subst hge; exact (blk_two w (arrK .u8 d) (arrK .u8 z32) 29 29).1)
   have HR := Lib.hid (show Blk w1 (w.heap.size + 1) 29 (arrK .u8 z32) by subst hge; exact (blk_two w (arrK .u8 d) (arrK .u8 z32) 29 29).2)
   have HB := Lib.hid (al2 hge)
   clear hge
   refine (HH.out _).mono ?_
   rintro e w' ⟨rfl, rfl⟩
   have HRg := Lib.hid (HRo.out w1 HB.out)
   go_wp2_with (first
    | (refine wpList_put_blk rfl 29 (.tmp 10) (.tmp 22) rfl w1.heap.size (arrK .u8 o) rfl rfl 29 (arrK .u8 z32) (Blk.new w1 29 (arrK .u8 z32)) (info32 Ho.out.1) (by rw [len32 Ho.out.1, len32 z32_length]) (arrK_all _ _) ?_
       intro w5 HO5 hg5 hz5
       have hb5 : Below w1.heap.size w1 w5 := below_grown ((Below.refl w1.heap.size w1).alloc (Nat.le_refl _) (.cells (arrK .u8 z32) 29)) hg5 (by simp) (by simp)
       have HO5 := Lib.hid HO5
       have HX5 := Lib.hid (HX.out.below hb5)
       have HR5 := Lib.hid (HR.out.below hb5)
       have HB5 := Lib.hid (below_of HB.out hb5 HB.out.size)
       clear hg5 hz5 hb5)
    | (refine wpList_load_mid rfl 29 (.tmp 21) rfl pb (po + j * 32) rfl (o.map fun (n : Nat) => Value.int .u8 (n : Int)) (.array 32 5) HRg.out (by kernel_rfl) rfl (dV_info Ho.out.1) ?_))
   have hsG : w.heap.size + 1 < w1.heap.size := HR.out.lt
   obtain ⟨G, hG⟩ : ∃ G, w1.heap.size = G := ⟨_, rfl⟩
   rw [hG] at HO5 hsG
   rw [hG]
   clear hG
   refine wp_region_held_drew (S := fun W => Below w.heap.size w W ∧ Blk W w.heap.size 29 (arrK .u8 d) ∧ Blk W G 29 (arrK .u8 o)) (by kernel_rfl) (⟨HB5.out.trans (below_drewN (Below.refl _ _) 1), HX5.out.drewN 1, HO5.out.drewN 1⟩) (fun Hd => ?_)
   have Hd : Below w.heap.size w w5.drew := HB5.out.trans (below_drewN (Below.refl _ _) 1)
   have HXd := HX5.out.drewN 1
   have HRd := HR5.out.drewN 1
   have HOd := HO5.out.drewN 1
   replace HXd : Blk w5.drew w.heap.size 29 (arrK .u8 d) := HXd
   replace HRd : Blk w5.drew (w.heap.size + 1) 29 (arrK .u8 z32) := HRd
   replace HOd : Blk w5.drew G 29 (arrK .u8 o) := HOd
   clear HX5 HR5 HO5 HB5
   generalize World.drew w5 = wd at *
   refine tg 0 (.agg (arrK .u8 d)) rfl (yields_load_blk (by rfl) _ _ rfl (w.heap.size) rfl 29 (arrK .u8 d) (.array 32 5) (fun W hW => hW.2.1) (by kernel_rfl) rfl (info32 HDd.out.1)) ⟨Hd, HXd, HOd⟩ ?_
   simp only [la, Act.put]
   refine tq 1 rfl ⟨Hd, HXd, HOd⟩ ?_
   simp only [la, Act.put]
   refine tq 2 rfl ⟨Hd, HXd, HOd⟩ ?_
   simp only [la, Act.put]
   refine tq 3 rfl ⟨Hd, HXd, HOd⟩ ?_
   simp only [la, Act.put]
   refine tq 4 rfl ⟨Hd, HXd, HOd⟩ ?_
   simp only [la, Act.put]
   refine tq 5 rfl ⟨Hd, HXd, HOd⟩ ?_
   simp only [la, Act.put]
   refine tq 6 rfl ⟨Hd, HXd, HOd⟩ ?_
   simp only [la, Act.put]
   refine tq 7 rfl ⟨Hd, HXd, HOd⟩ ?_
   simp only [la, Act.put]
   refine tg 9 (.agg (arrK .u8 o)) rfl (yields_load_blk (by rfl) _ _ rfl (G) rfl 29 (arrK .u8 o) (.array 32 5) (fun W hW => hW.2.2) (by kernel_rfl) rfl (info32 Ho.out.1)) ⟨Hd, HXd, HOd⟩ ?_
   simp only [la, Act.put]
   refine ty 8 rfl (fun K hK => ?_)
   go_simp
   refine (P1.out wd (C1.out.below Hd)).mono ?_
   rintro e w1_ ⟨rfl, hb1⟩
   have fX1 := HXd.below hb1
   have fR1 := HRd.below hb1
   have fO1 := HOd.below hb1
   have Hb1 := below_of Hd hb1 Hd.size
   go_wp2_with (fail)
   refine hK.out _ _ ⟨Hb1, fX1, fO1⟩ fun _ => ?_
   clear hK K
   try simp only [la, Act.put]
   refine ty 10 rfl (fun K hK => ?_)
   go_simp
   refine (rnode_any x o w1_ Dx.out Ho.out).mono ?_
   rintro e w2_ ⟨rfl, hb2⟩
   have fX2 := fX1.below hb2
   have fR2 := fR1.below hb2
   have fO2 := fO1.below hb2
   have Hb2 := below_of Hb1 hb2 Hb1.size
   go_wp2_with (fail)
   refine hK.out _ _ ⟨Hb2, fX2, fO2⟩ fun _ => ?_
   clear hK K
   try simp only [la, Act.put]
   refine ty 11 rfl (fun K hK => ?_)
   refine step_put_blk (by rfl) _ _ _ (by rfl) (w.heap.size + 1) (arrK .u8 (nodeS x o)) (by rfl) (by rfl) _ _ fR2 (info32 Dn.out.1) (by rw [len32 Dn.out.1, len32 lz.out]) (arrK_all _ _) ?_
   intro w3_ fR3 hg3 hz3
   have neX3 := fX2.lt
   have fX3 := fX2.gx hg3
   have neO3 := fO2.lt
   have fO3 := fO2.gx hg3
   have Hb3 := below_grown Hb2 hg3 Hb2.size (by first | (simp; done) | (simp; exact Nat.le_succ _))
   refine hK.out _ _ ⟨Hb3, fX3, fO3⟩ fun _ => ?_
   clear hK K
   try simp only [la, Act.put]
   refine td ?_ _
   go_wp2_with (fail)
   exact ret_row rfl (w.heap.size + 1) 29 (arrK .u8 (nodeS x o)) (.array 32 5) rfl fR3 (by kernel_rfl) rfl (info32 Dn.out.1) rfl ⟨rfl, Hb3⟩
 · have hdk : decide ((at_ : Int) < (k : Int)) = false := by simp; omega
   have hdk2 : decide (at_ < k) = false := by simp; omega
   have hj : j = (dirsS (at_ - k) (n - k)).length := by rw [dhi.out hk, List.length_cons] at hq; omega
   have P1 := Lib.hid (fun W h => IH.out (n - k) (by omega) (at_ - k) j d p' (some ⟨pb, po, none⟩) c W (by omega) (by omega) HDd.out Hp'.out HP'.out hj (by omega) Hcm h)
   rw [chi.out hk p' o (by rw [Hp'.out, hj])]
   have Dx := Lib.hid (climbS_isD d (at_ - k) (n - k) p')
   generalize climbS d (at_ - k) (n - k) p' = x at *
   have Dn := Lib.hid (nodeS_isD o x)
   have s3 : (at_ : Int) - (k : Int) = ((at_ - k : Nat) : Int) := by omega
   have s4 : IntKind.i64.wrap ((at_ - k : Nat) : Int) = ((at_ - k : Nat) : Int) := IntWalk.i64_in _ (by omega)
   have s5 : (n : Int) - (k : Int) = ((n - k : Nat) : Int) := by omega
   have s6 : IntKind.i64.wrap ((n - k : Nat) : Int) = ((n - k : Nat) : Int) := IntWalk.i64_in _ (by omega)
   clear dlo dhi clo chi hj hq hb
   go_enter Tryz.func105, Tryz.ntmps105
   go_wp2_with (fail)
   generalize hge : World.alloc _ _ = w1
   have HX := Lib.hid (show Blk w1 w.heap.size 29 (arrK .u8 d) by subst hge; exact (blk_two w (arrK .u8 d) (arrK .u8 z32) 29 29).1)
   have HR := Lib.hid (show Blk w1 (w.heap.size + 1) 29 (arrK .u8 z32) by subst hge; exact (blk_two w (arrK .u8 d) (arrK .u8 z32) 29 29).2)
   have HB := Lib.hid (al2 hge)
   clear hge
   refine (HH.out _).mono ?_
   rintro e w' ⟨rfl, rfl⟩
   have HRg := Lib.hid (HRo.out w1 HB.out)
   go_wp2_with (first
    | (refine wpList_put_blk rfl 29 (.tmp 10) (.tmp 22) rfl w1.heap.size (arrK .u8 o) rfl rfl 29 (arrK .u8 z32) (Blk.new w1 29 (arrK .u8 z32)) (info32 Ho.out.1) (by rw [len32 Ho.out.1, len32 z32_length]) (arrK_all _ _) ?_
       intro w5 HO5 hg5 hz5
       have hb5 : Below w1.heap.size w1 w5 := below_grown ((Below.refl w1.heap.size w1).alloc (Nat.le_refl _) (.cells (arrK .u8 z32) 29)) hg5 (by simp) (by simp)
       have HO5 := Lib.hid HO5
       have HX5 := Lib.hid (HX.out.below hb5)
       have HR5 := Lib.hid (HR.out.below hb5)
       have HB5 := Lib.hid (below_of HB.out hb5 HB.out.size)
       clear hg5 hz5 hb5)
    | (refine wpList_load_mid rfl 29 (.tmp 21) rfl pb (po + j * 32) rfl (o.map fun (n : Nat) => Value.int .u8 (n : Int)) (.array 32 5) HRg.out (by kernel_rfl) rfl (dV_info Ho.out.1) ?_))
   have hsG : w.heap.size + 1 < w1.heap.size := HR.out.lt
   obtain ⟨G, hG⟩ : ∃ G, w1.heap.size = G := ⟨_, rfl⟩
   rw [hG] at HO5 hsG
   rw [hG]
   clear hG
   refine wp_region_held_drew (S := fun W => Below w.heap.size w W ∧ Blk W w.heap.size 29 (arrK .u8 d) ∧ Blk W G 29 (arrK .u8 o)) (by kernel_rfl) (⟨HB5.out.trans (below_drewN (Below.refl _ _) 1), HX5.out.drewN 1, HO5.out.drewN 1⟩) (fun Hd => ?_)
   have Hd : Below w.heap.size w w5.drew := HB5.out.trans (below_drewN (Below.refl _ _) 1)
   have HXd := HX5.out.drewN 1
   have HRd := HR5.out.drewN 1
   have HOd := HO5.out.drewN 1
   replace HXd : Blk w5.drew w.heap.size 29 (arrK .u8 d) := HXd
   replace HRd : Blk w5.drew (w.heap.size + 1) 29 (arrK .u8 z32) := HRd
   replace HOd : Blk w5.drew G 29 (arrK .u8 o) := HOd
   clear HX5 HR5 HO5 HB5
   generalize World.drew w5 = wd at *
   refine tg 0 (.agg (arrK .u8 o)) rfl (yields_load_blk (by rfl) _ _ rfl (G) rfl 29 (arrK .u8 o) (.array 32 5) (fun W hW => hW.2.2) (by kernel_rfl) rfl (info32 Ho.out.1)) ⟨Hd, HXd, HOd⟩ ?_
   simp only [la, Act.put]
   refine tg 1 (.agg (arrK .u8 d)) rfl (yields_load_blk (by rfl) _ _ rfl (w.heap.size) rfl 29 (arrK .u8 d) (.array 32 5) (fun W hW => hW.2.1) (by kernel_rfl) rfl (info32 HDd.out.1)) ⟨Hd, HXd, HOd⟩ ?_
   simp only [la, Act.put]
   refine tq 2 rfl ⟨Hd, HXd, HOd⟩ ?_
   simp only [la, Act.put]
   refine tq 3 rfl ⟨Hd, HXd, HOd⟩ ?_
   simp only [la, Act.put]
   refine tq 4 rfl ⟨Hd, HXd, HOd⟩ ?_
   simp only [la, Act.put]
   refine tq 5 rfl ⟨Hd, HXd, HOd⟩ ?_
   simp only [la, Act.put]
   refine tq 6 rfl ⟨Hd, HXd, HOd⟩ ?_
   simp only [la, Act.put]
   refine tq 7 rfl ⟨Hd, HXd, HOd⟩ ?_
   simp only [la, Act.put]
   refine tq 8 rfl ⟨Hd, HXd, HOd⟩ ?_
   simp only [la, Act.put]
   refine tq 9 rfl ⟨Hd, HXd, HOd⟩ ?_
   simp only [la, Act.put]
   refine tq 10 rfl ⟨Hd, HXd, HOd⟩ ?_
   simp only [la, Act.put]
   refine tq 11 rfl ⟨Hd, HXd, HOd⟩ ?_
   simp only [la, Act.put]
   refine tq 12 rfl ⟨Hd, HXd, HOd⟩ ?_
   simp only [la, Act.put]
   refine ty 13 rfl (fun K hK => ?_)
   go_simp
   refine (P1.out wd (C1.out.below Hd)).mono ?_
   rintro e w1_ ⟨rfl, hb1⟩
   have fX1 := HXd.below hb1
   have fR1 := HRd.below hb1
   have fO1 := HOd.below hb1
   have Hb1 := below_of Hd hb1 Hd.size
   go_wp2_with (fail)
   refine hK.out _ _ ⟨Hb1, fX1, fO1⟩ fun _ => ?_
   clear hK K
   try simp only [la, Act.put]
   refine ty 14 rfl (fun K hK => ?_)
   go_simp
   refine (rnode_any o x w1_ Ho.out Dx.out).mono ?_
   rintro e w2_ ⟨rfl, hb2⟩
   have fX2 := fX1.below hb2
   have fR2 := fR1.below hb2
   have fO2 := fO1.below hb2
   have Hb2 := below_of Hb1 hb2 Hb1.size
   go_wp2_with (fail)
   refine hK.out _ _ ⟨Hb2, fX2, fO2⟩ fun _ => ?_
   clear hK K
   try simp only [la, Act.put]
   refine ty 15 rfl (fun K hK => ?_)
   refine step_put_blk (by rfl) _ _ _ (by rfl) (w.heap.size + 1) (arrK .u8 (nodeS o x)) (by rfl) (by rfl) _ _ fR2 (info32 Dn.out.1) (by rw [len32 Dn.out.1, len32 lz.out]) (arrK_all _ _) ?_
   intro w3_ fR3 hg3 hz3
   have neX3 := fX2.lt
   have fX3 := fX2.gx hg3
   have neO3 := fO2.lt
   have fO3 := fO2.gx hg3
   have Hb3 := below_grown Hb2 hg3 Hb2.size (by first | (simp; done) | (simp; exact Nat.le_succ _))
   refine hK.out _ _ ⟨Hb3, fX3, fO3⟩ fun _ => ?_
   clear hK K
   try simp only [la, Act.put]
   refine td ?_ _
   go_wp2_with (fail)
   exact ret_row rfl (w.heap.size + 1) 29 (arrK .u8 (nodeS o x)) (.array 32 5) rfl fR3 (by kernel_rfl) rfl (info32 Dn.out.1) rfl ⟨rfl, Hb3⟩
end Go.Proofs.YtkflpoiobpblhaaGreat
namespace Go.Proofs.YtkflpoiobpblhaaGreat
open Go.RowKit
set_option linter.unusedSimpArgs false in
set_option maxRecDepth 100000 in
set_option maxHeartbeats 4000000 in
theorem rclimb_bad (d : List Nat) (at_ n : Int) (A : Option Addr) (m c : Nat) (w : World) (hd : IsD d) (hb : ¬ (1 ≤ n ∧ n ≤ 1099511627776 ∧ 0 ≤ at_ ∧ at_ < n)) :
    Calls Tryz.prog 80 #[.agg (arrK .u8 d), .int .i64 at_, .int .i64 n, .slice A m c] w fun e w' => e = .returned (.tuple #[.agg (arrK .u8 z32), .int .i64 1]) ∧ Below w.heap.size w w' := by
 have Hb := Lib.hid hb
 have Hd := Lib.hid hd
 clear hb hd
 have h : n < 1 ∨ (1 ≤ n ∧ 1099511627776 < n) ∨ (1 ≤ n ∧ n ≤ 1099511627776 ∧ at_ < 0) ∨ (1 ≤ n ∧ n ≤ 1099511627776 ∧ 0 ≤ at_ ∧ n ≤ at_) := by have := Hb.out; omega
 rcases h with h1 | ⟨h1, h2⟩ | ⟨h1, h2, h3⟩ | ⟨h1, h2, h3, h4⟩
 all_goals
  go_enter Tryz.func80, Tryz.ntmps80
  go_wp2_with (first
   | (refine wpList_load_blk rfl 29 (.tmp 8) rfl (w.heap.size + 1) rfl 29 (arrK .u8 z32) (.array 32 5) (blk_two w (arrK .u8 d) (arrK .u8 z32) 29 29).2 (by kernel_rfl) rfl (by kernel_rfl) ?_)
   | (refine wpList_store_same rfl 29 (.tmp 8) (.tmp 33) rfl (w.heap.size + 1) (arrK .u8 z32) rfl rfl 29 (blk_two w (arrK .u8 d) (arrK .u8 z32) 29 29).2 (by kernel_rfl) (arrK_all _ _) ?_))
  exact ret_row2 rfl (w.heap.size + 1) 29 (arrK .u8 z32) (.array 32 5) rfl rfl (blk_two w (arrK .u8 d) (arrK .u8 z32) 29 29).2 (by kernel_rfl) rfl (by kernel_rfl) rfl ⟨rfl, ((Below.refl _ _).alloc (Nat.le_refl _) _).alloc (by simp) _⟩
set_option linter.unusedSimpArgs false in
set_option maxRecDepth 100000 in
set_option maxHeartbeats 4000000 in
theorem rclimb_good (d : List Nat) (at0 n0 : Nat) (A : Option Addr) (m c : Nat) (p : List (List Nat)) (w : World) (hd : IsD d) (h1 : 1 ≤ n0) (h2 : n0 ≤ 1099511627776) (h3 : at0 < n0) (hp : p.length = m) (hP : IsL p) (hmc : m ≤ c) (hcm : c ≤ maxLen) (hA : Cells w A (bytesV p.flatten)) :
    Calls Tryz.prog 80 #[.agg (arrK .u8 d), .int .i64 at0, .int .i64 n0, .slice A m c] w fun e w' =>
     (m = (dirsS at0 n0).length → e = .returned (.tuple #[.agg (arrK .u8 (climbS d at0 n0 p)), .int .i64 0])) ∧ (m ≠ (dirsS at0 n0).length → e = .returned (.tuple #[.agg (arrK .u8 z32), .int .i64 1])) ∧ Below w.heap.size w w' := by
 have Hd := Lib.hid hd
 have Hp := Lib.hid hp
 have HP := Lib.hid hP
 have HA := Lib.hid hA
 have Hcm := Lib.hid hcm
 clear hd hp hP hA
 unfold maxLen at hcm
 have h1I : (1 : Int) ≤ (n0 : Int) := by omega
 have h2I : (n0 : Int) ≤ 1099511627776 := by omega
 have h3I : (at0 : Int) < (n0 : Int) := by omega
 have q1 : decide ((n0 : Int) < 1) = false := by simp; omega
 have q2 : decide ((1099511627776 : Int) < (n0 : Int)) = false := by simp; omega
 have q3 : decide ((at0 : Int) < 0) = false := by simp
 have q4 : decide ((n0 : Int) ≤ (at0 : Int)) = false := by simp; omega
 have q5 : decide (n0 ≤ at0) = false := by simp; omega
 have q6 : decide (n0 < 1) = false := by simp; omega
 have q7 : decide (1099511627776 < n0) = false := by simp; omega
 have HL := Lib.hid (fun W => rlength_any n0 at0 W h3 h2)
 by_cases hm : m = (dirsS at0 n0).length
 · have HC := Lib.hid (fun W h => rclimb_in n0 at0 m d p A c W h3 h2 Hd.out Hp.out HP.out hm hmc Hcm h)
   have Hm := Lib.hid hm
   rw [← hm] at HL
   have g1 : ((m : Int) != (m : Int)) = false := by simp
   have g2 : (m != m) = false := by simp
   have Dx := Lib.hid (climbS_isD d at0 n0 p)
   generalize climbS d at0 n0 p = x at *
   clear hm
   go_enter Tryz.func80, Tryz.ntmps80
   go_wp2_with (fail)
   generalize hge : World.alloc _ _ = w1
   have HX := Lib.hid (show Blk w1 w.heap.size 29 (arrK .u8 d) by subst hge; exact (blk_two w (arrK .u8 d) (arrK .u8 z32) 29 29).1)
   have HR := Lib.hid (show Blk w1 (w.heap.size + 1) 29 (arrK .u8 z32) by subst hge; exact (blk_two w (arrK .u8 d) (arrK .u8 z32) 29 29).2)
   have HB := Lib.hid (al2 hge)
   clear hge
   go_wp2_with (first
    | (go_at_call 104; refine (HL.out _).mono ?_; rintro e w' ⟨rfl, rfl⟩)
    | (go_at_call 105; refine (HC.out _ (HA.out.below HB.out)).mono ?_; rintro e w5 ⟨rfl, hb5⟩; have HR5 := Lib.hid (HR.out.below hb5); have HB5 := Lib.hid (below_of HB.out hb5 HB.out.size); clear hb5)
    | (refine wpList_load_blk rfl 29 (.tmp 4) rfl w.heap.size rfl 29 (arrK .u8 d) (.array 32 5) HX.out (by kernel_rfl) rfl (info32 Hd.out.1) ?_)
    | (refine wpList_put_blk rfl 29 (.tmp 8) (.tmp 38) rfl (w.heap.size + 1) (arrK .u8 x) rfl rfl 29 (arrK .u8 z32) HR5.out (info32 Dx.out.1) (by rw [len32 Dx.out.1, len32 z32_length]) (arrK_all _ _) ?_
       intro w6 HD6 hg6 hz6
       have HD6 := Lib.hid HD6
       have HB6 := below_grown HB5.out hg6 HB5.out.size (by simp)
       clear hg6 hz6))
   exact ret_row2 rfl (w.heap.size + 1) 29 (arrK .u8 x) (.array 32 5) rfl rfl HD6.out (by kernel_rfl) rfl (info32 Dx.out.1) rfl ⟨fun _ => rfl, fun h => absurd Hm.out h, HB6⟩
 · have Hm := Lib.hid hm
   generalize hL : (dirsS at0 n0).length = L at *
   have g1 : ((m : Int) != (L : Int)) = true := by simp; omega
   have g2 : (m != L) = true := by simp; omega
   clear hm hL
   go_enter Tryz.func80, Tryz.ntmps80
   go_wp2_with (fail)
   go_wp2_with (first
    | (go_at_call 104; refine (HL.out _).mono ?_; rintro e w' ⟨rfl, rfl⟩)
    | (refine wpList_load_blk rfl 29 (.tmp 8) rfl (w.heap.size + 1) rfl 29 (arrK .u8 z32) (.array 32 5) (blk_two w (arrK .u8 d) (arrK .u8 z32) 29 29).2 (by kernel_rfl) rfl (by kernel_rfl) ?_)
    | (refine wpList_store_same rfl 29 (.tmp 8) (.tmp 33) rfl (w.heap.size + 1) (arrK .u8 z32) rfl rfl 29 (blk_two w (arrK .u8 d) (arrK .u8 z32) 29 29).2 (by kernel_rfl) (arrK_all _ _) ?_))
   exact ret_row2 rfl (w.heap.size + 1) 29 (arrK .u8 z32) (.array 32 5) rfl rfl (blk_two w (arrK .u8 d) (arrK .u8 z32) 29 29).2 (by kernel_rfl) rfl (by kernel_rfl) rfl ⟨fun h => absurd h Hm.out, fun _ => rfl, ((Below.refl _ _).alloc (Nat.le_refl _) _).alloc (by simp) _⟩
theorem rclimb_any (d : List Nat) (at_ n : Int) (A : Option Addr) (m c : Nat) (p : List (List Nat)) (w : World) (hd : IsD d) (hp : p.length = m) (hP : IsL p) (hmc : m ≤ c) (hcm : c ≤ maxLen) (hA : Cells w A (bytesV p.flatten)) :
    Calls Tryz.prog 80 #[.agg (arrK .u8 d), .int .i64 at_, .int .i64 n, .slice A m c] w fun e w' =>
     e = .returned (.tuple #[.agg (arrK .u8 (climbR d at_ n p)), .int .i64 (errArg (okClimb at_ n m))]) ∧ Below w.heap.size w w' := by
 by_cases hb : 1 ≤ n ∧ n ≤ 1099511627776 ∧ 0 ≤ at_ ∧ at_ < n
 · obtain ⟨h1, h2, h3, h4⟩ := hb
   obtain ⟨n0, rfl⟩ := Int.eq_ofNat_of_zero_le (show 0 ≤ n by omega)
   obtain ⟨a0, rfl⟩ := Int.eq_ofNat_of_zero_le h3
   refine (rclimb_good d a0 n0 A m c p w hd (by omega) (by omega) (by omega) hp hP hmc hcm hA).mono ?_
   rintro e w' ⟨g1, g2, g3⟩
   refine ⟨?_, g3⟩
   have hall : decide ((1 : Int) ≤ (n0 : Int) ∧ (n0 : Int) ≤ 1099511627776 ∧ 0 ≤ (a0 : Int) ∧ (a0 : Int) < (n0 : Int)) = true := decide_eq_true ⟨h1, h2, h3, h4⟩
   by_cases hm : m = (dirsS a0 n0).length
   · rw [g1 hm]
     have hok : okClimb a0 n0 m = true := by unfold okClimb; rw [hall]; simp [hm]
     unfold climbR
     rw [hp, hok]
     unfold errArg; rfl
   · rw [g2 hm]
     have hok : okClimb a0 n0 m = false := by unfold okClimb; rw [hall]; simp [hm]
     unfold climbR
     rw [hp, hok]
     unfold errArg; rfl
 · refine (rclimb_bad d at_ n A m c w hd hb).mono ?_
   rintro e w' ⟨g1, g3⟩
   refine ⟨?_, g3⟩
   have hok : okClimb at_ n m = false := by unfold okClimb; rw [decide_eq_false hb]; rfl
   rw [g1]
   unfold climbR
   rw [hp, hok]
   unfold errArg; rfl
end Go.Proofs.YtkflpoiobpblhaaGreat
