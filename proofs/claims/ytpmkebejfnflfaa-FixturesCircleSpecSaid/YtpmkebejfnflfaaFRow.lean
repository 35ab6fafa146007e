/- Words for lists of rounds; the walks of the reference's SameMatches, Same, Short. -/
import Derived.Test.YtpmkebejfnflfaaFDat
import Derived.Test.YtpmkebejfnflfaaFSort
import Derived.Laws.StructEq
namespace Go.Proofs.Ytpmkebejfnflfaa
open Go.RowKit
/-- The cells of a list of rounds: each round's slice lies where hs says. -/
def rowV : List (Option Addr × Nat) → List (List (Int × Int)) → List Value
  | h :: hs, l :: ls => .slice h.1 l.length h.2 :: rowV hs ls
  | [], _ => []
  | _ :: _, [] => []
theorem rowV_length : ∀ hs ls, hs.length = ls.length → (rowV hs ls).length = ls.length
  | [], [], _ => rfl
  | h :: hs, l :: ls, e => by simp only [rowV, List.length_cons]; rw [rowV_length hs ls (by simpa using e)]
  | [], _ :: _, e => by simp at e
  | _ :: _, [], e => by simp at e
theorem rowV_get : ∀ (hs : List (Option Addr × Nat)) (ls : List (List (Int × Int))) (k : Nat) (h : Option Addr × Nat) (l : List (Int × Int)), hs[k]? = some h → ls[k]? = some l → (rowV hs ls)[k]? = some (.slice h.1 l.length h.2)
  | h :: hs, l :: ls, 0, h', l', e, e' => by simp at e e'; subst e; subst e'; rfl
  | h :: hs, l :: ls, k + 1, h', l', e, e' => by simp only [rowV, List.getElem?_cons_succ]; exact rowV_get hs ls k h' l' (by simpa using e) (by simpa using e')
  | [], _, _, _, _, e, _ => by simp at e
  | _ :: _, [], _, _, _, _, e => by simp at e
theorem rowV_one : ∀ hs ls, ∀ u ∈ rowV hs ls, u.oneCell' = true
  | h :: hs, l :: ls, u, hu => by
    simp only [rowV, List.mem_cons] at hu
    rcases hu with rfl | hu
    · rfl
    · exact rowV_one hs ls u hu
  | [], _, u, hu => by simp [rowV] at hu
  | _ :: _, [], u, hu => by simp [rowV] at hu
theorem rowV_snoc : ∀ (hs : List (Option Addr × Nat)) (ls : List (List (Int × Int))) (h : Option Addr × Nat) (l : List (Int × Int)), hs.length = ls.length → rowV (hs ++ [h]) (ls ++ [l]) = rowV hs ls ++ [.slice h.1 l.length h.2]
  | [], [], h, l, _ => rfl
  | h' :: hs, l' :: ls, h, l, e => by simp only [List.cons_append, rowV]; rw [rowV_snoc hs ls h l (by simpa using e)]
  | [], _ :: _, _, _, e => by simp at e
  | _ :: _, [], _, _, e => by simp at e
/-- From the address on lie rounds. -/
def RoundsC (w : World) (A : Option Addr) (ls : List (List (Int × Int))) : Prop :=
  ∃ hs, hs.length = ls.length ∧ Cells w A (rowV hs ls) ∧ ∀ (k : Nat) (h : Option Addr × Nat) (l : List (Int × Int)), hs[k]? = some h → ls[k]? = some l → l.length ≤ h.2 ∧ h.2 ≤ maxLen ∧ IvC w h.1 l
theorem RoundsC.below {w w' : World} {A : Option Addr} {ls : List (List (Int × Int))} (h : RoundsC w A ls) (hb : Below w.heap.size w w') : RoundsC w' A ls := by
  obtain ⟨hs, h1, h2, h3⟩ := h
  exact ⟨hs, h1, h2.below hb, fun k x l e1 e2 => ⟨(h3 k x l e1 e2).1, (h3 k x l e1 e2).2.1, (h3 k x l e1 e2).2.2.below hb⟩⟩
theorem RoundsC.nil_ (w : World) (A : Option Addr) : RoundsC w A [] := ⟨[], rfl, .inl rfl, fun k x l e1 _ => by simp at e1⟩
theorem RoundsC.at_ {w : World} {A : Option Addr} {ls : List (List (Int × Int))} (h : RoundsC w A ls) {k : Nat} {l : List (Int × Int)} (hk : ls[k]? = some l) :
    ∃ b off A' c, A = some ⟨b, off, none⟩ ∧ b < w.heap.size ∧ w.cell? ⟨b, off + k, none⟩ = some (.slice A' l.length c) ∧ l.length ≤ c ∧ c ≤ maxLen ∧ IvC w A' l := by
  obtain ⟨hs, h1, h2, h3⟩ := h
  have hlt := (List.getElem?_eq_some_iff.1 hk).1
  obtain ⟨x, hx⟩ := getElem?_lt (l := hs) (k := k) (by omega)
  obtain ⟨b, off, rfl, hb, hc⟩ := Cells.addr h2 (by rw [rowV_length _ _ h1]; omega)
  obtain ⟨g1, g2, g3⟩ := h3 k x l hx hk
  exact ⟨b, off, x.1, x.2, rfl, hb, hc k _ (rowV_get hs ls k x l hx hk), g1, g2, g3⟩
theorem run_eqI (a b c d : Int) (w : World) : (Op.equalIn 10000 51 (.agg #[.int .i64 a, .int .i64 b]) (.agg #[.int .i64 c, .int .i64 d])).run Try.prog w = .ok (decide ((a, b) = (c, d))) w := by
  have u3 := Try.underlying3
  have a3 := Try.isAgg3
  have z3 := Try.sizeOf3
  have hS : Try.prog.underlying 51 = some (.struct (Try.prog.fieldsOf 51)) := by kernel_rfl
  have hp : Try.prog.stoodInHeld 51 = false := by kernel_rfl
  rw [show (10000 : Nat) = 9999 + 1 from rfl, run_equalIn_agg w 9999 51 _ _ hS hp]
  simp only [Program.fieldsOf, Try.underlying51]
  go_simp
  by_cases h1 : a = c <;> by_cases h2 : b = d <;> simp [h1, h2]
theorem take_eq_succ {l m : List (Int × Int)} {k : Nat} {x y : Int × Int} (h : l.take k = m.take k) (hx : l[k]? = some x) (hy : m[k]? = some y) (e : x = y) : l.take (k + 1) = m.take (k + 1) := by
  rw [take_snoc hx, take_snoc hy, h, e]
set_option maxHeartbeats 4000000 in
theorem sameMatches_any (A : Option Addr) (n c : Nat) (l : List (Int × Int)) (B : Option Addr) (m d : Nat) (l' : List (Int × Int)) (w : World) (hl : l.length = n) (hl' : l'.length = m) (hn : n ≤ 1000000) (hm : m ≤ 1000000) (hC : IvC w A l) (hC' : IvC w B l') :
    Calls Try.prog 36 #[.slice A n c, .slice B m d] w fun e w' => e = .returned (.bool (decide (l = l'))) ∧ Below w.heap.size w w' := by
  have HC := Lib.hid hC
  have HC' := Lib.hid hC'
  have Hl := Lib.hid hl
  have Hl' := Lib.hid hl'
  clear hC hC' hl hl'
  by_cases hnm : n = m
  · subst hnm
    obtain ⟨R, hR⟩ : ∃ R, decide (l = l') = R := ⟨_, rfl⟩
    have HR := Lib.hid hR
    rw [hR]
    clear hR
    go_enter Try.func36, Try.ntmps36
    go_wp2_with (fail)
    go_loopw [5] (fun i wr => ∃ k : Nat, k ≤ n ∧ i = .int .i64 k ∧ Hid (l.take k = l'.take k) ∧ Hid (Below w.heap.size w wr)) (fun i _ => n - (intOf i).toNat)
    case atStart => exact ⟨0, by omega, rfl, (show _ = _ by simp), Below.refl _ _⟩
    case round =>
      obtain ⟨k, hk, rfl, hsm, hB⟩ := hrel
      by_cases hlt : k < n
      · obtain ⟨⟨x, y⟩, hx⟩ := getElem?_lt (l := l) (k := k) (by rw [Hl.out]; exact hlt)
        obtain ⟨⟨x', y'⟩, hx'⟩ := getElem?_lt (l := l') (k := k) (by rw [Hl'.out]; exact hlt)
        obtain ⟨b, off, rfl, hb, hcs⟩ := HC.out.at_ (by rw [Hl.out]; omega)
        obtain ⟨b', off', rfl, hb', hcs'⟩ := HC'.out.at_ (by rw [Hl'.out]; omega)
        have hc1 := (hB.out.cell (p := ⟨b, off + k * 2, none⟩) hb).trans (hcs k _ hx).1
        have hc2 := (hB.out.cell (p := ⟨b, off + k * 2 + 1, none⟩) hb).trans (hcs k _ hx).2
        have hc3 := (hB.out.cell (p := ⟨b', off' + k * 2, none⟩) hb').trans (hcs' k _ hx').1
        have hc4 := (hB.out.cell (p := ⟨b', off' + k * 2 + 1, none⟩) hb').trans (hcs' k _ hx').2
        have hE := fun W => run_eqI x y x' y' W
        have Hx := Lib.hid hx
        have Hx' := Lib.hid hx'
        clear hx hcs hx' hcs'
        by_cases he : (x, y) = (x', y')
        · rw [show decide ((x, y) = (x', y')) = true by simpa using he] at hE
          have He := Lib.hid he
          clear he
          go_wp2_with (fail)
          go_quiet (fail)
          go_wp2_with (fail)
          go_roundw
          case rel => exact ⟨k + 1, by omega, by go_num, take_eq_succ hsm.out Hx.out Hx'.out He.out, below_drewN hB.out _⟩
          case measure => simp [intOf]; omega
        · rw [show decide ((x, y) = (x', y')) = false by simpa using he] at hE
          have HN := Lib.hid (show R = false by
            rw [← HR.out, decide_eq_false_iff_not]
            rintro rfl
            exact he (Option.some.inj (Hx.out.symm.trans Hx'.out)))
          clear he
          go_wp2_with (fail)
          go_quiet (fail)
          go_wp2_with (fail)
          go_ret
          exact ⟨ret_bool HN.out.symm, below_drewN hB.out _⟩
      · obtain rfl : k = n := by omega
        have HN := Lib.hid (show R = true by
          rw [← HR.out, decide_eq_true_iff]
          have := hsm.out
          rwa [List.take_of_length_le (by rw [Hl.out]; omega), List.take_of_length_le (by rw [Hl'.out]; omega)] at this)
        go_wp2_with (fail)
        go_ret
        exact ⟨ret_bool HN.out.symm, hB.out⟩
  · have HN := Lib.hid (show decide (l = l') = false by
      rw [decide_eq_false_iff_not]
      rintro rfl
      exact hnm (Hl.out.symm.trans Hl'.out))
    obtain ⟨R, hR⟩ : ∃ R, decide (l = l') = R := ⟨_, rfl⟩
    rw [hR] at HN ⊢
    clear hR
    go_enter Try.func36, Try.ntmps36
    go_wp2_with (fail)
    go_ret
    exact ⟨ret_bool HN.out.symm, Below.refl _ _⟩
set_option linter.unusedVariables false in
set_option linter.unusedSimpArgs false in
set_option maxRecDepth 100000 in
set_option maxHeartbeats 8000000 in
theorem same30_any (A : Option Addr) (n c : Nat) (ls : List (List (Int × Int))) (B : Option Addr) (m d : Nat) (ls' : List (List (Int × Int))) (w : World) (hl : ls.length = n) (hl' : ls'.length = m) (hn : n ≤ 1000000) (hm : m ≤ 1000000) (hC : RoundsC w A ls) (hC' : RoundsC w B ls') (hs : ∀ l ∈ ls, l.length ≤ 1000000) (hs' : ∀ l ∈ ls', l.length ≤ 1000000) :
    Calls Try.prog 13 #[.agg #[.slice A n c], .agg #[.slice B m d]] w fun e w' => e = .returned (.bool (decide (ls = ls'))) ∧ Below w.heap.size w w' := by
  have HC := Lib.hid hC
  have HC' := Lib.hid hC'
  have Hl := Lib.hid hl
  have Hl' := Lib.hid hl'
  have Hs := Lib.hid hs
  have Hs' := Lib.hid hs'
  obtain ⟨R, hR⟩ : ∃ R, decide (ls = ls') = R := ⟨_, rfl⟩
  have HR := Lib.hid hR
  rw [hR]
  clear hC hC' hl hl' hs hs' hR
  by_cases hnm : n = m
  · subst hnm
    go_enter Try.func13, Try.ntmps13
    go_wp2_with (fail)
    generalize hge : World.alloc _ _ = w1
    have hall : w1.cell? ⟨w.heap.size, 0, none⟩ = some (.slice A n c) ∧ w1.cell? ⟨w.heap.size + 1, 0, none⟩ = some (.slice B n d) ∧ Below w.heap.size w w1 ∧ w.heap.size + 1 < w1.heap.size := by
      subst hge
      refine ⟨((Blk.new w 26 #[.slice A n c]).alloc _).cell 0, ?_, ((Below.refl _ _).alloc (Nat.le_refl _) _).alloc (by simp) _, by simp⟩
      simp
    obtain ⟨cA, cB, hB1, hz1⟩ := hall
    have HB1 := Lib.hid hB1
    have HC1 := Lib.hid (HC.out.below hB1)
    have HC1' := Lib.hid (HC'.out.below hB1)
    clear hge hB1
    go_loopw [5] (fun i wr => ∃ k : Nat, k ≤ n ∧ i = .int .i64 k ∧ Hid (ls.take k = ls'.take k) ∧ Hid (Below w1.heap.size w1 wr)) (fun i _ => n - (intOf i).toNat)
    case atStart => exact ⟨0, by omega, rfl, (show _ = _ by simp), Below.refl _ _⟩
    case round =>
      obtain ⟨k, hk, rfl, hsm, hB⟩ := hrel
      obtain ⟨wq, rfl⟩ : ∃ wq : World, wq = wr := ⟨_, rfl⟩
      have cAq := (hB.out.cell (p := ⟨w.heap.size, 0, none⟩) (by show w.heap.size < _; omega)).trans cA
      have cBq := (hB.out.cell (p := ⟨w.heap.size + 1, 0, none⟩) hz1).trans cB
      have hB0 := Lib.hid (show Below w.heap.size w wq from HB1.out.trans (hB.out.mono (by omega)))
      by_cases hlt : k < n
      · obtain ⟨l, hx⟩ := getElem?_lt (l := ls) (k := k) (by rw [Hl.out]; exact hlt)
        obtain ⟨l', hx'⟩ := getElem?_lt (l := ls') (k := k) (by rw [Hl'.out]; exact hlt)
        obtain ⟨b, off, A1, c1, rfl, hb, hc1, -, -, hI⟩ := HC1.out.at_ hx
        obtain ⟨b', off', A2, c2, rfl, hb', hc2, -, -, hI'⟩ := HC1'.out.at_ hx'
        have hdk : decide ((k : Int) < (n : Int)) = true := by simp; omega
        have hkI : (k : Int) < (n : Int) := by omega
        have HS := Lib.hid (fun W (h : Below w1.heap.size w1 W) => sameMatches_any A1 l.length c1 l A2 l'.length c2 l' W rfl rfl (Hs.out l (List.mem_of_getElem? hx)) (Hs'.out l' (List.mem_of_getElem? hx')) (hI.below h) (hI'.below h))
        have Hx := Lib.hid hx
        have Hx' := Lib.hid hx'
        have hR0 := Lib.hid (fun h : decide (l = l') = false => show R = false by
          rw [← HR.out, decide_eq_false_iff_not]
          rintro rfl
          exact of_decide_eq_false h (Option.some.inj (Hx.out.symm.trans Hx'.out)))
        have hT := Lib.hid (fun h : decide (l = l') = true => show ls.take (k + 1) = ls'.take (k + 1) by
          rw [take_snoc Hx.out, take_snoc Hx'.out, hsm.out, of_decide_eq_true h])
        generalize l.length = q at *
        generalize l'.length = q' at *
        generalize decide (l = l') = r at *
        clear hx hx' hI hI' Hx Hx'
        cases r
        all_goals
          go_upto_region 6 with (fail)
          refine wp_region_held_drew (S := fun W => Below w1.heap.size w1 W) (by kernel_rfl) (below_drewN hB.out 1) (fun Hd => ?_)
          have Hd : Below w1.heap.size w1 wq.drew := below_drewN hB.out 1
          have Zd : w1.heap.size ≤ wq.drew.heap.size := hB.out.size
          generalize World.drew wq = wd at *
          refine wpAnyH_take (i := 0) (v := ?_) rfl (by kernel_rfl) (by kernel_rfl) (by kernel_rfl) (fun _ _ _ h => h) (Or.inl ⟨by rfl, ?_⟩) Hd ?_
          rotate_left
          · intro wS hSw
            go_simp
            try with_reducible rfl
          try simp only [List.getElem_toArray, List.getElem_cons_zero, List.getElem_cons_succ, Act.put, List.setIfInBounds_toArray, List.set_cons_zero, List.set_cons_succ]
          refine wpAnyH_take (i := 1) (v := ?_) rfl (by kernel_rfl) (by kernel_rfl) (by kernel_rfl) (fun _ _ _ h => h) (Or.inl ⟨by rfl, ?_⟩) Hd ?_
          rotate_left
          · intro wS hSw
            have c2' := (hSw.cell (p := ⟨w.heap.size, 0, none⟩) (by show w.heap.size < _; omega)).trans cA
            go_simp
            try with_reducible rfl
          try simp only [List.getElem_toArray, List.getElem_cons_zero, List.getElem_cons_succ, Act.put, List.setIfInBounds_toArray, List.set_cons_zero, List.set_cons_succ]
          refine wpAnyH_take (i := 2) (v := ?_) rfl (by kernel_rfl) (by kernel_rfl) (by kernel_rfl) (fun _ _ _ h => h) (Or.inl ⟨by rfl, ?_⟩) Hd ?_
          rotate_left
          · intro wS hSw
            go_simp
            try with_reducible rfl
          try simp only [List.getElem_toArray, List.getElem_cons_zero, List.getElem_cons_succ, Act.put, List.setIfInBounds_toArray, List.set_cons_zero, List.set_cons_succ]
          refine wpAnyH_take (i := 3) (v := ?_) rfl (by kernel_rfl) (by kernel_rfl) (by kernel_rfl) (fun _ _ _ h => h) (Or.inl ⟨by rfl, ?_⟩) Hd ?_
          rotate_left
          · intro wS hSw
            go_simp
            try with_reducible rfl
          try simp only [List.getElem_toArray, List.getElem_cons_zero, List.getElem_cons_succ, Act.put, List.setIfInBounds_toArray, List.set_cons_zero, List.set_cons_succ]
          refine wpAnyH_take (i := 4) (v := ?_) rfl (by kernel_rfl) (by kernel_rfl) (by kernel_rfl) (fun _ _ _ h => h) (Or.inl ⟨by rfl, ?_⟩) Hd ?_
          rotate_left
          · intro wS hSw
            have k1' := (hSw.cell (p := ⟨b, off + k, none⟩) hb).trans hc1
            go_simp
            try with_reducible rfl
          try simp only [List.getElem_toArray, List.getElem_cons_zero, List.getElem_cons_succ, Act.put, List.setIfInBounds_toArray, List.set_cons_zero, List.set_cons_succ]
          refine wpAnyH_take (i := 5) (v := ?_) rfl (by kernel_rfl) (by kernel_rfl) (by kernel_rfl) (fun _ _ _ h => h) (Or.inl ⟨by rfl, ?_⟩) Hd ?_
          rotate_left
          · intro wS hSw
            go_simp
            try with_reducible rfl
          try simp only [List.getElem_toArray, List.getElem_cons_zero, List.getElem_cons_succ, Act.put, List.setIfInBounds_toArray, List.set_cons_zero, List.set_cons_succ]
          refine wpAnyH_take (i := 6) (v := ?_) rfl (by kernel_rfl) (by kernel_rfl) (by kernel_rfl) (fun _ _ _ h => h) (Or.inl ⟨by rfl, ?_⟩) Hd ?_
          rotate_left
          · intro wS hSw
            have c3' := (hSw.cell (p := ⟨w.heap.size + 1, 0, none⟩) hz1).trans cB
            go_simp
            try with_reducible rfl
          try simp only [List.getElem_toArray, List.getElem_cons_zero, List.getElem_cons_succ, Act.put, List.setIfInBounds_toArray, List.set_cons_zero, List.set_cons_succ]
          refine wpAnyH_take (i := 7) (v := ?_) rfl (by kernel_rfl) (by kernel_rfl) (by kernel_rfl) (fun _ _ _ h => h) (Or.inl ⟨by rfl, ?_⟩) Hd ?_
          rotate_left
          · intro wS hSw
            go_simp
            try with_reducible rfl
          try simp only [List.getElem_toArray, List.getElem_cons_zero, List.getElem_cons_succ, Act.put, List.setIfInBounds_toArray, List.set_cons_zero, List.set_cons_succ]
          refine wpAnyH_take (i := 8) (v := ?_) rfl (by kernel_rfl) (by kernel_rfl) (by kernel_rfl) (fun _ _ _ h => h) (Or.inl ⟨by rfl, ?_⟩) Hd ?_
          rotate_left
          · intro wS hSw
            go_simp
            try with_reducible rfl
          try simp only [List.getElem_toArray, List.getElem_cons_zero, List.getElem_cons_succ, Act.put, List.setIfInBounds_toArray, List.set_cons_zero, List.set_cons_succ]
          refine wpAnyH_take (i := 9) (v := ?_) rfl (by kernel_rfl) (by kernel_rfl) (by kernel_rfl) (fun _ _ _ h => h) (Or.inl ⟨by rfl, ?_⟩) Hd ?_
          rotate_left
          · intro wS hSw
            have k2' := (hSw.cell (p := ⟨b', off' + k, none⟩) hb').trans hc2
            go_simp
            try with_reducible rfl
          try simp only [List.getElem_toArray, List.getElem_cons_zero, List.getElem_cons_succ, Act.put, List.setIfInBounds_toArray, List.set_cons_zero, List.set_cons_succ]
          refine wpAnyH_ready (rs := [10]) (by kernel_rfl) (by simp) (AllReadyH.cons rfl (fun K hK => ?_) AllReadyH.nil)
          go_simp
          refine (HS.out _ Hd).mono ?_
          rintro e w1_ ⟨rfl, hb1⟩
          have Hb1 : Below w1.heap.size w1 w1_ := below_of Hd hb1 Hd.size
          have Zb1 : w1.heap.size ≤ w1_.heap.size := Nat.le_trans Zd hb1.size
          go_wp2_with (fail)
          refine hK.out _ _ Hb1 fun _ => ?_
          clear hK K
          try simp only [List.getElem_toArray, List.getElem_cons_zero, List.getElem_cons_succ, Act.put, List.setIfInBounds_toArray, List.set_cons_zero, List.set_cons_succ]
          refine wpAnyH_take (i := 11) (v := ?_) rfl (by kernel_rfl) (by kernel_rfl) (by kernel_rfl) (fun _ _ _ h => h) (Or.inl ⟨by rfl, ?_⟩) Hb1 ?_
          rotate_left
          · intro wS hSw
            go_simp
            try with_reducible rfl
          try simp only [List.getElem_toArray, List.getElem_cons_zero, List.getElem_cons_succ, Act.put, List.setIfInBounds_toArray, List.set_cons_zero, List.set_cons_succ]
          refine wpAnyH_done (by kernel_rfl) ?_ _
          go_wp2_with (fail)
          first
            | (go_roundw
               case rel => exact ⟨k + 1, by omega, by go_num, hT.out (by first | rfl | trivial), Hb1⟩
               case measure => simp [intOf]; omega)
            | (go_ret
               exact ⟨ret_bool (hR0.out (by first | rfl | trivial)).symm, HB1.out.trans (Hb1.mono (by omega))⟩)
      · obtain rfl : k = n := by omega
        have hdk : decide ((k : Int) < (k : Int)) = false := by simp
        have HN := Lib.hid (show R = true by
          rw [← HR.out, decide_eq_true_iff]
          have := hsm.out
          rwa [List.take_of_length_le (by rw [Hl.out]; omega), List.take_of_length_le (by rw [Hl'.out]; omega)] at this)
        go_wp2_with (fail)
        go_ret
        exact ⟨ret_bool HN.out.symm, hB0.out⟩
  · have HN := Lib.hid (show R = false by
      rw [← HR.out, decide_eq_false_iff_not]
      rintro rfl
      exact hnm (Hl.out.symm.trans Hl'.out))
    have e1 : ((n : Int) != (m : Int)) = true := by simp; omega
    have e2 : (n != m) = true := by simpa using hnm
    go_enter Try.func13, Try.ntmps13
    go_wp2_with (fail)
    go_ret
    exact ⟨ret_bool HN.out.symm, ((Below.refl _ _).alloc (Nat.le_refl _) _).alloc (by simp) _⟩
end Go.Proofs.Ytpmkebejfnflfaa
