/- The walk of Pattern (fixtures). -/
import Derived.Test.YtpmkebejfnflfaaFRow
import Derived.Laws.EntriesVeiled
namespace Go.Proofs.Ytpmkebejfnflfaa
open Go.RowKit Go.Shelf Go.Lib
namespace Fix
def inM (club : Int) (x : Mt) : Bool := decide (x.1 = club) || decide (x.2 = club)
/-- What a club does in a round: at home (1), away (-1), not at all. -/
def patM (club : Int) (l : List Mt) : Int := match l.find? (inM club) with
  | none => 0
  | some x => if x.1 = club then 1 else -1
theorem idx_cases (club : Int) : ∀ (l : List Mt) (i : Nat), (Lib.idxByFrom (fun _ y => inM club y) default l i = -1 ∧ l.find? (inM club) = none) ∨ ∃ (k : Nat) (x : Mt), l[k]? = some x ∧ Lib.idxByFrom (fun _ y => inM club y) default l i = ((i + k : Nat) : Int) ∧ l.find? (inM club) = some x
  | [], i => .inl ⟨rfl, rfl⟩
  | y :: l, i => by
    cases h : inM club y with
    | true => exact .inr ⟨0, y, rfl, by simp [Lib.idxByFrom, h], by simp [List.find?, h]⟩
    | false =>
      rcases idx_cases club l (i + 1) with ⟨e1, e2⟩ | ⟨k, x, e1, e2, e3⟩
      · exact .inl ⟨by simp [Lib.idxByFrom, h, e1], by simp [List.find?, h, e2]⟩
      · exact .inr ⟨k + 1, x, by simpa using e1, by simp only [Lib.idxByFrom, h]; rw [show (if false = true then ((i : Nat) : Int) else Lib.idxByFrom (fun _ y => inM club y) default l (i + 1)) = Lib.idxByFrom (fun _ y => inM club y) default l (i + 1) from rfl, e2]; congr 1; omega, by simp [List.find?, h, e3]⟩
theorem pat_cases (club : Int) (l : List Mt) : (Lib.idxBy (fun _ y => inM club y) l default = -1 ∧ patM club l = 0) ∨ ∃ (k : Nat) (x : Mt), l[k]? = some x ∧ Lib.idxBy (fun _ y => inM club y) l default = (k : Int) ∧ patM club l = if x.1 = club then 1 else -1 := by
  rcases idx_cases club l 0 with ⟨e1, e2⟩ | ⟨k, x, e1, e2, e3⟩
  · exact .inl ⟨e1, by unfold patM; rw [e2]⟩
  · exact .inr ⟨k, x, e1, by unfold Lib.idxBy; rw [e2]; simp, by unfold patM; rw [e3]⟩
end Fix
theorem mpred_any (n : Int) (B : Nat) (w : World) (hB : B < w.heap.size) (hcell : w.cell? ⟨B, 0, none⟩ = some (.int .i64 n)) :
    PredBelow Try.prog 41 #[.pointer (some ⟨B, 0, none⟩)] (fun x => .agg (encIv x).toArray) (Fix.inM n) w := fun W x hb => by
  have hc : W.cell? ⟨B, 0, none⟩ = some (.int .i64 n) := (hb.cell (p := ⟨B, 0, none⟩) hB).trans hcell
  have hBW : B < W.heap.size := Nat.lt_of_lt_of_le hB hb.size
  have hne : B ≠ W.heap.size := by omega
  obtain ⟨x, y⟩ := x
  show Calls Try.prog 41 #[.agg #[.int .i64 x, .int .i64 y], .pointer (some ⟨B, 0, none⟩)] W _
  by_cases h1 : x = n <;> by_cases h2 : y = n
  all_goals
    first | have e1 : (x == n) = true := by simpa using h1 | have e1 : (x == n) = false := by simpa using h1
    first | have e2 : (y == n) = true := by simpa using h2 | have e2 : (y == n) = false := by simpa using h2
    have HR : Fix.inM n (x, y) = ((x == n) || (y == n)) := rfl
    rw [HR, e1, e2]
    clear h1 h2 HR
    go_enter Try.func41, Try.ntmps41
    go_wp2_with (fail)
    go_ret
    exact ⟨rfl, hb.alloc hb.size _⟩
set_option maxHeartbeats 1000000 in
theorem mindex_any (n : Int) (B : Nat) (A : Option Addr) (len c : Nat) (l : List (Int × Int)) (w : World) (hl : l.length = len) (hlen : len ≤ 1000000) (hC : IvC w A l) (hB : B < w.heap.size) (hcell : w.cell? ⟨B, 0, none⟩ = some (.int .i64 n)) :
    Calls Try.prog 40 #[.slice A len c, .func (.func 41) #[] #[.pointer (some ⟨B, 0, none⟩)]] w fun e w' => e = .returned (.int .i64 (Lib.idxBy (fun _ y => Fix.inM n y) l default)) ∧ Below w.heap.size w w' := by
  rcases Nat.eq_zero_or_pos l.length with h0 | h0
  · have hl0 : l = [] := List.eq_nil_of_length_eq_zero h0
    subst hl0
    simp at hl
    subst hl
    rw [show Lib.idxBy (fun _ y => Fix.inM n y) [] default = -1 from rfl]
    clear hC hlen h0 hB hcell
    go_enter Try.func40, Try.ntmps40
    go_wp2_with (fail)
    refine wp_loop_rounds 1 ?_
    rw [rounds_succ]
    go_wp2_with (fail)
    go_ret
    exact ⟨rfl, Below.refl _ _⟩
  · obtain ⟨b, off, rfl, hb, hcs⟩ := hC.at_ h0
    have eg : ∀ args w, (callFunc 41 args).run Try.prog w = .ok (.enter 41 args) w := enters_of Try.func41 (by kernel_rfl) rfl
    have hcon := AnyQ.slices_IndexFunc Try.idxMt 2 Try.isAgg51 Try.sizeOf51 encIv (fun _ => rfl) (Fix.inM n) 41 #[.pointer (some ⟨B, 0, none⟩)] eg b off len c l w
      (mpred_any n B w hB hcell) (by omega) (by omega) hb (fun j hj i v hi => by
        have h1 := hcs j l[j] (List.getElem?_eq_getElem hj)
        rw [getElem!_pos _ j hj] at hi
        match i, hi with
        | 0, hi => simp [encIv] at hi; rw [← hi]; exact h1.1
        | 1, hi => simp [encIv] at hi; rw [← hi]; exact h1.2
        | i + 2, hi => simp [encIv] at hi)
    change Calls Try.prog 40 _ _ _ at hcon
    rwa [List.take_of_length_le (by omega)] at hcon
set_option linter.unusedVariables false in
set_option linter.unusedSimpArgs false in
set_option maxRecDepth 100000 in
set_option maxHeartbeats 8000000 in
theorem pattern_any (A : Option Addr) (n c : Nat) (ls : List (List (Int × Int))) (club : Int) (w : World) (hl : ls.length = n) (hn : n ≤ 1000000) (hC : RoundsC w A ls) (hs : ∀ l ∈ ls, l.length ≤ 1000000) :
    Calls Try.prog 20 #[.agg #[.slice A n c], .int .i64 club] w fun e w' => ∃ A' c', e = .returned (.slice A' n c') ∧ w'.ownsRow w.heap.size 3 1 (.slice A' n c') n (intV (ls.map (Fix.patM club))) ∧ n ≤ c' ∧ c' ≤ maxLen ∧ Below w.heap.size w w' := by
  have HC := Lib.hid hC
  have Hl := Lib.hid hl
  have Hs := Lib.hid hs
  clear hC hl hs
  go_enter Try.func20, Try.ntmps20
  go_wp2_with (fail)
  generalize hge : World.alloc _ _ = w1
  have hall : w1.cell? ⟨w.heap.size, 0, none⟩ = some (.slice A n c) ∧ w1.cell? ⟨w.heap.size + 1, 0, none⟩ = some (.int .i64 club) ∧ Below w.heap.size w w1 ∧ w1.heap.size = w.heap.size + 2 := by
    subst hge
    refine ⟨((Blk.new w 26 #[.slice A n c]).alloc _).cell 0, ?_, ((Below.refl _ _).alloc (Nat.le_refl _) _).alloc (by simp) _, by simp⟩
    simp
  obtain ⟨cA, cB, hB1, hz1⟩ := hall
  have HB1 := Lib.hid hB1
  have HC1 := Lib.hid (HC.out.below hB1)
  have CB := Lib.hid cB
  have HO := Lib.hid (show w1.ownsRow w1.heap.size 3 1 (.slice none 0 0) 0 (intV []) from World.ownsRow_nil _ _ _ _)
  clear hge hB1 cA cB
  go_loopw [4, 12] (fun v i wr => ∃ (k : Nat) (A5 : Option Addr) (c5 : Nat), k ≤ n ∧ i = .int .i64 k ∧ v = .slice A5 k c5 ∧ Hid (wr.ownsRow w1.heap.size 3 1 (.slice A5 k c5) k (intV ((ls.take k).map (Fix.patM club)))) ∧ Hid (Below w1.heap.size w1 wr)) (fun _ i _ => n - (intOf i).toNat)
  case atStart => exact ⟨0, none, 0, by omega, rfl, rfl, HO.out, Below.refl _ _⟩
  case round =>
    obtain ⟨k, A5, c5, hk, rfl, rfl, hown, hB⟩ := hrel
    obtain ⟨wq, rfl⟩ : ∃ wq : World, wq = wr := ⟨_, rfl⟩
    by_cases hlt : k < n
    · have hdk : decide ((k : Int) < (n : Int)) = true := by simp; omega
      have hdk2 : decide (k < n) = true := by simp; omega
      have hkI : (k : Int) < (n : Int) := by omega
      obtain ⟨l, hx⟩ := getElem?_lt (l := ls) (k := k) (by rw [Hl.out]; exact hlt)
      obtain ⟨b, off, A1, c1, rfl, hb, hc1, -, -, hI⟩ := HC1.out.at_ hx
      have k1 := (hB.out.cell (p := ⟨b, off + k, none⟩) hb).trans hc1
      have hq := Hs.out l (List.mem_of_getElem? hx)
      have cBq := Lib.hid ((hB.out.cell (p := ⟨w.heap.size + 1, 0, none⟩) (by show w.heap.size + 1 < _; omega)).trans CB.out)
      have hIq := Lib.hid (hI.below hB.out)
      have hz := hB.out.size
      have Hrow := Lib.hid (show intV ((ls.take (k + 1)).map (Fix.patM club)) = intV ((ls.take k).map (Fix.patM club)) ++ [.int .i64 (Fix.patM club l)] by rw [take_snoc hx, List.map_append, List.map_singleton, intV_snoc])
      have HX := Lib.hid (mindex_any club (w.heap.size + 1) A1 l.length c1 l wq rfl hq hIq.out (by omega) cBq.out)
      have HP := Lib.hid (Fix.pat_cases club l)
      generalize Lib.idxBy (fun _ y => Fix.inM club y) l default = ix at *
      generalize Fix.patM club l = pv at *
      obtain ⟨q, hql⟩ : ∃ q, l.length = q := ⟨_, rfl⟩
      have Hq := Lib.hid hql
      rw [hql] at k1 hq HX
      clear hx hc1 hI hql
      rcases HP.out with ⟨rfl, rfl⟩ | ⟨j, ⟨x, y⟩, hj, rfl, hpv⟩
      · clear HP
        have e0 : decide ((0 : Int) ≤ -1) = false := rfl
        go_wp2_with (first
          | (go_at_call 40; refine HX.out.mono ?_; rintro e w' ⟨rfl, hb'⟩; have hB2 := Lib.hid (below_of hB.out hb' hz); have hown2 := Lib.hid (own_below hown.out hb'); clear hb')
          | (at_builtin; refine push1 rfl (.tmp 28) (.tmp 30) 22 rfl w1.heap.size 3 (.int .i64 0) 8 (by kernel_rfl) (by kernel_rfl) rfl (.slice A5 k c5) k (intV ((ls.take k).map (Fix.patM club))) (.int .i64 0) hown2.out rfl rfl rfl (by unfold maxLen; omega) (by omega) hB2.out.size ?_; intro v2 w2 hown3 hg2 hat2; obtain ⟨A6, c6, rfl, -, -, -⟩ := own_form hown3; have Hown3 := Lib.hid hown3; have HB3 := Lib.hid (below_grown hB2.out hg2 hB2.out.size (own_base hown2.out)); clear hown3 hg2 hat2))
        go_roundw
        case rel => exact ⟨k + 1, A6, c6, by omega, by go_num, rfl, (show World.ownsRow _ _ _ _ _ _ _ by rw [Hrow.out]; exact Hown3.out), HB3.out⟩
        case measure => simp [intOf]; omega
      · have hjq : j < q := by rw [← Hq.out]; exact (List.getElem?_eq_some_iff.1 hj).1
        obtain ⟨b3, off3, rfl, hb3, hcs⟩ := hIq.out.at_ (by rw [Hq.out]; omega)
        have kx := Lib.hid (hcs j _ hj).1
        simp only [] at kx
        have e0 : decide ((0 : Int) ≤ (j : Int)) = true := by simp
        have hjI : (j : Int) < (q : Int) := by omega
        clear HP hcs hj
        by_cases hxc : x = club
        · have e1 : (x == club) = true := by simpa using hxc
          have hpv : pv = 1 := by rw [hpv]; exact if_pos hxc
          have Hpv := Lib.hid hpv
          clear hpv
          go_wp2_with (first
            | (go_at_call 40; refine HX.out.mono ?_; rintro e w' ⟨rfl, hb'⟩; have hB2 := Lib.hid (below_of hB.out hb' hz); have hown2 := Lib.hid (own_below hown.out hb'); have kx2 := (hb'.cell (p := ⟨b3, off3 + j * 2, none⟩) hb3).trans kx.out; have cB2 := (hb'.cell (p := ⟨w.heap.size + 1, 0, none⟩) (by show w.heap.size + 1 < _; omega)).trans cBq.out; clear hb'))
          go_quiet (fail)
          clear kx2 cB2
          generalize hwd : World.drewN _ _ = wd
          have hown4 := Lib.hid (show wd.ownsRow w1.heap.size 3 1 (.slice A5 k c5) k (intV ((ls.take k).map (Fix.patM club))) by rw [← hwd]; exact hown2.out)
          have hB4 := Lib.hid (show Below w1.heap.size w1 wd by rw [← hwd]; exact below_drewN hB2.out _)
          clear hwd hB2 hown2
          go_wp2_with (at_builtin; refine push1 rfl (.tmp 28) (.tmp 30) 22 rfl w1.heap.size 3 (.int .i64 0) 8 (by kernel_rfl) (by kernel_rfl) rfl (.slice A5 k c5) k (intV ((ls.take k).map (Fix.patM club))) (.int .i64 1) hown4.out rfl rfl rfl (by unfold maxLen; omega) (by omega) hB4.out.size ?_; intro v2 w2 hown3 hg2 hat2; obtain ⟨A6, c6, rfl, -, -, -⟩ := own_form hown3; have Hown3 := Lib.hid hown3; have HB3 := Lib.hid (below_grown hB4.out hg2 hB4.out.size (own_base hown4.out)); clear hown3 hg2 hat2)
          go_roundw
          case rel => exact ⟨k + 1, A6, c6, by omega, by go_num, rfl, (show World.ownsRow _ _ _ _ _ _ _ by rw [Hrow.out, Hpv.out]; exact Hown3.out), HB3.out⟩
          case measure => simp [intOf]; omega
        · have e1 : (x == club) = false := by simpa using hxc
          have hpv : pv = -1 := by rw [hpv]; exact if_neg hxc
          have Hpv := Lib.hid hpv
          clear hpv
          go_wp2_with (first
            | (go_at_call 40; refine HX.out.mono ?_; rintro e w' ⟨rfl, hb'⟩; have hB2 := Lib.hid (below_of hB.out hb' hz); have hown2 := Lib.hid (own_below hown.out hb'); have kx2 := (hb'.cell (p := ⟨b3, off3 + j * 2, none⟩) hb3).trans kx.out; have cB2 := (hb'.cell (p := ⟨w.heap.size + 1, 0, none⟩) (by show w.heap.size + 1 < _; omega)).trans cBq.out; clear hb'))
          go_quiet (fail)
          clear kx2 cB2
          generalize hwd : World.drewN _ _ = wd
          have hown4 := Lib.hid (show wd.ownsRow w1.heap.size 3 1 (.slice A5 k c5) k (intV ((ls.take k).map (Fix.patM club))) by rw [← hwd]; exact hown2.out)
          have hB4 := Lib.hid (show Below w1.heap.size w1 wd by rw [← hwd]; exact below_drewN hB2.out _)
          clear hwd hB2 hown2
          go_wp2_with (at_builtin; refine push1 rfl (.tmp 28) (.tmp 30) 22 rfl w1.heap.size 3 (.int .i64 0) 8 (by kernel_rfl) (by kernel_rfl) rfl (.slice A5 k c5) k (intV ((ls.take k).map (Fix.patM club))) (.int .i64 (-1)) hown4.out rfl rfl rfl (by unfold maxLen; omega) (by omega) hB4.out.size ?_; intro v2 w2 hown3 hg2 hat2; obtain ⟨A6, c6, rfl, -, -, -⟩ := own_form hown3; have Hown3 := Lib.hid hown3; have HB3 := Lib.hid (below_grown hB4.out hg2 hB4.out.size (own_base hown4.out)); clear hown3 hg2 hat2)
          go_roundw
          case rel => exact ⟨k + 1, A6, c6, by omega, by go_num, rfl, (show World.ownsRow _ _ _ _ _ _ _ by rw [Hrow.out, Hpv.out]; exact Hown3.out), HB3.out⟩
          case measure => simp [intOf]; omega
    · obtain rfl : k = n := by omega
      have hdk : decide ((k : Int) < (k : Int)) = false := by simp
      have hB0 := Lib.hid (show Below w.heap.size w wq from HB1.out.trans (hB.out.mono (by omega)))
      have hll : ls.take k = ls := List.take_of_length_le (by rw [Hl.out]; exact Nat.le_refl _)
      rw [hll] at hown
      have hw1 := HB1.out.size
      clear hll
      go_wp2_with (fail)
      go_ret
      obtain ⟨A7, c7, hv, g1, g2, -⟩ := own_form hown.out
      cases hv
      exact ⟨A5, c5, rfl, own_mono hown.out hw1, g1, g2, hB0.out⟩
end Go.Proofs.Ytpmkebejfnflfaa
