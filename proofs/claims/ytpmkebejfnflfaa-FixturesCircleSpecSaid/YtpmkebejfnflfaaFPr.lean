/- The pairs of a round, as an iterator (fixtures). -/
import Derived.Test.YtpmkebejfnflfaaFIn
namespace Go.Proofs.Ytpmkebejfnflfaa
open Go.RowKit Go.Shelf Go.Lib
attribute [local go_sem] Oper.semAt_some
abbrev encN (x : Nat × Nat) : Value := .agg #[.int .i64 (x.1 : Int), .int .i64 (x.2 : Int)]
abbrev encI (x : Int × Int) : Value := .agg #[.int .i64 x.1, .int .i64 x.2]
namespace Fix
def castP (x : Nat × Nat) : Int × Int := (x.1, x.2)
def pairsN (m r : Nat) : List (Nat × Nat) := (List.range (m / 2)).map (pairI m r)
theorem pairsN_length (m r : Nat) : (pairsN m r).length = m / 2 := by simp [pairsN]
theorem pairsN_get {m r i : Nat} (h : i < m / 2) : (pairsN m r)[i]? = some (pairI m r i) := by simp [pairsN, h]
theorem pairs_one {m r : Nat} (h : 1 ≤ m / 2) : (pairsN m r).take 1 = [pairI m r 0] := (take_snoc (pairsN_get h)).trans (by simp)
theorem pair_zero_even {m r : Nat} (_hm : 2 ≤ m) (h : r % 2 = 0) : castP (pairI m r 0) = ((r : Int), (m : Int) - 1) := by
  simp only [pairI, castP, h, if_true]; congr 1; omega
theorem pair_zero_odd {m r : Nat} (hm : 2 ≤ m) (h : r % 2 = 1) : castP (pairI m r 0) = ((m : Int) - 1, (r : Int)) := by
  have : ¬ r % 2 = 0 := by omega
  simp only [pairI, castP, if_true, if_neg this]; congr 1; omega
theorem pair_even {m r k : Nat} (hm : 2 ≤ m) (_hk : 1 ≤ k) (hkm : k < m / 2) (h : k % 2 = 0) : castP (pairI m r k) = (((r : Int) + m - 1 - k) % ((m : Int) - 1), ((r : Int) + k) % ((m : Int) - 1)) := by
  have h0 : ¬ k = 0 := by omega
  have e : ((m - 1 : Nat) : Int) = (m : Int) - 1 := by omega
  have e2 : ((r + m - 1 - k : Nat) : Int) = (r : Int) + m - 1 - k := by omega
  simp only [pairI, castP, if_neg h0, if_pos h, Int.natCast_emod, e, e2, Int.natCast_add]
theorem pair_odd {m r k : Nat} (hm : 2 ≤ m) (_hk : 1 ≤ k) (hkm : k < m / 2) (h : k % 2 = 1) : castP (pairI m r k) = (((r : Int) + k) % ((m : Int) - 1), ((r : Int) + m - 1 - k) % ((m : Int) - 1)) := by
  have h0 : ¬ k = 0 := by omega
  have h1 : ¬ k % 2 = 0 := by omega
  have e : ((m - 1 : Nat) : Int) = (m : Int) - 1 := by omega
  have e2 : ((r + m - 1 - k : Nat) : Int) = (r : Int) + m - 1 - k := by omega
  simp only [pairI, castP, if_neg h0, if_neg h1, Int.natCast_emod, e, e2, Int.natCast_add]
end Fix
theorem blk_setRowR {w : World} {g : Nat} {t : TypeId} {cs cs' : Array Value} (h : Blk w g t cs) : Blk (w.setRow g cs') g t cs' := by
  unfold Blk at h ⊢
  simp [World.setRow, Array.getElem?_modify, h]
theorem grown_setRowR {w : World} {g : Nat} (cs : Array Value) : w.grownBy (w.setRow g cs) (some g) :=
  ⟨rfl, rfl, rfl, by simp [World.setRow], fun k _ hne => by
    have h : ¬ g = k := fun e => hne (by rw [e])
    simp [World.setRow, Array.getElem?_modify, h]⟩
theorem step_put_blkR {P : Program} {w : World} {ops : Array Oper} {o : Oper} {a : Act} {Q : Exit → Act → World → Prop} {K : Act → World → Prop} {E : Prop} (hgd : o.guard = none) (ty : TypeId) (x y : Operand) (ho : o.op = .store ty x y) (g : Nat) (cells : Array Value) (hx : a.eval x = .pointer (some ⟨g, 0, none⟩)) (hy : a.eval y = .agg cells)
    (t : TypeId) (old : Array Value) (hg : Blk w g t old) (hi : (P.info? ty).map (·.size) = some cells.size) (hold : old.size = cells.size) (h1 : cells.all (·.oneCell') = true)
    (h : ∀ w', Blk w' g t cells → w.grownBy w' (some g) → w'.heap.size = w.heap.size → K (a.put o.dst undef) w') : if Region.wanted o (yielded ops a.tmps) = true then Oper.wp P o a w K Q else E := by
  have hw : Region.wanted o (yielded ops a.tmps) = true := by simp [Region.wanted, hgd]
  rw [if_pos hw]
  exact wp_store_row ty x y ho g cells hx hy t old hg hi hold h1 (h _ (blk_setRowR hg) (grown_setRowR _) (by simp [World.setRow]))
def noDefer (ops : Array Oper) : Bool := ops.all fun o => match o.op with | .defer _ => false | _ => true
theorem noDefer_of {ops : Array Oper} (h : noDefer ops = true) : ∀ (j : Nat) (o : Oper) (c : Call), ops[j]? = some o → o.op ≠ .defer c := fun j o c ho e => by
  have := (Array.all_eq_true'.1 h) o (Array.mem_of_getElem? ho)
  rw [e] at this
  cases this
theorem below_set {B P i : Nat} {w w1 : World} (h : Below B w w1) (hP : B ≤ P) (u : Value) : Below B w (w1.setCell ⟨P, i, none⟩ u) :=
  ⟨h.os, h.tape, h.output, by rw [size_setCell]; exact h.size, fun k hk => (Below.heap_setCell w1 ⟨P, i, none⟩ u k (by show k ≠ P; omega)).trans (h.block k hk)⟩
theorem blk_swap {w : World} {P : Nat} {t : TypeId} {x y : Value} (h : Blk w P t #[x, y]) (a b : Value) : Blk ((w.setCell ⟨P, 0, none⟩ a).setCell ⟨P, 1, none⟩ b) P t #[a, b] := by
  have := (h.set_ 0 a).set_ 1 b
  simpa using this
/-- Two blocks lie as they lay. -/
def Keep2 (B1 B2 : Nat) (A B : World) : Prop := A.heap.size ≤ B.heap.size ∧ B.heap[B1]? = A.heap[B1]? ∧ B.heap[B2]? = A.heap[B2]?
theorem Keep2.trans {B1 B2 : Nat} {A B C : World} (h : Keep2 B1 B2 A B) (k : Keep2 B1 B2 B C) : Keep2 B1 B2 A C := ⟨Nat.le_trans h.1 k.1, k.2.1.trans h.2.1, k.2.2.trans h.2.2⟩
theorem keep2_of {B1 B2 : Nat} {A B : World} (h : Below A.heap.size A B) (h1 : B1 < A.heap.size) (h2 : B2 < A.heap.size) : Keep2 B1 B2 A B := ⟨h.size, h.block _ h1, h.block _ h2⟩
theorem keep2_b {B1 B2 : Nat} {w : World} (h1 : B1 < w.heap.size) (h2 : B2 < w.heap.size) (W : World) (l : Nat) (o o' : Obj) (hl : w.heap.size ≤ l) (_ : W.heap[l]? = some o) (_ : o.isCells = false) (_ : o.isWalk = false) : Keep2 B1 B2 W (W.putObj l o') :=
  ⟨(grownBy_putObj' W l o').size, World.putObj_heap_other (by omega), World.putObj_heap_other (by omega)⟩
theorem Keep2.cell1 {B1 B2 : Nat} {A B : World} (h : Keep2 B1 B2 A B) : B.cell? ⟨B1, 0, none⟩ = A.cell? ⟨B1, 0, none⟩ := World.cell?_of_block h.2.1
theorem Keep2.cell2 {B1 B2 : Nat} {A B : World} (h : Keep2 B1 B2 A B) : B.cell? ⟨B2, 0, none⟩ = A.cell? ⟨B2, 0, none⟩ := World.cell?_of_block h.2.2
set_option maxHeartbeats 1000000 in
theorem pairs_any (m r : Int) (w : World) :
    Calls Try.prog 29 #[.int .i64 m, .int .i64 r] w fun e w' => e = .returned (.func (.func 49) #[] #[.pointer (some ⟨w.heap.size + 1, 0, none⟩), .pointer (some ⟨w.heap.size, 0, none⟩)])
      ∧ w' = (w.alloc (.cells #[.int .i64 m] 3)).alloc (.cells #[.int .i64 r] 3) := by
  go_enter Try.func29, Try.ntmps29
  go_wp2_with (fail)
  go_ret
  exact ⟨rfl, rfl⟩
set_option linter.unusedVariables false in
set_option linter.unusedSimpArgs false in
set_option maxRecDepth 100000 in
set_option maxHeartbeats 16000000 in
theorem pairs1_in (n : Nat) (hn : 1 ≤ n) (l B1 B2 m r : Nat) (hm2 : 2 ≤ m) (hm : m ≤ 1000) (hr : r + 1 < m) (J Jx : List (Nat × Nat) → World → Prop)
    (W : World) (hJ : AbidesFrom W.heap.size J)
    (hY : ∀ pre x W, J pre W → pre.length < m / 2 → YieldAt Fence.wide (n - 1) Try.prog l #[encN x] W fun e W' =>
      (e = .returned (.bool true) ∧ J (pre ++ [x]) W' ∧ Keep2 B1 B2 W W') ∨ (e = .returned (.bool false) ∧ Jx (pre ++ [x]) W'))
    (hlt1 : B1 < W.heap.size) (hlt2 : B2 < W.heap.size) (h1 : W.cell? ⟨B1, 0, none⟩ = some (.int .i64 r)) (h2 : W.cell? ⟨B2, 0, none⟩ = some (.int .i64 m)) (h0 : J [] W) :
    CallsIn Fence.wide n Try.prog 49 #[.func (.yield l) #[] #[], .pointer (some ⟨B1, 0, none⟩), .pointer (some ⟨B2, 0, none⟩)] W fun e W' => (∃ v, e = .returned v) ∧
      ((∃ ys, ys = Fix.pairsN m r ∧ J ys W') ∨ (∃ pre, (∃ k, k ≤ m / 2 ∧ pre = (Fix.pairsN m r).take k) ∧ Jx pre W')) := by
  have hne1 : B1 ≠ W.heap.size := by omega
  have hne2 : B2 ≠ W.heap.size := by omega
  have HY := Lib.hid hY
  have HJ := Lib.hid hJ
  have H1 := Lib.hid h1
  have H2 := Lib.hid h2
  clear hY hJ
  -- the first pair's yield, and what follows it
  refine callsIn_of_wp Try.func49 rfl trivial ?_ rfl
  simp only [Try.ntmps49, List.size_toArray, List.length_cons, List.length_nil, Nat.reduceAdd, Nat.reduceSub, Array.replicate_succ, Array.replicate_zero, List.push_toArray, List.append_toArray, List.nil_append, List.cons_append]
  gi_upto_region 1 with (fail)
  have bX := Blk.new W 51 #[.int .i64 (r : Int), .int .i64 ((m : Int) - 1)]
  have bB : Below W.heap.size W (W.alloc (.cells #[.int .i64 (r : Int), .int .i64 ((m : Int) - 1)] 51)) := (Below.refl _ _).alloc (Nat.le_refl _) _
  generalize hW1 : W.alloc _ = W1 at *
  clear hW1
  obtain ⟨P, hP⟩ : ∃ P, W.heap.size = P := ⟨_, rfl⟩
  have hc1 := (bB.cell (p := ⟨B1, 0, none⟩) hlt1).trans h1
  have hc2 := (bB.cell (p := ⟨B2, 0, none⟩) hlt2).trans h2
  rw [hP] at bX
  rw [hP]
  have hJ1 : ∀ W3, Below W.heap.size W W3 → J [] W3 := fun W3 hB => HJ.out _ _ _ none h0 (grown_of_below hB none) (fun r e => by cases e)
  have HJ1 := Lib.hid hJ1
  clear hJ1
  by_cases hpar : r % 2 = 1
  · have e0 : ((r : Int) % 2 == 1) = true := by simp; omega
    have hx0 := bX.cell 0
    have hx1 := bX.cell 1
    have hf0 := bX.frozen 0
    have hf1 := bX.frozen 1
    gi_upto_region 3 with (fail)
    have bY := blk_swap bX (.int .i64 ((m : Int) - 1)) (.int .i64 (r : Int))
    have bB2 := below_set (i := 1) (below_set (i := 0) bB (Nat.le_of_eq hP) (.int .i64 ((m : Int) - 1))) (Nat.le_of_eq hP) (.int .i64 (r : Int))
    generalize World.setCell _ _ _ = W2 at *
    have HX := Lib.hid (Fix.pair_zero_odd (m := m) (r := r) hm2 hpar)
    clear bX bB hx0 hx1 hf0 hf1 hc1 hc2
    have hx0 := bY.cell 0
    have hx1 := bY.cell 1
    have hJ2 := HJ1.out W2 bB2
    have hmm : 1 ≤ m / 2 := by omega
    have hyy := HY.out [] (Fix.pairI m r 0) W2 hJ2 (by simp; omega)
    rw [show encN (Fix.pairI m r 0) = encI ( (m : Int) - 1, (r : Int) ) by rw [← HX.out]; rfl] at hyy
    obtain ⟨fn, tmps, assign, body, hy, hR⟩ := hyy
    clear HJ1 hJ2
    gi_wp2
    refine hR.mono ?_
    rintro e W3 (⟨rfl, hJ3, hk3⟩ | ⟨rfl, hJx3⟩)
    · have hB3 : Keep2 B1 B2 W W3 := (keep2_of bB2 hlt1 hlt2).trans hk3
      have hJ3 : J ((Fix.pairsN m r).take 1) W3 := by rw [show (Fix.pairsN m r).take 1 = [] ++ [Fix.pairI m r 0] from Fix.pairs_one hmm]; exact hJ3
      have hz3 : W.heap.size ≤ W3.heap.size := hB3.1
      clear hx0 hx1 bY bB2 hk3
      gi_wp2
      gi_loopw [5] (fun i wr => ∃ k : Nat, 1 ≤ k ∧ k ≤ m / 2 ∧ i = .int .i64 k ∧ J ((Fix.pairsN m r).take k) wr ∧ Keep2 B1 B2 W wr)
        (fun i _ => m / 2 - (intOf i).toNat)
      case atStart => exact ⟨1, Nat.le_refl _, hmm, rfl, hJ3, hB3⟩
      case round =>
        obtain ⟨k, hk1, hk, rfl, hJs, hnx⟩ := hrel
        have hsz := hnx.1
        have hl1 : B1 < wr.heap.size := by omega
        have hl2 : B2 < wr.heap.size := by omega
        have c1' := hnx.cell1.trans H1.out
        have c2' := hnx.cell2.trans H2.out
        by_cases hlt : k < m / 2
        · have hlt' : (k : Int) < (m : Int) / 2 := by omega
          have HN := Lib.hid (Fix.pairsN_get (r := r) hlt)
          have HJs := Lib.hid hJs
          clear hJs
          gi_upto_region 7 with (fail)
          have Hb1 := Lib.hid hl1
          refine wpIn_region_held (.inl rfl) (noDefer_of (by kernel_rfl)) (S := fun W => Below wr.heap.size wr W) (hm := by kernel_rfl) (hS := below_drewN (Below.refl _ _) 1) (h := fun Hd => ?_)
          have Hd : Below wr.heap.size wr wr.drew := below_drewN (Below.refl _ _) 1
          have Zd : wr.heap.size ≤ wr.drew.heap.size := Nat.le_refl _
          generalize World.drew wr = wd at *
          refine wpAnyH_take (i := 0) (v := ?_) rfl (by kernel_rfl) (by kernel_rfl) (by kernel_rfl) (fun _ _ _ h => by cases h.1) (Or.inl ⟨by rfl, ?_⟩) Hd ?_
          rotate_left
          · intro wS hSw
            have c1 := (hSw.cell (p := ⟨B1, 0, none⟩) hl1).trans c1'
            go_simp
            try with_reducible rfl
          try simp only [List.getElem_toArray, List.getElem_cons_zero, List.getElem_cons_succ, Act.put, List.setIfInBounds_toArray, List.set_cons_zero, List.set_cons_succ]
          refine wpAnyH_take (i := 1) (v := ?_) rfl (by kernel_rfl) (by kernel_rfl) (by kernel_rfl) (fun _ _ _ h => by cases h.1) (Or.inl ⟨by rfl, ?_⟩) Hd ?_
          rotate_left
          · intro wS hSw
            go_simp
            try with_reducible rfl
          try simp only [List.getElem_toArray, List.getElem_cons_zero, List.getElem_cons_succ, Act.put, List.setIfInBounds_toArray, List.set_cons_zero, List.set_cons_succ]
          refine wpAnyH_take (i := 2) (v := ?_) rfl (by kernel_rfl) (by kernel_rfl) (by kernel_rfl) (fun _ _ _ h => by cases h.1) (Or.inl ⟨by rfl, ?_⟩) Hd ?_
          rotate_left
          · intro wS hSw
            have u_86147 : IntKind.i64.wrap ((r : Int) + (k : Int)) = (r : Int) + (k : Int) := IntWalk.i64_in _ (by omega)
            go_simp
            try with_reducible rfl
          try simp only [List.getElem_toArray, List.getElem_cons_zero, List.getElem_cons_succ, Act.put, List.setIfInBounds_toArray, List.set_cons_zero, List.set_cons_succ]
          refine wpAnyH_take (i := 3) (v := ?_) rfl (by kernel_rfl) (by kernel_rfl) (by kernel_rfl) (fun _ _ _ h => by cases h.1) (Or.inl ⟨by rfl, ?_⟩) Hd ?_
          rotate_left
          · intro wS hSw
            have c2 := (hSw.cell (p := ⟨B2, 0, none⟩) hl2).trans c2'
            go_simp
            try with_reducible rfl
          try simp only [List.getElem_toArray, List.getElem_cons_zero, List.getElem_cons_succ, Act.put, List.setIfInBounds_toArray, List.set_cons_zero, List.set_cons_succ]
          refine wpAnyH_take (i := 4) (v := ?_) rfl (by kernel_rfl) (by kernel_rfl) (by kernel_rfl) (fun _ _ _ h => by cases h.1) (Or.inl ⟨by rfl, ?_⟩) Hd ?_
          rotate_left
          · intro wS hSw
            have u_57582 : IntKind.i64.wrap ((m : Int) - 1) = (m : Int) - 1 := IntWalk.i64_in _ (by omega)
            go_simp
            try with_reducible rfl
          try simp only [List.getElem_toArray, List.getElem_cons_zero, List.getElem_cons_succ, Act.put, List.setIfInBounds_toArray, List.set_cons_zero, List.set_cons_succ]
          refine wpAnyH_take (i := 5) (v := ?_) rfl (by kernel_rfl) (by kernel_rfl) (by kernel_rfl) (fun _ _ _ h => by cases h.1) (Or.inl ⟨by rfl, ?_⟩) Hd ?_
          rotate_left
          · intro wS hSw
            have u_57582 : IntKind.i64.wrap ((m : Int) - 1) = (m : Int) - 1 := IntWalk.i64_in _ (by omega)
            have hne0 : ¬ (m : Int) - 1 = 0 := by omega
            have t_1 : Int.tmod ((r : Int) + (k : Int)) ((m : Int) - 1) = ((r : Int) + (k : Int)) % ((m : Int) - 1) := Int.tmod_eq_emod_of_nonneg (by omega)
            have t_2 : Int.tmod ((r : Int) + (m : Int) - 1 - (k : Int)) ((m : Int) - 1) = ((r : Int) + (m : Int) - 1 - (k : Int)) % ((m : Int) - 1) := Int.tmod_eq_emod_of_nonneg (by omega)
            go_simp
            try with_reducible rfl
          try simp only [List.getElem_toArray, List.getElem_cons_zero, List.getElem_cons_succ, Act.put, List.setIfInBounds_toArray, List.set_cons_zero, List.set_cons_succ]
          refine wpAnyH_take (i := 6) (v := ?_) rfl (by kernel_rfl) (by kernel_rfl) (by kernel_rfl) (fun _ _ _ h => by cases h.1) (Or.inl ⟨by rfl, ?_⟩) Hd ?_
          rotate_left
          · intro wS hSw
            have c1 := (hSw.cell (p := ⟨B1, 0, none⟩) hl1).trans c1'
            go_simp
            try with_reducible rfl
          try simp only [List.getElem_toArray, List.getElem_cons_zero, List.getElem_cons_succ, Act.put, List.setIfInBounds_toArray, List.set_cons_zero, List.set_cons_succ]
          refine wpAnyH_take (i := 7) (v := ?_) rfl (by kernel_rfl) (by kernel_rfl) (by kernel_rfl) (fun _ _ _ h => by cases h.1) (Or.inl ⟨by rfl, ?_⟩) Hd ?_
          rotate_left
          · intro wS hSw
            have c2 := (hSw.cell (p := ⟨B2, 0, none⟩) hl2).trans c2'
            go_simp
            try with_reducible rfl
          try simp only [List.getElem_toArray, List.getElem_cons_zero, List.getElem_cons_succ, Act.put, List.setIfInBounds_toArray, List.set_cons_zero, List.set_cons_succ]
          refine wpAnyH_take (i := 8) (v := ?_) rfl (by kernel_rfl) (by kernel_rfl) (by kernel_rfl) (fun _ _ _ h => by cases h.1) (Or.inl ⟨by rfl, ?_⟩) Hd ?_
          rotate_left
          · intro wS hSw
            have u_77585 : IntKind.i64.wrap ((r : Int) + (m : Int)) = (r : Int) + (m : Int) := IntWalk.i64_in _ (by omega)
            go_simp
            try with_reducible rfl
          try simp only [List.getElem_toArray, List.getElem_cons_zero, List.getElem_cons_succ, Act.put, List.setIfInBounds_toArray, List.set_cons_zero, List.set_cons_succ]
          refine wpAnyH_take (i := 9) (v := ?_) rfl (by kernel_rfl) (by kernel_rfl) (by kernel_rfl) (fun _ _ _ h => by cases h.1) (Or.inl ⟨by rfl, ?_⟩) Hd ?_
          rotate_left
          · intro wS hSw
            have u_96045 : IntKind.i64.wrap ((r : Int) + (m : Int) - 1) = (r : Int) + (m : Int) - 1 := IntWalk.i64_in _ (by omega)
            go_simp
            try with_reducible rfl
          try simp only [List.getElem_toArray, List.getElem_cons_zero, List.getElem_cons_succ, Act.put, List.setIfInBounds_toArray, List.set_cons_zero, List.set_cons_succ]
          refine wpAnyH_take (i := 10) (v := ?_) rfl (by kernel_rfl) (by kernel_rfl) (by kernel_rfl) (fun _ _ _ h => by cases h.1) (Or.inl ⟨by rfl, ?_⟩) Hd ?_
          rotate_left
          · intro wS hSw
            go_simp
            try with_reducible rfl
          try simp only [List.getElem_toArray, List.getElem_cons_zero, List.getElem_cons_succ, Act.put, List.setIfInBounds_toArray, List.set_cons_zero, List.set_cons_succ]
          refine wpAnyH_take (i := 11) (v := ?_) rfl (by kernel_rfl) (by kernel_rfl) (by kernel_rfl) (fun _ _ _ h => by cases h.1) (Or.inl ⟨by rfl, ?_⟩) Hd ?_
          rotate_left
          · intro wS hSw
            have u_69873 : IntKind.i64.wrap ((r : Int) + (m : Int) - 1 - (k : Int)) = (r : Int) + (m : Int) - 1 - (k : Int) := IntWalk.i64_in _ (by omega)
            go_simp
            try with_reducible rfl
          try simp only [List.getElem_toArray, List.getElem_cons_zero, List.getElem_cons_succ, Act.put, List.setIfInBounds_toArray, List.set_cons_zero, List.set_cons_succ]
          refine wpAnyH_take (i := 12) (v := ?_) rfl (by kernel_rfl) (by kernel_rfl) (by kernel_rfl) (fun _ _ _ h => by cases h.1) (Or.inl ⟨by rfl, ?_⟩) Hd ?_
          rotate_left
          · intro wS hSw
            have c2 := (hSw.cell (p := ⟨B2, 0, none⟩) hl2).trans c2'
            go_simp
            try with_reducible rfl
          try simp only [List.getElem_toArray, List.getElem_cons_zero, List.getElem_cons_succ, Act.put, List.setIfInBounds_toArray, List.set_cons_zero, List.set_cons_succ]
          refine wpAnyH_take (i := 13) (v := ?_) rfl (by kernel_rfl) (by kernel_rfl) (by kernel_rfl) (fun _ _ _ h => by cases h.1) (Or.inl ⟨by rfl, ?_⟩) Hd ?_
          rotate_left
          · intro wS hSw
            have u_57582 : IntKind.i64.wrap ((m : Int) - 1) = (m : Int) - 1 := IntWalk.i64_in _ (by omega)
            go_simp
            try with_reducible rfl
          try simp only [List.getElem_toArray, List.getElem_cons_zero, List.getElem_cons_succ, Act.put, List.setIfInBounds_toArray, List.set_cons_zero, List.set_cons_succ]
          refine wpAnyH_take (i := 14) (v := ?_) rfl (by kernel_rfl) (by kernel_rfl) (by kernel_rfl) (fun _ _ _ h => by cases h.1) (Or.inl ⟨by rfl, ?_⟩) Hd ?_
          rotate_left
          · intro wS hSw
            have u_57582 : IntKind.i64.wrap ((m : Int) - 1) = (m : Int) - 1 := IntWalk.i64_in _ (by omega)
            have hne0 : ¬ (m : Int) - 1 = 0 := by omega
            have t_1 : Int.tmod ((r : Int) + (k : Int)) ((m : Int) - 1) = ((r : Int) + (k : Int)) % ((m : Int) - 1) := Int.tmod_eq_emod_of_nonneg (by omega)
            have t_2 : Int.tmod ((r : Int) + (m : Int) - 1 - (k : Int)) ((m : Int) - 1) = ((r : Int) + (m : Int) - 1 - (k : Int)) % ((m : Int) - 1) := Int.tmod_eq_emod_of_nonneg (by omega)
            go_simp
            try with_reducible rfl
          try simp only [List.getElem_toArray, List.getElem_cons_zero, List.getElem_cons_succ, Act.put, List.setIfInBounds_toArray, List.set_cons_zero, List.set_cons_succ]
          refine wpAnyH_take (i := 15) (v := ?_) rfl (by kernel_rfl) (by kernel_rfl) (by kernel_rfl) (fun _ _ _ h => by cases h.1) (Or.inl ⟨by rfl, ?_⟩) Hd ?_
          rotate_left
          · intro wS hSw
            go_simp
            try with_reducible rfl
          try simp only [List.getElem_toArray, List.getElem_cons_zero, List.getElem_cons_succ, Act.put, List.setIfInBounds_toArray, List.set_cons_zero, List.set_cons_succ]
          refine wpAnyH_ready (rs := [16]) (by kernel_rfl) (by simp) (AllReadyH.cons rfl (fun K hK => ?_) AllReadyH.nil)
          go_simp
          generalize hge : World.alloc _ _ = w1_
          have fp1 : Blk w1_ wd.heap.size 51 (#[.int .i64 0, .int .i64 0]) := by subst hge; exact Blk.new _ _ _
          have hb1 : Below wd.heap.size wd w1_ := by subst hge; exact (Below.refl _ _).alloc (Nat.le_refl _) _
          clear hge
          have lop1 : wr.heap.size ≤ wd.heap.size := Zd
          have Hb1 : Below wr.heap.size wr w1_ := below_of Hd hb1 Hd.size
          have Zb1 : wr.heap.size ≤ w1_.heap.size := Nat.le_trans Zd hb1.size
          refine hK.out _ _ Hb1 fun _ => ?_
          clear hK K
          try simp only [List.getElem_toArray, List.getElem_cons_zero, List.getElem_cons_succ, Act.put, List.setIfInBounds_toArray, List.set_cons_zero, List.set_cons_succ]
          refine wpAnyH_ready (rs := [17]) (by kernel_rfl) (by simp) (AllReadyH.cons rfl (fun K hK => ?_) AllReadyH.nil)
          refine step_put_blkR (by rfl) _ _ _ (by rfl) (wd.heap.size) (#[.int .i64 (((r : Int) + (k : Int)) % ((m : Int) - 1)), .int .i64 (((r : Int) + (m : Int) - 1 - (k : Int)) % ((m : Int) - 1))]) (by rfl) (by rfl) _ _ fp1 (by kernel_rfl) (by rfl) (by simp [Value.oneCell']) ?_
          intro w2_ fp2 hg2 hz2
          have Hb2 : Below wr.heap.size wr w2_ := below_grown Hb1 hg2 Hb1.size (fun k hk => by cases hk; exact lop1)
          have Zb2 : wr.heap.size ≤ w2_.heap.size := Hb2.size
          refine hK.out _ _ Hb2 fun _ => ?_
          clear hK K
          try simp only [List.getElem_toArray, List.getElem_cons_zero, List.getElem_cons_succ, Act.put, List.setIfInBounds_toArray, List.set_cons_zero, List.set_cons_succ]
          refine wpAnyH_done (by kernel_rfl) ?_ _
          refine ⟨rfl, ?_⟩
          obtain ⟨P, hP⟩ : ∃ P, P = wd.heap.size := ⟨_, rfl⟩
          have fP := fp2
          have hBP := Hb2
          have hPl : wr.heap.size ≤ P := by rw [hP]; exact lop1
          rw [← hP] at fP
          rw [← hP]
          clear hP
          generalize w2_ = w9 at *
          have hJ9 : ∀ W3, Below wr.heap.size wr W3 → J ((Fix.pairsN m r).take k) W3 := fun W3 hB => HJ.out _ _ _ none HJs.out (grown_of_below hB none) (fun r e => by cases e)
          have HJ9 := Lib.hid hJ9
          have HBn : ∀ W3, Below wr.heap.size wr W3 → Keep2 B1 B2 W W3 := fun W3 hB => hnx.trans (keep2_of hB hl1 hl2)
          have HBN := Lib.hid HBn
          have hw9 := hBP.size
          clear hJ9 HBn
          by_cases hpk : k % 2 = 0
          · have e9 : ((k : Int) % 2 == 0) = true := by simp; omega
            have hx0 := fP.cell 0
            have hx1 := fP.cell 1
            have hf0 := fP.frozen 0
            have hf1 := fP.frozen 1
            gi_upto_region 10 with (fail)
            have bY := blk_swap fP (.int .i64 (((r : Int) + (m : Int) - 1 - (k : Int)) % ((m : Int) - 1))) (.int .i64 (((r : Int) + (k : Int)) % ((m : Int) - 1)))
            have bB2 := below_set (i := 1) (below_set (i := 0) hBP hPl (.int .i64 (((r : Int) + (m : Int) - 1 - (k : Int)) % ((m : Int) - 1)))) hPl (.int .i64 (((r : Int) + (k : Int)) % ((m : Int) - 1)))
            generalize World.setCell _ _ _ = W2 at *
            have HX := Lib.hid (Fix.pair_even (r := r) hm2 hk1 hlt hpk)
            clear fP hBP hx0 hx1 hf0 hf1
            have hx0 := bY.cell 0
            have hx1 := bY.cell 1
            have hJ2 := HJ9.out W2 bB2
            have hBW := HBN.out W2 bB2
            have HHm := Lib.hid hm2
            have hyy := HY.out _ (Fix.pairI m r k) W2 hJ2 (by rw [List.length_take, Fix.pairsN_length]; omega)
            rw [show encN (Fix.pairI m r k) = encI (((r : Int) + (m : Int) - 1 - (k : Int)) % ((m : Int) - 1), ((r : Int) + (k : Int)) % ((m : Int) - 1)) by rw [← HX.out]; rfl] at hyy
            obtain ⟨fn, tmps, assign, body, hy, hR⟩ := hyy
            clear HJ9 HBN hJ2
            gi_wp2
            refine hR.mono ?_
            rintro e W3 (⟨rfl, hJ3, hk3⟩ | ⟨rfl, hJx3⟩)
            · rw [← take_snoc HN.out] at hJ3
              have hB3 := hBW.trans hk3
              clear hx0 hx1 bY bB2 hk3 hBW
              gi_wp2
              go_roundw
              case rel => exact ⟨k + 1, by omega, by omega, by go_num, hJ3, hB3⟩
              case measure => simp [intOf]; omega
            · gi_wp2
              refine bodyPost_ret (results_none rfl _ _ _) rfl ?_
              exact ⟨⟨_, rfl⟩, .inr ⟨_, ⟨k + 1, by omega, (take_snoc HN.out).symm⟩, hJx3⟩⟩
          · have e9 : ((k : Int) % 2 == 0) = false := by simp; omega
            gi_upto_region 10 with (fail)
            have bY := fP
            have bB2 := hBP
            obtain ⟨W2, hW2⟩ : ∃ W2, w9 = W2 := ⟨_, rfl⟩
            rw [hW2] at bY bB2 ⊢
            clear hW2 fP hBP
            have HX := Lib.hid (Fix.pair_odd (r := r) hm2 hk1 hlt (by omega))
            have hx0 := bY.cell 0
            have hx1 := bY.cell 1
            have hJ2 := HJ9.out W2 bB2
            have hBW := HBN.out W2 bB2
            have HHm := Lib.hid hm2
            have hyy := HY.out _ (Fix.pairI m r k) W2 hJ2 (by rw [List.length_take, Fix.pairsN_length]; omega)
            rw [show encN (Fix.pairI m r k) = encI (((r : Int) + (k : Int)) % ((m : Int) - 1), ((r : Int) + (m : Int) - 1 - (k : Int)) % ((m : Int) - 1)) by rw [← HX.out]; rfl] at hyy
            obtain ⟨fn, tmps, assign, body, hy, hR⟩ := hyy
            clear HJ9 HBN hJ2
            gi_wp2
            refine hR.mono ?_
            rintro e W3 (⟨rfl, hJ3, hk3⟩ | ⟨rfl, hJx3⟩)
            · rw [← take_snoc HN.out] at hJ3
              have hB3 := hBW.trans hk3
              clear hx0 hx1 bY bB2 hk3 hBW
              gi_wp2
              go_roundw
              case rel => exact ⟨k + 1, by omega, by omega, by go_num, hJ3, hB3⟩
              case measure => simp [intOf]; omega
            · gi_wp2
              refine bodyPost_ret (results_none rfl _ _ _) rfl ?_
              exact ⟨⟨_, rfl⟩, .inr ⟨_, ⟨k + 1, by omega, (take_snoc HN.out).symm⟩, hJx3⟩⟩
        · obtain rfl : k = m / 2 := by omega
          have hnl : ¬ ((m / 2 : Nat) : Int) < (m : Int) / 2 := by omega
          gi_wp2
          go_end0
          rw [List.take_of_length_le (by rw [Fix.pairsN_length]; exact Nat.le_refl _)] at hJs
          exact ⟨⟨_, rfl⟩, .inl hJs⟩
    · gi_wp2
      refine bodyPost_ret (results_none rfl _ _ _) rfl ?_
      exact ⟨⟨_, rfl⟩, .inr ⟨_, ⟨1, hmm, (by rw [show (Fix.pairsN m r).take 1 = [] ++ [Fix.pairI m r 0] from Fix.pairs_one hmm])⟩, hJx3⟩⟩
  · have e0 : ((r : Int) % 2 == 1) = false := by simp; omega
    gi_upto_region 3 with (fail)
    have bY := bX
    have bB2 := bB
    obtain ⟨W2, hW2⟩ : ∃ W2, W1 = W2 := ⟨_, rfl⟩
    rw [hW2] at bY bB2 ⊢
    clear hW2
    have HX := Lib.hid (Fix.pair_zero_even (m := m) (r := r) hm2 (by omega))
    clear bX bB hc1 hc2
    have hx0 := bY.cell 0
    have hx1 := bY.cell 1
    have hJ2 := HJ1.out W2 bB2
    have hmm : 1 ≤ m / 2 := by omega
    have hyy := HY.out [] (Fix.pairI m r 0) W2 hJ2 (by simp; omega)
    rw [show encN (Fix.pairI m r 0) = encI ( (r : Int), (m : Int) - 1 ) by rw [← HX.out]; rfl] at hyy
    obtain ⟨fn, tmps, assign, body, hy, hR⟩ := hyy
    clear HJ1 hJ2
    gi_wp2
    refine hR.mono ?_
    rintro e W3 (⟨rfl, hJ3, hk3⟩ | ⟨rfl, hJx3⟩)
    · have hB3 : Keep2 B1 B2 W W3 := (keep2_of bB2 hlt1 hlt2).trans hk3
      have hJ3 : J ((Fix.pairsN m r).take 1) W3 := by rw [show (Fix.pairsN m r).take 1 = [] ++ [Fix.pairI m r 0] from Fix.pairs_one hmm]; exact hJ3
      have hz3 : W.heap.size ≤ W3.heap.size := hB3.1
      clear hx0 hx1 bY bB2 hk3
      gi_wp2
      gi_loopw [5] (fun i wr => ∃ k : Nat, 1 ≤ k ∧ k ≤ m / 2 ∧ i = .int .i64 k ∧ J ((Fix.pairsN m r).take k) wr ∧ Keep2 B1 B2 W wr)
        (fun i _ => m / 2 - (intOf i).toNat)
      case atStart => exact ⟨1, Nat.le_refl _, hmm, rfl, hJ3, hB3⟩
      case round =>
        obtain ⟨k, hk1, hk, rfl, hJs, hnx⟩ := hrel
        have hsz := hnx.1
        have hl1 : B1 < wr.heap.size := by omega
        have hl2 : B2 < wr.heap.size := by omega
        have c1' := hnx.cell1.trans H1.out
        have c2' := hnx.cell2.trans H2.out
        by_cases hlt : k < m / 2
        · have hlt' : (k : Int) < (m : Int) / 2 := by omega
          have HN := Lib.hid (Fix.pairsN_get (r := r) hlt)
          have HJs := Lib.hid hJs
          clear hJs
          gi_upto_region 7 with (fail)
          have Hb1 := Lib.hid hl1
          refine wpIn_region_held (.inl rfl) (noDefer_of (by kernel_rfl)) (S := fun W => Below wr.heap.size wr W) (hm := by kernel_rfl) (hS := below_drewN (Below.refl _ _) 1) (h := fun Hd => ?_)
          have Hd : Below wr.heap.size wr wr.drew := below_drewN (Below.refl _ _) 1
          have Zd : wr.heap.size ≤ wr.drew.heap.size := Nat.le_refl _
          generalize World.drew wr = wd at *
          refine wpAnyH_take (i := 0) (v := ?_) rfl (by kernel_rfl) (by kernel_rfl) (by kernel_rfl) (fun _ _ _ h => by cases h.1) (Or.inl ⟨by rfl, ?_⟩) Hd ?_
          rotate_left
          · intro wS hSw
            have c1 := (hSw.cell (p := ⟨B1, 0, none⟩) hl1).trans c1'
            go_simp
            try with_reducible rfl
          try simp only [List.getElem_toArray, List.getElem_cons_zero, List.getElem_cons_succ, Act.put, List.setIfInBounds_toArray, List.set_cons_zero, List.set_cons_succ]
          refine wpAnyH_take (i := 1) (v := ?_) rfl (by kernel_rfl) (by kernel_rfl) (by kernel_rfl) (fun _ _ _ h => by cases h.1) (Or.inl ⟨by rfl, ?_⟩) Hd ?_
          rotate_left
          · intro wS hSw
            go_simp
            try with_reducible rfl
          try simp only [List.getElem_toArray, List.getElem_cons_zero, List.getElem_cons_succ, Act.put, List.setIfInBounds_toArray, List.set_cons_zero, List.set_cons_succ]
          refine wpAnyH_take (i := 2) (v := ?_) rfl (by kernel_rfl) (by kernel_rfl) (by kernel_rfl) (fun _ _ _ h => by cases h.1) (Or.inl ⟨by rfl, ?_⟩) Hd ?_
          rotate_left
          · intro wS hSw
            have u_86147 : IntKind.i64.wrap ((r : Int) + (k : Int)) = (r : Int) + (k : Int) := IntWalk.i64_in _ (by omega)
            go_simp
            try with_reducible rfl
          try simp only [List.getElem_toArray, List.getElem_cons_zero, List.getElem_cons_succ, Act.put, List.setIfInBounds_toArray, List.set_cons_zero, List.set_cons_succ]
          refine wpAnyH_take (i := 3) (v := ?_) rfl (by kernel_rfl) (by kernel_rfl) (by kernel_rfl) (fun _ _ _ h => by cases h.1) (Or.inl ⟨by rfl, ?_⟩) Hd ?_
          rotate_left
          · intro wS hSw
            have c2 := (hSw.cell (p := ⟨B2, 0, none⟩) hl2).trans c2'
            go_simp
            try with_reducible rfl
          try simp only [List.getElem_toArray, List.getElem_cons_zero, List.getElem_cons_succ, Act.put, List.setIfInBounds_toArray, List.set_cons_zero, List.set_cons_succ]
          refine wpAnyH_take (i := 4) (v := ?_) rfl (by kernel_rfl) (by kernel_rfl) (by kernel_rfl) (fun _ _ _ h => by cases h.1) (Or.inl ⟨by rfl, ?_⟩) Hd ?_
          rotate_left
          · intro wS hSw
            have u_57582 : IntKind.i64.wrap ((m : Int) - 1) = (m : Int) - 1 := IntWalk.i64_in _ (by omega)
            go_simp
            try with_reducible rfl
          try simp only [List.getElem_toArray, List.getElem_cons_zero, List.getElem_cons_succ, Act.put, List.setIfInBounds_toArray, List.set_cons_zero, List.set_cons_succ]
          refine wpAnyH_take (i := 5) (v := ?_) rfl (by kernel_rfl) (by kernel_rfl) (by kernel_rfl) (fun _ _ _ h => by cases h.1) (Or.inl ⟨by rfl, ?_⟩) Hd ?_
          rotate_left
          · intro wS hSw
            have u_57582 : IntKind.i64.wrap ((m : Int) - 1) = (m : Int) - 1 := IntWalk.i64_in _ (by omega)
            have hne0 : ¬ (m : Int) - 1 = 0 := by omega
            have t_1 : Int.tmod ((r : Int) + (k : Int)) ((m : Int) - 1) = ((r : Int) + (k : Int)) % ((m : Int) - 1) := Int.tmod_eq_emod_of_nonneg (by omega)
            have t_2 : Int.tmod ((r : Int) + (m : Int) - 1 - (k : Int)) ((m : Int) - 1) = ((r : Int) + (m : Int) - 1 - (k : Int)) % ((m : Int) - 1) := Int.tmod_eq_emod_of_nonneg (by omega)
            go_simp
            try with_reducible rfl
          try simp only [List.getElem_toArray, List.getElem_cons_zero, List.getElem_cons_succ, Act.put, List.setIfInBounds_toArray, List.set_cons_zero, List.set_cons_succ]
          refine wpAnyH_take (i := 6) (v := ?_) rfl (by kernel_rfl) (by kernel_rfl) (by kernel_rfl) (fun _ _ _ h => by cases h.1) (Or.inl ⟨by rfl, ?_⟩) Hd ?_
          rotate_left
          · intro wS hSw
            have c1 := (hSw.cell (p := ⟨B1, 0, none⟩) hl1).trans c1'
            go_simp
            try with_reducible rfl
          try simp only [List.getElem_toArray, List.getElem_cons_zero, List.getElem_cons_succ, Act.put, List.setIfInBounds_toArray, List.set_cons_zero, List.set_cons_succ]
          refine wpAnyH_take (i := 7) (v := ?_) rfl (by kernel_rfl) (by kernel_rfl) (by kernel_rfl) (fun _ _ _ h => by cases h.1) (Or.inl ⟨by rfl, ?_⟩) Hd ?_
          rotate_left
          · intro wS hSw
            have c2 := (hSw.cell (p := ⟨B2, 0, none⟩) hl2).trans c2'
            go_simp
            try with_reducible rfl
          try simp only [List.getElem_toArray, List.getElem_cons_zero, List.getElem_cons_succ, Act.put, List.setIfInBounds_toArray, List.set_cons_zero, List.set_cons_succ]
          refine wpAnyH_take (i := 8) (v := ?_) rfl (by kernel_rfl) (by kernel_rfl) (by kernel_rfl) (fun _ _ _ h => by cases h.1) (Or.inl ⟨by rfl, ?_⟩) Hd ?_
          rotate_left
          · intro wS hSw
            have u_77585 : IntKind.i64.wrap ((r : Int) + (m : Int)) = (r : Int) + (m : Int) := IntWalk.i64_in _ (by omega)
            go_simp
            try with_reducible rfl
          try simp only [List.getElem_toArray, List.getElem_cons_zero, List.getElem_cons_succ, Act.put, List.setIfInBounds_toArray, List.set_cons_zero, List.set_cons_succ]
          refine wpAnyH_take (i := 9) (v := ?_) rfl (by kernel_rfl) (by kernel_rfl) (by kernel_rfl) (fun _ _ _ h => by cases h.1) (Or.inl ⟨by rfl, ?_⟩) Hd ?_
          rotate_left
          · intro wS hSw
            have u_96045 : IntKind.i64.wrap ((r : Int) + (m : Int) - 1) = (r : Int) + (m : Int) - 1 := IntWalk.i64_in _ (by omega)
            go_simp
            try with_reducible rfl
          try simp only [List.getElem_toArray, List.getElem_cons_zero, List.getElem_cons_succ, Act.put, List.setIfInBounds_toArray, List.set_cons_zero, List.set_cons_succ]
          refine wpAnyH_take (i := 10) (v := ?_) rfl (by kernel_rfl) (by kernel_rfl) (by kernel_rfl) (fun _ _ _ h => by cases h.1) (Or.inl ⟨by rfl, ?_⟩) Hd ?_
          rotate_left
          · intro wS hSw
            go_simp
            try with_reducible rfl
          try simp only [List.getElem_toArray, List.getElem_cons_zero, List.getElem_cons_succ, Act.put, List.setIfInBounds_toArray, List.set_cons_zero, List.set_cons_succ]
          refine wpAnyH_take (i := 11) (v := ?_) rfl (by kernel_rfl) (by kernel_rfl) (by kernel_rfl) (fun _ _ _ h => by cases h.1) (Or.inl ⟨by rfl, ?_⟩) Hd ?_
          rotate_left
          · intro wS hSw
            have u_69873 : IntKind.i64.wrap ((r : Int) + (m : Int) - 1 - (k : Int)) = (r : Int) + (m : Int) - 1 - (k : Int) := IntWalk.i64_in _ (by omega)
            go_simp
            try with_reducible rfl
          try simp only [List.getElem_toArray, List.getElem_cons_zero, List.getElem_cons_succ, Act.put, List.setIfInBounds_toArray, List.set_cons_zero, List.set_cons_succ]
          refine wpAnyH_take (i := 12) (v := ?_) rfl (by kernel_rfl) (by kernel_rfl) (by kernel_rfl) (fun _ _ _ h => by cases h.1) (Or.inl ⟨by rfl, ?_⟩) Hd ?_
          rotate_left
          · intro wS hSw
            have c2 := (hSw.cell (p := ⟨B2, 0, none⟩) hl2).trans c2'
            go_simp
            try with_reducible rfl
          try simp only [List.getElem_toArray, List.getElem_cons_zero, List.getElem_cons_succ, Act.put, List.setIfInBounds_toArray, List.set_cons_zero, List.set_cons_succ]
          refine wpAnyH_take (i := 13) (v := ?_) rfl (by kernel_rfl) (by kernel_rfl) (by kernel_rfl) (fun _ _ _ h => by cases h.1) (Or.inl ⟨by rfl, ?_⟩) Hd ?_
          rotate_left
          · intro wS hSw
            have u_57582 : IntKind.i64.wrap ((m : Int) - 1) = (m : Int) - 1 := IntWalk.i64_in _ (by omega)
            go_simp
            try with_reducible rfl
          try simp only [List.getElem_toArray, List.getElem_cons_zero, List.getElem_cons_succ, Act.put, List.setIfInBounds_toArray, List.set_cons_zero, List.set_cons_succ]
          refine wpAnyH_take (i := 14) (v := ?_) rfl (by kernel_rfl) (by kernel_rfl) (by kernel_rfl) (fun _ _ _ h => by cases h.1) (Or.inl ⟨by rfl, ?_⟩) Hd ?_
          rotate_left
          · intro wS hSw
            have u_57582 : IntKind.i64.wrap ((m : Int) - 1) = (m : Int) - 1 := IntWalk.i64_in _ (by omega)
            have hne0 : ¬ (m : Int) - 1 = 0 := by omega
            have t_1 : Int.tmod ((r : Int) + (k : Int)) ((m : Int) - 1) = ((r : Int) + (k : Int)) % ((m : Int) - 1) := Int.tmod_eq_emod_of_nonneg (by omega)
            have t_2 : Int.tmod ((r : Int) + (m : Int) - 1 - (k : Int)) ((m : Int) - 1) = ((r : Int) + (m : Int) - 1 - (k : Int)) % ((m : Int) - 1) := Int.tmod_eq_emod_of_nonneg (by omega)
            go_simp
            try with_reducible rfl
          try simp only [List.getElem_toArray, List.getElem_cons_zero, List.getElem_cons_succ, Act.put, List.setIfInBounds_toArray, List.set_cons_zero, List.set_cons_succ]
          refine wpAnyH_take (i := 15) (v := ?_) rfl (by kernel_rfl) (by kernel_rfl) (by kernel_rfl) (fun _ _ _ h => by cases h.1) (Or.inl ⟨by rfl, ?_⟩) Hd ?_
          rotate_left
          · intro wS hSw
            go_simp
            try with_reducible rfl
          try simp only [List.getElem_toArray, List.getElem_cons_zero, List.getElem_cons_succ, Act.put, List.setIfInBounds_toArray, List.set_cons_zero, List.set_cons_succ]
          refine wpAnyH_ready (rs := [16]) (by kernel_rfl) (by simp) (AllReadyH.cons rfl (fun K hK => ?_) AllReadyH.nil)
          go_simp
          generalize hge : World.alloc _ _ = w1_
          have fp1 : Blk w1_ wd.heap.size 51 (#[.int .i64 0, .int .i64 0]) := by subst hge; exact Blk.new _ _ _
          have hb1 : Below wd.heap.size wd w1_ := by subst hge; exact (Below.refl _ _).alloc (Nat.le_refl _) _
          clear hge
          have lop1 : wr.heap.size ≤ wd.heap.size := Zd
          have Hb1 : Below wr.heap.size wr w1_ := below_of Hd hb1 Hd.size
          have Zb1 : wr.heap.size ≤ w1_.heap.size := Nat.le_trans Zd hb1.size
          refine hK.out _ _ Hb1 fun _ => ?_
          clear hK K
          try simp only [List.getElem_toArray, List.getElem_cons_zero, List.getElem_cons_succ, Act.put, List.setIfInBounds_toArray, List.set_cons_zero, List.set_cons_succ]
          refine wpAnyH_ready (rs := [17]) (by kernel_rfl) (by simp) (AllReadyH.cons rfl (fun K hK => ?_) AllReadyH.nil)
          refine step_put_blkR (by rfl) _ _ _ (by rfl) (wd.heap.size) (#[.int .i64 (((r : Int) + (k : Int)) % ((m : Int) - 1)), .int .i64 (((r : Int) + (m : Int) - 1 - (k : Int)) % ((m : Int) - 1))]) (by rfl) (by rfl) _ _ fp1 (by kernel_rfl) (by rfl) (by simp [Value.oneCell']) ?_
          intro w2_ fp2 hg2 hz2
          have Hb2 : Below wr.heap.size wr w2_ := below_grown Hb1 hg2 Hb1.size (fun k hk => by cases hk; exact lop1)
          have Zb2 : wr.heap.size ≤ w2_.heap.size := Hb2.size
          refine hK.out _ _ Hb2 fun _ => ?_
          clear hK K
          try simp only [List.getElem_toArray, List.getElem_cons_zero, List.getElem_cons_succ, Act.put, List.setIfInBounds_toArray, List.set_cons_zero, List.set_cons_succ]
          refine wpAnyH_done (by kernel_rfl) ?_ _
          refine ⟨rfl, ?_⟩
          obtain ⟨P, hP⟩ : ∃ P, P = wd.heap.size := ⟨_, rfl⟩
          have fP := fp2
          have hBP := Hb2
          have hPl : wr.heap.size ≤ P := by rw [hP]; exact lop1
          rw [← hP] at fP
          rw [← hP]
          clear hP
          generalize w2_ = w9 at *
          have hJ9 : ∀ W3, Below wr.heap.size wr W3 → J ((Fix.pairsN m r).take k) W3 := fun W3 hB => HJ.out _ _ _ none HJs.out (grown_of_below hB none) (fun r e => by cases e)
          have HJ9 := Lib.hid hJ9
          have HBn : ∀ W3, Below wr.heap.size wr W3 → Keep2 B1 B2 W W3 := fun W3 hB => hnx.trans (keep2_of hB hl1 hl2)
          have HBN := Lib.hid HBn
          have hw9 := hBP.size
          clear hJ9 HBn
          by_cases hpk : k % 2 = 0
          · have e9 : ((k : Int) % 2 == 0) = true := by simp; omega
            have hx0 := fP.cell 0
            have hx1 := fP.cell 1
            have hf0 := fP.frozen 0
            have hf1 := fP.frozen 1
            gi_upto_region 10 with (fail)
            have bY := blk_swap fP (.int .i64 (((r : Int) + (m : Int) - 1 - (k : Int)) % ((m : Int) - 1))) (.int .i64 (((r : Int) + (k : Int)) % ((m : Int) - 1)))
            have bB2 := below_set (i := 1) (below_set (i := 0) hBP hPl (.int .i64 (((r : Int) + (m : Int) - 1 - (k : Int)) % ((m : Int) - 1)))) hPl (.int .i64 (((r : Int) + (k : Int)) % ((m : Int) - 1)))
            generalize World.setCell _ _ _ = W2 at *
            have HX := Lib.hid (Fix.pair_even (r := r) hm2 hk1 hlt hpk)
            clear fP hBP hx0 hx1 hf0 hf1
            have hx0 := bY.cell 0
            have hx1 := bY.cell 1
            have hJ2 := HJ9.out W2 bB2
            have hBW := HBN.out W2 bB2
            have HHm := Lib.hid hm2
            have hyy := HY.out _ (Fix.pairI m r k) W2 hJ2 (by rw [List.length_take, Fix.pairsN_length]; omega)
            rw [show encN (Fix.pairI m r k) = encI (((r : Int) + (m : Int) - 1 - (k : Int)) % ((m : Int) - 1), ((r : Int) + (k : Int)) % ((m : Int) - 1)) by rw [← HX.out]; rfl] at hyy
            obtain ⟨fn, tmps, assign, body, hy, hR⟩ := hyy
            clear HJ9 HBN hJ2
            gi_wp2
            refine hR.mono ?_
            rintro e W3 (⟨rfl, hJ3, hk3⟩ | ⟨rfl, hJx3⟩)
            · rw [← take_snoc HN.out] at hJ3
              have hB3 := hBW.trans hk3
              clear hx0 hx1 bY bB2 hk3 hBW
              gi_wp2
              go_roundw
              case rel => exact ⟨k + 1, by omega, by omega, by go_num, hJ3, hB3⟩
              case measure => simp [intOf]; omega
            · gi_wp2
              refine bodyPost_ret (results_none rfl _ _ _) rfl ?_
              exact ⟨⟨_, rfl⟩, .inr ⟨_, ⟨k + 1, by omega, (take_snoc HN.out).symm⟩, hJx3⟩⟩
          · have e9 : ((k : Int) % 2 == 0) = false := by simp; omega
            gi_upto_region 10 with (fail)
            have bY := fP
            have bB2 := hBP
            obtain ⟨W2, hW2⟩ : ∃ W2, w9 = W2 := ⟨_, rfl⟩
            rw [hW2] at bY bB2 ⊢
            clear hW2 fP hBP
            have HX := Lib.hid (Fix.pair_odd (r := r) hm2 hk1 hlt (by omega))
            have hx0 := bY.cell 0
            have hx1 := bY.cell 1
            have hJ2 := HJ9.out W2 bB2
            have hBW := HBN.out W2 bB2
            have HHm := Lib.hid hm2
            have hyy := HY.out _ (Fix.pairI m r k) W2 hJ2 (by rw [List.length_take, Fix.pairsN_length]; omega)
            rw [show encN (Fix.pairI m r k) = encI (((r : Int) + (k : Int)) % ((m : Int) - 1), ((r : Int) + (m : Int) - 1 - (k : Int)) % ((m : Int) - 1)) by rw [← HX.out]; rfl] at hyy
            obtain ⟨fn, tmps, assign, body, hy, hR⟩ := hyy
            clear HJ9 HBN hJ2
            gi_wp2
            refine hR.mono ?_
            rintro e W3 (⟨rfl, hJ3, hk3⟩ | ⟨rfl, hJx3⟩)
            · rw [← take_snoc HN.out] at hJ3
              have hB3 := hBW.trans hk3
              clear hx0 hx1 bY bB2 hk3 hBW
              gi_wp2
              go_roundw
              case rel => exact ⟨k + 1, by omega, by omega, by go_num, hJ3, hB3⟩
              case measure => simp [intOf]; omega
            · gi_wp2
              refine bodyPost_ret (results_none rfl _ _ _) rfl ?_
              exact ⟨⟨_, rfl⟩, .inr ⟨_, ⟨k + 1, by omega, (take_snoc HN.out).symm⟩, hJx3⟩⟩
        · obtain rfl : k = m / 2 := by omega
          have hnl : ¬ ((m / 2 : Nat) : Int) < (m : Int) / 2 := by omega
          gi_wp2
          go_end0
          rw [List.take_of_length_le (by rw [Fix.pairsN_length]; exact Nat.le_refl _)] at hJs
          exact ⟨⟨_, rfl⟩, .inl hJs⟩
    · gi_wp2
      refine bodyPost_ret (results_none rfl _ _ _) rfl ?_
      exact ⟨⟨_, rfl⟩, .inr ⟨_, ⟨1, hmm, (by rw [show (Fix.pairsN m r).take 1 = [] ++ [Fix.pairI m r 0] from Fix.pairs_one hmm])⟩, hJx3⟩⟩
/-- pairs(m, round): the pairs of the round, in order. -/
theorem pairs_stops (n : Nat) (hn : 1 ≤ n) (B1 B2 m r : Nat) (hm2 : 2 ≤ m) (hm : m ≤ 1000) (hr : r + 1 < m) (w : World) (hlt1 : B1 < w.heap.size) (hlt2 : B2 < w.heap.size) (h1 : w.cell? ⟨B1, 0, none⟩ = some (.int .i64 r)) (h2 : w.cell? ⟨B2, 0, none⟩ = some (.int .i64 m)) :
    SeqStopsK Fence.wide n Try.prog 49 #[.pointer (some ⟨B1, 0, none⟩), .pointer (some ⟨B2, 0, none⟩)] (fun x : Nat × Nat => #[encN x]) (Keep2 B1 B2) (fun ys => ys = Fix.pairsN m r) (fun pre => pre <+: Fix.pairsN m r) (m / 2) w := fun l J Jx W hW hJ _ hY h0 => by
  refine (pairs1_in n hn l B1 B2 m r hm2 hm hr J Jx W hJ hY (Nat.lt_of_lt_of_le hlt1 hW.size) (Nat.lt_of_lt_of_le hlt2 hW.size) ((hW.cell (p := ⟨B1, 0, none⟩) hlt1).trans h1) ((hW.cell (p := ⟨B2, 0, none⟩) hlt2).trans h2) h0).mono ?_
  rintro e W' ⟨he, ⟨ys, rfl, hj⟩ | ⟨pre, ⟨k, hk, rfl⟩, hj⟩⟩
  · exact ⟨he, .inl ⟨_, rfl, hj⟩⟩
  · exact ⟨he, .inr ⟨_, List.take_prefix _ _, hj⟩⟩
end Go.Proofs.Ytpmkebejfnflfaa
