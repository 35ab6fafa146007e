/- Walks and plain laws that the statement rests on: MR2, MR3. -/
import Derived.Lib.AppendStr
import Derived.Test.YtkflpoiobpblhaaGreatP00
import Derived.Test.YtkflpoiobpblhaaGreatP11
import Derived.Test.YtkflpoiobpblhaaGreatP27
import Derived.Test.YtkflpoiobpblhaaGreatPS
import Derived.Test.YtkflpoiobpblhaaGreatP44
set_option maxRecDepth 100000
set_option maxHeartbeats 16000000
set_option linter.unusedVariables false
set_option linter.unusedSimpArgs false
namespace Go.Proofs.YtkflpoiobpblhaaGreat
open Go.RowKit
theorem strCells_eq (s : ByteArray) : Lib.strCells s = bytesV (strL s) := by
 unfold Lib.strCells strL bytesV
 rw [List.map_map]; rfl
def Own8 (w : World) (base : Nat) (v : Value) (l : List Nat) : Prop := w.ownsRow base 5 1 v l.length (bytesV l)
section
variable {w w' : World} {base : Nat} {v : Value} {l : List Nat}
theorem Own8.below (h : Own8 w base v l) (hb : Below w.heap.size w w') : Own8 w' base v l := own_below h hb
theorem Own8.lt (h : Own8 w base v l) : ∀ k, v.ownBlock = some k → base ≤ k := own_base h
theorem Own8.form (h : Own8 w base v l) : ∃ A c, v = .slice A l.length c ∧ l.length ≤ c ∧ c ≤ maxLen ∧ Cells w A (bytesV l) := by
 obtain ⟨A, c, rfl, h1, h2, -⟩ := own_form h
 exact ⟨A, c, rfl, h1, h2, Cells.own h⟩
theorem Own8.kept {g : Nat} (h : Own8 w base v l) (hg : w.grownBy w' (some g)) (hne : g < base) : Own8 w' base v l := by
 refine World.ownsRow.kept h hg ?_
 exact .inr (fun e => by have := own_base h _ e; omega)
theorem Own8.empty (w : World) (hb : base ≤ w.heap.size) : Own8 (w.alloc (.cells #[] 5)) base (.slice (some ⟨w.heap.size, 0, none⟩) 0 0) [] := by
 unfold Own8
 rw [show bytesV [] = [] by unfold bytesV; rfl]
 exact World.ownsRow_lit (size := 1) w #[] 0 hb (Nat.zero_le _) rfl
theorem Own8.new (hb : base ≤ w.heap.size) (l : List Nat) {n : Nat} (hn : l.length = n) (hm : n ≤ 1000) (h : w.alloc (.cells (arrK .u8 l) 5) = w') : Own8 w' base (.slice (some ⟨w.heap.size, 0, none⟩) n n) l := by
 subst hn; subst h
 have := World.ownsRow_lit (base := base) (e := 5) (size := 1) w (arrK .u8 l) l.length hb (by unfold maxLen; omega) (by rw [arrK_size, Nat.mul_one])
 rw [arrK_bytesV] at this
 exact this
end
section
variable {w : World} {ops : Array Oper} {rest : List Oper} {o : Oper} {a : Act} {Q : Exit → Act → World → Prop} {K : Act → World → Prop} {E : Prop} {base : Nat} {v : Value} {l : List Nat}
theorem run_app8 (ty : TypeId) (h : Own8 w base v l) {A : Option Addr} {m c : Nat} {ys : List Nat} (hy : ys.length = m) (hr : Cells w A (bytesV ys)) (hn : l.length + m ≤ 100000000) (hb : base ≤ w.heap.size) :
    ∃ v' w', (Builtin.append_ #[22, 22] ty #[v, .slice A m c]).run Tryz.prog w = .ok v' w' ∧ Own8 w' base v' (l ++ ys) ∧ w.grownBy w' v.ownBlock := by
 obtain ⟨v', w', h1, h2, h3, -⟩ := run_append_cells (P := Tryz.prog) w base 22 ty 5 (.int .u8 0) 1 1 (by kernel_rfl) (by kernel_rfl) rfl (by omega) v l.length (bytesV l) h A m c (bytesV ys) (by rw [bytesV_length, hy, Nat.mul_one]) hr (bytesV_one _) (by unfold maxLen; omega) (by omega) hb
 refine ⟨v', w', h1, ?_, h3⟩
 unfold Own8
 rw [bytesV_append, List.length_append, hy]
 exact h2
theorem run_appS (ty : TypeId) (h : Own8 w base v l) (s : ByteArray) (hn : l.length + s.size ≤ 100000000) (hb : base ≤ w.heap.size) :
    ∃ v' w', (Builtin.append_ #[22, 9] ty #[v, .string s]).run Tryz.prog w = .ok v' w' ∧ Own8 w' base v' (l ++ strL s) ∧ w.grownBy w' v.ownBlock := by
 obtain ⟨i0, hi0, hz0, hz1, hz2⟩ := info_parts (P := Tryz.prog) (e := 5) (z := .int .u8 0) (size := 1) (bytes := 1) (by kernel_rfl)
 obtain ⟨v', w', h1, h2, h3, -⟩ := Lib.run_append_own_string (P := Tryz.prog) w base 22 9 ty 5 i0 (by kernel_rfl) (by kernel_rfl) hi0 hz0 hz1 hz2 v l.length (bytesV l) h s (by unfold maxLen; omega) (by omega) hb
 refine ⟨v', w', h1, ?_, h3⟩
 unfold Own8
 rw [bytesV_append, List.length_append, strL_length, ← strCells_eq]
 exact h2
theorem app8 (hgd : o.guard = none) (s x : Operand) (ho : o.op = .call { callee := .builtin .append, args := #[s, x], argTypes := #[22, 22] }) (h : Own8 w base v l) (hs : a.eval s = v) {A : Option Addr} {m c : Nat} {ys : List Nat} (hx : a.eval x = .slice A m c) (hy : ys.length = m) (hr : Cells w A (bytesV ys))
    (hn : l.length + m ≤ 100000000) (hb : base ≤ w.heap.size) (hK : ∀ v' w', Own8 w' base v' (l ++ ys) → w.grownBy w' v.ownBlock → wpList Tryz.prog ops Q rest (a.put o.dst v') w') : wpList Tryz.prog ops Q (o :: rest) a w := by
 obtain ⟨v', w', h1, h2, h3⟩ := run_app8 o.type h hy hr (c := c) hn hb
 exact wpList_plain hgd fun _ hk => wp_append_of ho hs hx h1 (hk _ _ (hK v' w' h2 h3))
theorem appS (hgd : o.guard = none) (s x : Operand) (ho : o.op = .call { callee := .builtin .append, args := #[s, x], argTypes := #[22, 9] }) (h : Own8 w base v l) (hs : a.eval s = v) {t : ByteArray} (hx : a.eval x = .string t)
    (hn : l.length + t.size ≤ 100000000) (hb : base ≤ w.heap.size) (hK : ∀ v' w', Own8 w' base v' (l ++ strL t) → w.grownBy w' v.ownBlock → wpList Tryz.prog ops Q rest (a.put o.dst v') w') : wpList Tryz.prog ops Q (o :: rest) a w := by
 obtain ⟨v', w', h1, h2, h3⟩ := run_appS o.type h t hn hb
 refine wpList_plain hgd fun _ hk => ?_
 unfold Oper.wp execOp
 simp only [ho, resolve, invoke, builtin, Sem.run_bind, Sem.run_pure, Result.andThen_ok, List.map_toArray, List.map_cons, List.map_nil, hs, hx, h1]
 exact hk _ _ (hK v' w' h2 h3)
theorem st8 (hgd : o.guard = none) (s x : Operand) (ho : o.op = .call { callee := .builtin .append, args := #[s, x], argTypes := #[22, 22] }) (h : Own8 w base v l) (hs : a.eval s = v) {A : Option Addr} {m c : Nat} {ys : List Nat} (hx : a.eval x = .slice A m c) (hy : ys.length = m) (hr : Cells w A (bytesV ys))
    (hn : l.length + m ≤ 100000000) (hb : base ≤ w.heap.size) (hK : ∀ v' w', Own8 w' base v' (l ++ ys) → w.grownBy w' v.ownBlock → K (a.put o.dst v') w') : if Region.wanted o (yielded ops a.tmps) = true then Oper.wp Tryz.prog o a w K Q else E := by
 obtain ⟨v', w', h1, h2, h3⟩ := run_app8 o.type h hy hr (c := c) hn hb
 have hw : Region.wanted o (yielded ops a.tmps) = true := by simp [Region.wanted, hgd]
 rw [if_pos hw]
 exact wp_append_of ho hs hx h1 (hK v' w' h2 h3)
theorem stS (hgd : o.guard = none) (s x : Operand) (ho : o.op = .call { callee := .builtin .append, args := #[s, x], argTypes := #[22, 9] }) (h : Own8 w base v l) (hs : a.eval s = v) {t : ByteArray} (hx : a.eval x = .string t)
    (hn : l.length + t.size ≤ 100000000) (hb : base ≤ w.heap.size) (hK : ∀ v' w', Own8 w' base v' (l ++ strL t) → w.grownBy w' v.ownBlock → K (a.put o.dst v') w') : if Region.wanted o (yielded ops a.tmps) = true then Oper.wp Tryz.prog o a w K Q else E := by
 obtain ⟨v', w', h1, h2, h3⟩ := run_appS o.type h t hn hb
 have hw : Region.wanted o (yielded ops a.tmps) = true := by simp [Region.wanted, hgd]
 rw [if_pos hw]
 unfold Oper.wp execOp
 simp only [ho, resolve, invoke, builtin, Sem.run_bind, Sem.run_pure, Result.andThen_ok, List.map_toArray, List.map_cons, List.map_nil, hs, hx, h1]
 exact hK v' w' h2 h3
end
namespace Mir
def numP (n k : Nat) : List Nat := (List.range k).map (nbyte n)
theorem numP_succ (n k : Nat) : numP n (k + 1) = numP n k ++ [nbyte n k] := by unfold numP; rw [List.range_succ, List.map_append]; rfl
theorem numP_length (n k : Nat) : (numP n k).length = k := by simp [numP]
end Mir
theorem rnumber_any (n : Nat) (w : World) (hn : n < 9223372036854775808) :
    Calls Tryz.prog 74 #[.int .i64 n] w fun e w' => ∃ v, e = .returned v ∧ Own8 w' w.heap.size v (Mir.numS n) ∧ Below w.heap.size w w' := by
 go_enter Tryz.func74, Tryz.ntmps74
 go_wp2_with fail
 generalize hge : World.alloc _ _ = w1
 have HO := θ (show Own8 w1 w.heap.size (.slice (some ⟨w.heap.size, 0, none⟩) 0 0) (Mir.numP n 0) by subst hge; exact Own8.empty w (Nat.le_refl _))
 have HB := θ (al1 hge)
 clear hge
 go_loopw [3, 4] (fun v i W => ∃ k : Nat, k ≤ 8 ∧ i = .int .i64 (7 - (k : Int)) ∧ Hid (Own8 W w.heap.size v (Mir.numP n k)) ∧ Hid (Below w.heap.size w W)) (fun _ i _ => (intOf i + 1).toNat)
 case atStart => exact ⟨0, by decide, rfl, HO, HB⟩
 obtain ⟨wk, rfl⟩ : ∃ wk : World, wk = wr := ⟨_, rfl⟩
 obtain ⟨k, hk, rfl, hO, hB⟩ := hrel
 by_cases hlt : k < 8
 · obtain ⟨j, hj⟩ : ∃ j : Nat, (7 : Int) - (k : Int) = (j : Int) := ⟨7 - k, by omega⟩
   have hjk : 7 - k = j := by omega
   have Hj := θ hj
   rw [hj]
   have hj8 : j ≤ 7 := by omega
   have HP := θ (Mir.numP_succ n k)
   have hb1 : Mir.nbyte n k < 256 := Nat.mod_lt _ (by decide)
   have hv : ((n : Int) / 2 ^ (8 * j) % 256) = ((Mir.nbyte n k : Nat) : Int) := by
    unfold Mir.nbyte
    rw [hjk, Nat.shiftRight_eq_div_pow]
    push_cast
    rfl
   obtain ⟨A, c, rfl, h1, h2, -⟩ := hO.out.form
   rw [Mir.numP_length] at hO h1 ⊢
   clear hj hjk
   have hN := θ (show Cells (wk.alloc (.cells #[.int .u8 (Mir.nbyte n k : Int)] 5)) (some ⟨wk.heap.size, 0, none⟩) (bytesV [Mir.nbyte n k]) by
    have := cells_blk (Blk.new wk 5 #[.int .u8 (Mir.nbyte n k : Int)])
    rwa [show (#[Value.int .u8 (Mir.nbyte n k : Int)]).toList = bytesV [Mir.nbyte n k] by unfold bytesV; rfl] at this)
   have hb0 := θ ((Below.refl wk.heap.size wk).alloc (Nat.le_refl _) (.cells #[.int .u8 (Mir.nbyte n k : Int)] 5))
   go_wp2_with (
    (at_builtin
     refine app8 rfl (.tmp 10) (.tmp 17) rfl (hO.out.below hb0.out) rfl (A := some ⟨wk.heap.size, 0, none⟩) (ys := [Mir.nbyte n k]) rfl rfl hN.out (by rw [Mir.numP_length]; omega) (Nat.le_trans hB.out.size hb0.out.size) ?_
     intro v3 w3 hO3' hg3
     have hO3 := θ hO3'
     have hB3 := θ (below_grown (below_of hB.out hb0.out hB.out.size) hg3 (Nat.le_trans hB.out.size hb0.out.size) hO.out.lt)
     clear hg3 hO3'))
   go_roundw
   case rel => exact ⟨k + 1, by omega, by have := Hj.out; go_num, θ (by rw [HP.out]; exact hO3.out), hB3⟩
   case measure => simp [intOf]
 obtain rfl : k = 8 := by omega
 go_wp2_with fail
 go_ret
 exact ⟨_, rfl, hO.out, hB.out⟩
theorem rleaf_any (s : ByteArray) (D : Option Addr) (md cd : Nat) (dat : List Nat) (gon : Bool) (w : World) (hD : Cells w D (bytesV dat)) (hmd : dat.length = md) (hs : s.size ≤ 1000) (hm : md ≤ 900000) (h8 : ∀ b ∈ dat, b < 256) :
    Calls Tryz.prog 73 #[.agg #[.string s, .slice D md cd, .bool gon]] w fun e w' => e = .returned (.agg (arrK .u8 (Mir.chLeaf ((s, dat), gon)))) ∧ Below w.heap.size w w' := by
 have HD := θ hD
 have Hmd := θ hmd
 have H8 := θ h8
 have hw : IntKind.u8.wrap (s.size : Int) = ((s.size % 256 : Nat) : Int) := by rw [IntKind.wrap_u8]; omega
 obtain ⟨z, hz⟩ := exq (s.size % 256)
 rw [hz] at hw
 have hz256 : z < 256 := by omega
 obtain ⟨gb, hgb⟩ : ∃ g : Nat, (if gon then 1 else 0) = g := ⟨_, rfl⟩
 have hg1 : gb ≤ 1 := by rw [← hgb]; split <;> omega
 have hlf : Mir.chLeaf ((s, dat), gon) = tagS (strL Mir.changeT) ([gb, z] ++ strL s ++ dat) := by
  unfold Mir.chLeaf Mir.headS
  simp only [hz, hgb]
 have dD := θ (show IsD (Mir.chLeaf ((s, dat), gon)) by rw [hlf]; exact tagS_isD _ _)
 obtain ⟨lf, hl⟩ := exq (Mir.chLeaf ((s, dat), gon))
 rw [hl] at hlf dD ⊢
 have HT := θ (fun A N c W (hN : ([gb, z] ++ strL s ++ dat).length = N) h => rtagged_any ⟨#[99, 104, 97, 110, 103, 101]⟩ A N c ([gb, z] ++ strL s ++ dat) W h hN (by rw [← hN, List.length_append, List.length_append, strL_length, hmd]; simp; omega)
  ((ByteL.append (byteL_of (by intro b hb; simp at hb; rcases hb with rfl | rfl <;> omega)) (strL_byte s)).append (byteL_of h8)) (by decide))
 rw [show tagS (strL ⟨#[99, 104, 97, 110, 103, 101]⟩) ([gb, z] ++ strL s ++ dat) = lf from hlf.symm] at HT
 have hgc : gon = true ∧ gb = 1 ∨ gon = false ∧ gb = 0 := by cases gon <;> simp at hgb <;> simp [← hgb]
 clear hD hmd h8 hz hlf hl hgb
 go_enter Tryz.func73, Tryz.ntmps73
 go_upto_region 1 with fail
 generalize hge : World.alloc (World.alloc _ _) _ = w1
 have HX := θ (show Blk w1 w.heap.size 66 #[.string s, .slice D md cd, .bool gon] by subst hge; exact (blk_two w _ (arrK .u8 z32) 66 29).1)
 have HR := θ (show Blk w1 (w.heap.size + 1) 29 (arrK .u8 z32) by subst hge; exact (blk_two w _ (arrK .u8 z32) 66 29).2)
 have HB := θ (al2 hge)
 clear hge
 have x0 : w1.cell? ⟨w.heap.size, 0, none⟩ = some (.string s) := HX.out.cell 0
 have x1 : w1.cell? ⟨w.heap.size, 1, none⟩ = some (.slice D md cd) := HX.out.cell 1
 have x2 : w1.cell? ⟨w.heap.size, 2, none⟩ = some (.bool gon) := HX.out.cell 2
 have hX1 : w.heap.size + 1 < w1.heap.size := HR.out.lt
 have y0 : ∀ o : Obj, (w1.alloc o).cell? ⟨w.heap.size, 0, none⟩ = some (.string s) := fun o => (HX.out.alloc o).cell 0
 rcases hgc with ⟨rfl, rfl⟩ | ⟨rfl, rfl⟩
 all_goals
  go_wp2_with (first
   | (at_builtin
      refine app8 rfl (.tmp 18) (.tmp 21) rfl hO2.out rfl rfl Hmd.out (HD.out.below (below_of HB.out hb2.out HB.out.size)) (by rw [List.length_append, strL_length]; simp; omega) hb2.out.size ?_
      intro v3 w3 hO3 hg3
      have hb3 := θ (below_grown hb2.out hg3 hb2.out.size hO2.out.lt)
      obtain ⟨A3, c3, rfl, -, -, hC3⟩ := hO3.form
      have HC3 := θ hC3
      clear hg3 hO3 hC3)
   | (at_builtin
      refine appS rfl (.tmp 13) (.tmp 16) rfl (by first | exact (Own8.new (base := w1.heap.size) (Nat.le_refl _) [1, z] (n := 2) rfl (by decide) rfl) | exact (Own8.new (base := w1.heap.size) (Nat.le_refl _) [0, z] (n := 2) rfl (by decide) rfl)) rfl rfl (by simp; omega) (by simp) ?_
      intro v2 w2 hO2' hg2
      have hO2 := θ hO2'
      have hb2 := θ (below_grown ((Below.refl w1.heap.size w1).alloc (Nat.le_refl _) _) hg2 (by simp) (by first | exact (Own8.new (base := w1.heap.size) (Nat.le_refl _) [1, z] (n := 2) rfl (by decide) rfl).lt | exact (Own8.new (base := w1.heap.size) (Nat.le_refl _) [0, z] (n := 2) rfl (by decide) rfl).lt))
      have u1 : w2.cell? ⟨w.heap.size, 1, none⟩ = some (.slice D md cd) := (HX.out.below hb2.out).cell 1
      clear hg2 hO2'))
  refine (HT.out A3 _ c3 w3 (by simp) HC3.out).mono ?_
  rintro e w4 ⟨rfl, hb4⟩
  have hb4' := bo hb3 hb4
  have HR4 := θ (HR.out.below hb4')
  have HB4 := θ (below_of HB.out hb4' HB.out.size)
  clear hb4 hb4' y0 u1 x0 x1 x2
  go_wp2_with (
   (refine wpList_put_blk rfl 29 (.tmp 2) (.tmp 23) rfl (w.heap.size + 1) (arrK .u8 lf) rfl rfl 29 (arrK .u8 z32) HR4.out (info32 dD.out.1) (by rw [len32 dD.out.1, len32 z32_length]) (arrK_all _ _) ?_
    intro w5 HZ hg5 hz5
    have HD5 := θ HZ
    have HB5 := below_grown HB4.out hg5 HB4.out.size (by simp)
    clear hg5 hz5 HZ))
  exact ret_row rfl (w.heap.size + 1) 29 (arrK .u8 lf) (.array 32 5) rfl HD5.out (by kernel_rfl) rfl (info32 dD.out.1) rfl ⟨rfl, HB5⟩
theorem rmessage_any (no : Nat) (st : List Nat) (A : Option Addr) (n c : Nat) (l : List Mir.Ch) (s0 s1 s2 s3 : Value) (w : World) (hst : IsD st) (hl : l.length = n) (hn : n ≤ 70000) (hno : no < 9223372036854775808) (hC : ChangesC w A l)
    (hs : ∀ x ∈ l, x.1.1.size ≤ 64 ∧ x.1.2.length ≤ 900000) :
    Calls Tryz.prog 36 #[.agg (Mir.verA no st (.slice A n c) s0 s1 s2 s3)] w fun e w' => ∃ A' c', e = .returned (.slice A' 72 c') ∧ 72 ≤ c' ∧ c' ≤ maxLen ∧ Cells w' A' (bytesV (Mir.mesS no st l)) ∧ Below w.heap.size w w' := by
 have h0 := Mir.verA_0 no st (.slice A n c) s0 s1 s2 s3
 have h33 : (Mir.verA no st (.slice A n c) s0 s1 s2 s3)[33]? = some (.slice A n c) := Mir.verA_hi hst.1 no (.slice A n c) s0 s1 s2 s3 0
 have hmid := θ (fun i (hi : i < 32) => Mir.verA_mid hst.1 no (.slice A n c) s0 s1 s2 s3 hi)
 have HC := θ hC
 have Hl := θ hl
 have Hs := θ hs
 have Hst := θ hst
 generalize Mir.verA no st (.slice A n c) s0 s1 s2 s3 = V at *
 clear hC hl hs hst
 go_enter Tryz.func36, Tryz.ntmps36
 go_upto_region 1 with fail
 generalize hge : World.alloc _ _ = w0
 have HV0 := θ (show Blk w0 w.heap.size 34 V by subst hge; exact Blk.new w _ _)
 have HB0 := θ (al1 hge)
 clear hge
 go_wp2_with fail
 generalize hge : World.alloc _ _ = w1
 have hb1 := al1 hge
 have HO1 := θ (show w1.ownsRow (w.heap.size + 1) 29 32 (.slice (some ⟨w0.heap.size, 0, none⟩) 0 0) 0 (bytesV ([] : List (List Nat)).flatten) by subst hge; exact ownD_empty w0 _ HV0.out.lt)
 have HV := θ (HV0.out.below hb1)
 have HB := θ (bo HB0 hb1)
 have oB : w.heap.size + 1 ≤ w1.heap.size := HV.out.lt
 clear hge hb1 HV0 HB0
 go_loopw [3, 4] (fun v i wr => ∃ (k : Nat) (A' : Option Addr) (c' : Nat), k ≤ n ∧ i = .int .i64 k ∧ v = .slice A' k c' ∧ Hid (wr.ownsRow (w.heap.size + 1) 29 32 (.slice A' k c') k (bytesV (Mir.leavesK l k).flatten)) ∧ Hid (Blk wr w.heap.size 34 V) ∧ w.heap.size + 1 ≤ wr.heap.size ∧ Hid (Below w.heap.size w wr)) (fun _ i _ => n - (intOf i).toNat)
 case atStart => exact ⟨0, some ⟨w0.heap.size, 0, none⟩, 0, by omega, rfl, rfl, HO1, HV, oB, HB⟩
 obtain ⟨wk, rfl⟩ : ∃ wk : World, wk = wr := ⟨_, rfl⟩
 obtain ⟨k, A', c', hkm, rfl, rfl, hown, hK, hz, hB⟩ := hrel
 have x33 : wk.cell? ⟨w.heap.size, 33, none⟩ = some (.slice A n c) := (hK.out.cell 33).trans h33
 by_cases hlt : k < n
 · obtain ⟨⟨⟨s, dat⟩, gon⟩, hx⟩ := getElem?_lt (l := l) (k := k) (by rw [Hl.out]; exact hlt)
   obtain ⟨b, off, rfl, hb, hcs⟩ := (HC.out.below hB.out).at_ (by rw [Hl.out]; omega)
   obtain ⟨D, cd, hc1, hc2, hc3, hcd, hcm, hcD, h8⟩ := hcs k _ hx
   have hsz := Hs.out _ (List.mem_of_getElem? hx)
   have HL := θ (Mir.leavesK_succ hx)
   simp only [] at hc1 hc2 hc3 hcd hcD h8 hsz
   obtain ⟨md, hmd⟩ := exq dat.length
   rw [hmd] at hc2 hcd hsz
   rw [Mir.bytesI_eq] at hcD
   have HLf := θ (rleaf_any s D md cd dat gon wk hcD hmd (by omega) hsz.2 h8)
   have dD := θ (show IsD (Mir.chLeaf ((s, dat), gon)) by unfold Mir.chLeaf; exact tagS_isD _ _)
   generalize Mir.chLeaf ((s, dat), gon) = lf at *
   clear hmd hcD h8 hx hcs hsz hcd hcm
   go_wp2_with fail
   refine HLf.out.mono ?_
   rintro e w6 ⟨rfl, hb6⟩
   have Hown2 := θ (own_below hown.out hb6)
   have HK2 := θ (hK.out.below hb6)
   have HB2 := θ (bo hB hb6)
   have hz2 : w.heap.size + 1 ≤ w6.heap.size := Nat.le_trans hz hb6.size
   clear hb6 HLf hown hK hB hz x33 hc1 hc2 hc3
   go_wp2_with (first
    | (at_builtin
       refine wpList_pushD rfl (.tmp 14) (.tmp 21) rfl (w.heap.size + 1) (.slice A' k c') k (Mir.leavesK l k) lf (own_below Hown2.out hb3.out) rfl w6.heap.size HD3.out dD.out rfl (by omega) (Nat.le_trans hz2 hb3.out.size) ?_
       intro v4 w4 hown4 hg4
       have HK4 := θ ((HK2.out.below hb3.out).grown hg4 (fun e => absurd (own_base Hown2.out _ e.symm) (by omega)))
       have HB4 := θ (below_grown (below_of HB2.out hb3.out HB2.out.size) hg4 (Nat.le_trans HB2.out.size hb3.out.size) (fun k hk => Nat.le_trans (Nat.le_succ _) (own_base Hown2.out k hk)))
       have hz4 : w.heap.size + 1 ≤ w4.heap.size := Nat.le_trans (Nat.le_trans hz2 hb3.out.size) hg4.size
       obtain ⟨A4, c4, rfl, -, -, -⟩ := own_form hown4
       have Hown4 := θ hown4
       clear hown4 hg4)
    | (refine wpList_oneD rfl (.tmp 20) rfl lf dD.out rfl ?_
       generalize hge3 : World.alloc _ _ = w3
       have HD3 := θ (show Blk w3 w6.heap.size 29 (arrK .u8 lf) by subst hge3; exact Blk.new _ _ _)
       have hb3 := θ (al1 hge3)
       clear hge3))
   go_roundw
   case rel => exact ⟨k + 1, A4, c4, by omega, by go_num, rfl, (show World.ownsRow _ _ _ _ _ _ _ by rw [HL.out]; exact Hown4.out), HK4.out, hz4, HB4.out⟩
   case measure => simp [intOf]; omega
 obtain rfl : k = n := by omega
 have eL : Mir.leavesK l k = l.map Mir.chLeaf := by rw [← Hl.out]; exact Mir.leavesK_all l
 rw [eL] at hown
 obtain ⟨A2, c2, hv, hkc, hkm2, -⟩ := own_form hown.out
 cases hv
 have iL : IsL (l.map Mir.chLeaf) := fun d hd => by
  obtain ⟨x, -, rfl⟩ := List.mem_map.1 hd
  exact tagS_isD _ _
 have TR := θ (rtree_any k (l.map Mir.chLeaf) A' c' wk (by rw [List.length_map, Hl.out]) iL hkc (by omega) (Cells.own hown.out))
 have Dt := θ (treeS_isD (l.map Mir.chLeaf))
 have HM := θ (show Mir.mesS no st l = Mir.numS no ++ st ++ treeS (l.map Mir.chLeaf) from rfl)
 clear eL hown iL
 generalize treeS (l.map Mir.chLeaf) = T at *
 go_wp2_with fail
 refine TR.out.mono ?_
 rintro e w2 ⟨rfl, hb2⟩
 have HK2 := θ (hK.out.below hb2)
 have HB2 := θ (bo hB hb2)
 clear hb2 TR x33
 go_upto_region 7 with (
  (refine wpList_put_blk rfl 29 (.tmp 5) (.tmp 24) rfl w2.heap.size (arrK .u8 T) rfl rfl 29 (arrK .u8 z32) (Blk.new w2 29 (arrK .u8 z32)) (info32 Dt.out.1) (by rw [len32 Dt.out.1, len32 z32_length]) (arrK_all _ _) ?_
   intro w3 HD3 hg3 hz3
   have hb3 : Below w2.heap.size w2 w3 := below_grown ((Below.refl w2.heap.size w2).alloc (Nat.le_refl _) (.cells (arrK .u8 z32) 29)) hg3 (by simp) (by simp)
   have HD3 := θ HD3
   have HK3 := θ (HK2.out.below hb3)
   have HB3 := θ (bo HB2 hb3)
   clear hg3 hz3 hb3))
 have HNum := θ (fun W => rnumber_any no W hno)
 have x0 : w3.cell? ⟨w.heap.size, 0, none⟩ = some (.int .i64 no) := (HK3.out.cell 0).trans h0
 have ltV : w.heap.size < w3.heap.size := HK3.out.lt
 have CS3 := θ (show Cells w3 (some ⟨w.heap.size, 1, none⟩) (bytesV st) from .inr ⟨w.heap.size, 1, rfl, ltV, fun j u hu => by
  have hj : j < 32 := by have := (List.getElem?_eq_some_iff.1 hu).1; rwa [bytesV_length, Hst.out.1] at this
  rw [HK3.out.cell (1 + j), hmid.out j hj]
  rw [← arrK_bytesV, Array.getElem?_toList] at hu
  exact hu⟩)
 have CT3 := θ (show Cells w3 (some ⟨w2.heap.size, 0, none⟩) (bytesV T) by have := cells_blk HD3.out; rwa [arrK_bytesV] at this)
 try simp only [Act.put]
 refine wp_region_held_drew (S := fun W => Below w3.heap.size w3 W) (by kernel_rfl) (below_drewN (Below.refl _ _) 1) (fun Hd => ?_)
 have Hd : Below w3.heap.size w3 w3.drew := below_drewN (Below.refl _ _) 1
 generalize World.drew w3 = wd at *
 refine tq 0 rfl Hd ?_
 refine ts 1 rfl Hd (fun wS hSw => by
  have c1 := (hSw.cell (p := ⟨w.heap.size, 0, none⟩) ltV).trans x0
  go_simp
  try with_reducible rfl) ?_
 try simp only [la, Act.put]
 refine tq 3 rfl Hd ?_
 refine tq 4 rfl Hd ?_
 try simp only [la, Act.put]
 refine tq 6 rfl Hd ?_
 try simp only [la, Act.put]
 refine ty 2 rfl (fun K hK => ?_)
 go_simp
 refine (HNum.out _).mono ?_
 rintro e w1_ ⟨vN, rfl, hO1, hb1⟩
 have Hb1 := below_of Hd hb1 Hd.size
 have hwd := Hd.size
 go_wp2_with fail
 refine hK.out _ _ Hb1 fun _ => ?_
 clear hK K
 try simp only [la, Act.put]
 refine ty 5 rfl (fun K hK => ?_)
 refine st8 (by rfl) (.tmp 27) (.tmp 29) (by rfl) hO1 (by rfl) (by rfl) Hst.out.1 (CS3.out.below Hb1) (by simp [Mir.numS]) hb1.size ?_
 intro v2 w2_ hO2 hg2
 have Hb2 := below_grown Hb1 hg2 Hb1.size (fun g e => Nat.le_trans hwd (hO1.lt g e))
 have hz2 := Nat.le_trans hb1.size hg2.size
 refine hK.out _ _ Hb2 fun _ => ?_
 clear hK K
 try simp only [la, Act.put]
 refine ty 7 rfl (fun K hK => ?_)
 refine st8 (by rfl) (.tmp 30) (.tmp 31) (by rfl) hO2 (by rfl) (by rfl) Dt.out.1 (CT3.out.below Hb2) (by rw [List.length_append, Hst.out.1]; simp [Mir.numS]) hz2 ?_
 intro v4 w4_ hO4 hg4
 have Hb4 := below_grown Hb2 hg4 Hb2.size (fun g e => Nat.le_trans hwd (hO2.lt g e))
 refine hK.out _ _ Hb4 fun _ => ?_
 clear hK K
 try simp only [la, Act.put]
 refine tq 8 rfl Hb4 ?_
 try simp only [la, Act.put]
 refine td ?_ _
 obtain ⟨A4, c4, rfl, h41, h42, hC4⟩ := hO4.form
 have hlen : (Mir.numS no ++ st ++ T).length = 72 := by rw [List.length_append, List.length_append, Hst.out.1, Dt.out.1]; simp [Mir.numS]
 rw [hlen] at h41 ⊢
 go_wp2_with fail
 go_ret
 exact ⟨A4, c4, rfl, h41, h42, by rw [HM.out]; exact hC4, bo HB3 Hb4⟩
end Go.Proofs.YtkflpoiobpblhaaGreat
