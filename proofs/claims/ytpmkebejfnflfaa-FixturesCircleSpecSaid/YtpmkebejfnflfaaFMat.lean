/- The walk of matches (fixtures). -/
import Derived.Test.YtpmkebejfnflfaaFMap
import Derived.Deep.RegionHeld3
import Derived.Deep.DeepCutAuto
namespace Go.Proofs.Ytpmkebejfnflfaa
open Go.RowKit Go.Shelf Go.Lib
namespace Fix
def busyM (l : List Mt) : List Int := l.flatMap fun x => [x.1, x.2]
/-- May a match stand behind those of S, and those of its round, whose clubs are busy? -/
def okM (cl : List Int) (S : List Mt) (busy : List Int) (x : Mt) : Bool := !decide (x.1 = x.2) && !decide (x ∈ S) && decide (x.1 ∈ cl) && decide (x.2 ∈ cl) && !decide (x.1 ∈ busy) && !decide (x.2 ∈ busy)
def okR (cl : List Int) (S : List Mt) (l : List Mt) : Bool := (List.range l.length).all fun j => okM cl (S ++ l.take j) (busyM (l.take j)) (l.getD j (0, 0))
def okL (cl : List Int) (ls : List (List Mt)) : Bool := (List.range ls.length).all fun k => okR cl (ls.take k).flatten (ls.getD k [])
/-- What Check answers. -/
def checkE (cl : List Int) (ls : List (List Mt)) : Int := if validC cl then (if ls.length ≤ 46 then (if okL cl ls then 0 else 300) else 2) else 1
theorem busyM_snoc (l : List Mt) (x : Mt) : busyM (l ++ [x]) = busyM l ++ [x.1] ++ [x.2] := by simp [busyM]
theorem okL_bad {cl : List Int} {ls : List (List Mt)} {k : Nat} {l : List Mt} (hk : ls[k]? = some l) (h : okR cl (ls.take k).flatten l = false) : okL cl ls = false := by
  unfold okL
  refine List.all_eq_false.2 ⟨k, List.mem_range.2 (List.getElem?_eq_some_iff.1 hk).1, ?_⟩
  rw [List.getD_eq_getElem?_getD, hk, Option.getD_some, h]; simp
theorem okR_bad {cl : List Int} {S l : List Mt} {j : Nat} {x : Mt} (hj : l[j]? = some x) (h : okM cl (S ++ l.take j) (busyM (l.take j)) x = false) : okR cl S l = false := by
  unfold okR
  refine List.all_eq_false.2 ⟨j, List.mem_range.2 (List.getElem?_eq_some_iff.1 hj).1, ?_⟩
  rw [List.getD_eq_getElem?_getD, hj, Option.getD_some, h]; simp
theorem okR_good {cl : List Int} {S l : List Mt} (h : ∀ j x, l[j]? = some x → okM cl (S ++ l.take j) (busyM (l.take j)) x = true) : okR cl S l = true := by
  unfold okR
  refine List.all_eq_true.2 fun j hj => ?_
  obtain ⟨x, hx⟩ := getElem?_lt (l := l) (k := j) (List.mem_range.1 hj)
  rw [List.getD_eq_getElem?_getD, hx, Option.getD_some]; exact h j x hx
theorem okL_good {cl : List Int} {ls : List (List Mt)} (h : ∀ k l, ls[k]? = some l → okR cl (ls.take k).flatten l = true) : okL cl ls = true := by
  unfold okL
  refine List.all_eq_true.2 fun k hk => ?_
  obtain ⟨l, hl⟩ := getElem?_lt (l := ls) (k := k) (List.mem_range.1 hk)
  rw [List.getD_eq_getElem?_getD, hl, Option.getD_some]; exact h k l hl
theorem checkE_bad {cl : List Int} {ls : List (List Mt)} (h : validC cl = true) (h2 : ls.length ≤ 46) (h3 : okL cl ls = false) : checkE cl ls = 300 := by unfold checkE; rw [h, if_pos rfl, if_pos h2, h3]; rfl
theorem checkE_good {cl : List Int} {ls : List (List Mt)} (h : validC cl = true) (h2 : ls.length ≤ 46) (h3 : okL cl ls = true) : checkE cl ls = 0 := by unfold checkE; rw [h, if_pos rfl, if_pos h2, h3]; rfl
end Fix
/-- The array of clubs that play in the round so far. -/
def busyV (b : List Int) : Array Value := ((List.range 192).map fun i : Nat => Value.bool (decide ((i : Int) ∈ b))).toArray
theorem busyV_size (b : List Int) : (busyV b).size = 192 := by simp [busyV]
theorem busyV_get (b : List Int) {i : Nat} (h : i < 192) : (busyV b)[i]? = some (.bool (decide ((i : Int) ∈ b))) := by
  simp [busyV, h]
theorem busyV_nil : busyV [] = Array.replicate 192 (.bool false) := by
  apply Array.ext_getElem?
  intro i
  by_cases h : i < 192
  · rw [busyV_get _ h]; simp [h]
  · rw [Array.getElem?_eq_none (by rw [busyV_size]; omega), Array.getElem?_eq_none (by simp; omega)]
theorem busyV_set (b : List Int) {i : Nat} (h : i < 192) : (busyV b).setIfInBounds i (.bool true) = busyV (b ++ [(i : Int)]) := by
  apply Array.ext_getElem?
  intro j
  rw [Array.getElem?_setIfInBounds]
  by_cases hj : j < 192
  · rw [busyV_get _ hj, busyV_get _ hj]
    by_cases hij : i = j
    · subst hij; simp [busyV_size, hj]
    · rw [if_neg hij]
      congr 2
      have : ((j : Int) ∈ b ++ [(i : Int)]) ↔ (j : Int) ∈ b := by
        rw [List.mem_append, List.mem_singleton]
        exact ⟨fun h => h.elim id fun e => absurd (Int.ofNat.inj e).symm hij, Or.inl⟩
      exact decide_eq_decide.2 this.symm
  · have hn : (busyV b)[j]? = none := Array.getElem?_eq_none (by rw [busyV_size]; omega)
    have hn2 : (busyV (b ++ [(i : Int)]))[j]? = none := Array.getElem?_eq_none (by rw [busyV_size]; omega)
    rw [hn, hn2]
    split
    · rw [busyV_size, if_neg (by omega)]
    · rfl
theorem has_any (A : Option Addr) (n c : Nat) (cl : List Int) (x : Int) (w : World) (hl : cl.length = n) (hn : 1 ≤ n ∧ n ≤ 1000000) (hA : Ints w A cl) :
    Calls Try.prog 56 #[.slice A n c, .int .i64 x] w fun e w' => e = .returned (.bool (decide (x ∈ cl))) ∧ w = w' := by
  obtain ⟨b, off, rfl, hb, hcs⟩ := hA.at_ (k := 0) (by omega)
  have hcon := AnyE.slices_Contains Try.hasInt (Value.int .i64) (fun x y => x == y) (EqlAt.int _ _ _) b off n c cl x w (by omega) (by omega) (fun j hj => by
    rw [getElem!_pos _ j hj]
    exact hcs j _ (List.getElem?_eq_getElem hj))
  change Calls Try.prog 56 _ _ _ at hcon
  refine hcon.mono fun e w' ⟨he, hw⟩ => ⟨?_, hw.symm⟩
  rw [he, List.take_of_length_le (by omega)]
  congr 2
  rw [Bool.eq_iff_iff]
  simp
theorem step_mapUpdate {w : World} {ops : Array Oper} {o : Oper} {a : Act} {Q : Exit → Act → World → Prop} {K : Act → World → Prop} {E : Prop} (hgd : o.guard = none) (m x v : Operand) (ho : o.op = Op.mapUpdate 63 m x v) (M : Nat) (S : List (Int × Int)) (hM : MtSet w M S) (y : Int × Int) (hy : WfM y) (hS : S.length < maxLen)
    (hm : a.eval m = .map (some M)) (hx : a.eval x = .agg #[.int .i64 y.1, .int .i64 y.2]) (hv : a.eval v = .bool true)
    (h : ∀ w', MtSet w' M (S ++ [y]) → w.grownBy w' (some M) → K (a.put o.dst undef) w') : if Region.wanted o (yielded ops a.tmps) = true then Oper.wp Try.prog o a w K Q else E := by
  have hw : Region.wanted o (yielded ops a.tmps) = true := by simp [Region.wanted, hgd]
  rw [if_pos hw]
  obtain ⟨w', hrun, h1, h2⟩ := hM.store y hy hS
  have hrun' : (Instr.mapUpdate 63 (.map (some M)) (.agg #[.int .i64 y.1, .int .i64 y.2]) (.bool true)).run Try.prog w = .ok () w' := hrun
  unfold Oper.wp
  simp [execOp, ho, hm, hx, hv, hrun', Result.andThen]
  exact h w' h1 h2
theorem grown_setOne {w : World} {g o : Nat} (v : Value) : w.grownBy (w.setCell ⟨g, o, none⟩ v) (some g) := by
  refine ⟨rfl, rfl, rfl, ?_, fun k hk hne => ?_⟩
  · unfold World.setCell; simp
  · have hkg : g ≠ k := fun e => hne (by rw [e])
    unfold World.setCell
    simp [Array.getElem?_modify, hkg]
theorem size_setCell (w : World) (a : Addr) (v : Value) : (w.setCell a v).heap.size = w.heap.size := by unfold World.setCell; simp
theorem cells_one {v : Value} (h : v.oneCell' = true) : v.cells = #[v] := by
  cases v <;> first | rfl | simp [Value.oneCell'] at h
section
variable {P : Program} {w : World} {ops : Array Oper} {rest : List Oper} {o : Oper} {a : Act} {Q : Exit → Act → World → Prop} {K : Act → World → Prop}
theorem run_store_cell (ty : TypeId) (g i : Nat) (t : TypeId) (cs : Array Value) (v : Value) (hg : Blk w g t cs) (hic : i < cs.size) (hi : (P.info? ty).map (·.size) = some 1) (h1 : v.oneCell' = true) :
    (Instr.storeAt ty (.pointer (some ⟨g, i, none⟩)) v).run P w = .ok () (w.setCells g i [v]) := by
  have hc := hg.cell i
  have hf := hg.frozen i
  have := run_storeCells_cells (P := P) g i [v] 0 w (fun j hj => by
    obtain rfl : j = 0 := by simpa using hj
    rw [Nat.add_zero, hc]; simp [hic]) (fun j hj => by
    obtain rfl : j = 0 := by simpa using hj
    exact hf) (fun u hu => by rw [List.mem_singleton] at hu; rw [hu]; exact h1)
  have hv := cells_one h1
  cases hq : P.info? ty with
  | none => simp [hq] at hi
  | some ti =>
    have hs : ti.size = 1 := by simpa [hq] using hi
    simp only [Nat.add_zero] at this
    simp [Instr.storeAt, Instr.sureAddr, storeVar, sizeOf, typeInfo, hq, hv, hs, this]
theorem step_put_cell {E : Prop} (hgd : o.guard = none) (ty : TypeId) (x y : Operand) (ho : o.op = .store ty x y) (g i : Nat) (v : Value) (hx : a.eval x = .pointer (some ⟨g, i, none⟩)) (hy : a.eval y = v)
    (t : TypeId) (cs : Array Value) (hg : Blk w g t cs) (hic : i < cs.size) (hi : (P.info? ty).map (·.size) = some 1) (h1 : v.oneCell' = true)
    (h : ∀ w', Blk w' g t (cs.setIfInBounds i v) → w.grownBy w' (some g) → w'.heap.size = w.heap.size → K (a.put o.dst undef) w') : if Region.wanted o (yielded ops a.tmps) = true then Oper.wp P o a w K Q else E := by
  have hw : Region.wanted o (yielded ops a.tmps) = true := by simp [Region.wanted, hgd]
  rw [if_pos hw]
  unfold Oper.wp execOp
  simp only [ho, hx, hy, Sem.run_bind, run_store_cell ty g i t cs v hg hic hi h1, Result.andThen_ok, Sem.run_pure]
  exact h _ (hg.set_ i v) (grown_setOne v) (size_setCell _ _ _)
end
theorem step_put_bool {w : World} {ops : Array Oper} {o : Oper} {a : Act} {Q : Exit → Act → World → Prop} {K : Act → World → Prop} {E : Prop} (hgd : o.guard = none) (x y : Operand) (ho : o.op = .store 4 x y) (g : Nat) (b : List Int) (z : Int) (hz0 : 0 ≤ z) (hi : z < 192) (hg : Blk w g 78 (busyV b))
    (hx : a.eval x = .pointer (some ⟨g, z.toNat, none⟩)) (hy : a.eval y = .bool true)
    (h : ∀ w', Blk w' g 78 (busyV (b ++ [z])) → w.grownBy w' (some g) → w'.heap.size = w.heap.size → K (a.put o.dst undef) w') : if Region.wanted o (yielded ops a.tmps) = true then Oper.wp Try.prog o a w K Q else E :=
  step_put_cell hgd 4 x y ho g z.toNat (.bool true) hx hy 78 (busyV b) hg (by rw [busyV_size]; omega) (by kernel_rfl) rfl (fun w' h1 h2 h3 => h w' (by rwa [busyV_set b (by omega), show ((z.toNat : Nat) : Int) = z by omega] at h1) h2 h3)
end Go.Proofs.Ytpmkebejfnflfaa
