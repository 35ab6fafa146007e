/- A store into a variable of one cell, and its load, as steps of a drawn region. -/
import Derived.Test.YtcijhakofoklcaaRGrow2
namespace Go.Proofs.Ytcijhakofoklcaa
open Go.RowKit
theorem grown_setOne {w : World} {g o : Nat} (v : Value) : w.grownBy (w.setCell ⟨g, o, none⟩ v) (some g) := by
  refine ⟨rfl, rfl, rfl, ?_, fun k hk hne => ?_⟩
  · unfold World.setCell; simp
  · have hkg : g ≠ k := fun e => hne (by rw [e])
    unfold World.setCell
    simp [Array.getElem?_modify, hkg]
theorem size_setCell (w : World) (a : Addr) (v : Value) : (w.setCell a v).heap.size = w.heap.size := by unfold World.setCell; simp
theorem cells_one {v : Value} (h : v.oneCell' = true) : v.cells = #[v] := by
  cases v <;> first | rfl | simp [Value.oneCell'] at h
section
variable {P : Program} {w : World} {ops : Array Oper} {rest : List Oper} {o : Oper} {a : Act} {Q : Exit → Act → World → Prop} {K : Act → World → Prop}
theorem run_store_one (ty : TypeId) (g : Nat) (t : TypeId) (old v : Value) (hg : Blk w g t #[old]) (hi : (P.info? ty).map (·.size) = some 1) (h1 : v.oneCell' = true) :
    (Instr.storeAt ty (.pointer (some ⟨g, 0, none⟩)) v).run P w = .ok () (w.setCells g 0 [v]) := by
  have hc := hg.cell 0
  have hf := hg.frozen 0
  have := run_storeCells_cells (P := P) g 0 [v] 0 w (fun j hj => by
    obtain rfl : j = 0 := by simpa using hj
    rw [hc]; rfl) (fun j hj => by
    obtain rfl : j = 0 := by simpa using hj
    exact hf) (fun u hu => by rw [List.mem_singleton] at hu; rw [hu]; exact h1)
  have hv := cells_one h1
  cases hq : P.info? ty with
  | none => simp [hq] at hi
  | some i =>
    have hs : i.size = 1 := by simpa [hq] using hi
    simp only [Nat.add_zero] at this
    simp [Instr.storeAt, Instr.sureAddr, storeVar, sizeOf, typeInfo, hq, hv, hs, this]
theorem step_put_one {E : Prop} (hgd : o.guard = none) (ty : TypeId) (x y : Operand) (ho : o.op = .store ty x y) (g : Nat) (v : Value) (hx : a.eval x = .pointer (some ⟨g, 0, none⟩)) (hy : a.eval y = v)
    (t : TypeId) (old : Value) (hg : Blk w g t #[old]) (hi : (P.info? ty).map (·.size) = some 1) (h1 : v.oneCell' = true)
    (h : ∀ w', Blk w' g t #[v] → w.grownBy w' (some g) → w'.heap.size = w.heap.size → K (a.put o.dst undef) w') : if Region.wanted o (yielded ops a.tmps) = true then Oper.wp P o a w K Q else E := by
  have hw : Region.wanted o (yielded ops a.tmps) = true := by simp [Region.wanted, hgd]
  rw [if_pos hw]
  unfold Oper.wp execOp
  simp only [ho, hx, hy, Sem.run_bind, run_store_one ty g t old v hg hi h1, Result.andThen_ok, Sem.run_pure]
  exact h _ (blk_setCells0 hg [v] rfl) (grown_setOne v) (size_setCell _ _ _)
end
end Go.Proofs.Ytcijhakofoklcaa
