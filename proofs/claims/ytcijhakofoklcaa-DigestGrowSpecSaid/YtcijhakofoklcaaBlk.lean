/- Whole rows stored; memory made: worlds as letters. -/
import Derived.Test.YtcijhakofoklcaaShaU
import Derived.Deep.RegionHeld
namespace Go.Proofs.Ytcijhakofoklcaa
open Go.RowKit
theorem grown_setRow {w : World} {g : Nat} (cs : Array Value) : w.grownBy (w.setRow g cs) (some g) :=
  ⟨rfl, rfl, rfl, by simp [World.setRow], fun k _ hne => by
    have h : ¬ g = k := fun e => hne (by rw [e])
    simp [World.setRow, Array.getElem?_modify, h]⟩
theorem setRow_size (w : World) (g : Nat) (cs : Array Value) : (w.setRow g cs).heap.size = w.heap.size := by simp [World.setRow]
section
variable {P : Program} {w : World} {ops : Array Oper} {rest : List Oper} {o : Oper} {a : Act} {Q : Exit → Act → World → Prop}
theorem wpList_put_blk (hgd : o.guard = none) (ty : TypeId) (x y : Operand) (ho : o.op = .store ty x y) (g : Nat) (cells : Array Value) (hx : a.eval x = .pointer (some ⟨g, 0, none⟩)) (hy : a.eval y = .agg cells)
    (t : TypeId) (old : Array Value) (hg : Blk w g t old) (hi : (P.info? ty).map (·.size) = some cells.size) (hold : old.size = cells.size) (h1 : cells.all (·.oneCell') = true)
    (h : ∀ w', Blk w' g t cells → w.grownBy w' (some g) → w'.heap.size = w.heap.size → wpList P ops Q rest (a.put o.dst undef) w') : wpList P ops Q (o :: rest) a w :=
  wpList_store_row hgd ty x y ho g cells hx hy t old hg hi hold h1 (h _ (Blk.setRow_same hg) (grown_setRow _) (setRow_size _ _ _))
theorem wpList_store_same (hgd : o.guard = none) (ty : TypeId) (x y : Operand) (ho : o.op = .store ty x y) (g : Nat) (cells : Array Value) (hx : a.eval x = .pointer (some ⟨g, 0, none⟩)) (hy : a.eval y = .agg cells)
    (t : TypeId) (hg : Blk w g t cells) (hi : (P.info? ty).map (·.size) = some cells.size) (h1 : cells.all (·.oneCell') = true)
    (h : wpList P ops Q rest (a.put o.dst undef) w) : wpList P ops Q (o :: rest) a w :=
  wpList_store_row hgd ty x y ho g cells hx hy t cells hg hi rfl h1 (by rw [setRow_id hg]; exact h)
theorem wpList_load_blk (hgd : o.guard = none) (ty : TypeId) (x : Operand) (ho : o.op = .load ty x)
    (g : Nat) (hx : a.eval x = .pointer (some ⟨g, 0, none⟩)) (t : TypeId) (cs : Array Value) (d : TypeDesc) (hg : Blk w g t cs)
    (hu : P.underlying ty = some d) (hd : (match d with | .struct _ | .array _ _ => true | _ => false) = true) (hi : (P.info? ty).map (·.size) = some cs.size)
    (h : wpList P ops Q rest (a.put o.dst (.agg cs)) w) : wpList P ops Q (o :: rest) a w :=
  wpList_load_row hgd ty x ho g hx t cs (0, 0) d hg hu hd hi h
end
section
variable {P : Program} {w : World} {ops : Array Oper} {rest : List Oper} {o : Oper} {a : Act} {Q : Exit → Act → World → Prop} {K : Act → World → Prop}
theorem step_put_blk {E : Prop} (hgd : o.guard = none) (ty : TypeId) (x y : Operand) (ho : o.op = .store ty x y) (g : Nat) (cells : Array Value) (hx : a.eval x = .pointer (some ⟨g, 0, none⟩)) (hy : a.eval y = .agg cells)
    (t : TypeId) (old : Array Value) (hg : Blk w g t old) (hi : (P.info? ty).map (·.size) = some cells.size) (hold : old.size = cells.size) (h1 : cells.all (·.oneCell') = true)
    (h : ∀ w', Blk w' g t cells → w.grownBy w' (some g) → w'.heap.size = w.heap.size → K (a.put o.dst undef) w') : if Region.wanted o (yielded ops a.tmps) = true then Oper.wp P o a w K Q else E := by
  have hw : Region.wanted o (yielded ops a.tmps) = true := by simp [Region.wanted, hgd]
  rw [if_pos hw]
  exact wp_store_row ty x y ho g cells hx hy t old hg hi hold h1 (h _ (Blk.setRow_same hg) (grown_setRow _) (setRow_size _ _ _))
end
/-- 'make([]T, n)': the new world as a letter. -/
theorem make_letter {P : Program} (t e : TypeId) (z : Value) (bytes : Nat) (ht : P.underlying t = some (.slice e)) (hi : (P.info? e).map (fun i => (i.zero, i.size, i.bytes)) = some (some z, 1, bytes)) (hzc : z.cells = #[z])
    (n : Nat) (hb : bytes * n ≤ 281474976710656) (h63 : n ≤ 9223372036854775807) :
    ∃ mk : World → World, (∀ W, (Instr.makeSlice t (.int .i64 (n : Int)) (.int .i64 (n : Int))).run P W = .ok (.slice (some ⟨W.heap.size, 0, none⟩) n n) (mk W)) ∧
      (∀ W, Blk (mk W) W.heap.size e (List.replicate n z).toArray) ∧ (∀ W, Below W.heap.size W (mk W)) ∧ (∀ W, (mk W).heap.size = W.heap.size + 1) :=
  ⟨fun W => W.alloc (.cells (List.replicate n z).toArray e), fun W => run_make1 t e z bytes ht hi hzc n hb h63 W, fun W => Blk.new W e _, fun W => (Below.refl _ _).alloc (Nat.le_refl _) _, fun W => by simp⟩
def bytesV (b : List Nat) : List Value := b.map fun (n : Nat) => Value.int .u8 (n : Int)
theorem bytesV_length (b : List Nat) : (bytesV b).length = b.length := by simp [bytesV]
theorem bytesV_one (b : List Nat) : ∀ u ∈ bytesV b, u.oneCell' = true := by
  intro u hu
  unfold bytesV at hu
  rw [List.mem_map] at hu
  obtain ⟨x, _, rfl⟩ := hu
  rfl
theorem bytesV_append (a b : List Nat) : bytesV (a ++ b) = bytesV a ++ bytesV b := by simp [bytesV]
theorem bytesV_drop (b : List Nat) (k : Nat) : bytesV (b.drop k) = (bytesV b).drop k := by simp [bytesV]
theorem bytesV_get {b : List Nat} {k : Nat} (h : k < b.length) : (bytesV b)[k]? = some (.int .u8 ((b.getD k 0 : Nat) : Int)) := by
  simp [bytesV, h]
theorem cells_blk {w : World} {g : Nat} {t : TypeId} {cs : Array Value} (h : Blk w g t cs) : Cells w (some ⟨g, 0, none⟩) cs.toList :=
  .inr ⟨g, 0, rfl, h.lt, fun j u hu => by rw [Nat.zero_add, h.cell j]; simpa using hu⟩
theorem arrK_toList (q : IntKind) (l : List Nat) : (arrK q l).toList = l.map fun (n : Nat) => Value.int q (n : Int) := by simp [arrK]
theorem blk_two (w : World) (cs1 cs2 : Array Value) (t1 t2 : TypeId) : Blk ((w.alloc (.cells cs1 t1)).alloc (.cells cs2 t2)) w.heap.size t1 cs1 ∧ Blk ((w.alloc (.cells cs1 t1)).alloc (.cells cs2 t2)) (w.heap.size + 1) t2 cs2 := by
  refine ⟨(Blk.new _ _ _).alloc _, ?_⟩
  have := Blk.new (w.alloc (.cells cs1 t1)) t2 cs2
  rw [World.size_alloc] at this
  exact this
/-- The one result lies in a cell: its row. -/
theorem ret_row {P : Program} {fn : Func} {R : Ending → World → Prop} {a : Act} {w : World} {p : Tmp} {ty : TypeId} (h : fn.results = #[.cell p ty]) (g : Nat) (t : TypeId) (cs : Array Value) (d : TypeDesc)
    (hp : a.tmps.getD p undef = .pointer (some ⟨g, 0, none⟩)) (hg : Blk w g t cs) (hu : P.underlying ty = some d) (hd : (match d with | .struct _ | .array _ _ => true | _ => false) = true) (hi : (P.info? ty).map (·.size) = some cs.size)
    (hdf : a.defers = []) (hR : R (.returned (.agg cs)) w) : bodyPost P fn R .ret a w :=
  bodyPost_ret (results_cell_row h a.tmps w g t cs (0, 0) d hp hg hu hd hi) hdf hR
theorem arrK_size (q : IntKind) (l : List Nat) : (arrK q l).size = l.length := by simp [arrK]
attribute [irreducible] bytesV
end Go.Proofs.Ytcijhakofoklcaa
