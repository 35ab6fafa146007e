/- Own rows of digests beside blocks. -/
import Derived.Test.YtcijhakofoklcaaPath2
namespace Go.Proofs.Ytcijhakofoklcaa
open Go.RowKit
def Apart (v : Value) (b : Nat) : Prop := v.ownBlock ≠ some b
theorem apart_lit {g b n c : Nat} (h : b < g) : Apart (.slice (some ⟨g, 0, none⟩) n c) b := by
  intro e
  simp [Value.ownBlock] at e
  omega
theorem apart_new {w : World} {base : Nat} {e : TypeId} {size : Nat} {v : Value} {n : Nat} {xs : List Value} (h : w.ownsRow base e size v n xs) : Apart v w.heap.size := by
  intro e
  have := (h.lt _ e).2
  omega
theorem apart_sits {v v' : Value} {w : World} {b : Nat} (hs : Sits v v' w) (ha : Apart v b) (hb : b < w.heap.size) : Apart v' b := by
  rcases hs with h | ⟨g, h, hg⟩
  · unfold Apart; rw [h]; exact ha
  · unfold Apart; rw [h]
    intro e
    cases e
    omega
section
variable {w : World} {ops : Array Oper} {rest : List Oper} {o : Oper} {a : Act} {Q : Exit → Act → World → Prop} {K : Act → World → Prop}
theorem step_pushDs {E : Prop} (hgd : o.guard = none) (s x : Operand) (ho : o.op = .call { callee := .builtin .append, args := #[s, x], argTypes := #[28, 28] })
    (base : Nat) (v : Value) (n : Nat) (l : List (List Nat)) (d : List Nat) (hown : w.ownsRow base 37 32 v n (bytesV l.flatten)) (hs : a.eval s = v) (g : Nat) (hg : Blk w g 37 (arrK .u8 d)) (hd : IsD d)
    (hx : a.eval x = .slice (some ⟨g, 0, none⟩) 1 1) (hn : n ≤ 1000000) (hbase : base ≤ w.heap.size)
    (h : ∀ v' w', w'.ownsRow base 37 32 v' (n + 1) (bytesV (l ++ [d]).flatten) → w.grownBy w' v.ownBlock → Sits v v' w → K (a.put o.dst v') w') : if Region.wanted o (yielded ops a.tmps) = true then Oper.wp Try.prog o a w K Q else E :=
  step_append_cells hgd s x 28 ho base 37 (.agg (arrK .u8 z32)) 32 32 (by kernel_rfl) info_dig (by show (arrK .u8 z32).size = 32; exact len32 z32_length) (by omega) v n (bytesV l.flatten) hown hs (some ⟨g, 0, none⟩) 1 1 (bytesV d) hx (by rw [bytesV_length, hd.1])
    (by have := cells_blk hg; rwa [arrK_bytesV] at this) (bytesV_one _) (by unfold maxLen; omega) (by omega) hbase fun v' w' h1 h2 h3 => h v' w' (by rwa [flat_snoc] at h1) h2 h3
theorem step_addDs {E : Prop} (hgd : o.guard = none) (s x : Operand) (ho : o.op = .call { callee := .builtin .append, args := #[s, x], argTypes := #[28, 28] })
    (base : Nat) (v : Value) (n : Nat) (l : List (List Nat)) (hown : w.ownsRow base 37 32 v n (bytesV l.flatten)) (hs : a.eval s = v) (A : Option Addr) (m c : Nat) (p : List (List Nat)) (hp : p.length = m) (hP : IsL p) (hA : Cells w A (bytesV p.flatten))
    (hx : a.eval x = .slice A m c) (hn : n + m ≤ 1000000) (hbase : base ≤ w.heap.size)
    (h : ∀ v' w', w'.ownsRow base 37 32 v' (n + m) (bytesV (l ++ p).flatten) → w.grownBy w' v.ownBlock → Sits v v' w → K (a.put o.dst v') w') : if Region.wanted o (yielded ops a.tmps) = true then Oper.wp Try.prog o a w K Q else E :=
  step_append_cells hgd s x 28 ho base 37 (.agg (arrK .u8 z32)) 32 32 (by kernel_rfl) info_dig (by show (arrK .u8 z32).size = 32; exact len32 z32_length) (by omega) v n (bytesV l.flatten) hown hs A m c (bytesV p.flatten) hx (by rw [bytesV_length, hP.flat_length, hp])
    hA (bytesV_one _) (by unfold maxLen; omega) (by omega) hbase fun v' w' h1 h2 h3 => h v' w' (by rwa [← bytesV_append, ← List.flatten_append] at h1) h2 h3
end
/-- A load of a row that every world of S holds: taken first. -/
theorem yields_load_blk {P : Program} {ops : Array Oper} {o : Oper} {a : Act} {S : World → Prop} (hw : Region.wanted o (yielded ops a.tmps) = true) (ty : TypeId) (x : Operand) (ho : o.op = .load ty x) (g : Nat) (hx : a.eval x = .pointer (some ⟨g, 0, none⟩)) (t : TypeId) (cs : Array Value) (d : TypeDesc)
    (hS : ∀ w, S w → Blk w g t cs) (hu : P.underlying ty = some d) (hd : (match d with | .struct _ | .array _ _ => true | _ => false) = true) (hi : (P.info? ty).map (·.size) = some cs.size) : YieldsIf P ops S o (.agg cs) a :=
  .inl ⟨hw, fun w hw' => by
    unfold execOp
    simp only [ho, hx, Instr.loadAt, Instr.sureAddr, Sem.run_bind, Sem.run_pure, Result.andThen_ok, run_loadVar_row w g t ty cs (0, 0) d (hS w hw') hu hd hi]⟩
end Go.Proofs.Ytcijhakofoklcaa
