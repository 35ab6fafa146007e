/- Walks and plain laws that the statement rests on: Dig. -/
import Derived.Test.YtkflpoiobpblhaaGreatP00
import Derived.Test.YtkflpoiobpblhaaGreatP14
import Derived.Test.YtkflpoiobpblhaaGreatP16
namespace Go.Proofs.YtkflpoiobpblhaaGreat
open Go.RowKit
theorem info_dig : (Tryz.prog.info? 29).map (fun i => (i.zero, i.size, i.bytes)) = some (some (.agg (arrK .u8 z32)), 32, 32) := by kernel_rfl
theorem flat_snoc (l : List (List Nat)) (d : List Nat) : bytesV l.flatten ++ bytesV d = bytesV (l ++ [d]).flatten := by
 rw [List.flatten_append, bytesV_append]; simp
theorem IsL.snoc {l : List (List Nat)} (h : IsL l) {d : List Nat} (hd : IsD d) : IsL (l ++ [d]) := fun x hx => by
 rcases List.mem_append.1 hx with hx | hx
 · exact h x hx
 · rw [List.mem_singleton] at hx; subst hx; exact hd
theorem IsL.nil_ : IsL [] := fun x hx => by simp at hx
section
variable {w : World} {ops : Array Oper} {rest : List Oper} {o : Oper} {a : Act} {Q : Exit → Act → World → Prop} {K : Act → World → Prop}
theorem wpList_pushD (hgd : o.guard = none) (s x : Operand) (ho : o.op = .call { callee := .builtin .append, args := #[s, x], argTypes := #[30, 30] })
    (base : Nat) (v : Value) (n : Nat) (l : List (List Nat)) (d : List Nat) (hown : w.ownsRow base 29 32 v n (bytesV l.flatten)) (hs : a.eval s = v) (g : Nat) (hg : Blk w g 29 (arrK .u8 d)) (hd : IsD d)
    (hx : a.eval x = .slice (some ⟨g, 0, none⟩) 1 1) (hn : n ≤ 1000000) (hbase : base ≤ w.heap.size)
    (h : ∀ v' w', w'.ownsRow base 29 32 v' (n + 1) (bytesV (l ++ [d]).flatten) → w.grownBy w' v.ownBlock → wpList Tryz.prog ops Q rest (a.put o.dst v') w') : wpList Tryz.prog ops Q (o :: rest) a w :=
 wpList_append_cells hgd s x 30 ho base 29 (.agg (arrK .u8 z32)) 32 32 (by kernel_rfl) info_dig (by show (arrK .u8 z32).size = 32; exact len32 z32_length) (by omega) v n (bytesV l.flatten) hown hs (some ⟨g, 0, none⟩) 1 1 (bytesV d) hx (by rw [bytesV_length, hd.1])
  (by have := cells_blk hg; rwa [arrK_bytesV] at this) (bytesV_one _) (by unfold maxLen; omega) (by omega) hbase fun v' w' h1 h2 _ => h v' w' (by rwa [flat_snoc] at h1) h2
theorem step_pushD {E : Prop} (hgd : o.guard = none) (s x : Operand) (ho : o.op = .call { callee := .builtin .append, args := #[s, x], argTypes := #[30, 30] })
    (base : Nat) (v : Value) (n : Nat) (l : List (List Nat)) (d : List Nat) (hown : w.ownsRow base 29 32 v n (bytesV l.flatten)) (hs : a.eval s = v) (g : Nat) (hg : Blk w g 29 (arrK .u8 d)) (hd : IsD d)
    (hx : a.eval x = .slice (some ⟨g, 0, none⟩) 1 1) (hn : n ≤ 1000000) (hbase : base ≤ w.heap.size)
    (h : ∀ v' w', w'.ownsRow base 29 32 v' (n + 1) (bytesV (l ++ [d]).flatten) → w.grownBy w' v.ownBlock → K (a.put o.dst v') w') : if Region.wanted o (yielded ops a.tmps) = true then Oper.wp Tryz.prog o a w K Q else E :=
 step_append_cells hgd s x 30 ho base 29 (.agg (arrK .u8 z32)) 32 32 (by kernel_rfl) info_dig (by show (arrK .u8 z32).size = 32; exact len32 z32_length) (by omega) v n (bytesV l.flatten) hown hs (some ⟨g, 0, none⟩) 1 1 (bytesV d) hx (by rw [bytesV_length, hd.1])
  (by have := cells_blk hg; rwa [arrK_bytesV] at this) (bytesV_one _) (by unfold maxLen; omega) (by omega) hbase fun v' w' h1 h2 _ => h v' w' (by rwa [flat_snoc] at h1) h2
end
theorem ownD_nil (w : World) (base : Nat) : w.ownsRow base 29 32 (.slice none 0 0) 0 (bytesV ([] : List (List Nat)).flatten) := by
 rw [show bytesV ([] : List (List Nat)).flatten = [] by unfold bytesV; rfl]
 exact World.ownsRow_nil _ _ _ _
theorem ownD_empty (w : World) (base : Nat) (hb : base ≤ w.heap.size) : (w.alloc (.cells #[] 29)).ownsRow base 29 32 (.slice (some ⟨w.heap.size, 0, none⟩) 0 0) 0 (bytesV ([] : List (List Nat)).flatten) := by
 rw [show bytesV ([] : List (List Nat)).flatten = [] by unfold bytesV; rfl]
 exact World.ownsRow_lit (size := 32) w #[] 0 hb (Nat.zero_le _) rfl
end Go.Proofs.YtkflpoiobpblhaaGreat
