/- Words for slices of matches (two cells each). -/
import Derived.Test.YtpmkebejfnflfaaFixP
import Derived.Test.YtpmkebejfnflfaaChecked
namespace Go.Proofs.Ytpmkebejfnflfaa
open Go.RowKit
/-- The cells of a list of intervals. -/
def ivV : List (Int × Int) → List Value
  | [] => []
  | i :: l => .int .i64 i.1 :: .int .i64 i.2 :: ivV l
theorem ivV_length : ∀ l, (ivV l).length = l.length * 2
  | [] => rfl
  | i :: l => by simp only [ivV, List.length_cons, ivV_length l]; omega
theorem ivV_append : ∀ l m, ivV (l ++ m) = ivV l ++ ivV m
  | [], _ => rfl
  | i :: l, m => by simp [ivV, ivV_append l m]
theorem ivV_one : ∀ l, ∀ u ∈ ivV l, u.oneCell' = true
  | [], u, h => by simp [ivV] at h
  | i :: l, u, h => by
    simp only [ivV, List.mem_cons] at h
    rcases h with rfl | rfl | h
    · rfl
    · rfl
    · exact ivV_one l u h
theorem ivV_get : ∀ (l : List (Int × Int)) (k : Nat) (i : Int × Int), l[k]? = some i → (ivV l)[k * 2]? = some (.int .i64 i.1) ∧ (ivV l)[k * 2 + 1]? = some (.int .i64 i.2)
  | [], k, i, h => by simp at h
  | j :: l, 0, i, h => by simp at h; subst h; simp [ivV]
  | j :: l, k + 1, i, h => by
    have := ivV_get l k i (by simpa using h)
    rw [show (k + 1) * 2 = k * 2 + 1 + 1 by omega]
    simpa [ivV] using this
theorem ivV_take (l : List (Int × Int)) (k : Nat) : ivV (l.take k) = (ivV l).take (k * 2) := by
  induction l generalizing k with
  | nil => simp [ivV]
  | cons i l ih =>
    cases k with
    | zero => simp [ivV]
    | succ k => rw [show (k + 1) * 2 = k * 2 + 1 + 1 by omega]; simp [ivV, ih]
theorem ivV_drop (l : List (Int × Int)) (k : Nat) : ivV (l.drop k) = (ivV l).drop (k * 2) := by
  induction l generalizing k with
  | nil => simp [ivV]
  | cons i l ih =>
    cases k with
    | zero => simp
    | succ k => rw [show (k + 1) * 2 = k * 2 + 1 + 1 by omega]; simp [ivV, ih]
/-- The slice's cells read as the intervals l. -/
def IvC (w : World) (A : Option Addr) (l : List (Int × Int)) : Prop := Cells w A (ivV l)
theorem IvC.nil_ (w : World) (A : Option Addr) : IvC w A [] := .inl rfl
theorem IvC.below {w w' : World} {A : Option Addr} {l : List (Int × Int)} (h : IvC w A l) (hb : Below w.heap.size w w') : IvC w' A l := Cells.below h hb
theorem ivV_eq_nil {l : List (Int × Int)} (h : ivV l = []) : l = [] := by
  have := ivV_length l
  rw [h] at this
  exact List.eq_nil_of_length_eq_zero (by simp at this; omega)
/-- An interval of the row: its two cells. -/
theorem IvC.at_ {w : World} {A : Option Addr} {l : List (Int × Int)} (h : IvC w A l) (hl : 0 < l.length) :
    ∃ b off, A = some ⟨b, off, none⟩ ∧ b < w.heap.size ∧ ∀ k i, l[k]? = some i → w.cell? ⟨b, off + k * 2, none⟩ = some (.int .i64 i.1) ∧ w.cell? ⟨b, off + k * 2 + 1, none⟩ = some (.int .i64 i.2) := by
  obtain ⟨b, off, rfl, hb, hc⟩ := Cells.addr h (by rw [ivV_length]; omega)
  refine ⟨b, off, rfl, hb, fun k i hi => ?_⟩
  obtain ⟨h1, h2⟩ := ivV_get l k i hi
  exact ⟨hc _ _ h1, by rw [Nat.add_assoc]; exact hc _ _ h2⟩
/-- 's = append(s, x)': x of two cells; s nil or the call's own. -/
theorem push2 {P : Program} {w : World} {ops : Array Oper} {rest : List Oper} {o : Oper} {a : Act} {Q : Exit → Act → World → Prop} (hgd : o.guard = none) (s x : Operand) (t : TypeId)
    (ho : o.op = .call { callee := .builtin .append, args := #[s, x], argTypes := #[t, t] })
    (base : Nat) (e : TypeId) (z : Value) (bytes : Nat) (ht : P.underlying t = some (.slice e)) (hi : (P.info? e).map (fun i => (i.zero, i.size, i.bytes)) = some (some z, 2, bytes)) (hzs : z.cells.size = 2)
    (v : Value) (n : Nat) (xs : List Value) (u1 u2 : Value) (hown : w.ownsRow base e 2 v n xs) (hs : a.eval s = v)
    (hx : a.eval x = .slice (some ⟨w.heap.size, 0, none⟩) 1 1) (h1 : u1.oneCell' = true) (h2 : u2.oneCell' = true)
    (h63 : n + 1 ≤ maxLen) (hbytes : (n + 1) * bytes ≤ 140737488355328) (hbase : base ≤ w.heap.size)
    (h : ∀ v' w', w'.ownsRow base e 2 v' (n + 1) (xs ++ [u1, u2]) → w.grownBy w' v.ownBlock → Sits v v' w → wpList P ops Q rest (a.put o.dst v') w') : wpList P ops Q (o :: rest) a (w.alloc (.cells #[u1, u2] e)) := by
  have hr : Cells (w.alloc (.cells #[u1, u2] e)) (some ⟨w.heap.size, 0, none⟩) [u1, u2] := by
    refine .inr ⟨w.heap.size, 0, rfl, by simp, fun j u' hj => ?_⟩
    match j, hj with
    | 0, hj => simp at hj; subst hj; exact (Blk.new w e #[u1, u2]).cell 0
    | 1, hj => simp at hj; subst hj; exact (Blk.new w e #[u1, u2]).cell 1
    | j + 2, hj => simp at hj
  obtain ⟨v', w', hrun, h3, h4, h5⟩ := run_append_cells (P := P) (w.alloc (.cells #[u1, u2] e)) base t o.type e z 2 bytes ht hi hzs (by omega) v n xs (hown.alloc _) (some ⟨w.heap.size, 0, none⟩) 1 1 [u1, u2] rfl hr (fun u' hu => by simp at hu; rcases hu with rfl | rfl <;> assumption) h63 hbytes (by simp; omega)
  exact wpList_plain hgd fun _ hK => wp_append_of ho hs hx hrun (hK _ _ (h v' w' h3 (grown_alloc_left h4) (h5.imp id fun ⟨g, hg, hl⟩ => ⟨g, hg, by simp at hl; omega⟩)))
/-- The end of the last interval of a row of the call's own is written anew. -/
theorem own_setY {w : World} {base g n c : Nat} {e : TypeId} {l : List (Int × Int)} {zx zy : Int} (t : Int) (h : w.ownsRow base e 2 (.slice (some ⟨g, 0, none⟩) (n + 1) c) (n + 1) (ivV (l ++ [(zx, zy)]))) (hl : l.length = n) :
    (w.setCell ⟨g, n * 2 + 1, none⟩ (.int .i64 t)).ownsRow base e 2 (.slice (some ⟨g, 0, none⟩) (n + 1) c) (n + 1) (ivV (l ++ [(zx, t)])) := by
  refine ⟨by have := h.1; rw [ivV_length, List.length_append] at this ⊢; exact this, ?_⟩
  rcases h.2 with ⟨hv, _⟩ | ⟨g', cap, cur, hv, hb, hg, h1, h2, h3, h4⟩
  · cases hv
  · cases hv
    refine .inr ⟨g, c, _, rfl, hb, Blk.set_ (show Blk w g e cur from hg) (n * 2 + 1) (.int .i64 t), h1, h2, by simpa using h3, ?_⟩
    rw [Array.toList_setIfInBounds, List.take_set, h4, ivV_append, ivV_append]
    have : (ivV l).length = n * 2 := by rw [ivV_length, hl]
    simp [this, ivV]
end Go.Proofs.Ytpmkebejfnflfaa