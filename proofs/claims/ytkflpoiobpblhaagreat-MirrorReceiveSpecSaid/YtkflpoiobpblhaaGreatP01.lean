/- Walks and plain laws that the statement rests on: Mem. -/
import Derived.BigQuiet
import Derived.Deep.AppendLies
import Derived.Deep.Draws
import Derived.Deep.QuietTactic
import Derived.Deep.RegionLaw
import Derived.Handy
import Derived.Laws.CopyOwn
import Derived.Lib.Hide
import Derived.Maps.AppendAt
import Derived.WalkKit
import Derived.Test.YtkflpoiobpblhaaGreatP00
import Derived.Test.YtkflpoiobpblhaaGreatPS
namespace Go.Proofs.YtkflpoiobpblhaaGreat
open Go.RowKit
def Blk (w : World) (g : Nat) (t : TypeId) (cs : Array Value) : Prop := w.heap[g]? = some (.cells cs t (0, 0))
section
variable {w w' : World} {g : Nat} {t : TypeId} {cs : Array Value}
theorem Blk.lt (h : Blk w g t cs) : g < w.heap.size := by
 rcases Nat.lt_or_ge g w.heap.size with hlt | hge
 · exact hlt
 · unfold Blk at h; rw [Array.getElem?_eq_none hge] at h; cases h
theorem Blk.cell (h : Blk w g t cs) (i : Nat) : w.cell? ⟨g, i, none⟩ = cs[i]? := cell_of_row w g i cs t (0, 0) h
theorem Blk.frozen (h : Blk w g t cs) (i : Nat) : w.frozen? ⟨g, i, none⟩ = false := by
 unfold Blk at h
 simp [World.frozen?, h]
theorem Blk.new (w : World) (t : TypeId) (cs : Array Value) : Blk (w.alloc (.cells cs t)) w.heap.size t cs := heap_alloc_new w _
theorem Blk.drewN (h : Blk w g t cs) (n : Nat) : Blk (w.drewN n) g t cs := h
theorem Blk.alloc (h : Blk w g t cs) (o : Obj) : Blk (w.alloc o) g t cs := (Below.heap_alloc w o g h.lt).trans h
theorem Blk.set_ (h : Blk w g t cs) (i : Nat) (u : Value) : Blk (w.setCell ⟨g, i, none⟩ u) g t (cs.setIfInBounds i u) := by
 unfold Blk at h ⊢
 simp [World.setCell, Array.getElem?_modify, h]
theorem Blk.far (h : Blk w g t cs) {p : Addr} (hp : g ≠ p.block) (u : Value) : Blk (w.setCell p u) g t cs := (Below.heap_setCell w p u g hp).trans h
theorem Blk.below (h : Blk w g t cs) (hb : Below w.heap.size w w') : Blk w' g t cs := (hb.block g h.lt).trans h
theorem Blk.at_ {B : Nat} (h : Blk w g t cs) (hb : Below B w w') (hg : g < B) : Blk w' g t cs := (hb.block g hg).trans h
theorem Blk.grown {row : Option Nat} (h : Blk w g t cs) (hb : w.grownBy w' row) (hne : some g ≠ row) : Blk w' g t cs := (hb.block g h.lt hne).trans h
end
theorem below_drewN {B : Nat} {a w : World} (h : Below B a w) (n : Nat) : Below B a (w.drewN n) := ⟨h.os, h.tape, h.output, h.size, h.block⟩
theorem grown_of_below {w w' : World} (h : Below w.heap.size w w') (row : Option Nat) : w.grownBy w' row := ⟨h.os, h.tape, h.output, h.size, fun k hk _ => h.block k hk⟩
theorem grown_trans {a b c : World} {row : Option Nat} (h : a.grownBy b row) (h' : b.grownBy c row) : a.grownBy c row :=
 ⟨h'.os.trans h.os, h'.tape.trans h.tape, h'.output.trans h.output, Nat.le_trans h.size h'.size, fun k hk hne => (h'.block k (Nat.lt_of_lt_of_le hk h.size) hne).trans (h.block k hk hne)⟩
theorem grown_alloc_left {w w' : World} {o : Obj} {row : Option Nat} (h : (w.alloc o).grownBy w' row) : w.grownBy w' row :=
 ⟨h.os, h.tape, h.output, Nat.le_trans (by simp) h.size, fun k hk hne => (h.block k (by simp; omega) hne).trans (Below.heap_alloc w o k hk)⟩
theorem below_grown {B : Nat} {a w w' : World} {row : Option Nat} (h : Below B a w) (hg : w.grownBy w' row) (hB : B ≤ w.heap.size) (hr : ∀ k, row = some k → B ≤ k) : Below B a w' := h.grown hg hB hr
theorem below_of {B : Nat} {a w w' : World} (h : Below B a w) (hb : Below w.heap.size w w') (hB : B ≤ w.heap.size) : Below B a w' := h.trans (hb.mono hB)
def Drawn (w w' : World) : Prop := ∃ k, w' = w.drewN k
theorem Drawn.refl (w : World) : Drawn w w := ⟨0, rfl⟩
theorem Drawn.drewN {a w : World} (h : Drawn a w) (k : Nat) : Drawn a (w.drewN k) := by
 obtain ⟨n, rfl⟩ := h
 exact ⟨n + k, by rw [World.drewN_drewN]⟩
theorem Drawn.trans {a b c : World} (h : Drawn a b) (h' : Drawn b c) : Drawn a c := by
 obtain ⟨n, rfl⟩ := h'
 exact h.drewN n
theorem Drawn.cell {w w' : World} (h : Drawn w w') (a : Addr) : w'.cell? a = w.cell? a := by
 obtain ⟨n, rfl⟩ := h
 rfl
theorem Drawn.frozen {w w' : World} (h : Drawn w w') (a : Addr) : w'.frozen? a = w.frozen? a := by
 obtain ⟨n, rfl⟩ := h
 rfl
theorem Drawn.below {w w' : World} (h : Drawn w w') (B : Nat) : Below B w w' := by
 obtain ⟨n, rfl⟩ := h
 exact below_drewN (Below.refl _ _) n
def Cells (w : World) (A : Option Addr) (cs : List Value) : Prop :=
 cs = [] ∨ ∃ b off, A = some ⟨b, off, none⟩ ∧ b < w.heap.size ∧ ∀ j u, cs[j]? = some u → w.cell? ⟨b, off + j, none⟩ = some u
theorem Cells.nil_ (w : World) (A : Option Addr) : Cells w A [] := .inl rfl
theorem Cells.below {w w' : World} {A : Option Addr} {cs : List Value} (h : Cells w A cs) (hb : Below w.heap.size w w') : Cells w' A cs := by
 rcases h with rfl | ⟨b, off, rfl, hlt, hc⟩
 · exact .inl rfl
 · exact .inr ⟨b, off, rfl, Nat.lt_of_lt_of_le hlt hb.size, fun j x hx => (hb.cell (p := ⟨b, off + j, none⟩) hlt).trans (hc j x hx)⟩
theorem Cells.drewN {w : World} {A : Option Addr} {cs : List Value} (h : Cells w A cs) (n : Nat) : Cells (w.drewN n) A cs := h
theorem Cells.alloc {w : World} {A : Option Addr} {cs : List Value} (h : Cells w A cs) (o : Obj) : Cells (w.alloc o) A cs := h.below ((Below.refl _ _).alloc (Nat.le_refl _) o)
theorem Cells.own {w : World} {base : Nat} {e : TypeId} {size : Nat} {A : Option Addr} {n c : Nat} {cs : List Value} (h : w.ownsRow base e size (.slice A n c) n cs) : Cells w A cs := by
 obtain ⟨hl, h⟩ := h
 rcases h with ⟨hv, rfl⟩ | ⟨g, cap, cur, hv, _, hg, hn, _, hs, ht⟩
 · exact .inl (List.eq_nil_of_length_eq_zero (by simpa using hl))
 · injection hv with hA
   subst hA
   refine .inr ⟨g, 0, rfl, (Array.getElem?_eq_some_iff.1 hg).1, fun j x hx => ?_⟩
   rw [Nat.zero_add, cell_of_row w g j cur e (0, 0) hg]
   rw [← ht, List.getElem?_take] at hx
   split at hx
   · simpa using hx
   · cases hx
theorem Cells.cut {w : World} {b off : Nat} {cs : List Value} (h : Cells w (some ⟨b, off, none⟩) cs) (i n : Nat) : Cells w (some ⟨b, off + i, none⟩) ((cs.drop i).take n) := by
 rcases h with rfl | ⟨b', off', he, hlt, hc⟩
 · exact .inl (by simp)
 · injection he with he
   injection he with h1 h2
   subst h1; subst h2
   refine .inr ⟨b, off + i, rfl, hlt, fun j u hu => ?_⟩
   rw [Nat.add_assoc]
   refine hc _ u ?_
   rw [List.getElem?_take] at hu
   split at hu
   · rw [List.getElem?_drop] at hu; exact hu
   · cases hu
theorem Cells.drop_ {w : World} {b off : Nat} {cs : List Value} (h : Cells w (some ⟨b, off, none⟩) cs) (i : Nat) : Cells w (some ⟨b, off + i, none⟩) (cs.drop i) := by
 have := h.cut i cs.length
 rwa [List.take_of_length_le (by simp)] at this
theorem Cells.take_ {w : World} {A : Option Addr} {cs : List Value} (h : Cells w A cs) (n : Nat) : Cells w A (cs.take n) := by
 rcases h with rfl | ⟨b, off, rfl, hlt, hc⟩
 · exact .inl (by simp)
 · refine .inr ⟨b, off, rfl, hlt, fun j u hu => hc j u ?_⟩
   rw [List.getElem?_take] at hu
   split at hu
   · exact hu
   · cases hu
theorem Cells.addr {w : World} {A : Option Addr} {cs : List Value} (h : Cells w A cs) (hl : 0 < cs.length) : ∃ b off, A = some ⟨b, off, none⟩ ∧ b < w.heap.size ∧ ∀ j u, cs[j]? = some u → w.cell? ⟨b, off + j, none⟩ = some u := by
 rcases h with rfl | h
 · simp at hl
 · exact h
def Ints (w : World) (A : Option Addr) (xs : List Int) : Prop := Cells w A (xs.map (Value.int .i64))
theorem Ints.nil_ (w : World) (A : Option Addr) : Ints w A [] := .inl rfl
theorem Ints.at_ {w : World} {A : Option Addr} {xs : List Int} (h : Ints w A xs) {k : Nat} (hk : k < xs.length) :
    ∃ b off, A = some ⟨b, off, none⟩ ∧ b < w.heap.size ∧ ∀ j x, xs[j]? = some x → w.cell? ⟨b, off + j, none⟩ = some (.int .i64 x) := by
 obtain ⟨b, off, h1, h2, h3⟩ := Cells.addr h (by simp; omega)
 exact ⟨b, off, h1, h2, fun j x hx => h3 j _ (by simp [hx])⟩
theorem Ints.below {w w' : World} {A : Option Addr} {xs : List Int} (h : Ints w A xs) (hb : Below w.heap.size w w') : Ints w' A xs := Cells.below h hb
theorem Ints.drewN {w : World} {A : Option Addr} {xs : List Int} (h : Ints w A xs) (n : Nat) : Ints (w.drewN n) A xs := h
theorem Ints.own {w : World} {base : Nat} {e : TypeId} {A : Option Addr} {n c : Nat} {xs : List Int} (h : w.ownsRow base e 1 (.slice A n c) n (xs.map (Value.int .i64))) : Ints w A xs := Cells.own h
theorem Ints.mk {w : World} {b off : Nat} {xs : List Int} (hb : b < w.heap.size) (h : ∀ j x, xs[j]? = some x → w.cell? ⟨b, off + j, none⟩ = some (.int .i64 x)) : Ints w (some ⟨b, off, none⟩) xs :=
 .inr ⟨b, off, rfl, hb, fun j u hu => by
  rw [List.getElem?_map] at hu
  cases hx : xs[j]? with
  | none => rw [hx] at hu; cases hu
  | some x => rw [hx] at hu; injection hu with hu; subst hu; exact h j x hx⟩
theorem own_form {w : World} {base : Nat} {e : TypeId} {size : Nat} {v : Value} {n : Nat} {xs : List Value} (h : w.ownsRow base e size v n xs) :
    ∃ A c, v = .slice A n c ∧ n ≤ c ∧ c ≤ maxLen ∧ xs.length = n * size := by
 obtain ⟨hl, h⟩ := h
 rcases h with ⟨rfl, rfl⟩ | ⟨g, cap, cur, rfl, _, hg, hn, hm, hs, ht⟩
 · exact ⟨none, 0, rfl, Nat.le_refl _, Nat.zero_le _, hl⟩
 · exact ⟨_, cap, rfl, hn, hm, hl⟩
theorem own_below {w w' : World} {base : Nat} {e : TypeId} {size : Nat} {v : Value} {n : Nat} {xs : List Value} (h : w.ownsRow base e size v n xs) (hb : Below w.heap.size w w') : w'.ownsRow base e size v n xs := by
 refine ⟨h.1, ?_⟩
 rcases h.2 with h' | ⟨g, cap, cur, hv, hbg, hg, r⟩
 · exact .inl h'
 · exact .inr ⟨g, cap, cur, hv, hbg, (hb.block g (Array.getElem?_eq_some_iff.1 hg).1).trans hg, r⟩
theorem own_mono {w : World} {base base' : Nat} {e : TypeId} {size : Nat} {v : Value} {n : Nat} {xs : List Value} (h : w.ownsRow base e size v n xs) (hb : base' ≤ base) : w.ownsRow base' e size v n xs := by
 refine ⟨h.1, ?_⟩
 rcases h.2 with h' | ⟨g, cap, cur, hv, hbg, r⟩
 · exact .inl h'
 · exact .inr ⟨g, cap, cur, hv, Nat.le_trans hb hbg, r⟩
theorem own_ne {w : World} {B k : Nat} {e : TypeId} {size : Nat} {v : Value} {n : Nat} {xs : List Value} (h : w.ownsRow B e size v n xs) (hk : k < B) : v.ownBlock = none ∨ v.ownBlock ≠ some k := by
 cases hv : v.ownBlock with
 | none => exact .inl rfl
 | some j =>
   refine .inr fun e => ?_
   injection e with e
   have := (h.lt j hv).1
   omega
theorem own_base {w : World} {B : Nat} {e : TypeId} {size : Nat} {v : Value} {n : Nat} {xs : List Value} (h : w.ownsRow B e size v n xs) : ∀ k, v.ownBlock = some k → B ≤ k := fun k hk => (h.lt k hk).1
def Sits (v v' : Value) (w : World) : Prop := v'.ownBlock = v.ownBlock ∨ ∃ g, v'.ownBlock = some g ∧ w.heap.size ≤ g
theorem Cells.grown {w w' : World} {A : Option Addr} {cs : List Value} {row : Option Nat} (h : Cells w A cs) (hg : w.grownBy w' row) (hne : ∀ b off, A = some ⟨b, off, none⟩ → some b ≠ row) : Cells w' A cs := by
 rcases h with rfl | ⟨b, off, rfl, hlt, hc⟩
 · exact .inl rfl
 · exact .inr ⟨b, off, rfl, Nat.lt_of_lt_of_le hlt hg.size, fun j x hx => (World.cell?_of_block (a := ⟨b, off + j, none⟩) (hg.block b hlt (hne b off rfl))).trans (hc j x hx)⟩
theorem cells_add {w : World} {b off : Nat} {cs : List Value} (h : ∀ j u, cs[j]? = some u → w.cell? ⟨b, off + j, none⟩ = some u) : ∀ j u, cs[j]? = some u → w.cell? ((⟨b, off, none⟩ : Addr).add j) = some u := by
 intro j u hu
 rw [Addr.add_lit]
 exact h j u hu
section
variable {P : Program} (w : World)
theorem run_append_zero (t ty e : TypeId) (i : TypeInfo) (ht : P.underlying t = some (.slice e)) (hi : P.info? e = some i) (A A' : Option Addr) (n cap c : Nat) (hn : n ≤ cap) :
    (Builtin.append_ #[t, t] ty #[.slice A n cap, .slice A' 0 c]).run P w = .ok (.slice A n cap) w := by
 cases A with
 | none => cases A' <;> simp [Builtin.append_, run_underlying ht, sizeOf, typeInfo, hi, Builtin.lenOf, Builtin.firstCells, hn, loadCells, loadCellsFrom]
 | some a => cases A' <;> simp [Builtin.append_, run_underlying ht, sizeOf, typeInfo, hi, Builtin.lenOf, Builtin.firstCells, hn, storeCells, loadCells, loadCellsFrom]
theorem run_append_cells (base : Nat) (t ty e : TypeId) (z : Value) (size bytes : Nat) (ht : P.underlying t = some (.slice e)) (hi : (P.info? e).map (fun i => (i.zero, i.size, i.bytes)) = some (some z, size, bytes))
    (hzs : z.cells.size = size) (hsz : 0 < size) (v : Value) (n : Nat) (xs : List Value) (hown : w.ownsRow base e size v n xs)
    (A : Option Addr) (m c : Nat) (news : List Value) (hl : news.length = m * size) (hr : Cells w A news) (h1 : ∀ u ∈ news, u.oneCell' = true)
    (h63 : n + m ≤ maxLen) (hbytes : (n + m) * bytes ≤ 140737488355328) (hbase : base ≤ w.heap.size) :
    ∃ v' w', (Builtin.append_ #[t, t] ty #[v, .slice A m c]).run P w = .ok v' w' ∧ w'.ownsRow base e size v' (n + m) (xs ++ news) ∧ w.grownBy w' v.ownBlock ∧ Sits v v' w := by
 obtain ⟨i0, hi0, hz0, hz1, hz2⟩ := info_parts hi
 rcases hr with rfl | ⟨b, off, rfl, hb, hc⟩
 · have hm : m = 0 := by
     have : m * size = 0 := by simpa using hl.symm
     rcases Nat.mul_eq_zero.1 this with h | h
     · exact h
     · omega
   subst hm
   obtain ⟨A', c', rfl, hn, _, _⟩ := own_form hown
   exact ⟨_, w, run_append_zero w t ty e i0 ht hi0 A' A n c' c hn, by simpa using hown, World.grownBy.refl w _, .inl rfl⟩
 · obtain ⟨v', w', hrun, h2, h3, _, h5⟩ := run_append_own_at (P := P) w base t ty e i0 z size bytes ht hi0 hz0 hz1 hz2 hzs hsz v n xs hown ⟨b, off, none⟩ m c news hl (cells_add hc) h1 h63 hbytes hbase
   exact ⟨v', w', hrun, h2, h3, h5.imp id fun h => ⟨_, h, Nat.le_refl _⟩⟩
end
section
variable {P : Program} {w : World} {ops : Array Oper} {rest : List Oper} {o : Oper} {a : Act} {Q : Exit → Act → World → Prop} {K : Act → World → Prop}
theorem wp_append_of {s x : Operand} {t : TypeId} {va vx v' : Value} {w' : World} (ho : o.op = .call { callee := .builtin .append, args := #[s, x], argTypes := #[t, t] })
    (hs : a.eval s = va) (hx : a.eval x = vx) (hrun : (Builtin.append_ #[t, t] o.type #[va, vx]).run P w = .ok v' w') (hK : K (a.put o.dst v') w') : o.wp P a w K Q := by
 unfold Oper.wp execOp
 simp only [ho, resolve, invoke, builtin, Sem.run_bind, Sem.run_pure, Result.andThen_ok, List.map_toArray, List.map_cons, List.map_nil, hs, hx, hrun]
 exact hK
theorem wpList_append_cells (hgd : o.guard = none) (s x : Operand) (t : TypeId) (ho : o.op = .call { callee := .builtin .append, args := #[s, x], argTypes := #[t, t] })
    (base : Nat) (e : TypeId) (z : Value) (size bytes : Nat) (ht : P.underlying t = some (.slice e)) (hi : (P.info? e).map (fun i => (i.zero, i.size, i.bytes)) = some (some z, size, bytes))
    (hzs : z.cells.size = size) (hsz : 0 < size) (v : Value) (n : Nat) (xs : List Value) (hown : w.ownsRow base e size v n xs) (hs : a.eval s = v)
    (A : Option Addr) (m c : Nat) (news : List Value) (hx : a.eval x = .slice A m c) (hl : news.length = m * size) (hr : Cells w A news) (h1 : ∀ u ∈ news, u.oneCell' = true)
    (h63 : n + m ≤ maxLen) (hbytes : (n + m) * bytes ≤ 140737488355328) (hbase : base ≤ w.heap.size)
    (h : ∀ v' w', w'.ownsRow base e size v' (n + m) (xs ++ news) → w.grownBy w' v.ownBlock → Sits v v' w → wpList P ops Q rest (a.put o.dst v') w') : wpList P ops Q (o :: rest) a w := by
 obtain ⟨v', w', hrun, h2, h3, h4⟩ := run_append_cells (P := P) w base t o.type e z size bytes ht hi hzs hsz v n xs hown A m c news hl hr h1 h63 hbytes hbase
 exact wpList_plain hgd fun _ hK => wp_append_of ho hs hx hrun (hK _ _ (h v' w' h2 h3 h4))
theorem step_append_cells {E : Prop} (hgd : o.guard = none) (s x : Operand) (t : TypeId) (ho : o.op = .call { callee := .builtin .append, args := #[s, x], argTypes := #[t, t] })
    (base : Nat) (e : TypeId) (z : Value) (size bytes : Nat) (ht : P.underlying t = some (.slice e)) (hi : (P.info? e).map (fun i => (i.zero, i.size, i.bytes)) = some (some z, size, bytes))
    (hzs : z.cells.size = size) (hsz : 0 < size) (v : Value) (n : Nat) (xs : List Value) (hown : w.ownsRow base e size v n xs) (hs : a.eval s = v)
    (A : Option Addr) (m c : Nat) (news : List Value) (hx : a.eval x = .slice A m c) (hl : news.length = m * size) (hr : Cells w A news) (h1 : ∀ u ∈ news, u.oneCell' = true)
    (h63 : n + m ≤ maxLen) (hbytes : (n + m) * bytes ≤ 140737488355328) (hbase : base ≤ w.heap.size)
    (h : ∀ v' w', w'.ownsRow base e size v' (n + m) (xs ++ news) → w.grownBy w' v.ownBlock → Sits v v' w → K (a.put o.dst v') w') : if Region.wanted o (yielded ops a.tmps) = true then Oper.wp P o a w K Q else E := by
 obtain ⟨v', w', hrun, h2, h3, h4⟩ := run_append_cells (P := P) w base t o.type e z size bytes ht hi hzs hsz v n xs hown A m c news hl hr h1 h63 hbytes hbase
 have hw : Region.wanted o (yielded ops a.tmps) = true := by simp [Region.wanted, hgd]
 rw [if_pos hw]
 exact wp_append_of ho hs hx hrun (h v' w' h2 h3 h4)
end
theorem push1 {P : Program} {w : World} {ops : Array Oper} {rest : List Oper} {o : Oper} {a : Act} {Q : Exit → Act → World → Prop} (hgd : o.guard = none) (s x : Operand) (t : TypeId)
    (ho : o.op = .call { callee := .builtin .append, args := #[s, x], argTypes := #[t, t] })
    (base : Nat) (e : TypeId) (z : Value) (bytes : Nat) (ht : P.underlying t = some (.slice e)) (hi : (P.info? e).map (fun i => (i.zero, i.size, i.bytes)) = some (some z, 1, bytes)) (hzs : z.cells.size = 1)
    (v : Value) (n : Nat) (xs : List Value) (u : Value) (hown : w.ownsRow base e 1 v n xs) (hs : a.eval s = v)
    (hx : a.eval x = .slice (some ⟨w.heap.size, 0, none⟩) 1 1) (h1 : u.oneCell' = true)
    (h63 : n + 1 ≤ maxLen) (hbytes : (n + 1) * bytes ≤ 140737488355328) (hbase : base ≤ w.heap.size)
    (h : ∀ v' w', w'.ownsRow base e 1 v' (n + 1) (xs ++ [u]) → w.grownBy w' v.ownBlock → Sits v v' w → wpList P ops Q rest (a.put o.dst v') w') : wpList P ops Q (o :: rest) a (w.alloc (.cells #[u] e)) := by
 have hr : Cells (w.alloc (.cells #[u] e)) (some ⟨w.heap.size, 0, none⟩) [u] := by
  refine .inr ⟨w.heap.size, 0, rfl, by simp, fun j u' hj => ?_⟩
  match j, hj with
  | 0, hj =>
    simp at hj; subst hj
    exact (Blk.new w e #[u]).cell 0
  | j + 1, hj => simp at hj
 obtain ⟨v', w', hrun, h2, h3, h4⟩ := run_append_cells (P := P) (w.alloc (.cells #[u] e)) base t o.type e z 1 bytes ht hi hzs (by omega) v n xs (hown.alloc _) (some ⟨w.heap.size, 0, none⟩) 1 1 [u] rfl hr (fun u' hu => by simp at hu; subst hu; exact h1) h63 hbytes (by simp; omega)
 exact wpList_plain hgd fun _ hK => wp_append_of ho hs hx hrun (hK _ _ (h v' w' h2 (grown_alloc_left h3) (h4.imp id fun ⟨g, hg, hl⟩ => ⟨g, hg, by simp at hl; omega⟩)))
theorem run_make1 {P : Program} (t e : TypeId) (z : Value) (bytes : Nat) (ht : P.underlying t = some (.slice e)) (hi : (P.info? e).map (fun i => (i.zero, i.size, i.bytes)) = some (some z, 1, bytes)) (hzc : z.cells = #[z])
    (n : Nat) (hb : bytes * n ≤ 281474976710656) (h63 : n ≤ 9223372036854775807) (w : World) :
    (Instr.makeSlice t (.int .i64 (n : Int)) (.int .i64 (n : Int))).run P w = .ok (.slice (some ⟨w.heap.size, 0, none⟩) n n) (w.alloc (.cells (List.replicate n z).toArray e)) := by
 obtain ⟨i0, hi0, hz0, hz1, hz2⟩ := info_parts hi
 have hbi : (i0.bytes : Int) * (n : Int) ≤ 281474976710656 := by
  rw [hz2]
  have h : ((bytes * n : Nat) : Int) ≤ 281474976710656 := by omega
  rwa [Int.natCast_mul] at h
 have hr := run_make (P := P) w t e i0 z ht hi0 hz0 .i64 .i64 n n (by omega) (by omega) hbi (by omega)
 simp only [Int.toNat_natCast, hz1, Nat.mul_one, hzc] at hr
 rw [hr]
 have e1 : madeCells #[z] n = (List.replicate n z).toArray := by
  apply Array.toList_inj.1
  rw [toList_madeCells_one]
 rw [e1]
theorem getElem?_lt {α : Type} {l : List α} {k : Nat} (h : k < l.length) : ∃ x, l[k]? = some x := ⟨l[k], List.getElem?_eq_getElem h⟩
theorem take_snoc {α : Type} {l : List α} {k : Nat} {x : α} (h : l[k]? = some x) : l.take (k + 1) = l.take k ++ [x] := by
 rw [List.take_add_one, h]; rfl
theorem drop_cons {α : Type} {l : List α} {k : Nat} {x : α} (h : l[k]? = some x) : l.drop k = x :: l.drop (k + 1) := by
 have hk : k < l.length := (List.getElem?_eq_some_iff.1 h).1
 rw [List.drop_eq_getElem_cons hk]
 congr 1
 have := (List.getElem?_eq_some_iff.1 h).2
 exact this
theorem ret_bool {a b : Bool} (h : a = b) : Ending.returned (.bool a) = .returned (.bool b) := by rw [h]
theorem ret_int {k : IntKind} {a b : Int} (h : a = b) : Ending.returned (.int k a) = .returned (.int k b) := by rw [h]
def lenV : Value → Nat | .slice _ t _ => t | _ => 0
theorem al1 {w w' : World} {o : Obj} (h : w.alloc o = w') : Below w.heap.size w w' := by subst h; exact (Below.refl _ _).alloc (Nat.le_refl _) _
theorem al2 {w w' : World} {o o' : Obj} (h : (w.alloc o).alloc o' = w') : Below w.heap.size w w' := by subst h; exact ((Below.refl _ _).alloc (Nat.le_refl _) _).alloc (by simp) _
theorem Blk.gx {w w' : World} {g : Nat} {t : TypeId} {cs : Array Value} {row : Option Nat} (h : Blk w g t cs) (hb : w.grownBy w' row) (hne : some g ≠ row := by first | (simp; done) | (simp; omega)) : Blk w' g t cs := h.grown hb hne
theorem bgx {B : Nat} {a w w' : World} {row : Option Nat} (h : Below B a w) (hg : w.grownBy w' row) (hB : B ≤ w.heap.size) (hr : ∀ k, row = some k → B ≤ k := by first | (simp; done) | (simp; omega)) : Below B a w' := below_grown h hg hB hr
end Go.Proofs.YtkflpoiobpblhaaGreat
