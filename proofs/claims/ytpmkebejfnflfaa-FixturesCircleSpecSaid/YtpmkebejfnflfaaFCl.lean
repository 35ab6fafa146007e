/- The circle's second half: rows that lie aside, the clone, the way out (fixtures). -/
import Derived.Test.YtpmkebejfnflfaaFCrP
namespace Go.Proofs.Ytpmkebejfnflfaa
open Go.RowKit Go.Shelf Go.Lib
attribute [local go_sem] Oper.semAt_some
namespace Fix
def circM (cl : List Int) (double : Bool) : List (List Mt) := if validC cl then circleM cl double else []
def circE (cl : List Int) : Int := if validC cl then 0 else 1
end Fix
def CircPost (w : World) (cl : List Int) (double : Bool) (e : Ending) (w' : World) : Prop :=
  ∃ A' q c', e = .returned (.tuple #[.agg #[.slice A' q c'], .int .i64 (Fix.circE cl)]) ∧ q = (Fix.circM cl double).length ∧ q ≤ c' ∧ c' ≤ maxLen ∧ RoundsC w' A' (Fix.circM cl double) ∧ Below w.heap.size w w'
theorem circPost_bad {w w' : World} {cl : List Int} (double : Bool) (h : Fix.validC cl = false) (hb : Below w.heap.size w w') : CircPost w cl double (.returned (.tuple #[.agg #[.slice none 0 0], .int .i64 1])) w' := by
  have e1 : Fix.circE cl = 1 := by unfold Fix.circE; rw [h]; rfl
  have e2 : Fix.circM cl double = [] := by unfold Fix.circM; rw [h]; rfl
  unfold CircPost
  rw [e1, e2]
  exact ⟨none, 0, 0, rfl, rfl, Nat.le_refl _, Nat.zero_le _, RoundsC.nil_ _ _, hb⟩
theorem circ_results {tmps : Array Value} {w : World} {L : Nat} {v e : Value} (h4 : tmps.getD 4 undef = .pointer (some ⟨L, 0, none⟩)) (h5 : tmps.getD 5 undef = e) (hb : Blk w L 26 #[v]) :
    (results Try.f11 tmps).run Try.prog w = .ok (.tuple #[.agg #[v], e]) w := by
  have hc := hb.cell 0
  have h4' : tmps[4]?.getD undef = .pointer (some ⟨L, 0, none⟩) := by simpa using h4
  have h5' : tmps[5]?.getD undef = e := by simpa using h5
  have hc' : w.cell? ⟨L, 0, none⟩ = some v := hc
  simp [results, Try.results11, go_sem]
  rw [h4', h5']
  simp [go_sem, hc']
theorem OwnR.same {w w' : World} {base : Nat} {v : Value} {ls : List (List (Int × Int))} (h : OwnR w base v ls) (hz : w.heap.size ≤ w'.heap.size) (hk : ∀ (k : Nat) (cs : Array Value) (t : TypeId) (fr : Nat × Nat), w.heap[k]? = some (.cells cs t fr) → w'.heap[k]? = w.heap[k]?) : OwnR w' base v ls := by
  obtain ⟨hs, h1, h2, h3⟩ := h
  refine ⟨hs, h1, ⟨h2.1, ?_⟩, fun k x l e1 e2 => ⟨(h3 k x l e1 e2).1, (h3 k x l e1 e2).2.1, ?_⟩⟩
  · rcases h2.2 with h | ⟨g, cap, cur, q1, q2, q3, q4⟩
    · exact .inl h
    · exact .inr ⟨g, cap, cur, q1, q2, (hk _ _ _ _ q3).trans q3, q4⟩
  · rcases (h3 k x l e1 e2).2.2 with rfl | ⟨b, off, hA, hb, hne, ⟨cs', fr, hcs⟩, hc⟩
    · exact .inl rfl
    · have hbk := hk _ _ _ _ hcs
      exact .inr ⟨b, off, hA, Nat.lt_of_lt_of_le hb hz, hne, ⟨cs', fr, hbk.trans hcs⟩, fun j u hu => (World.cell?_of_block (a := ⟨b, off + j, none⟩) hbk).trans (hc j u hu)⟩
/-- The way out behind the loops: the marks, then the results. -/
theorem circ_leave {F : Fence} {n0 A n c : _} {cl : List Int} {double : Bool} {w wr : World} {tmps : Array Value} {ds : List Nat} (hnd : ds.Nodup) (hds : ∀ D ∈ ds, w.heap.size ≤ D ∧ wr.heap[D]? = some (.deferred (some []))) (hb : Below w.heap.size w wr)
    (hL : Blk wr (w.heap.size + 1) 26 #[.slice A n c]) (hOR : OwnR wr w.heap.size (.slice A n c) (Fix.circleM cl double)) (hv : Fix.validC cl = true)
    (h4 : tmps.getD 4 undef = .pointer (some ⟨w.heap.size + 1, 0, none⟩)) (h5 : tmps.getD 5 undef = .int .i64 0) :
    LeavesInM F n0 Try.prog Try.f11 tmps (CircPost w cl double) (ds.map markD) .returning (wr.setCell ⟨w.heap.size + 1, 0, none⟩ (.slice A n c)) := by
  refine leaves_marks ds _ hnd (fun D hD => mark_set (hds D hD).2 rfl hL) fun w' k1 k2 k3 k4 k5 => ?_
  have hnL : w.heap.size + 1 ∉ ds := fun hm => by
    have h1 := (hds _ hm).2
    rw [show wr.heap[w.heap.size + 1]? = _ from hL] at h1
    cases h1
  have bL8 : Blk (wr.setCell ⟨w.heap.size + 1, 0, none⟩ (.slice A n c)) (w.heap.size + 1) 26 #[.slice A n c] := by simpa using hL.set_ 0 (.slice A n c)
  have bL9 : Blk w' (w.heap.size + 1) 26 #[.slice A n c] := (k5 _ hnL).trans bL8
  refine ⟨_, circ_results h4 h5 bL9, ?_⟩
  have hOR9 := ((hOR.box (i := 0) (u := .slice A n c) hL).same (w' := w') (by rw [k4]; exact Nat.le_refl _) (fun k cs t fr hk => k5 k fun hm => by
    have h1 := mark_set (i := 0) (u := .slice A n c) (hds k hm).2 rfl hL
    rw [hk] at h1
    cases h1))
  have hb9 := below_set (i := 0) hb (Nat.le_succ w.heap.size) (.slice A n c)
  have hbf : Below w.heap.size w w' := ⟨k1.trans hb9.os, k2.trans hb9.tape, k3.trans hb9.output, by rw [k4]; exact hb9.size, fun k hk => (k5 k fun hm => by
    have := (hds k hm).1
    omega).trans (hb9.block k hk)⟩
  obtain ⟨z1, z2, z3, z4⟩ := hOR9.rounds
  have e1 : Fix.circE cl = 0 := by unfold Fix.circE; rw [hv]; rfl
  have e2 : Fix.circM cl double = Fix.circleM cl double := by unfold Fix.circM; rw [hv]; rfl
  unfold CircPost
  rw [e1, e2]
  exact ⟨A, _, c, rfl, z1, z2, z3, z4, hbf⟩
/-- A row of cells of type t that lies apart from the block of the row v. -/
def Side (w : World) (v : Value) (t : TypeId) (A : Option Addr) (vs : List Value) : Prop :=
  vs = [] ∨ ∃ b off, A = some ⟨b, off, none⟩ ∧ b < w.heap.size ∧ v.ownBlock ≠ some b ∧ (∃ cs fr, w.heap[b]? = some (.cells cs t fr)) ∧ ∀ j u, vs[j]? = some u → w.cell? ⟨b, off + j, none⟩ = some u
theorem Side.cells {w : World} {v : Value} {t : TypeId} {A : Option Addr} {vs : List Value} (h : Side w v t A vs) : Cells w A vs := by
  rcases h with rfl | ⟨b, off, rfl, hb, _, _, hc⟩
  · exact Cells.nil_ _ _
  · exact .inr ⟨b, off, rfl, hb, hc⟩
theorem Side.grown {w w' : World} {v v' : Value} {t : TypeId} {A : Option Addr} {vs : List Value} {row : Option Nat} (h : Side w v t A vs) (hg : w.grownBy w' row)
    (hr : row = v.ownBlock ∨ ∀ r, row = some r → ∃ o : Obj, w.heap[r]? = some o ∧ o.isCells = false) (hs : Sits v v' w) : Side w' v' t A vs := by
  rcases h with rfl | ⟨b, off, rfl, hb, hne, ⟨cs, fr, hcs⟩, hc⟩
  · exact .inl rfl
  · have hrow : some b ≠ row := by
      rcases hr with rfl | hr
      · exact fun e => hne e.symm
      · intro e
        obtain ⟨o, ho, hi⟩ := hr b e.symm
        rw [hcs] at ho
        cases ho
        cases hi
    have hbk := hg.block b hb hrow
    refine .inr ⟨b, off, rfl, Nat.lt_of_lt_of_le hb hg.size, ?_, ⟨cs, fr, hbk.trans hcs⟩, fun j u hu => (World.cell?_of_block (a := ⟨b, off + j, none⟩) hbk).trans (hc j u hu)⟩
    rcases hs with hs | ⟨g, hs, hl⟩
    · rw [hs]; exact hne
    · rw [hs]; intro e; cases e; omega
theorem Side.below {w w' : World} {v : Value} {t : TypeId} {A : Option Addr} {vs : List Value} (h : Side w v t A vs) (hb : Below w.heap.size w w') : Side w' v t A vs := h.grown (grown_of_below hb none) (.inr fun r e => by cases e) (sits_refl _ _)
theorem Side.box {w : World} {L i : Nat} {v u : Value} {t t' : TypeId} {A : Option Addr} {vs : List Value} {cs : Array Value} (h : Side w v t A vs) (hL : Blk w L t' cs) (htt : t ≠ t') : Side (w.setCell ⟨L, i, none⟩ u) v t A vs := by
  have hg : w.grownBy (w.setCell ⟨L, i, none⟩ u) (some L) := ⟨rfl, rfl, rfl, by rw [size_setCell]; exact Nat.le_refl _, fun k _ hk => Below.heap_setCell w ⟨L, i, none⟩ u k (fun e => hk (by rw [e]))⟩
  rcases h with rfl | ⟨b, off, hA, hb, hne, ⟨cs', fr, hcs⟩, hc⟩
  · exact .inl rfl
  · have hbL : some b ≠ some L := fun e => by
      cases e
      rw [show w.heap[L]? = _ from hL] at hcs
      cases hcs
      exact htt rfl
    have hbk := hg.block b hb hbL
    exact .inr ⟨b, off, hA, Nat.lt_of_lt_of_le hb hg.size, hne, ⟨cs', fr, hbk.trans hcs⟩, fun j u hu => (World.cell?_of_block (a := ⟨b, off + j, none⟩) hbk).trans (hc j u hu)⟩
theorem Side.own {w : World} {base n c size : Nat} {e : TypeId} {v : Value} {A : Option Addr} {vs : List Value} (_hz : 0 < size) (h : w.ownsRow base e size (.slice A n c) n vs) (hv : ∀ b, v.ownBlock = some b → b < base) : Side w v e A vs := by
  obtain ⟨hl, h⟩ := h
  rcases h with ⟨he, rfl⟩ | ⟨g, cap, cur, he, hb, hg, hn, hm, hs, ht⟩
  · exact .inl (List.eq_nil_of_length_eq_zero (by simpa using hl))
  · injection he with h1 h2 h3
    subst h1
    refine .inr ⟨g, 0, rfl, (Array.getElem?_eq_some_iff.1 hg).1, fun e => ?_, ⟨_, _, hg⟩, fun j x hx => ?_⟩
    · have := hv g e; omega
    · rw [Nat.zero_add, cell_of_row w g j cur _ (0, 0) hg]
      rw [← ht, List.getElem?_take] at hx
      split at hx
      · simpa using hx
      · cases hx
theorem Inner.side {w : World} {v : Value} {A : Option Addr} {l : List (Int × Int)} (h : Inner w v A l) : Side w v 51 A (ivV l) := by
  rcases h with rfl | ⟨b, off, hA, hb, hne, hcs, hc⟩
  · exact .inl rfl
  · exact .inr ⟨b, off, hA, hb, hne, hcs, hc⟩
theorem OwnR.ownBlock {w : World} {base : Nat} {v : Value} {ls : List (List (Int × Int))} (h : OwnR w base v ls) : ∀ b, v.ownBlock = some b → base ≤ b ∧ b < w.heap.size := fun b hb => by
  obtain ⟨_, _, h2, _⟩ := h
  exact h2.lt b hb
/-- What the second half reads: the clone's row, and behind it the rounds. -/
def Reads (w : World) (v : Value) (A : Option Addr) (ls : List (List (Int × Int))) : Prop :=
  ∃ hs, hs.length = ls.length ∧ Side w v 46 A (rowV hs ls) ∧ ∀ (k : Nat) (h : Option Addr × Nat) (l : List (Int × Int)), hs[k]? = some h → ls[k]? = some l → l.length ≤ h.2 ∧ h.2 ≤ maxLen ∧ Side w v 51 h.1 (ivV l)
theorem Reads.grown {w w' : World} {v v' : Value} {A : Option Addr} {ls : List (List (Int × Int))} {row : Option Nat} (h : Reads w v A ls) (hg : w.grownBy w' row)
    (hr : row = v.ownBlock ∨ ∀ r, row = some r → ∃ o : Obj, w.heap[r]? = some o ∧ o.isCells = false) (hs : Sits v v' w) : Reads w' v' A ls := by
  obtain ⟨q, h1, h2, h3⟩ := h
  exact ⟨q, h1, h2.grown hg hr hs, fun k x l e1 e2 => ⟨(h3 k x l e1 e2).1, (h3 k x l e1 e2).2.1, (h3 k x l e1 e2).2.2.grown hg hr hs⟩⟩
theorem Reads.below {w w' : World} {v : Value} {A : Option Addr} {ls : List (List (Int × Int))} (h : Reads w v A ls) (hb : Below w.heap.size w w') : Reads w' v A ls := h.grown (grown_of_below hb none) (.inr fun r e => by cases e) (sits_refl _ _)
theorem Reads.box {w : World} {L i : Nat} {v u : Value} {A : Option Addr} {ls : List (List (Int × Int))} {cs : Array Value} (h : Reads w v A ls) (hL : Blk w L 26 cs) : Reads (w.setCell ⟨L, i, none⟩ u) v A ls := by
  obtain ⟨q, h1, h2, h3⟩ := h
  exact ⟨q, h1, h2.box hL (by decide), fun k x l e1 e2 => ⟨(h3 k x l e1 e2).1, (h3 k x l e1 e2).2.1, (h3 k x l e1 e2).2.2.box hL (by decide)⟩⟩
theorem Reads.rounds {w : World} {v : Value} {A : Option Addr} {ls : List (List (Int × Int))} (h : Reads w v A ls) : RoundsC w A ls := by
  obtain ⟨q, h1, h2, h3⟩ := h
  exact ⟨q, h1, h2.cells, fun k x l e1 e2 => ⟨(h3 k x l e1 e2).1, (h3 k x l e1 e2).2.1, (h3 k x l e1 e2).2.2.cells⟩⟩
/-- slices.Clone of rounds of the call's own. -/
theorem clone_any (base n : Nat) (v : Value) (ls : List (List (Int × Int))) (w : World) (hn : ls.length = n) (h1 : 1 ≤ n) (hn2 : n ≤ 1000000) (h : OwnR w base v ls) :
    Calls Try.prog 33 #[v] w fun e w' => ∃ A c, e = .returned (.slice A n c) ∧ Reads w' v A ls ∧ n ≤ c ∧ c ≤ maxLen ∧ Below w.heap.size w w' := by
  have hw := h.ownBlock
  obtain ⟨hs, g1, g2, g3⟩ := h
  obtain ⟨A, c, rfl, hc, hm, -⟩ := own_form g2
  have hC := Cells.own g2
  obtain ⟨b, off, rfl, hb, hcs⟩ := hC.addr (by rw [rowV_length _ _ g1]; omega)
  subst hn
  have hcon := AnyE.slices_Clone Try.cloneR { (Try.prog.info? 46).get! with zero := (Try.prog.info? 46).get!.zero } (.slice none 0 0) 1 24 (by kernel_rfl) (by kernel_rfl) (by kernel_rfl) (by kernel_rfl) rfl (by omega) Try.sizeOf46
    b off ls.length c (rowV hs ls) w (by rw [rowV_length _ _ g1]; omega) (by unfold maxLen; omega) (by omega) hcs (rowV_one hs ls)
  change Calls Try.prog 33 _ _ _ at hcon
  refine hcon.mono ?_
  rintro e w' ⟨v', rfl, hown, -, hbw⟩
  change w'.ownsRow w.heap.size 46 1 v' ls.length (rowV hs ls) at hown
  obtain ⟨A', c', rfl, hc', hm', -⟩ := own_form hown
  exact ⟨A', c', rfl, ⟨hs, g1, Side.own (by omega) hown fun b' hb' => (hw b' hb').2, fun k x l e1 e2 => ⟨(g3 k x l e1 e2).1, (g3 k x l e1 e2).2.1, (g3 k x l e1 e2).2.2.side.below hbw⟩⟩, hc', hm', hbw⟩
end Go.Proofs.Ytpmkebejfnflfaa
