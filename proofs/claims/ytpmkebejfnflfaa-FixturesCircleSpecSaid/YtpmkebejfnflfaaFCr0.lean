/- Rounds of the call's own; a function's marks (fixtures). -/
import Derived.Test.YtpmkebejfnflfaaFPr
namespace Go.Proofs.Ytpmkebejfnflfaa
open Go.RowKit Go.Shelf Go.Lib
/-- A round's matches lie apart from the block of the row v. -/
def Inner (w : World) (v : Value) (A : Option Addr) (l : List (Int × Int)) : Prop :=
  l = [] ∨ ∃ b off, A = some ⟨b, off, none⟩ ∧ b < w.heap.size ∧ v.ownBlock ≠ some b ∧ (∃ cs fr, w.heap[b]? = some (.cells cs 51 fr)) ∧ ∀ j u, (ivV l)[j]? = some u → w.cell? ⟨b, off + j, none⟩ = some u
theorem Inner.iv {w : World} {v : Value} {A : Option Addr} {l : List (Int × Int)} (h : Inner w v A l) : IvC w A l := by
  rcases h with rfl | ⟨b, off, rfl, hb, _, _, hc⟩
  · exact IvC.nil_ _ _
  · exact .inr ⟨b, off, rfl, hb, hc⟩
theorem Inner.grown {w w' : World} {v v' : Value} {A : Option Addr} {l : List (Int × Int)} {row : Option Nat} (h : Inner w v A l) (hg : w.grownBy w' row)
    (hr : row = v.ownBlock ∨ ∀ r, row = some r → ∃ o : Obj, w.heap[r]? = some o ∧ o.isCells = false) (hs : Sits v v' w) : Inner w' v' A l := by
  rcases h with rfl | ⟨b, off, rfl, hb, hne, ⟨cs, fr, hcs⟩, hc⟩
  · exact .inl rfl
  · have hrow : some b ≠ row := by
      rcases hr with rfl | hr
      · exact fun e => hne e.symm
      · intro e
        obtain ⟨o, ho, hi⟩ := hr b e.symm
        rw [hcs] at ho
        cases ho
        cases hi
    have hbk := hg.block b hb hrow
    refine .inr ⟨b, off, rfl, Nat.lt_of_lt_of_le hb hg.size, ?_, ⟨cs, fr, hbk.trans hcs⟩, fun j u hu => (World.cell?_of_block (a := ⟨b, off + j, none⟩) hbk).trans (hc j u hu)⟩
    rcases hs with hs | ⟨g, hs, hl⟩
    · rw [hs]; exact hne
    · rw [hs]; intro e; cases e; omega
theorem Inner.own {w : World} {base : Nat} {v : Value} {A : Option Addr} {n c : Nat} {l : List (Int × Int)} (h : w.ownsRow base 51 2 (.slice A n c) n (ivV l)) (hv : ∀ b, v.ownBlock = some b → b < base) : Inner w v A l := by
  obtain ⟨hl, h⟩ := h
  rcases h with ⟨he, rfl⟩ | ⟨g, cap, cur, he, hb, hg, hn, hm, hs, ht⟩
  · exact .inl (ivV_eq_nil (List.eq_nil_of_length_eq_zero (by simpa using hl)))
  · injection he with h1 h2 h3
    subst h1
    refine .inr ⟨g, 0, rfl, (Array.getElem?_eq_some_iff.1 hg).1, fun e => ?_, ⟨_, _, hg⟩, fun j x hx => ?_⟩
    · have := hv g e; omega
    · rw [Nat.zero_add, cell_of_row w g j cur _ (0, 0) hg]
      rw [← ht, List.getElem?_take] at hx
      split at hx
      · simpa using hx
      · cases hx
/-- A slice of rounds of the call's own. -/
def OwnR (w : World) (base : Nat) (v : Value) (ls : List (List (Int × Int))) : Prop :=
  ∃ hs, hs.length = ls.length ∧ w.ownsRow base 46 1 v ls.length (rowV hs ls) ∧ ∀ (k : Nat) (h : Option Addr × Nat) (l : List (Int × Int)), hs[k]? = some h → ls[k]? = some l → l.length ≤ h.2 ∧ h.2 ≤ maxLen ∧ Inner w v h.1 l
theorem OwnR.nil_ (w : World) (base : Nat) : OwnR w base (.slice none 0 0) [] := ⟨[], rfl, World.ownsRow_nil w _ _ _, fun k x l e1 _ => by simp at e1⟩
theorem sits_refl (v : Value) (w : World) : Sits v v w := .inl rfl
theorem OwnR.step {w w' : World} {base : Nat} {v : Value} {ls : List (List (Int × Int))} {row : Option Nat} (h : OwnR w base v ls) (hg : w.grownBy w' row)
    (hr : ∀ r, row = some r → ∃ o : Obj, w.heap[r]? = some o ∧ o.isCells = false) : OwnR w' base v ls := by
  obtain ⟨hs, h1, h2, h3⟩ := h
  refine ⟨hs, h1, h2.kept hg ?_, fun k x l e1 e2 => ⟨(h3 k x l e1 e2).1, (h3 k x l e1 e2).2.1, (h3 k x l e1 e2).2.2.grown hg (.inr hr) (sits_refl _ _)⟩⟩
  cases hv : v.ownBlock with
  | none => exact .inl rfl
  | some b =>
    right
    intro e
    obtain ⟨o, ho, hi⟩ := hr b e.symm
    rcases h2.2 with ⟨rfl, _⟩ | ⟨g, cap, cur, rfl, _, hg', _⟩
    · cases hv
    · simp [Value.ownBlock] at hv
      subst hv
      rw [hg'] at ho
      cases ho
      cases hi
theorem OwnR.below {w w' : World} {base : Nat} {v : Value} {ls : List (List (Int × Int))} (h : OwnR w base v ls) (hb : Below w.heap.size w w') : OwnR w' base v ls := h.step (grown_of_below hb none) (fun r e => by cases e)
theorem OwnR.rounds {w : World} {base : Nat} {A : Option Addr} {n c : Nat} {ls : List (List (Int × Int))} (h : OwnR w base (.slice A n c) ls) : n = ls.length ∧ n ≤ c ∧ c ≤ maxLen ∧ RoundsC w A ls := by
  obtain ⟨hs, h1, h2, h3⟩ := h
  obtain ⟨A', c', e, hn, hm, hl⟩ := own_form h2
  injection e with e1 e2 e3
  subst e1; subst e2; subst e3
  exact ⟨rfl, hn, hm, hs, h1, Cells.own h2, fun k x l e1 e2 => ⟨(h3 k x l e1 e2).1, (h3 k x l e1 e2).2.1, (h3 k x l e1 e2).2.2.iv⟩⟩
theorem OwnR.push {w w' : World} {base : Nat} {v v' : Value} {ls : List (List (Int × Int))} {A : Option Addr} {c : Nat} {l : List (Int × Int)} {hs : List (Option Addr × Nat)} (h1 : hs.length = ls.length)
    (h3 : ∀ (k : Nat) (h : Option Addr × Nat) (l : List (Int × Int)), hs[k]? = some h → ls[k]? = some l → l.length ≤ h.2 ∧ h.2 ≤ maxLen ∧ Inner w v h.1 l) (hg : w.grownBy w' v.ownBlock) (hsit : Sits v v' w)
    (hown : w'.ownsRow base 46 1 v' (ls.length + 1) (rowV hs ls ++ [.slice A l.length c])) (hc : l.length ≤ c) (hm : c ≤ maxLen) (hi : Inner w v A l) : OwnR w' base v' (ls ++ [l]) := by
  refine ⟨hs ++ [(A, c)], by simp [h1], ?_, fun k x y e1 e2 => ?_⟩
  · rw [rowV_snoc _ _ _ _ h1, List.length_append]
    exact hown
  · rcases Nat.lt_or_ge k ls.length with hk | hk
    · rw [List.getElem?_append_left (by omega)] at e1
      rw [List.getElem?_append_left hk] at e2
      obtain ⟨g1, g2, g3⟩ := h3 k x y e1 e2
      exact ⟨g1, g2, g3.grown hg (.inl rfl) hsit⟩
    · have hk' : k = ls.length := by
        have := (List.getElem?_eq_some_iff.1 e2).1
        simp at this
        omega
      subst hk'
      rw [← h1] at e1
      simp at e1 e2
      subst e1; subst e2
      exact ⟨hc, hm, hi.grown hg (.inl rfl) hsit⟩
/-- A list's box is no round and no row of rounds. -/
theorem OwnR.box {w : World} {base L i : Nat} {v u : Value} {cs : Array Value} {ls : List (List (Int × Int))} (h : OwnR w base v ls) (hL : Blk w L 26 cs) : OwnR (w.setCell ⟨L, i, none⟩ u) base v ls := by
  obtain ⟨hs, h1, h2, h3⟩ := h
  have hg : w.grownBy (w.setCell ⟨L, i, none⟩ u) (some L) := ⟨rfl, rfl, rfl, by rw [size_setCell]; exact Nat.le_refl _, fun k _ hk => Below.heap_setCell w ⟨L, i, none⟩ u k (fun e => hk (by rw [e]))⟩
  refine ⟨hs, h1, h2.kept hg ?_, fun k x l e1 e2 => ⟨(h3 k x l e1 e2).1, (h3 k x l e1 e2).2.1, ?_⟩⟩
  · rcases h2.2 with ⟨rfl, _⟩ | ⟨g, cap, cur, rfl, _, hg', _⟩
    · exact .inl rfl
    · refine .inr fun e => ?_
      simp [Value.ownBlock] at e
      rw [e, show w.heap[L]? = _ from hL] at hg'
      simp at hg'
  · rcases (h3 k x l e1 e2).2.2 with rfl | ⟨b, off, hA, hb, hne, ⟨cs', fr, hcs⟩, hc⟩
    · exact .inl rfl
    · have hbL : some b ≠ some L := fun e => by
        cases e
        rw [show w.heap[L]? = _ from hL] at hcs
        simp at hcs
      have hbk := hg.block b hb hbL
      exact .inr ⟨b, off, hA, Nat.lt_of_lt_of_le hb hg.size, hne, ⟨cs', fr, hbk.trans hcs⟩, fun j u hu => (World.cell?_of_block (a := ⟨b, off + j, none⟩) hbk).trans (hc j u hu)⟩
theorem mark_kept {w w' : World} {D base n size : Nat} {e : TypeId} {v : Value} {xs : List Value} {o : Obj} (h : w.heap[D]? = some o) (ho : o.isCells = false) (hown : w.ownsRow base e size v n xs) (hg : w.grownBy w' v.ownBlock) : w'.heap[D]? = some o := by
  refine (hg.block D (Array.getElem?_eq_some_iff.1 h).1 fun e => ?_).trans h
  rcases hown.2 with ⟨rfl, _⟩ | ⟨g, cap, cur, rfl, _, hg', _⟩
  · cases e
  · simp [Value.ownBlock] at e
    rw [e, hg'] at h
    cases h
    cases ho
theorem mark_set {w : World} {D L i : Nat} {u : Value} {o : Obj} {cs : Array Value} {t : TypeId} (h : w.heap[D]? = some o) (ho : o.isCells = false) (hL : Blk w L t cs) : (w.setCell ⟨L, i, none⟩ u).heap[D]? = some o :=
  (Below.heap_setCell w ⟨L, i, none⟩ u D (fun e => by
    rw [e, show w.heap[L]? = _ from hL] at h
    cases h
    cases ho)).trans h
/-- The mark of a range over a function. -/
def markD (D : Nat) : Deferred := { target := .collected D, args := #[] }
theorem leaves_marks {F : Fence} {n : Nat} {P : Program} {fn : Func} {tmps : Array Value} {R : Ending → World → Prop} : ∀ (ds : List Nat) (w : World), ds.Nodup → (∀ D ∈ ds, w.heap[D]? = some (.deferred (some []))) →
    (∀ w' : World, w'.os = w.os → w'.tape = w.tape → w'.output = w.output → w'.heap.size = w.heap.size → (∀ k, k ∉ ds → w'.heap[k]? = w.heap[k]?) → LeavesIn F n P fn tmps R [] .returning w') → LeavesInM F n P fn tmps R (ds.map markD) .returning w
  | [], w, _, _, h => h w rfl rfl rfl rfl (fun _ _ => rfl)
  | D :: ds, w, hn, hd, h => by
    have hn' := List.nodup_cons.1 hn
    have hg := grownBy_putObj' w D (.deferred none)
    refine ⟨by simp, .inl ⟨D, _, rfl, run_takeDeferred (hd D (by simp)), ?_⟩⟩
    refine leaves_marks ds _ hn'.2 (fun D' hD' => ?_) fun w' h1 h2 h3 h4 h5 => h w' (h1.trans hg.os) (h2.trans hg.tape) (h3.trans hg.output) (h4.trans World.putObj_size) fun k hk => ?_
    · rw [World.putObj_heap_other (k := D') (fun e => by subst e; exact hn'.1 hD')]
      exact hd D' (by simp [hD'])
    · rw [h5 k (fun hm => hk (by simp [hm])), World.putObj_heap_other (fun e => hk (by simp [e]))]
end Go.Proofs.Ytpmkebejfnflfaa
