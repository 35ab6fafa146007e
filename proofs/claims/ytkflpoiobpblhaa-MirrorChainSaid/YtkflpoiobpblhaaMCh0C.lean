/- Mirror: versions that stay as they are while a row of versions grows beside them. -/
import Derived.Test.YtkflpoiobpblhaaP36
import Derived.Test.YtkflpoiobpblhaaP42
namespace Go.Proofs.Ytkflpoiobpblhaa
open Go.RowKit
set_option linter.unusedVariables false
set_option linter.unusedSimpArgs false
structure Sam (kb : Nat) (L : Value) (W W' : World) : Prop where
  os : W'.os = W.os
  tape : W'.tape = W.tape
  output : W'.output = W.output
  size : W.heap.size ≤ W'.heap.size
  block : ∀ b, b < W.heap.size → b ≠ kb → L.ownBlock ≠ some b → W'.heap[b]? = W.heap[b]?
section
variable {kb : Nat} {L L' : Value} {W W' W1 W2 : World}
theorem Sam.refl (kb : Nat) (L : Value) (W : World) : Sam kb L W W := ⟨rfl, rfl, rfl, Nat.le_refl _, fun _ _ _ _ => rfl⟩
theorem Sam.trans (h : Sam kb L W W1) (h' : Sam kb L W1 W2) : Sam kb L W W2 :=
  ⟨h'.os.trans h.os, h'.tape.trans h.tape, h'.output.trans h.output, Nat.le_trans h.size h'.size, fun b hb h1 h2 => (h'.block b (Nat.lt_of_lt_of_le hb h.size) h1 h2).trans (h.block b hb h1 h2)⟩
theorem Sam.of_below (h : Below W.heap.size W W') : Sam kb L W W' := ⟨h.os, h.tape, h.output, h.size, fun b hb _ _ => h.block b hb⟩
theorem Sam.of_key (h : W.grownBy W' (some kb)) : Sam kb L W W' := ⟨h.os, h.tape, h.output, h.size, fun b hb h1 _ => h.block b hb (fun e => h1 (by injection e))⟩
theorem Sam.of_app (h : W.grownBy W' L.ownBlock) : Sam kb L W W' := ⟨h.os, h.tape, h.output, h.size, fun b hb _ h2 => h.block b hb (fun e => h2 e.symm)⟩
theorem Sam.moved (hs : Sits L L' W) (h0 : Sam kb L W W1) (h' : Sam kb L' W1 W2) : Sam kb L W W2 :=
  ⟨h'.os.trans h0.os, h'.tape.trans h0.tape, h'.output.trans h0.output, Nat.le_trans h0.size h'.size, fun b hb h1 h2 => (h'.block b (Nat.lt_of_lt_of_le hb h0.size) h1 (by
    rcases hs with e | ⟨g, e, hg⟩
    · rw [e]; exact h2
    · rw [e]; intro e2; injection e2 with e2; omega)).trans (h0.block b hb h1 h2)⟩
theorem Cells.sam {A : Option Addr} {cs : List Value} (h : Cells W A cs) (hs : Sam kb L W W') (hA : ∀ b off, A = some ⟨b, off, none⟩ → b ≠ kb ∧ L.ownBlock ≠ some b) : Cells W' A cs := by
  rcases h with rfl | ⟨b, off, rfl, hlt, hc⟩
  · exact .inl rfl
  · obtain ⟨h1, h2⟩ := hA b off rfl
    exact .inr ⟨b, off, rfl, Nat.lt_of_lt_of_le hlt hs.size, fun j u hu => (World.cell?_of_block (a := ⟨b, off + j, none⟩) (hs.block b hlt h1 h2)).trans (hc j u hu)⟩
theorem Cells.samN {A : Option Addr} {l : List Nat} {B : Nat} (h : Cells W A (bytesV l)) (hN : NewA B A l) (hs : Sam kb L W W') (hk : kb < B) (hL : ∀ g, L.ownBlock = some g → g < B) : Cells W' A (bytesV l) := by
  rcases hN with rfl | hN
  · exact .inl (by unfold bytesV; rfl)
  · exact h.sam hs (fun b off e => ⟨by have := hN b off e; omega, fun e2 => by have h1 := hN b off e; have h2 := hL b e2; omega⟩)
def VerR (kb : Nat) (L : Value) (W : World) (v : Mir.Ve) (V : Array Value) : Prop := ∀ W', Sam kb L W W' → VerC W' v V
theorem VerR.now {v : Mir.Ve} {V : Array Value} (h : VerR kb L W v V) : VerC W v V := h W (Sam.refl _ _ _)
theorem VerR.sam {v : Mir.Ve} {V : Array Value} (h : VerR kb L W v V) (hs : Sam kb L W W1) : VerR kb L W1 v V := fun W' h' => h W' (hs.trans h')
theorem VerR.moved {v : Mir.Ve} {V : Array Value} (h : VerR kb L W v V) (h0 : Sam kb L W W1) (hs : Sits L L' W) : VerR kb L' W1 v V := fun W' h' => h W' (Sam.moved hs h0 h')
theorem VerR.mk_ {wb Wd : World} {B B' n cc : Nat} {C : Option Addr} {hs : List (Option Addr × Nat)} {v : Mir.Ve} {V : Array Value} (hC : Wd.ownsRow B 90 3 (.slice C n cc) n (Mir.chV hs v.ch)) (hd : Below Wd.heap.size Wd W) (hdat : ChDat wb hs v.ch) (hwb : Below wb.heap.size wb W)
    (hV : VerN B' C cc W v V) (h1 : kb < B) (h2 : kb < B') (h3 : wb.heap.size ≤ kb) (hL : ∀ g, L.ownBlock = some g → wb.heap.size ≤ g ∧ g < B ∧ g < B') : VerR kb L W v V := by
  intro W' hS
  have hw : Below wb.heap.size wb W' := hwb.trans ⟨hS.os, hS.tape, hS.output, hS.size, fun k hk => hS.block k (Nat.lt_of_lt_of_le hk hwb.size) (by omega) (fun e => by have := (hL _ e).1; omega)⟩
  have hc : Cells W' C (Mir.chV hs v.ch) := (Cells.own (own_below hC hd)).sam hS (fun b off e => by
    have h4 := own_base hC b (by rw [e]; rfl)
    exact ⟨by omega, fun e2 => by have := (hL _ e2).2.1; omega⟩)
  obtain ⟨Ao, co, n1, Ac, cq, n2, Ap, cp, n3, e, hdd, g1, g2, hs, a1, a2, a3⟩ := hV
  obtain ⟨Ao', co', Ac', cc', Ap', cp', e0, e1, e2, e3, x1, x2, x3, r⟩ := hs
  injection e1 with q1 q2 q3
  injection e2 with q4 q5 q6
  injection e3 with q7 q8 q9
  subst q1; subst q2; subst q3; subst q4; subst q5; subst q6; subst q7; subst q8; subst q9
  exact ⟨C, cc, _, _, _, _, e, hdd, hdat.changes hw hc, g1, g2, _, _, _, _, _, _, rfl, rfl, rfl, rfl, x1.samN a1 hS h2 (fun g e => (hL g e).2.2), x2.samN a2 hS h2 (fun g e => (hL g e).2.2), x3.samN a3 hS h2 (fun g e => (hL g e).2.2), r⟩
def VersR (base kb : Nat) (L : Value) (W : World) (l : List Mir.Ve) : Prop :=
  ∃ Vs : List (Array Value), Vs.length = l.length ∧ W.ownsRow base 38 38 L l.length (Vs.map Array.toList).flatten ∧ ∀ (k : Nat) (v : Mir.Ve) (V : Array Value), l[k]? = some v → Vs[k]? = some V → VerR kb L W v V
variable {base : Nat} {l : List Mir.Ve}
theorem VersR.nil_ (base kb : Nat) (W : World) : VersR base kb (.slice none 0 0) W [] := ⟨[], rfl, World.ownsRow_nil _ _ _ _, fun k v V e _ => by simp at e⟩
theorem VersR.below (h : VersR base kb L W l) (hb : Below W.heap.size W W') : VersR base kb L W' l := by
  obtain ⟨Vs, h1, h2, h3⟩ := h
  exact ⟨Vs, h1, own_below h2 hb, fun k v V e1 e2 => (h3 k v V e1 e2).sam (Sam.of_below hb)⟩
theorem VersR.key (h : VersR base kb L W l) (hg : W.grownBy W' (some kb)) (hk : kb < base) : VersR base kb L W' l := by
  obtain ⟨Vs, h1, h2, h3⟩ := h
  refine ⟨Vs, h1, ⟨h2.1, ?_⟩, fun k v V e1 e2 => (h3 k v V e1 e2).sam (Sam.of_key hg)⟩
  rcases h2.2 with h' | ⟨g, cap, cur, hv, hbg, hgc, r⟩
  · exact .inl h'
  · exact .inr ⟨g, cap, cur, hv, hbg, (hg.block g (Array.getElem?_eq_some_iff.1 hgc).1 (fun e => by injection e with e; omega)).trans hgc, r⟩
theorem VersR.lt (h : VersR base kb L W l) : ∀ g, L.ownBlock = some g → base ≤ g ∧ g < W.heap.size := by
  obtain ⟨Vs, h1, h2, h3⟩ := h
  exact fun g e => h2.lt g e
theorem VersR.form (h : VersR base kb L W l) : ∃ A c, L = .slice A l.length c ∧ l.length ≤ c ∧ c ≤ maxLen := by
  obtain ⟨Vs, h1, h2, h3⟩ := h
  obtain ⟨A, c, e, a, b, -⟩ := own_form h2
  exact ⟨A, c, e, a, b⟩
theorem VersR.now {A : Option Addr} {n c : Nat} (h : VersR base kb (.slice A n c) W l) : VersC W A l := by
  obtain ⟨Vs, h1, h2, h3⟩ := h
  obtain ⟨A', c', e, -⟩ := own_form h2
  injection e with q1 q2 q3
  subst q1; subst q2; subst q3
  exact ⟨Vs, h1, Cells.own h2, fun k v V e1 e2 => (h3 k v V e1 e2).now⟩
theorem VersR.push (h : VersR base kb L W l) {v : Mir.Ve} {V : Array Value} (hv : VerR kb L W v V) : ∃ xs, W.ownsRow base 38 38 L l.length xs ∧ ∀ L' W', W'.ownsRow base 38 38 L' (l.length + 1) (xs ++ V.toList) → W.grownBy W' L.ownBlock → Sits L L' W → VersR base kb L' W' (l ++ [v]) := by
  obtain ⟨Vs, h1, h2, h3⟩ := h
  refine ⟨_, h2, fun L' W' ho hg hs => ⟨Vs ++ [V], by simp [h1], ?_, fun k u U e1 e2 => ?_⟩⟩
  · rw [List.map_append, List.flatten_append]
    simpa using ho
  · rcases Nat.lt_trichotomy k l.length with hk | hk | hk
    · rw [List.getElem?_append_left hk] at e1
      rw [List.getElem?_append_left (by rw [h1]; exact hk)] at e2
      exact (h3 k u U e1 e2).moved (Sam.of_app hg) hs
    · subst hk
      rw [List.getElem?_append_right (Nat.le_refl _)] at e1
      rw [List.getElem?_append_right (by rw [h1]; exact Nat.le_refl _), h1] at e2
      simp at e1 e2
      subst e1; subst e2
      exact hv.moved (Sam.of_app hg) hs
    · rw [List.getElem?_eq_none (by simp; omega)] at e1; cases e1
end
namespace Mir
def vsK (s : List Nat) : Nat → List It → List (List It) → List Ve
  | _, _, [] => []
  | u, x, y :: r => vsnV s 2 u y (diffS x y) :: vsK s (u + 1) y r
theorem vsK_length (s : List Nat) : ∀ (u : Nat) (x : List It) (r : List (List It)), (vsK s u x r).length = r.length
  | _, _, [] => rfl
  | u, x, y :: r => by simp [vsK, vsK_length s (u + 1) y r]
end Mir
def StatesC (w : World) (S : Option Addr) (ss : List (List Mir.It)) : Prop :=
  ∃ hs : List (Option Addr × Nat), hs.length = ss.length ∧ (∀ (k : Nat) (h : Option Addr × Nat) (x : List Mir.It), hs[k]? = some h → ss[k]? = some x → x.length ≤ h.2 ∧ h.2 ≤ maxLen ∧ ItemsC w h.1 x) ∧
    ∀ (k : Nat) (h : Option Addr × Nat) (x : List Mir.It), hs[k]? = some h → ss[k]? = some x → ∃ b off, S = some ⟨b, off, none⟩ ∧ b < w.heap.size ∧ w.cell? ⟨b, off + k, none⟩ = some (.slice h.1 x.length h.2)
end Go.Proofs.Ytkflpoiobpblhaa
