/- Mirror: stores that no row of a follower can notice, by the kinds of the cells. -/
import Derived.Test.YtkflpoiobpblhaaP40
namespace Go.Proofs.Ytkflpoiobpblhaa
open Go.RowKit
set_option linter.unusedVariables false
set_option linter.unusedSimpArgs false
structure Kd (w w' : World) (g : Nat) (t : TypeId) (cs cs' : Array Value) : Prop where
  gr : w.grownBy w' (some g)
  b : Blk w g t cs
  b' : Blk w' g t cs'
  u8 : ∀ (i : Nat) (y : Int), cs[i]? = some (.int .u8 y) → cs'[i]? = cs[i]?
  st : ∀ (i : Nat) (s : ByteArray), cs[i]? ≠ some (.string s)
  iu : ∀ (i : Nat) (x y : Int), cs[i]? = some (.int .i64 x) → cs[i + 1]? ≠ some (.int .u8 y)
section
variable {w w' : World} {g : Nat} {t : TypeId} {cs cs' : Array Value}
theorem Kd.far (h : Kd w w' g t cs cs') {A : Option Addr} {xs : List Value} (hc : Cells w A xs) (hne : ∀ off, A = some ⟨g, off, none⟩ → xs = []) : Cells w' A xs := by
  by_cases h0 : xs = []
  · exact .inl h0
  · exact hc.grown h.gr (fun b off e e2 => by injection e2 with e2; subst e2; exact h0 (hne off e))
theorem Kd.bytes (h : Kd w w' g t cs cs') {A : Option Addr} {xs : List Value} (hc : Cells w A xs) (hx : ∀ u ∈ xs, ∃ y : Int, u = .int .u8 y) : Cells w' A xs := by
  rcases hc with rfl | ⟨b, off, rfl, hlt, hc⟩
  · exact .inl rfl
  · by_cases hb : b = g
    · subst hb
      refine .inr ⟨b, off, rfl, h.b'.lt, fun j u hu => ?_⟩
      have h1 := hc j u hu
      obtain ⟨y, rfl⟩ := hx u (List.mem_of_getElem? hu)
      rw [h.b.cell] at h1
      rw [h.b'.cell, h.u8 _ _ h1, h1]
    · exact Cells.grown (.inr ⟨b, off, rfl, hlt, hc⟩) h.gr (fun b' off' e e2 => by injection e with e; injection e with q1; injection e2 with e2; omega)
theorem Kd.bytesV (h : Kd w w' g t cs cs') {A : Option Addr} {l : List Nat} (hc : Cells w A (bytesV l)) : Cells w' A (bytesV l) :=
  h.bytes hc (fun u hu => by unfold Go.Proofs.Ytkflpoiobpblhaa.bytesV at hu; obtain ⟨n, -, rfl⟩ := List.mem_map.1 hu; exact ⟨_, rfl⟩)
theorem Kd.bytesI (h : Kd w w' g t cs cs') {A : Option Addr} {l : List Nat} (hc : Cells w A (Mir.bytesI l)) : Cells w' A (Mir.bytesI l) :=
  h.bytes hc (fun u hu => by unfold Mir.bytesI at hu; obtain ⟨n, -, rfl⟩ := List.mem_map.1 hu; exact ⟨_, rfl⟩)
theorem Kd.strings (h : Kd w w' g t cs cs') {A : Option Addr} {xs : List Value} (hc : Cells w A xs) (hx : xs = [] ∨ ∃ s r, xs = .string s :: r) : Cells w' A xs := by
  refine h.far hc (fun off e => ?_)
  rcases hx with hx | ⟨s, r, rfl⟩
  · exact hx
  · obtain ⟨b', off', e', -, hc'⟩ := Cells.addr hc (by simp)
    rw [e] at e'; injection e' with e'; injection e' with q1 q2
    subst q1; subst q2
    have := hc' 0 (.string s) rfl
    rw [h.b.cell] at this
    exact absurd this (h.st _ _)
theorem Kd.items (h : Kd w w' g t cs cs') {A : Option Addr} {l : List Mir.It} (hI : ItemsC w A l) : ItemsC w' A l := by
  obtain ⟨hs, h1, h2, h3⟩ := hI
  refine ⟨hs, h1, h.strings h2 ?_, fun k x y e1 e2 => ⟨(h3 k x y e1 e2).1, (h3 k x y e1 e2).2.1, h.bytesI (h3 k x y e1 e2).2.2.1, (h3 k x y e1 e2).2.2.2⟩⟩
  match hs, l with
  | [], _ => exact .inl (by simp [Mir.itV])
  | _ :: _, [] => exact .inl (by simp [Mir.itV])
  | q :: hs, x :: l => exact .inr ⟨_, _, rfl⟩
theorem Kd.changes (h : Kd w w' g t cs cs') {A : Option Addr} {l : List Mir.Ch} (hI : ChangesC w A l) : ChangesC w' A l := by
  obtain ⟨hs, h1, h2, h3⟩ := hI
  refine ⟨hs, h1, h.strings h2 ?_, fun k x y e1 e2 => ⟨(h3 k x y e1 e2).1, (h3 k x y e1 e2).2.1, h.bytesI (h3 k x y e1 e2).2.2.1, (h3 k x y e1 e2).2.2.2⟩⟩
  match hs, l with
  | [], _ => exact .inl (by simp [Mir.chV])
  | _ :: _, [] => exact .inl (by simp [Mir.chV])
  | q :: hs, x :: l => exact .inr ⟨_, _, rfl⟩
theorem Kd.ver (h : Kd w w' g t cs cs') {v : Mir.Ve} {V : Array Value} (hV : VerC w v V) : VerC w' v V := by
  obtain ⟨A, c, s0, s1, s2, s3, e, hd, hc, h1, h2, hs⟩ := hV
  obtain ⟨Ao, co, Ac, cc, Ap, cp, e0, e1, e2, e3, a, b, c', r⟩ := hs
  exact ⟨A, c, s0, s1, s2, s3, e, hd, h.changes hc, h1, h2, Ao, co, Ac, cc, Ap, cp, e0, e1, e2, e3, h.bytesV a, h.bytesV b, h.bytesV c', r⟩
theorem Kd.vers (h : Kd w w' g t cs cs') {A : Option Addr} {l : List Mir.Ve} (hl : VersC w A l) : VersC w' A l := by
  obtain ⟨Vs, h1, h2, h3⟩ := hl
  refine ⟨Vs, h1, h.far h2 (fun off e => ?_), fun k v V e1 e2 => h.ver (h3 k v V e1 e2)⟩
  match Vs, l with
  | [], _ => rfl
  | V :: Vs, [] => simp at h1
  | V :: Vs, v :: l =>
    exfalso
    have hV := h3 0 v V rfl rfl
    have c0 := hV.c0
    have c1 := hV.st.2 0 (by omega)
    obtain ⟨d0, hd0⟩ : ∃ d, v.st[0]? = some d := ⟨_, List.getElem?_eq_getElem (by rw [hV.st.1.1]; omega)⟩
    rw [show (arrK .u8 v.st)[0]? = some (Value.int .u8 (d0 : Int)) by rw [← Array.getElem?_toList, arrK_toList, List.getElem?_map, hd0]; rfl, ← Array.getElem?_toList] at c1
    rw [← Array.getElem?_toList] at c0
    obtain ⟨V0, hV0⟩ : ∃ L, V.toList = L := ⟨_, rfl⟩
    rw [hV0] at c0 c1
    obtain ⟨b', off', e', -, hc'⟩ := Cells.addr h2 (by rw [List.map_cons, List.flatten_cons, hV0]; have := (List.getElem?_eq_some_iff.1 c0).1; rw [List.length_append]; omega)
    rw [e] at e'; injection e' with e'; injection e' with q1 q2
    subst q1; subst q2
    have g0 := hc' 0 _ (by rw [List.map_cons, List.flatten_cons, hV0, List.getElem?_append_left (List.getElem?_eq_some_iff.1 c0).1]; exact c0)
    have g1 := hc' 1 _ (by rw [List.map_cons, List.flatten_cons, hV0, List.getElem?_append_left (List.getElem?_eq_some_iff.1 c1).1]; exact c1)
    rw [h.b.cell] at g0 g1
    exact h.iu _ _ _ g0 g1
theorem Kd.fol (h : Kd w w' g t cs cs') {f : Mir.Fo} {F : Array Value} (hF : FolC w f F) : FolC w' f F := by
  obtain ⟨A, ca, B, cb, e, hd, h1, h2, r⟩ := hF
  exact ⟨A, ca, B, cb, e, hd, h.items h1, h.vers h2, r⟩
end
theorem fol_cell {w : World} {f : Mir.Fo} {F : Array Value} (h : FolC w f F) (i : Nat) : (i < 32 ∧ ∃ y : Int, F[i]? = some (.int .u8 y)) ∨ (i = 32 ∧ F[i]? = some (.int .i64 f.many)) ∨ (i = 33 ∧ F[i]? = some (.int .i64 f.no)) ∨ (∃ A n c, F[i]? = some (.slice A n c)) ∨ F[i]? = none := by
  have hz := h.size
  obtain ⟨A, ca, B, cb, rfl, hd, -⟩ := h
  by_cases h0 : i < 32
  · refine .inl ⟨h0, ?_⟩
    rw [Mir.folA_low hd.1 _ _ _ _ h0, ← Array.getElem?_toList, arrK_toList, List.getElem?_map, List.getElem?_eq_getElem (by rw [hd.1]; exact h0)]
    exact ⟨_, rfl⟩
  · obtain ⟨j, rfl⟩ : ∃ j, i = 32 + j := ⟨i - 32, by omega⟩
    have hh := Mir.folA_hi hd.1 f.many f.no (.slice A f.it.length ca) (.slice B f.ea.length cb)
    match j with
    | 0 => exact .inr (.inl ⟨rfl, hh 0⟩)
    | 1 => exact .inr (.inr (.inl ⟨rfl, hh 1⟩))
    | 2 => exact .inr (.inr (.inr (.inl ⟨_, _, _, hh 2⟩)))
    | 3 => exact .inr (.inr (.inr (.inl ⟨_, _, _, hh 3⟩)))
    | j + 4 => exact .inr (.inr (.inr (.inr (Array.getElem?_eq_none (by rw [hz]; omega)))))
theorem FolC.its {w : World} {f : Mir.Fo} {F : Array Value} (h : FolC w f F) : ∃ A c, F[34]? = some (.slice A f.it.length c) ∧ ItemsC w A f.it := by
  obtain ⟨A, ca, B, cb, rfl, hd, hI, -⟩ := h
  exact ⟨A, ca, Mir.folA_hi hd.1 _ _ _ _ 2, hI⟩
theorem kd_fol {w w1 w' : World} {g : Nat} {t : TypeId} {f f' : Mir.Fo} {F F' : Array Value} (hF : FolC w f F) (hF' : FolC w1 f' F') (hp : f'.pub = f.pub) {wa : World} (hg : wa.grownBy w' (some g)) (hb : Blk wa g t F) (hb' : Blk w' g t F') : Kd wa w' g t F F' := by
  refine ⟨hg, hb, hb', fun i y hi => ?_, fun i s hi => ?_, fun i x y hi hj => ?_⟩
  · rcases fol_cell hF i with ⟨h0, -⟩ | ⟨-, h⟩ | ⟨-, h⟩ | ⟨A, n, c, h⟩ | h
    · obtain ⟨A, ca, B, cb, rfl, hd, -⟩ := hF
      obtain ⟨A', ca', B', cb', rfl, hd', -⟩ := hF'
      rw [Mir.folA_low hd.1 _ _ _ _ h0, Mir.folA_low hd'.1 _ _ _ _ h0, hp]
    all_goals rw [h] at hi; simp at hi
  · rcases fol_cell hF i with ⟨-, y, h⟩ | ⟨-, h⟩ | ⟨-, h⟩ | ⟨A, n, c, h⟩ | h
    all_goals rw [h] at hi; simp at hi
  · rcases fol_cell hF i with ⟨-, z, h⟩ | ⟨e, h⟩ | ⟨e, h⟩ | ⟨A, n, c, h⟩ | h
    · rw [h] at hi; simp at hi
    · rcases fol_cell hF (i + 1) with ⟨h0, -⟩ | ⟨-, h'⟩ | ⟨-, h'⟩ | ⟨A, n, c, h'⟩ | h'
      · omega
      all_goals rw [h'] at hj; simp at hj
    · rcases fol_cell hF (i + 1) with ⟨h0, -⟩ | ⟨-, h'⟩ | ⟨-, h'⟩ | ⟨A, n, c, h'⟩ | h'
      · omega
      all_goals rw [h'] at hj; simp at hj
    all_goals rw [h] at hi; simp at hi
theorem kd_bools {w w' : World} {g : Nat} {t : TypeId} {a b : Bool} {cs' : Array Value} (hg : w.grownBy w' (some g)) (hb : Blk w g t #[.bool a, .bool b]) (hb' : Blk w' g t cs') : Kd w w' g t #[.bool a, .bool b] cs' := by
  refine ⟨hg, hb, hb', fun i y hi => ?_, fun i s hi => ?_, fun i x y hi => ?_⟩
  all_goals
    match i with
    | 0 => simp at hi
    | 1 => simp at hi
    | i + 2 => simp at hi
end Go.Proofs.Ytkflpoiobpblhaa
