/- Lists of intervals: plain. -/
import Derived.Test.YtlijdbgknbeefaaDoorCalP
namespace Go.Proofs.YtlijdbgknbeefaaDoor
namespace Iv
abbrev I := Int × Int
def inI (n : Int) (i : I) : Bool := decide (i.1 ≤ n) && decide (n ≤ i.2)
def inU (n : Int) (l : List I) : Bool := l.any (inI n)
def okI (i : I) : Bool := decide (0 ≤ i.1 ∧ i.1 ≤ 1048576 ∧ 0 ≤ i.2 ∧ i.2 ≤ 1048576 ∧ i.1 ≤ i.2)
theorem inI_iff (n : Int) (i : I) : inI n i = true ↔ i.1 ≤ n ∧ n ≤ i.2 := by simp [inI]
theorem okI_iff (i : I) : okI i = true ↔ (0 ≤ i.1 ∧ i.1 ≤ 1048576 ∧ 0 ≤ i.2 ∧ i.2 ≤ 1048576 ∧ i.1 ≤ i.2) := by simp [okI]
theorem inU_iff (n : Int) (l : List I) : inU n l = true ↔ ∃ a ∈ l, a.1 ≤ n ∧ n ≤ a.2 := by simp [inU, inI_iff]
def Sep (u : List I) : Prop := (∀ a ∈ u, a.1 ≤ a.2) ∧ u.Pairwise (fun a b => a.2 + 1 < b.1)
theorem Sep.nil : Sep [] := ⟨by simp, .nil⟩
theorem Sep.one {a : I} (h : a.1 ≤ a.2) : Sep [a] := ⟨by simpa using h, List.pairwise_singleton _ _⟩
theorem Sep.append {u v : List I} (hu : Sep u) (hv : Sep v) (h : ∀ a ∈ u, ∀ b ∈ v, a.2 + 1 < b.1) : Sep (u ++ v) :=
  ⟨fun a ha => (List.mem_append.1 ha).elim (hu.1 a) (hv.1 a), List.pairwise_append.2 ⟨hu.2, hv.2, h⟩⟩
theorem Sep.left {u v : List I} (h : Sep (u ++ v)) : Sep u := ⟨fun a ha => h.1 a (List.mem_append_left _ ha), (List.pairwise_append.1 h.2).1⟩
theorem Sep.right {u v : List I} (h : Sep (u ++ v)) : Sep v := ⟨fun a ha => h.1 a (List.mem_append_right _ ha), (List.pairwise_append.1 h.2).2.1⟩
theorem Sep.apart {u v : List I} (h : Sep (u ++ v)) : ∀ a ∈ u, ∀ b ∈ v, a.2 + 1 < b.1 := (List.pairwise_append.1 h.2).2.2
/-- The same points. -/
def Same (u v : List I) : Prop := ∀ n, inU n u = inU n v
theorem Same.refl (u : List I) : Same u u := fun _ => rfl
theorem Same.symm {u v : List I} (h : Same u v) : Same v u := fun n => (h n).symm
theorem Same.trans {u v x : List I} (h : Same u v) (h' : Same v x) : Same u x := fun n => (h n).trans (h' n)
theorem inU_append (n : Int) (u v : List I) : inU n (u ++ v) = (inU n u || inU n v) := by simp [inU]
theorem inU_perm {u v : List I} (h : u.Perm v) : Same u v := fun n => by
  rw [Bool.eq_iff_iff, inU_iff, inU_iff]
  exact ⟨fun ⟨a, ha, g⟩ => ⟨a, h.mem_iff.1 ha, g⟩, fun ⟨a, ha, g⟩ => ⟨a, h.mem_iff.2 ha, g⟩⟩
theorem inU_mem {u v : List I} (h : ∀ a, a ∈ u ↔ a ∈ v) : Same u v := fun n => by
  rw [Bool.eq_iff_iff, inU_iff, inU_iff]
  exact ⟨fun ⟨a, ha, g⟩ => ⟨a, (h a).1 ha, g⟩, fun ⟨a, ha, g⟩ => ⟨a, (h a).2 ha, g⟩⟩
theorem sep_min {a : I} {u : List I} (h : Sep (a :: u)) {n : Int} (hn : inU n (a :: u) = true) : a.1 ≤ n := by
  obtain ⟨b, hb, h1, h2⟩ := (inU_iff _ _).1 hn
  rcases List.mem_cons.1 hb with rfl | hb
  · exact h1
  · have := List.rel_of_pairwise_cons h.2 hb
    have := h.1 a List.mem_cons_self
    omega
theorem sep_tail {a : I} {u : List I} (h : Sep (a :: u)) : Sep u := ⟨fun b hb => h.1 b (List.mem_cons_of_mem _ hb), (List.pairwise_cons.1 h.2).2⟩
theorem sep_next {a : I} {u : List I} (h : Sep (a :: u)) {n : Int} (hn : inU n u = true) : a.2 + 1 < n := by
  obtain ⟨b, hb, h1, h2⟩ := (inU_iff _ _).1 hn
  have := List.rel_of_pairwise_cons h.2 hb
  omega
theorem in_head {a : I} {u : List I} {n : Int} (h1 : a.1 ≤ n) (h2 : n ≤ a.2) : inU n (a :: u) = true := (inU_iff _ _).2 ⟨a, List.mem_cons_self, h1, h2⟩
theorem in_cons {a : I} {u : List I} {n : Int} (h : inU n u = true) : inU n (a :: u) = true := by
  obtain ⟨b, hb, g⟩ := (inU_iff _ _).1 h
  exact (inU_iff _ _).2 ⟨b, List.mem_cons_of_mem _ hb, g⟩
theorem of_cons {a : I} {u : List I} {n : Int} (h : inU n (a :: u) = true) : (a.1 ≤ n ∧ n ≤ a.2) ∨ inU n u = true := by
  obtain ⟨b, hb, g⟩ := (inU_iff _ _).1 h
  rcases List.mem_cons.1 hb with rfl | hb
  · exact .inl g
  · exact .inr ((inU_iff _ _).2 ⟨b, hb, g⟩)
theorem same_le {a b : I} {u v : List I} (hu : Sep (a :: u)) (hv : Sep (b :: v)) (h : Same (a :: u) (b :: v)) : b.1 ≤ a.1 ∧ (a.1 = b.1 → b.2 ≤ a.2) := by
  have ha := hu.1 a List.mem_cons_self
  have hb := hv.1 b List.mem_cons_self
  refine ⟨sep_min hv (by rw [← h]; exact in_head (Int.le_refl _) ha), fun e => ?_⟩
  by_cases g : b.2 ≤ a.2
  · exact g
  · have h1 : inU (a.2 + 1) (b :: v) = true := in_head (by omega) (by omega)
    rw [← h] at h1
    rcases of_cons h1 with h2 | h2
    · omega
    · have := sep_next hu h2; omega
theorem sep_unique : ∀ {u v : List I}, Sep u → Sep v → Same u v → u = v
  | [], [], _, _, _ => rfl
  | [], b :: v, _, hv, h => by
    have := h b.1
    rw [in_head (Int.le_refl _) (hv.1 b List.mem_cons_self)] at this
    simp [inU] at this
  | a :: u, [], hu, _, h => by
    have := h a.1
    rw [in_head (Int.le_refl _) (hu.1 a List.mem_cons_self)] at this
    simp [inU] at this
  | a :: u, b :: v, hu, hv, h => by
    obtain ⟨h1, h2⟩ := same_le hu hv h
    obtain ⟨h3, h4⟩ := same_le hv hu h.symm
    have e1 : a.1 = b.1 := by omega
    have e2 : a.2 = b.2 := by have := h2 e1; have := h4 e1.symm; omega
    obtain rfl : a = b := Prod.ext e1 e2
    have : u = v := sep_unique (sep_tail hu) (sep_tail hv) (fun n => by
      rw [Bool.eq_iff_iff]
      constructor
      · intro hn
        have h5 := in_cons (a := a) hn
        rw [h] at h5
        have h6 := sep_next hu hn
        rcases of_cons h5 with g | g
        · omega
        · exact g
      · intro hn
        have h5 := in_cons (a := a) hn
        rw [← h] at h5
        have h6 := sep_next hv hn
        rcases of_cons h5 with g | g
        · omega
        · exact g)
    rw [this]
/-- The program's step: the next interval of a sorted list. -/
def mstep (x : List I) (i : I) : List I := match x.getLast? with
  | none => [i]
  | some z => if i.1 ≤ z.2 + 1 then x.dropLast ++ [(z.1, max z.2 i.2)] else x ++ [i]
theorem mstep_nil (i : I) : mstep [] i = [i] := rfl
theorem mstep_join (y : List I) (z i : I) (h : i.1 ≤ z.2 + 1) : mstep (y ++ [z]) i = y ++ [(z.1, max z.2 i.2)] := by simp [mstep, h]
theorem mstep_new (y : List I) (z i : I) (h : ¬ i.1 ≤ z.2 + 1) : mstep (y ++ [z]) i = y ++ [z] ++ [i] := by simp [mstep, h]
def merge (l : List I) : List I := l.foldl mstep []
theorem merge_snoc (l : List I) (i : I) : merge (l ++ [i]) = mstep (merge l) i := by simp [merge]
theorem snoc_or (x : List I) : x = [] ∨ ∃ y z, x = y ++ [z] := by
  rcases List.eq_nil_or_concat x with h | ⟨y, z, h⟩
  · exact .inl h
  · exact .inr ⟨y, z, by simpa using h⟩
structure Merged (p x : List I) : Prop where
  sep : Sep x
  same : Same x p
  okay : ∀ a ∈ x, okI a = true
  low : ∀ a ∈ x, ∃ b ∈ p, a.1 = b.1
  len : x.length ≤ p.length
  nil : x = [] ↔ p = []
theorem merged_nil : Merged [] [] := ⟨Sep.nil, Same.refl _, by simp, by simp, by simp, by simp⟩
theorem merged_step {p x : List I} {i : I} (h : Merged p x) (hi : okI i = true) (hs : ∀ a ∈ p, a.1 ≤ i.1) : Merged (p ++ [i]) (mstep x i) := by
  obtain ⟨o1, o2, o3, o4, o5⟩ := (okI_iff i).1 hi
  rcases snoc_or x with rfl | ⟨y, z, rfl⟩
  · rw [mstep_nil]
    have hp := h.nil.1 rfl
    subst hp
    exact ⟨Sep.one o5, Same.refl _, by simpa using hi, fun a ha => ⟨i, by simp, by simp at ha; rw [ha]⟩, by simp, by simp⟩
  · have hz := h.okay z (by simp)
    obtain ⟨z1, z2, z3, z4, z5⟩ := (okI_iff z).1 hz
    obtain ⟨b, hb, hzb⟩ := h.low z (by simp)
    have hzi : z.1 ≤ i.1 := by rw [hzb]; exact hs b hb
    have hlen := h.len
    rw [List.length_append, List.length_singleton] at hlen
    by_cases hj : i.1 ≤ z.2 + 1
    · rw [mstep_join _ _ _ hj]
      refine ⟨h.sep.left.append (Sep.one (by simp only []; omega)) (fun a ha b hb => ?_), fun n => ?_, fun a ha => ?_, fun a ha => ?_, by simp; omega, by simp⟩
      · simp at hb; subst hb
        exact h.sep.apart a ha z (by simp)
      · rw [inU_append, inU_append, ← h.same n, inU_append, Bool.or_assoc]
        congr 1
        rw [Bool.eq_iff_iff]
        simp [inU, inI]
        omega
      · rcases List.mem_append.1 ha with ha | ha
        · exact h.okay a (List.mem_append_left _ ha)
        · simp at ha; subst ha
          rw [okI_iff]; simp only []; omega
      · rcases List.mem_append.1 ha with ha | ha
        · obtain ⟨b, hb, e⟩ := h.low a (List.mem_append_left _ ha)
          exact ⟨b, List.mem_append_left _ hb, e⟩
        · simp at ha; subst ha
          exact ⟨b, List.mem_append_left _ hb, hzb⟩
    · rw [mstep_new _ _ _ hj]
      refine ⟨h.sep.append (Sep.one o5) (fun a ha b hb => ?_), fun n => ?_, fun a ha => ?_, fun a ha => ?_, by simp; omega, by simp⟩
      · simp at hb; subst hb
        rcases List.mem_append.1 ha with ha | ha
        · have := h.sep.apart a ha z (by simp); omega
        · simp at ha; subst ha; omega
      · rw [inU_append, inU_append n p, ← h.same n]
      · rcases List.mem_append.1 ha with ha | ha
        · exact h.okay a ha
        · simp at ha; subst ha; exact hi
      · rcases List.mem_append.1 ha with ha | ha
        · obtain ⟨b, hb, e⟩ := h.low a ha
          exact ⟨b, List.mem_append_left _ hb, e⟩
        · simp at ha; subst ha
          exact ⟨_, by simp, rfl⟩
theorem merged_take {l : List I} (hl : ∀ a ∈ l, okI a = true) (hs : l.Pairwise (fun a b => a.1 ≤ b.1)) : ∀ k, k ≤ l.length → Merged (l.take k) (merge (l.take k))
  | 0, _ => by simpa [merge] using merged_nil
  | k + 1, hk => by
    have ih := merged_take hl hs k (by omega)
    rw [List.take_succ_eq_append_getElem (by omega), merge_snoc]
    refine merged_step ih (hl _ (List.getElem_mem _)) (fun a ha => ?_)
    obtain ⟨j, hj, rfl⟩ := List.getElem_of_mem ha
    rw [List.getElem_take]
    have hj' : j < k := by rw [List.length_take] at hj; omega
    exact List.pairwise_iff_getElem.1 hs j k (by omega) (by omega) hj'
theorem merged_all {l : List I} (hl : ∀ a ∈ l, okI a = true) (hs : l.Pairwise (fun a b => a.1 ≤ b.1)) : Merged l (merge l) := by
  have := merged_take hl hs l.length (Nat.le_refl _)
  rwa [List.take_length] at this
/-- The specification's step: an interval added to a separated list, one element at a time. -/
structure St where
  out : List I
  done : Bool
  i : I
def astep (s : St) (a : I) : St :=
  if a.2 + 1 < s.i.1 then { s with out := s.out ++ [a] }
  else if s.i.2 + 1 < a.1 then (if s.done then { s with out := s.out ++ [a] } else { out := s.out ++ [s.i] ++ [a], done := true, i := s.i })
  else { s with i := (min s.i.1 a.1, max s.i.2 a.2) }
def ado (l : List I) (i : I) : St := l.foldl astep ⟨[], false, i⟩
def fin (s : St) : List I := if s.done then s.out else s.out ++ [s.i]
def add (l : List I) (i : I) : List I := fin (ado l i)
theorem ado_snoc (l : List I) (a i : I) : ado (l ++ [a]) i = astep (ado l i) a := by simp [ado]
structure Added (p rest : List I) (i : I) (s : St) : Prop where
  sep : Sep (fin s)
  same : Same (fin s) (p ++ [i])
  okay : ∀ a ∈ fin s, okI a = true
  oki : okI s.i = true
  olds : ∀ a ∈ s.out, s.done = false → a.2 + 1 < s.i.1 ∧ ∀ b ∈ rest, a.2 + 1 < b.1
  past : s.done = true → (∀ a ∈ s.out, ∀ b ∈ rest, a.2 + 1 < b.1) ∧ ∀ b ∈ rest, s.i.2 + 1 < b.1
  len : s.out.length ≤ p.length + (if s.done then 1 else 0)
theorem added_step {p rest : List I} {a i : I} {s : St} (h : Added p (a :: rest) i s) (hl : Sep (a :: rest)) (ha : okI a = true) : Added (p ++ [a]) rest i (astep s a) := by
  obtain ⟨o1, o2, o3, o4, o5⟩ := (okI_iff a).1 ha
  obtain ⟨i1, i2, i3, i4, i5⟩ := (okI_iff s.i).1 h.oki
  have hrest : ∀ b ∈ rest, a.2 + 1 < b.1 := fun b hb => List.rel_of_pairwise_cons hl.2 hb
  have hmem : ∀ b ∈ rest, b ∈ a :: rest := fun b hb => List.mem_cons_of_mem _ hb
  have hsame : ∀ n, inU n (p ++ [a] ++ [i]) = (inU n (fin s) || inU n [a]) := fun n => by
    rw [h.same n, inU_append, inU_append, inU_append, Bool.or_assoc, Bool.or_assoc, Bool.or_comm (inU n [a])]
  have hle := h.len
  unfold astep
  split
  · rename_i h1
    cases hd : s.done with
    | true =>
      obtain ⟨g1, g2⟩ := h.past hd
      have := g2 a List.mem_cons_self
      omega
    | false =>
      have hf : fin s = s.out ++ [s.i] := by simp [fin, hd]
      have hfs : fin { s with out := s.out ++ [a], done := false } = s.out ++ [a] ++ [s.i] := by simp [fin]
      have hu : Sep s.out := by have := h.sep; rw [hf] at this; exact this.left
      refine ⟨?_, ?_, ?_, h.oki, ?_, by simp, ?_⟩
      · rw [hfs]
        refine (hu.append (Sep.one o5) (fun x hx b hb => ?_)).append (Sep.one i5) (fun x hx b hb => ?_)
        · simp at hb; subst hb; exact (h.olds x hx hd).2 _ List.mem_cons_self
        · simp at hb; subst hb
          rcases List.mem_append.1 hx with hx | hx
          · exact (h.olds x hx hd).1
          · simp at hx; subst hx; exact h1
      · intro n
        rw [hfs, hsame, hf]
        simp only [inU_append]
        rw [Bool.or_assoc, Bool.or_assoc, Bool.or_comm (inU n [a])]
      · intro x hx
        rw [hfs] at hx
        rcases List.mem_append.1 hx with hx | hx
        · rcases List.mem_append.1 hx with hx | hx
          · exact h.okay x (by rw [hf]; exact List.mem_append_left _ hx)
          · simp at hx; subst hx; exact ha
        · simp at hx; subst hx; exact h.oki
      · intro x hx _
        rcases List.mem_append.1 hx with hx | hx
        · exact ⟨(h.olds x hx hd).1, fun b hb => (h.olds x hx hd).2 b (hmem b hb)⟩
        · simp at hx; subst hx; exact ⟨h1, hrest⟩
      · rw [hd] at hle; simp at hle ⊢; omega
  · rename_i h1
    split
    · rename_i h2
      cases hd : s.done with
      | true =>
        have hf : fin s = s.out := by simp [fin, hd]
        rw [if_pos rfl]
        have hfs : fin { s with out := s.out ++ [a], done := true } = s.out ++ [a] := by simp [fin]
        obtain ⟨g1, g2⟩ := h.past hd
        have hu : Sep s.out := by have := h.sep; rwa [hf] at this
        refine ⟨?_, ?_, ?_, h.oki, by simp, fun _ => ⟨?_, fun b hb => g2 b (hmem b hb)⟩, ?_⟩
        · rw [hfs]
          exact hu.append (Sep.one o5) (fun x hx b hb => by simp at hb; subst hb; exact g1 x hx _ List.mem_cons_self)
        · intro n
          rw [hfs, hsame, hf, inU_append]
        · intro x hx
          rw [hfs] at hx
          rcases List.mem_append.1 hx with hx | hx
          · exact h.okay x (by rw [hf]; exact hx)
          · simp at hx; subst hx; exact ha
        · intro x hx b hb
          rcases List.mem_append.1 hx with hx | hx
          · exact g1 x hx b (hmem b hb)
          · simp at hx; subst hx; exact hrest b hb
        · rw [hd] at hle; simp at hle ⊢; omega
      | false =>
        have hf : fin s = s.out ++ [s.i] := by simp [fin, hd]
        rw [if_neg (by simp)]
        have hfs : fin { out := s.out ++ [s.i] ++ [a], done := true, i := s.i } = s.out ++ [s.i] ++ [a] := by simp [fin]
        have hu : Sep (s.out ++ [s.i]) := by have := h.sep; rwa [hf] at this
        refine ⟨?_, ?_, ?_, h.oki, by simp, fun _ => ⟨?_, fun b hb => ?_⟩, ?_⟩
        · rw [hfs]
          refine hu.append (Sep.one o5) (fun x hx b hb => ?_)
          simp at hb; subst hb
          rcases List.mem_append.1 hx with hx | hx
          · exact (h.olds x hx hd).2 _ List.mem_cons_self
          · simp at hx; subst hx; exact h2
        · intro n
          rw [hfs, hsame, hf, inU_append]
        · intro x hx
          rw [hfs] at hx
          rcases List.mem_append.1 hx with hx | hx
          · exact h.okay x (by rw [hf]; exact hx)
          · simp at hx; subst hx; exact ha
        · intro x hx b hb
          rcases List.mem_append.1 hx with hx | hx
          · rcases List.mem_append.1 hx with hx | hx
            · exact (h.olds x hx hd).2 b (hmem b hb)
            · simp at hx; subst hx; have := hrest b hb; omega
          · simp at hx; subst hx; exact hrest b hb
        · have := hrest b hb; simp only []; omega
        · rw [hd] at hle; simp at hle ⊢; omega
    · rename_i h2
      cases hd : s.done with
      | true =>
        obtain ⟨g1, g2⟩ := h.past hd
        have := g2 a List.mem_cons_self
        omega
      | false =>
        have hf : fin s = s.out ++ [s.i] := by simp [fin, hd]
        have hfs : fin { s with i := (min s.i.1 a.1, max s.i.2 a.2), done := false } = s.out ++ [(min s.i.1 a.1, max s.i.2 a.2)] := by simp [fin]
        have hu : Sep s.out := by have := h.sep; rw [hf] at this; exact this.left
        have hlow : ∀ x ∈ s.out, x.2 + 1 < min s.i.1 a.1 := fun x hx => by
          have g1 := (h.olds x hx hd).1
          have g2 := (h.olds x hx hd).2 a List.mem_cons_self
          omega
        have hj : okI (min s.i.1 a.1, max s.i.2 a.2) = true := by rw [okI_iff]; simp only []; omega
        refine ⟨?_, ?_, ?_, hj, fun x hx _ => ⟨hlow x hx, fun b hb => (h.olds x hx hd).2 b (hmem b hb)⟩, by simp, ?_⟩
        · rw [hfs]
          exact hu.append (Sep.one (by simp only []; omega)) (fun x hx b hb => by simp at hb; subst hb; exact hlow x hx)
        · intro n
          rw [hfs, hsame, hf, inU_append, inU_append, Bool.or_assoc]
          congr 1
          rw [Bool.eq_iff_iff]
          simp [inU, inI]
          omega
        · intro x hx
          rw [hfs] at hx
          rcases List.mem_append.1 hx with hx | hx
          · exact h.okay x (by rw [hf]; exact List.mem_append_left _ hx)
          · simp at hx; subst hx; exact hj
        · rw [hd] at hle; simp at hle ⊢; omega
theorem added_take {l : List I} {i : I} (hl : Sep l) (ho : ∀ a ∈ l, okI a = true) (hi : okI i = true) : ∀ k, k ≤ l.length → Added (l.take k) (l.drop k) i (ado (l.take k) i)
  | 0, _ => by
    obtain ⟨o1, o2, o3, o4, o5⟩ := (okI_iff i).1 hi
    exact ⟨by simpa [ado, fin] using Sep.one o5, by simpa [ado, fin] using Same.refl _, by simpa [ado, fin] using hi, hi, by simp [ado], by simp [ado], by simp [ado]⟩
  | k + 1, hk => by
    have ih := added_take hl ho hi k (by omega)
    rw [List.take_succ_eq_append_getElem (by omega), ado_snoc]
    rw [List.drop_eq_getElem_cons (by omega)] at ih
    refine added_step ih ?_ (ho _ (List.getElem_mem _))
    rw [← List.drop_eq_getElem_cons (by omega)]
    have := hl
    rw [← List.take_append_drop k l] at this
    exact this.right
theorem added_all {l : List I} {i : I} (hl : Sep l) (ho : ∀ a ∈ l, okI a = true) (hi : okI i = true) : Sep (add l i) ∧ Same (add l i) (l ++ [i]) ∧ (∀ a ∈ add l i, okI a = true) ∧ (add l i).length ≤ l.length + 1 := by
  have h := added_take hl ho hi l.length (Nat.le_refl _)
  rw [List.take_length] at h
  refine ⟨h.sep, h.same, h.okay, ?_⟩
  have := h.len
  unfold add fin
  split <;> rename_i hd
  · rw [hd] at this; simpa using this
  · rw [if_neg hd] at this; simp; omega
def unionR (l : List I) : List I := l.foldl add []
theorem unionR_snoc (l : List I) (i : I) : unionR (l ++ [i]) = add (unionR l) i := by simp [unionR]
theorem unionR_take {l : List I} (hl : ∀ a ∈ l, okI a = true) : ∀ k, k ≤ l.length → Sep (unionR (l.take k)) ∧ Same (unionR (l.take k)) (l.take k) ∧ (∀ a ∈ unionR (l.take k), okI a = true) ∧ (unionR (l.take k)).length ≤ k
  | 0, _ => ⟨by simpa [unionR] using Sep.nil, by simpa [unionR] using Same.refl _, by simp [unionR], by simp [unionR]⟩
  | k + 1, hk => by
    obtain ⟨h1, h2, h3, h4⟩ := unionR_take hl k (by omega)
    rw [List.take_succ_eq_append_getElem (by omega), unionR_snoc]
    obtain ⟨g1, g2, g3, g4⟩ := added_all h1 h3 (hl _ (List.getElem_mem (by omega : k < l.length)))
    exact ⟨g1, fun n => by rw [g2 n, inU_append, inU_append, h2 n], g3, by omega⟩
/-- The one separated list with the points of l. -/
def IsUnion (l u : List I) : Prop := Sep u ∧ Same u l ∧ (∀ a ∈ u, okI a = true) ∧ u.length ≤ l.length ∧ (u = [] ↔ l = [])
theorem union_one {l u v : List I} (h : IsUnion l u) (h' : IsUnion l v) : u = v := sep_unique h.1 h'.1 (h.2.1.trans h'.2.1.symm)
theorem union_merge {l s : List I} (hl : ∀ a ∈ l, okI a = true) (hp : s.Perm l) (hs : s.Pairwise (fun a b => a.1 ≤ b.1)) : IsUnion l (merge s) := by
  have h := merged_all (l := s) (fun a ha => hl a (hp.mem_iff.1 ha)) hs
  exact ⟨h.sep, h.same.trans (inU_perm hp), h.okay, by rw [← hp.length_eq]; exact h.len, by rw [h.nil]; exact ⟨fun e => by subst e; exact hp.symm.eq_nil, fun e => by subst e; exact hp.eq_nil⟩⟩
theorem same_nil {u : List I} (hu : Sep u) (h : Same u []) : u = [] := sep_unique hu Sep.nil h
theorem union_ref {l : List I} (hl : ∀ a ∈ l, okI a = true) : IsUnion l (unionR l) := by
  obtain ⟨h1, h2, h3, h4⟩ := unionR_take hl l.length (Nat.le_refl _)
  rw [List.take_length] at h1 h2 h3 h4
  refine ⟨h1, h2, h3, h4, fun e => ?_, fun e => by subst e; rfl⟩
  rw [e] at h2
  cases l with
  | nil => rfl
  | cons a l =>
    have := h2 a.1
    rw [in_head (Int.le_refl _) ((okI_iff a).1 (hl a List.mem_cons_self)).2.2.2.2] at this
    simp [inU] at this
theorem union_same {l l' u : List I} (h : IsUnion l u) (hs : Same l l') (hlen : l.length ≤ l'.length) (hn : l = [] ↔ l' = []) : IsUnion l' u := ⟨h.1, h.2.1.trans hs, h.2.2.1, Nat.le_trans h.2.2.2.1 hlen, h.2.2.2.2.trans hn⟩
theorem union_self {l u v : List I} (h : IsUnion l u) (h' : IsUnion u v) : u = v := sep_unique h.1 h'.1 h'.2.1.symm
end Iv
end Go.Proofs.YtlijdbgknbeefaaDoor
