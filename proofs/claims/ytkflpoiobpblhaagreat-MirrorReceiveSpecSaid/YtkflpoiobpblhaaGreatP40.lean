/- Walks and plain laws that the statement rests on: MSa0. -/
import Derived.Lib.SlBytesConst
import Derived.Test.YtkflpoiobpblhaaGreatP00
import Derived.Test.YtkflpoiobpblhaaGreatP20
import Derived.Test.YtkflpoiobpblhaaGreatP28
import Derived.Test.YtkflpoiobpblhaaGreatP39
namespace Go.Proofs.YtkflpoiobpblhaaGreat
open Go.RowKit
set_option linter.unusedVariables false
set_option linter.unusedSimpArgs false
theorem bytes_row' {w : World} {g : Nat} {t : TypeId} {fr : Nat × Nat} (l : List Nat) (h : w.heap[g]? = some (.cells (arrK .u8 l) t fr)) : Cells w (some ⟨g, 0, none⟩) (bytesV l) := by
 refine .inr ⟨g, 0, rfl, (Array.getElem?_eq_some_iff.1 h).1, fun j u hu => ?_⟩
 rw [Nat.zero_add, cell_of_row w g j _ t fr h]
 rw [← arrK_bytesV] at hu
 simpa using hu
theorem below_two' {w0 w : World} {B : Nat} (h : Below B w0 w) (hB : B ≤ w.heap.size) (o o2 : Obj) : Below B w0 ((w.alloc o).alloc o2) := (h.alloc hB o).alloc (by simp; omega) o2
def seedS : List Nat := [115, 101, 101, 100]
def oneI : List Mir.It := [(⟨#[97]⟩, [120])]
theorem oneI_ok : Mir.itE oneI = 0 := by decide
theorem okSeed : okKey 4 2 0 = true := by decide
theorem seed_byte : ByteL seedS := byteL_of (by decide)
theorem one_diff : Mir.diffS [] oneI = [(((⟨#[97]⟩ : ByteArray), [120]), false)] := by unfold oneI; rw [Mir.diffS_right, Mir.diffS_nil]
theorem one_back : Mir.diffS oneI [] = [(((⟨#[97]⟩ : ByteArray), []), true)] := by unfold oneI; rw [Mir.diffS_left, Mir.diffS_nil]
theorem VerC.c34 {w : World} {v : Mir.Ve} {V : Array Value} (h : VerC w v V) : V[34]? = some (.int .i64 v.sg.i) := by
 obtain ⟨A, c, s0, s1, s2, s3, rfl, hd, -, -, -, hg⟩ := h
 obtain ⟨Ao, co, Ac, cc, Ap, cp, rfl, -⟩ := hg
 exact Mir.verA_hi hd.1 _ _ _ _ _ _ 1
theorem FolC.hi {w : World} {f : Mir.Fo} {F : Array Value} (h : FolC w f F) : F[33]? = some (.int .i64 f.no) ∧ (∃ A c, F[34]? = some (.slice A f.it.length c)) ∧ ∃ B c, F[35]? = some (.slice B f.ea.length c) := by
 obtain ⟨A, ca, B, cb, rfl, hd, -⟩ := h
 exact ⟨Mir.folA_hi hd.1 _ _ _ _ 1, ⟨_, _, Mir.folA_hi hd.1 _ _ _ _ 2⟩, ⟨_, _, Mir.folA_hi hd.1 _ _ _ _ 3⟩⟩
theorem wants_fol {w : World} {f : Mir.Fo} {F : Array Value} (h : FolC w f F) (h0 : 0 ≤ f.no) (h1 : f.no ≤ 1000000) : Calls Tryz.prog 22 #[.agg F] w fun e w' => e = .returned (.int .i64 (f.no + 1)) ∧ Below w.heap.size w w' := by
 obtain ⟨A, ca, B, cb, rfl, hd, -⟩ := h
 exact wants_any _ _ _ _ _ _ hd.1 h0 h1
theorem join_fol (d : List Nat) (m : Int) (w : World) (hd : IsD d) :
    Calls Tryz.prog 27 #[.agg (arrK .u8 d), .int .i64 m] w fun e w' => ∃ F, e = .returned (.tuple #[.agg F, .int .i64 (if Mir.manyB m then 0 else 40)]) ∧ FolC w' (if Mir.manyB m then ⟨d, m, 0, [], []⟩ else Mir.fo0) F ∧ Below w.heap.size w w' := by
 refine (join_any d m w hd).mono ?_
 rintro e w' ⟨rfl, hb⟩
 refine ⟨_, rfl, ?_, hb⟩
 by_cases h : Mir.manyB m = true
 · rw [if_pos h, if_pos h]
   exact ⟨none, 0, none, 0, rfl, hd, ItemsC.nil_ _ _, VersC.nil_ _ _, Nat.le_refl _, by unfold maxLen; omega, Nat.le_refl _, by unfold maxLen; omega⟩
 · rw [if_neg h, if_neg h]
   exact FolC.zero _
theorem wpList_built_g {P : Program} {ops : Array Oper} {rest : List Oper} {o : Oper} {a : Act} {w : World} {Q : Exit → Act → World → Prop} (t : TypeId) (parts : Array (Nat × Operand)) (ho : o.op = .build t parts) (hw : Region.wanted o (yielded ops a.tmps) = true)
    (vals : List (Nat × Value)) (hv : (parts.map fun (i, x) => (i, a.eval x)).toList = vals) (cells : Array Value) (hb : P.built t vals = some cells) (h : wpList P ops Q rest (a.put o.dst (.agg cells)) w) : wpList P ops Q (o :: rest) a w :=
 wpList_step fun _ hK => by
  rw [if_pos hw]
  refine wp_build t parts ho (by rw [hv, hb]; rfl) ?_
  rw [hv, hb]
  exact hK _ _ h
theorem built_ver0 : Tryz.prog.built 34 [] = some Mir.ver0 := by kernel_rfl
namespace Mir
def ve0 : Ve := ⟨0, z32, [], ⟨0, [], [], []⟩⟩
theorem ver_ve0 (r : List Nat) (m : Int) : verE r m ve0 = 450 := by unfold verE ve0; simp
end Mir
theorem ve0_c (w : World) : VerC w Mir.ve0 Mir.ver0 := ⟨none, 0, _, _, _, _, rfl, z32_isD, ChangesC.nil_ _ _, Nat.le_refl _, by unfold maxLen; omega, none, 0, none, 0, none, 0, rfl, rfl, rfl, rfl, .inl (by unfold bytesV; rfl), .inl (by unfold bytesV; rfl), .inl (by unfold bytesV; rfl), by intro d hd; simp [Mir.ve0] at hd, by intro d hd; simp [Mir.ve0] at hd, by intro d hd; simp [Mir.ve0] at hd, by simp [Mir.ve0], by unfold maxLen; omega, by simp [Mir.ve0], by unfold maxLen; omega, by simp [Mir.ve0], by unfold maxLen; omega⟩
namespace Mir
theorem diffR_ok {a b : List It} (ha : itE a = 0) (hb : itE b = 0) : diffR a b = diffS a b ∧ diffE a b = 0 := by
 unfold diffR diffE
 simp [ha, hb]
theorem diff_small {a b : List It} {n : Nat} (ha : ∀ x ∈ a, x.2.length ≤ n) (hb : ∀ x ∈ b, x.2.length ≤ n) : ∀ x ∈ diffS a b, x.1.2.length ≤ n := by
 intro x hx
 rcases diffS_mem a b x hx with ⟨y, hy, rfl⟩ | ⟨y, hy, rfl⟩
 · simp
 · exact hb _ hy
theorem vsnE_ok {n : Nat} {m u : Int} {its : List It} {cs : List Ch} {k : Nat} (hk : okKey n m u = true) (hu : u = k) (h : itE its = 0) (hc : chOk cs = true) (hm : u ≠ m) : vsnE n m u k its cs = 0 := by
 unfold vsnE
 subst hu
 simp [hk, h, hc, hm]
end Mir
theorem pubR_root {n : Nat} {s : List Nat} (h : okKey n 2 0 = true) : pubR n 2 0 s = Mir.rootK s := by unfold pubR Mir.rootK; rw [h]; simp
theorem oneI_one {w : World} {I D : Nat} (h : Blk w I 61 #[.string ⟨#[97]⟩, .slice (some ⟨D, 0, none⟩) 1 1]) (hd : Cells w (some ⟨D, 0, none⟩) (bytesV [120])) : ItemsC w (some ⟨I, 0, none⟩) oneI := by
 refine ⟨[(some ⟨D, 0, none⟩, 1)], rfl, cells_blk h, ?_⟩
 intro k x y e1 e2
 match k with
 | 0 =>
   simp [oneI] at e1 e2
   subst e1; subst e2
   exact ⟨by simp, by unfold maxLen; omega, by unfold bytesV at hd; exact hd, by simp⟩
 | k + 1 => simp at e1
end Go.Proofs.YtkflpoiobpblhaaGreat
