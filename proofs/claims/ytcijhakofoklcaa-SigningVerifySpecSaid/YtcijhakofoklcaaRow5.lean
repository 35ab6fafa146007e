/- A signature as an argument. -/
import Derived.Test.YtcijhakofoklcaaRow3
import Derived.Test.YtcijhakofoklcaaRow2
import Derived.Deep.Slices
import Derived.OpenShut
namespace Go.Proofs.Ytcijhakofoklcaa
open Go.RowKit Go.WideShapes Go.ChangeShapes Go.ChangeAt
theorem cells_of_digs {w : World} {b off : Nat} : ∀ (l : List (List Nat)) (o : Nat), (∀ i d, l[i]? = some d → IsD d ∧ ∀ j, j < 32 → w.cell? ⟨b, off + (o + i) * 32 + j, none⟩ = some (.int .u8 ((d.getD j 0 : Nat) : Int))) →
    ∀ j u, (bytesV l.flatten)[j]? = some u → w.cell? ⟨b, off + (o * 32 + j), none⟩ = some u
  | [], o, _, j, u, hu => by simp [bytesV] at hu
  | d :: t, o, h, j, u, hu => by
    have ih := cells_of_digs (w := w) (b := b) (off := off) t (o + 1) (fun i y hi => by
      have := h (i + 1) y (by simpa using hi)
      rwa [show o + (i + 1) = o + 1 + i by omega] at this)
    have h0 := h 0 d rfl
    have hl := h0.1.1
    rw [List.flatten_cons, bytesV_append] at hu
    by_cases hj : j < 32
    · rw [List.getElem?_append_left (by rw [bytesV_length, hl]; exact hj)] at hu
      have h1 := h0.2 j hj
      rw [show off + (o + 0) * 32 + j = off + (o * 32 + j) by omega] at h1
      rw [h1]
      unfold bytesV at hu
      rw [List.getElem?_map, List.getElem?_eq_getElem (by omega)] at hu
      injection hu with hu
      rw [← hu, List.getD_eq_getElem?_getD, List.getElem?_eq_getElem (by omega)]
      rfl
    · rw [List.getElem?_append_right (by rw [bytesV_length, hl]; omega), bytesV_length, hl] at hu
      have := ih (j - 32) u hu
      rwa [show off + ((o + 1) * 32 + (j - 32)) = off + (o * 32 + j) by omega] at this
section
variable {H : Type} {enc : TypeId × Value → H} {w : World} {held : Bool}
set_option maxRecDepth 100000 in
theorem trod_dig {fuel : Nat} {cs : List Value} {x : DataW H × List MemPlace} (h : DataW.trod enc Try.prog w 0 (fun _ => true) held fuel 37 cs = some x) :
    ∃ d, IsD d ∧ ∀ j, j < 32 → cs[j]? = some (.int .u8 ((d.getD j 0 : Nat) : Int)) := by
  obtain ⟨xs, m, -, -, hl, hxl, hi⟩ := DataW.trod_array Try.underlying37 h
  rw [show Try.prog.cellsOf 37 = 32 by kernel_rfl] at hl
  have each : ∀ j, j < 32 → ∃ n : Nat, n < 256 ∧ cs[j]? = some (.int .u8 (n : Int)) := by
    intro j hj
    have := hi j hj
    rw [show Try.prog.cellsOf 5 = 1 by kernel_rfl, Nat.mul_one, List.getElem?_eq_getElem (by omega)] at this
    obtain ⟨n, hn, -, hw⟩ := DataW.trod_int (k := .u8) Try.underlying5 this
    have hb : 0 ≤ n ∧ n ≤ 255 := by
      simp [Lit.wf, IntKind.min, IntKind.max, IntKind.signed, IntKind.bits] at hw
      omega
    have h0 : ((cs.drop j).take 1)[0]? = some (.int .u8 n) := by rw [hn]; rfl
    rw [List.getElem?_take, if_pos (by omega), List.getElem?_drop, Nat.add_zero] at h0
    exact ⟨n.toNat, by omega, by rw [h0, Int.toNat_of_nonneg hb.1]⟩
  obtain ⟨f, hf⟩ := Go.Deep.choose_lt each
  have hg : ∀ j, ((List.range 32).map f).getD j 0 < 256 := fun j => by
    by_cases hj : j < 32
    · simp [hj, (hf j hj).1]
    · simp [hj]
  refine ⟨(List.range 32).map f, ⟨by simp, hg⟩, fun j hj => ?_⟩
  rw [(hf j hj).2]
  simp [hj]
set_option maxRecDepth 100000 in
theorem open_digs_at {fuel : Nat} {v : Value} {y : DataW H × List MemPlace} (hf : DataW.trod enc Try.prog w 0 (fun _ => true) held fuel 28 [v] = some y) :
    ∃ A n c, ∃ l : List (List Nat), v = .slice A n c ∧ l.length = n ∧ n ≤ c ∧ c ≤ maxLen ∧ Cells w A (bytesV l.flatten) ∧ IsL l := by
  rcases Go.Deep.open_slice Try.underlying28 hf with ⟨hcs, _⟩ | ⟨a, len, cap, m, k, D, Pl, hcs, _, hl, hm, hmm, _, hi⟩
  · simp at hcs
    subst hcs
    exact ⟨none, 0, 0, [], rfl, rfl, Nat.le_refl _, Nat.zero_le _, .inl (by simp [bytesV]), by intro d hd; simp at hd⟩
  · simp at hcs
    subst hcs
    have hm' : m = cap := by simpa using hmm
    subst hm'
    rw [show Try.prog.cellsOf 37 = 32 by kernel_rfl] at hi
    have each : ∀ i, i < len → ∃ d : List Nat, IsD d ∧ ∀ j, j < 32 → w.cell? ((a.add (i * 32)).add j) = some (.int .u8 ((d.getD j 0 : Nat) : Int)) := fun i hlt => by
      obtain ⟨cs', h1, h2⟩ := hi i (by omega)
      obtain ⟨d, hd, hj⟩ := trod_dig h2
      obtain ⟨_, _, hc⟩ := World.cells?_some h1
      exact ⟨d, hd, fun j hj' => by rw [hc j hj', hj j hj']⟩
    obtain ⟨f, hf⟩ := Go.Deep.choose_lt each
    have hl1 : ∀ i d, ((List.range len).map f)[i]? = some d → IsD d ∧ ∀ j, j < 32 → w.cell? ((a.add (i * 32)).add j) = some (.int .u8 ((d.getD j 0 : Nat) : Int)) := fun i d hd => by
      have hlt : i < len := by
        have := (List.getElem?_eq_some_iff.1 hd).1
        simpa using this
      simp [hlt] at hd
      subst hd
      exact hf i hlt
    refine ⟨some a, len, m, (List.range len).map f, rfl, by simp, hl, hm, ?_, fun x hx => ?_⟩
    · rcases Nat.eq_zero_or_pos len with rfl | hpos
      · exact .inl (by simp [bytesV])
      · obtain ⟨b, off, spot⟩ := a
        have c0 := (hf 0 hpos).2 0 (by omega)
        have hspot : spot = none := by simpa [Addr.add] using World.cell?_spot c0
        subst hspot
        refine .inr ⟨b, off, rfl, World.block_lt_of_cell? w _ c0, fun j u hu => ?_⟩
        have := cells_of_digs (w := w) (b := b) (off := off) _ 0 (fun i x hx => by
          have h1 := hl1 i x hx
          simp only [Go.WideShapes.add_plain] at h1
          rw [Nat.zero_add]
          exact h1) j u hu
        simpa using this
    · obtain ⟨i, hi'⟩ := List.getElem?_of_mem hx
      exact (hl1 i x hi').1
set_option maxRecDepth 100000 in
theorem open_sig {r : Reach} {b0 : Nat} {v : Value} {d : DataW H} {p : List MemPlace} (hv : Value.okWide Try.prog w r b0 30 v) (h : DataW.Trod enc Try.prog w 0 (fun _ => true) held 30 v d p) :
    ∃ i Ao no co Ac nc cc Ap q cp, ∃ o c l : List (List Nat), v = .agg #[.int .i64 i, .slice Ao no co, .slice Ac nc cc, .slice Ap q cp] ∧ (Lit.int .i64 i).wf = true ∧ o.length = no ∧ c.length = nc ∧ l.length = q ∧ q ≤ cp ∧ cp ≤ maxLen ∧
      Cells w Ao (bytesV o.flatten) ∧ Cells w Ac (bytesV c.flatten) ∧ Cells w Ap (bytesV l.flatten) ∧ IsL o ∧ IsL c ∧ IsL l := by
  obtain ⟨v0, v1, v2, v3, y0, y1, y2, y3, k, rfl, -, -, h0, h1, h2, h3⟩ := Go.Joins.open_agg4 Try.underlying30 (by kernel_rfl) (by kernel_rfl) hv h
  obtain ⟨i, hi, -, wi⟩ := DataW.trod_int (k := .i64) Try.underlying3 h0
  simp at hi
  subst hi
  obtain ⟨Ao, no, co, o, rfl, ho, -, -, hCo, hLo⟩ := open_digs_at h1
  obtain ⟨Ac, nc, cc, c, rfl, hc, -, -, hCc, hLc⟩ := open_digs_at h2
  obtain ⟨Ap, q, cp, l, rfl, hl, hq1, hq2, hCp, hLp⟩ := open_digs_at h3
  exact ⟨i, Ao, no, co, Ac, nc, cc, Ap, q, cp, o, c, l, rfl, wi, ho, hc, hl, hq1, hq2, hCo, hCc, hCp, hLo, hLc, hLp⟩
end
end Go.Proofs.Ytcijhakofoklcaa
