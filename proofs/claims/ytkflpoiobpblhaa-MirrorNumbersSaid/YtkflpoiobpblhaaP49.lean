/- Walks and plain laws that the statement rests on: Row2. -/
import Derived.Test.YtkflpoiobpblhaaP00
import Derived.Test.YtkflpoiobpblhaaP21
import Derived.Test.YtkflpoiobpblhaaP48
namespace Go.Proofs.Ytkflpoiobpblhaa
open Go.RowKit
set_option maxRecDepth 100000 in
theorem open_u8 {W : World} {r : Reach} {base : Nat} {v : Value} (h : Cell.okWide Try.prog W r base 5 v) : ∃ n : Nat, n < 256 ∧ v = Value.int .u8 (n : Int) := by
  simp only [Cell.okWide, Try.underlying5] at h
  cases v with
  | int k n =>
    simp only [Cell.ok, Try.underlying5] at h
    obtain ⟨rfl, h2⟩ := h
    have h3 : 0 ≤ n ∧ n ≤ 255 := h2
    exact ⟨n.toNat, by omega, by rw [Int.toNat_of_nonneg h3.1]⟩
  | _ => simp [Cell.ok, Try.underlying5] at h
set_option maxRecDepth 100000 in
theorem open_digest {W : World} {r : Reach} {base : Nat} {v : Value} (h : Value.okWide Try.prog W r base 28 v) : ∃ d, v = .agg (arrK .u8 d) ∧ IsD d := by
  simp only [Value.okWide, Try.underlying28, Row.okWide] at h
  obtain ⟨cs, rfl, hsz, ts, hts, -, hc⟩ := h
  rw [show Try.prog.cellsOf 28 = 32 by kernel_rfl] at hsz
  rw [show Try.prog.cellTypes Try.prog.depth 28 = some (List.replicate 32 5) by kernel_rfl] at hts
  cases hts
  have h8 : ∀ (i : Nat) (v : Value), cs[i]? = some v → ∃ n : Nat, n < 256 ∧ v = Value.int .u8 (n : Int) := by
    intro i v hv
    obtain ⟨u, hu, hok⟩ := hc i v hv
    have : u = 5 := by
      have := List.mem_of_getElem? hu
      exact (List.mem_replicate.1 this).2
    subst this
    exact open_u8 hok
  refine ⟨cs.toList.map fun (v : Value) => match v with | Value.int _ n => n.toNat | _ => 0, ?_, by rw [List.length_map, Array.length_toList, hsz], fun j => ?_⟩
  · congr 1
    apply Array.ext_getElem?
    intro i
    unfold arrK
    simp only [List.getElem?_toArray, List.getElem?_map, Array.getElem?_toList, Option.map_map]
    cases hv : cs[i]? with
    | none => rfl
    | some v =>
      obtain ⟨n, hn, rfl⟩ := h8 i v hv
      simp
  · rw [List.getD_eq_getElem?_getD, List.getElem?_map, Array.getElem?_toList]
    cases hv : cs[j]? with
    | none => simp
    | some v =>
      obtain ⟨n, hn, rfl⟩ := h8 j v hv
      simpa using hn
end Go.Proofs.Ytkflpoiobpblhaa
