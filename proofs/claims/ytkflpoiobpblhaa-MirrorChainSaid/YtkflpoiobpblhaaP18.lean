/- Walks and plain laws that the statement rests on: Path. -/
import Derived.Great.BuildSlice
import Derived.Shelf.SlicesQ.Reverse
import Derived.Test.YtkflpoiobpblhaaP00
import Derived.Test.YtkflpoiobpblhaaP16
import Derived.Test.YtkflpoiobpblhaaP17
namespace Go.Proofs.Ytkflpoiobpblhaa
open Go.RowKit
open Go.Sort (HoldsK putRowK holdsK_ahead holdsK_putRowK get_flatK size_flatK)
theorem run_oneD (d : List Nat) (hd : IsD d) (w : World) : (Instr.buildSlice 34 1 #[(0, .agg (arrK .u8 d))]).run Try.prog w = .ok (.slice (some ⟨w.heap.size, 0, none⟩) 1 1) (w.alloc (.cells (arrK .u8 d) 28)) := by
  obtain ⟨ie, hie, h2⟩ := Option.map_eq_some_iff.1 info_dig
  obtain ⟨hz, hs, -⟩ : ie.zero = some (.agg (arrK .u8 z32)) ∧ ie.size = 32 ∧ ie.bytes = 32 := by simpa using h2
  have hf := Great.fill_whole (s := 32) (by omega) [.agg (arrK .u8 d)] ((Array.range (1 * ie.size)).map ((Value.agg (arrK .u8 z32)).cells[· % (Value.agg (arrK .u8 z32)).cells.size]!)) (fun v hv => by
    rw [List.mem_singleton] at hv; subst hv
    show (arrK .u8 d).size = 32
    exact len32 hd.1) (by rw [hs]; simp)
  refine run_buildSlice w 34 28 1 _ _ ie _ (by kernel_rfl) hie hz (by rw [hs]; decide) (by rw [hs]; decide) ?_
  rw [hs] at hf ⊢
  rw [show ([Value.agg (arrK .u8 d)].flatMap fun v => v.cells.toList).toArray = arrK .u8 d by simp [Value.cells]] at hf
  exact hf
section
variable {w : World} {ops : Array Oper} {rest : List Oper} {o : Oper} {a : Act} {Q : Exit → Act → World → Prop} {K : Act → World → Prop}
theorem step_oneD {E : Prop} (hgd : o.guard = none) (x : Operand) (ho : o.op = .buildSlice 34 1 #[(0, x)]) (d : List Nat) (hd : IsD d) (hx : a.eval x = .agg (arrK .u8 d))
    (h : K (a.put o.dst (.slice (some ⟨w.heap.size, 0, none⟩) 1 1)) (w.alloc (.cells (arrK .u8 d) 28))) : if Region.wanted o (yielded ops a.tmps) = true then Oper.wp Try.prog o a w K Q else E := by
  have hw : Region.wanted o (yielded ops a.tmps) = true := by simp [Region.wanted, hgd]
  rw [if_pos hw]
  unfold Oper.wp execOp
  simp only [ho, List.map_toArray, List.map_cons, List.map_nil, hx, Sem.run_bind, run_oneD d hd w, Result.andThen_ok]
  exact h
theorem wpList_oneD (hgd : o.guard = none) (x : Operand) (ho : o.op = .buildSlice 34 1 #[(0, x)]) (d : List Nat) (hd : IsD d) (hx : a.eval x = .agg (arrK .u8 d))
    (h : wpList Try.prog ops Q rest (a.put o.dst (.slice (some ⟨w.heap.size, 0, none⟩) 1 1)) (w.alloc (.cells (arrK .u8 d) 28))) : wpList Try.prog ops Q (o :: rest) a w := by
  refine wpList_plain hgd fun _ hK => ?_
  unfold Oper.wp execOp
  simp only [ho, List.map_toArray, List.map_cons, List.map_nil, hx, Sem.run_bind, run_oneD d hd w, Result.andThen_ok]
  exact hK _ _ h
end
def encD (d : List Nat) : List Value := (bytesV d ++ List.replicate 32 (Value.int .u8 0)).take 32
theorem encD_length (d : List Nat) : (encD d).length = 32 := by
  unfold encD
  rw [List.length_take, List.length_append, List.length_replicate]
  omega
theorem encD_isD {d : List Nat} (h : IsD d) : encD d = bytesV d := by
  unfold encD
  rw [List.take_append_of_le_length (by rw [bytesV_length, h.1]; exact Nat.le_refl _), List.take_of_length_le (by rw [bytesV_length, h.1]; exact Nat.le_refl _)]
theorem encD_one (d : List Nat) : ∀ v ∈ encD d, v.oneCell' = true := by
  intro v hv
  have := List.mem_of_mem_take hv
  rcases List.mem_append.1 this with h | h
  · exact bytesV_one _ v h
  · rw [List.mem_replicate] at h; rw [h.2]; rfl
theorem flat_cell : ∀ (l : List (List Nat)), IsL l → ∀ t, t < l.length * 32 → (bytesV l.flatten)[t]? = some ((encD (l.toArray)[t / 32]!)[t % 32]!)
  | [], _, t, h => by simp at h
  | d :: l, hL, t, h => by
    have hd := hL d (by simp)
    rw [List.flatten_cons, bytesV_append]
    by_cases ht : t < 32
    · rw [List.getElem?_append_left (by rw [bytesV_length, hd.1]; exact ht), show t / 32 = 0 by omega, show t % 32 = t by omega]
      rw [show ((d :: l).toArray)[0]! = d by simp, encD_isD hd]
      have hl : t < (bytesV d).length := by rw [bytesV_length, hd.1]; exact ht
      rw [List.getElem?_eq_getElem hl, getElem!_pos _ t hl]
    · rw [List.getElem?_append_right (by rw [bytesV_length, hd.1]; omega), bytesV_length, hd.1]
      have ih := flat_cell l (fun x hx => hL x (by simp [hx])) (t - 32) (by simp at h; omega)
      rw [ih]
      have e1 : t / 32 = (t - 32) / 32 + 1 := by omega
      have e2 : t % 32 = (t - 32) % 32 := by omega
      rw [e1, e2]
      congr 3
      simp
theorem reverse_any (g m c base : Nat) (l : List (List Nat)) (w : World) (hown : w.ownsRow base 28 32 (.slice (some ⟨g, 0, none⟩) m c) m (bytesV l.flatten)) (hl : l.length = m) (hL : IsL l) (hm : m ≤ 1000000) :
    Calls Try.prog 71 #[.slice (some ⟨g, 0, none⟩) m c] w fun e w' => e = .returned (.tuple #[]) ∧ Cells w' (some ⟨g, 0, none⟩) (bytesV l.reverse.flatten) ∧ w.grownBy w' (some g) := by
  have hlt : g < w.heap.size := (hown.lt g rfl).2
  have hH : HoldsK encD 32 w g 0 l.toArray := by
    intro t ht
    rw [size_flatK] at ht
    have ht' : t < l.length * 32 := by simpa using ht
    rw [get_flatK _ _ _ _ ht, Nat.zero_add]
    refine ⟨?_, hown.frozenAt t⟩
    rw [hown.cellAt t (by rw [← hl]; exact ht'), flat_cell l hL t ht']
    rfl
  have hc := AnyQ.slices_Reverse Try.revD 32 (Try.isAgg28) (Try.sizeOf28) encD encD_length encD_one g 0 c l.toArray w hH (by simp; omega)
  have hsz : l.toArray.size = m := by simp [hl]
  rw [hsz] at hc
  refine hc.mono ?_
  rintro e w' ⟨rfl, k, rfl⟩
  have hLr : IsL l.reverse := fun d hd => hL d (List.mem_reverse.1 hd)
  refine ⟨rfl, ?_, ?_⟩
  · have hp := holdsK_putRowK (enc := encD) (k := 32) (Sort.ahead w k) g 0 l.toArray l.toArray.reverse (show HoldsK encD 32 (Sort.ahead w k) g 0 l.toArray from hH) (by simp)
    refine .inr ⟨g, 0, rfl, by unfold putRowK; rw [Go.Sort.size_putRow]; exact hlt, fun j u hu => ?_⟩
    have hj : j < l.reverse.length * 32 := by
      have := (List.getElem?_eq_some_iff.1 hu).1
      rw [bytesV_length, hLr.flat_length] at this
      exact this
    rw [flat_cell l.reverse hLr j hj] at hu
    have h2 := (hp j (by rw [size_flatK]; simpa using hj)).1
    rw [get_flatK _ _ _ _ (by simpa using hj)] at h2
    rw [h2, ← hu]
    simp
  · refine ⟨rfl, rfl, rfl, by unfold putRowK; rw [Go.Sort.size_putRow]; exact Nat.le_refl _, fun b hb hne => ?_⟩
    have hbg : b ≠ g := fun e => hne (by rw [e])
    show (w.heap.modify g _)[b]? = _
    rw [Array.getElem?_modify, if_neg (Ne.symm hbg)]
theorem reverse_none (A : Option Addr) (c : Nat) (w : World) :
    Calls Try.prog 71 #[.slice A 0 c] w fun e w' => e = .returned (.tuple #[]) ∧ w' = w := AnyQ.slices_Reverse_empty Try.revD A c w
end Go.Proofs.Ytkflpoiobpblhaa
