/- A set of matches, as map[api.Match]bool that the call made. -/
import Derived.Test.YtpmkebejfnflfaaFBrk
import Derived.Maps.OwnSet
import Derived.Maps.StringElems
import Derived.DeepKeys4
namespace Go.Proofs.Ytpmkebejfnflfaa
open Go.RowKit Go.Maps Go.WideMaps Go.WideElems Go.ChangeMaps
def mval (x : Int × Int) : Value := .agg #[.int .i64 x.1, .int .i64 x.2]
def kLit (x : Int × Int) : Lit := .string (keyBytes [.int .i64 x.1, .int .i64 x.2])
def WfM (x : Int × Int) : Prop := (Lit.int .i64 x.1).wf = true ∧ (Lit.int .i64 x.2).wf = true
theorem mt_wide : (match Try.prog.underlying 51 with | some (.array _ _) | some (.struct _) => true | _ => false) = true := by rw [Try.underlying51]
theorem mt_keyed : Keyed Try.prog 51 := Keyed.of_law (deep_law_laid (by kernel_rfl) (m := 3) (by omega) (of_decide_eq_true (by kernel_rfl)) (by kernel_rfl) mt_wide)
theorem mt_key {x : Int × Int} (h : WfM x) : keyOf Try.prog 51 (mval x) = some (kLit x) := by
  obtain ⟨wa, wb⟩ := h
  obtain ⟨m, hm⟩ : ∃ m, Try.prog.types.size = m + 2 := ⟨Try.prog.types.size - 2, by kernel_rfl⟩
  have hkt : Try.prog.keyType 51 = true := by kernel_rfl
  have hco : Try.prog.cellsOf 51 = 2 := by kernel_rfl
  have hc3 : Try.prog.cellsOf 3 = 1 := by kernel_rfl
  unfold keyOf
  simp only [Try.underlying51]
  rw [if_pos (by simp [hkt, mval, Value.formed, Try.underlying51, hco]), hm]
  unfold Program.keyLits
  simp only [Try.underlying51, mval, Value.cells]
  rw [if_pos ⟨by rw [hco]; rfl, by kernel_rfl⟩, List.mapM_cons, List.mapM_cons, List.mapM_nil]
  simp [hc3, Program.keyLits, Try.underlying3, wa, wb, kLit]
/-- Block M is a map from matches to true whose keys are the members of S. -/
def MtSet (w : World) (M : Nat) (S : List (Int × Int)) : Prop :=
  ∃ (D : DataW Unit) (n : Nat), w.ownsMap Try.prog 51 (plainElem Try.prog 4) M n D ∧ n ≤ S.length ∧ ∀ (x : Int × Int) (z : DataW Unit), WfM x → D.atKey (kLit x) z = if x ∈ S then .lit (.bool true) else z
section
variable {w : World} {M : Nat} {S : List (Int × Int)}
theorem MtSet.made (w : World) : MtSet (w.alloc (.map #[] 0)) w.heap.size [] :=
  ⟨.map [], 0, World.ownsMap_made w _ _ _, Nat.le_refl _, fun _ _ _ => by simp [DataW.atKey]⟩
theorem MtSet.lt (h : MtSet w M S) : M < w.heap.size := by
  obtain ⟨D, n, ho, _⟩ := h
  exact ho.lt
theorem MtSet.grown {w' : World} {row : Option Nat} (h : MtSet w M S) (hg : w.grownBy w' row) (hne : some M ≠ row) : MtSet w' M S := by
  obtain ⟨D, n, ho, r⟩ := h
  exact ⟨D, n, ho.kept hg hne, r⟩
theorem MtSet.below {w' : World} (h : MtSet w M S) (hb : Below w.heap.size w w') : MtSet w' M S := h.grown (grown_of_below hb none) (by simp)
theorem plainElem_bool_inv {v : Value} {b : Bool} {ps : List MemPlace} (h : plainElem (H := Unit) Try.prog 4 v = some (.lit (.bool b), ps)) : v = .bool b := by
  cases v with
  | bool x =>
    rw [plainElem_bool Try.underlying4] at h
    simp at h
    rw [h.1]
  | _ => simp [plainElem, Try.underlying4] at h
theorem MtSet.look (h : MtSet w M S) (x : Int × Int) (hx : WfM x) : (Instr.lookup 63 (.map (some M)) (mval x) false).run Try.prog w = .ok (.bool (decide (x ∈ S))) w := by
  obtain ⟨D, n, ho, _, hat⟩ := h
  obtain ⟨v, ps, hrun, hv⟩ := ho.lookup mt_keyed Try.underlying63 (show (zeroValue 4).run Try.prog w = .ok (.bool false) w by kernel_rfl) (plainElem_bool Try.underlying4 false) (mt_key hx)
  rw [hat x _ hx] at hv
  rw [hrun]
  by_cases hm : x ∈ S
  · rw [if_pos hm] at hv
    rw [plainElem_bool_inv hv, decide_eq_true hm]
  · rw [if_neg hm] at hv
    rw [plainElem_bool_inv hv, decide_eq_false hm]
theorem kLit_ne {x y : Int × Int} (hx : WfM x) (hy : WfM y) (h : x ≠ y) : kLit x ≠ kLit y := fun e => by
  have := mt_keyed.inj (mt_key hx) (e ▸ mt_key hy)
  unfold mval at this
  simp at this
  exact h (Prod.ext this.1 this.2)
theorem MtSet.store (h : MtSet w M S) (x : Int × Int) (hx : WfM x) (hS : S.length < maxLen) : ∃ w', (Instr.mapUpdate 63 (.map (some M)) (mval x) (.bool true)).run Try.prog w = .ok () w' ∧ MtSet w' M (S ++ [x]) ∧ w.grownBy w' (some M) := by
  obtain ⟨D, n, ho, hn, hat⟩ := h
  obtain ⟨w', hrun, ho', hg⟩ := ho.update mt_keyed Try.underlying63 (by omega) (mt_key hx) (plainElem_bool Try.underlying4 true)
  refine ⟨w', hrun, ⟨_, _, ho', by simp; omega, ?_⟩, hg⟩
  intro y z hy
  by_cases hke : y = x
  · subst hke
    rw [atKey_put_same ho.isMap (by trivial), if_pos (by simp)]
  · rw [atKey_put_other (kLit_ne hy hx hke), hat y z hy]
    simp [hke]
end
end Go.Proofs.Ytpmkebejfnflfaa
