/- The row's frame for calendar's laws: arguments opened; the table of lengths out of the row's own condition; a world that meets it. -/
import Derived.Test.YtlijdbgknbeefaaDoorCalS
import Derived.Test.YtlijdbgknbeefaaDoorRow
import Derived.Test.YtlijdbgknbeefaaDoorTie
import Derived.Test.YtlijdbgknbeefaaDoorCards
import Derived.Lib.LaidTab
import Derived.LaidMore
import Derived.Stop.Joined
import Derived.Lib.SmallJoins
import Derived.Deep.Slices
import Derived.Deep.Fields
import Derived.SevenTiedAt
namespace Go.Proofs.YtlijdbgknbeefaaDoor
open Go.RowKit Go.WideShapes Go.ChangeShapes Go.ChangeAt
def Fine (w : World) (e : Ending) (w' : World) : Prop := e = .returned (.bool true) ∧ Below w.heap.size w w'
def laidL : List (String × DataW Unit) := [("assize/calendar.lengths", Rows.laid_assize_calendar_lengths)]
theorem door_met (os : Os) (args : Array Value) : laidMetH Tryd.prog laidL ((World.doorLaid Tryd.prog 400 os).forCall (fun _ _ => 0) ⟨#[], args, []⟩).memory :=
  laidMetH_of_parts3 (fuel := 8) (laidMet_of_run' 8 (by kernel_rfl) (by kernel_rfl)) (by kernel_rfl) (by kernel_rfl)
theorem gLens : Tryd.prog.globalNamed "assize/calendar.lengths" = some 0 := by kernel_rfl
theorem lens_of_laid {W : World} (h : laidMetH Tryd.prog laidL W) : Lens W := by
  rw [MakeChecks.laidMetH_plain _ _ _ (by kernel_rfl)] at h
  have hT := Lib.tabIs_of_head (k := .i64) (zs := lensL) (n := 12) (t := 62) (e := 3) gLens (by kernel_rfl) Tryd.underlying62 Tryd.underlying3 (by kernel_rfl) (by kernel_rfl) h
  have hc : ∀ i, i < 12 → W.cell? ⟨0, i, none⟩ = some (.int .i64 (lensL.getD i 0)) := fun i hi => hT.cell gLens i (by simpa [lensL] using hi)
  exact ⟨World.block_lt_of_cell? W ⟨0, 0, none⟩ (hc 0 (by omega)), hc⟩
section
variable {H : Type} {enc : TypeId × Value → H} {P : Program} {w : World} {held : Bool}
theorem open_date {r : Reach} {b0 : Nat} {v : Value} {d : DataW H} {p : List MemPlace} (hv : Value.okWide Tryd.prog w r b0 23 v) (h : DataW.Trod enc Tryd.prog w 0 (fun _ => true) held 23 v d p) :
    ∃ y m e : Int, v = .agg #[.int .i64 y, .int .i64 m, .int .i64 e] ∧ (Lit.int .i64 y).wf = true ∧ (Lit.int .i64 m).wf = true ∧ (Lit.int .i64 e).wf = true := by
  obtain ⟨v0, v1, v2, y0, y1, y2, k, rfl, -, -, h0, h1, h2⟩ := Go.Joins.open_agg3 Tryd.underlying23 (by kernel_rfl) (by kernel_rfl) hv h
  obtain ⟨x, hx, -, wx⟩ := DataW.trod_int (k := .i64) Tryd.underlying3 h0
  obtain ⟨m, hm, -, wm⟩ := DataW.trod_int (k := .i64) Tryd.underlying3 h1
  obtain ⟨u, hu, -, wu⟩ := DataW.trod_int (k := .i64) Tryd.underlying3 h2
  simp at hx hm hu
  subst hx
  subst hm
  subst hu
  exact ⟨x, m, u, rfl, wx, wm, wu⟩
theorem open_iv {r : Reach} {b0 : Nat} {v : Value} {d : DataW H} {p : List MemPlace} (hv : Value.okWide Tryd.prog w r b0 43 v) (h : DataW.Trod enc Tryd.prog w 0 (fun _ => true) held 43 v d p) :
    ∃ x y : Int, v = .agg #[.int .i64 x, .int .i64 y] ∧ (Lit.int .i64 x).wf = true ∧ (Lit.int .i64 y).wf = true := by
  obtain ⟨v0, v1, y0, y1, k, rfl, -, -, h0, h1⟩ := Go.Joins.open_agg2 Tryd.underlying43 (by kernel_rfl) (by kernel_rfl) hv h
  obtain ⟨x, hx, -, wx⟩ := DataW.trod_int (k := .i64) Tryd.underlying3 h0
  obtain ⟨m, hm, -, wm⟩ := DataW.trod_int (k := .i64) Tryd.underlying3 h1
  simp at hx hm
  subst hx
  subst hm
  exact ⟨x, m, rfl, wx, wm⟩
end
end Go.Proofs.YtlijdbgknbeefaaDoor
