/-
  NARROWER THAN 'FOR EVERY INPUT', by the rows' own cells (each row's printed sentence says how): CalendarDaySpec: laid · CalendarInverse: laid · CalendarOrder: laid · CalendarWeeks: laid · CalendarPoints: laid · CalendarListSpec: laid · CalendarMeets: laid.
  DERIVED. THE GIVEN ROWS OF THIS SEAT. 7 by the template 'for every input the law returns true; each argument reads behind the call as it read before'; 0 by the template 'total and deterministic' (their statements: YtlijdbgknbeefaaDoorTotals.lean).
  GIVEN WITH THE SEED: the statements are not yours to turn. If you find one false, say at which input.
  Laid BY PROGRAM, IN A SANDBOX (cutbox-rows.mjs): the forced cells as the released guide's own fill.sh prints them over the translation 77131bde6faf3f60… (all of the seat's roots in one cut). By AI agents, Wed Nov 11 2026. No macro, syntax, notation, axiom, sorry.
-/
import Derived.Test.YtlijdbgknbeefaaDoorChecked
import GoSem.Claim
import GoSem.ClaimJoined
import GoSem.ClaimMapViews
import Derived.JoinedTies
import Derived.KernelRfl
namespace Go.Proofs.YtlijdbgknbeefaaDoor
/- THE CELL 'sum', in the pinned program and in every row, IS THE sha256 OF THE DUMP (.gsa) THAT YtlijdbgknbeefaaDoorProg.lean LOADS. Nothing in Lean hashes anything: it is a label: what it is worth is what the hold of that sum in a sandbox is worth. -/
noncomputable def Tryd.pinned : Pinned := { name := "ytlijdbgknbeefaadoor", sum := "77131bde6faf3f60f7899b03361f6fa3d5b30e10da0f60f1ff930d37c6ab9fd8", checked := Tryd.checked }
namespace Rows
def none {H : Type} : Left H := { results := [], args := [] }

/- WHAT THE LISTED PACKAGE-LEVEL VARIABLES READ AS WHEN THE CALL BEGINS. Each datum BY PROGRAM (the guide's laid-datum.mjs) off the statement by which the dump's own 'gosem.cut.vars' lays the variable. In a bare row this is a premise. The card (YtlijdbgknbeefaaDoorCards.lean) ties it to the program's text. -/
def laid_assize_calendar_lengths {H : Type} : DataW H := .agg [.lit (.int .i64 31), .lit (.int .i64 28), .lit (.int .i64 31), .lit (.int .i64 30), .lit (.int .i64 31), .lit (.int .i64 30), .lit (.int .i64 31), .lit (.int .i64 31), .lit (.int .i64 30), .lit (.int .i64 31), .lit (.int .i64 30), .lit (.int .i64 31)]

/-- 'assizelaw01.CalendarDaySpec': WHATEVER THE INPUT: true; the input reads as it did. -/
def calendarDaySpecSpec : ChangeSpec := { name := "calendarDaySpec", fn := fun _ => fun
  | [d1, d2, d3] => { results := [.lit (.bool true)], args := [d1, d2, d3] }
  | _ => none }
def calendarDaySpecRow : OpenClaim := { program := "ytlijdbgknbeefaadoor", sum := "77131bde6faf3f60f7899b03361f6fa3d5b30e10da0f60f1ff930d37c6ab9fd8", func := "assize/assizelaw01.CalendarDaySpec", spec := "calendarDaySpec", unfollowed := true, recurses := true, named := ["assize/calendar.lengths"], apart := false, laid := [("assize/calendar.lengths", laid_assize_calendar_lengths)] }
def CalendarDaySpecSaid : Prop := calendarDaySpecRow.holds Tryd.pinned (OpenSpec.ofChange calendarDaySpecSpec)

/-- ITS FALSE NEIGHBOUR: 'it returns false'. Refute it at one input. -/
def calendarDaySpecWrong : ChangeSpec := { name := "calendarDaySpec", fn := fun _ => fun
  | [d1, d2, d3] => { results := [.lit (.bool false)], args := [d1, d2, d3] }
  | _ => none }
def CalendarDaySpecWrongFalsely : Prop := calendarDaySpecRow.holds Tryd.pinned (OpenSpec.ofChange calendarDaySpecWrong)

/-- 'assizelaw01.CalendarInverse': WHATEVER THE INPUT: true; the input reads as it did. -/
def calendarInverseSpec : ChangeSpec := { name := "calendarInverse", fn := fun _ => fun
  | [d1, d2] => { results := [.lit (.bool true)], args := [d1, d2] }
  | _ => none }
def calendarInverseRow : OpenClaim := { program := "ytlijdbgknbeefaadoor", sum := "77131bde6faf3f60f7899b03361f6fa3d5b30e10da0f60f1ff930d37c6ab9fd8", func := "assize/assizelaw01.CalendarInverse", spec := "calendarInverse", unfollowed := true, recurses := true, named := ["assize/calendar.lengths"], apart := false, laid := [("assize/calendar.lengths", laid_assize_calendar_lengths)] }
def CalendarInverseSaid : Prop := calendarInverseRow.holds Tryd.pinned (OpenSpec.ofChange calendarInverseSpec)

/-- ITS FALSE NEIGHBOUR: 'it returns false'. Refute it at one input. -/
def calendarInverseWrong : ChangeSpec := { name := "calendarInverse", fn := fun _ => fun
  | [d1, d2] => { results := [.lit (.bool false)], args := [d1, d2] }
  | _ => none }
def CalendarInverseWrongFalsely : Prop := calendarInverseRow.holds Tryd.pinned (OpenSpec.ofChange calendarInverseWrong)

/-- 'assizelaw01.CalendarOrder': WHATEVER THE INPUT: true; the input reads as it did. -/
def calendarOrderSpec : ChangeSpec := { name := "calendarOrder", fn := fun _ => fun
  | [d1, d2] => { results := [.lit (.bool true)], args := [d1, d2] }
  | _ => none }
def calendarOrderRow : OpenClaim := { program := "ytlijdbgknbeefaadoor", sum := "77131bde6faf3f60f7899b03361f6fa3d5b30e10da0f60f1ff930d37c6ab9fd8", func := "assize/assizelaw01.CalendarOrder", spec := "calendarOrder", unfollowed := true, recurses := true, named := ["assize/calendar.lengths"], apart := false, laid := [("assize/calendar.lengths", laid_assize_calendar_lengths)] }
def CalendarOrderSaid : Prop := calendarOrderRow.holds Tryd.pinned (OpenSpec.ofChange calendarOrderSpec)

/-- ITS FALSE NEIGHBOUR: 'it returns false'. Refute it at one input. -/
def calendarOrderWrong : ChangeSpec := { name := "calendarOrder", fn := fun _ => fun
  | [d1, d2] => { results := [.lit (.bool false)], args := [d1, d2] }
  | _ => none }
def CalendarOrderWrongFalsely : Prop := calendarOrderRow.holds Tryd.pinned (OpenSpec.ofChange calendarOrderWrong)

/-- 'assizelaw01.CalendarWeeks': WHATEVER THE INPUT: true; the input reads as it did. -/
def calendarWeeksSpec : ChangeSpec := { name := "calendarWeeks", fn := fun _ => fun
  | [d1, d2] => { results := [.lit (.bool true)], args := [d1, d2] }
  | _ => none }
def calendarWeeksRow : OpenClaim := { program := "ytlijdbgknbeefaadoor", sum := "77131bde6faf3f60f7899b03361f6fa3d5b30e10da0f60f1ff930d37c6ab9fd8", func := "assize/assizelaw01.CalendarWeeks", spec := "calendarWeeks", unfollowed := true, recurses := true, named := ["assize/calendar.lengths"], apart := false, laid := [("assize/calendar.lengths", laid_assize_calendar_lengths)] }
def CalendarWeeksSaid : Prop := calendarWeeksRow.holds Tryd.pinned (OpenSpec.ofChange calendarWeeksSpec)

/-- ITS FALSE NEIGHBOUR: 'it returns false'. Refute it at one input. -/
def calendarWeeksWrong : ChangeSpec := { name := "calendarWeeks", fn := fun _ => fun
  | [d1, d2] => { results := [.lit (.bool false)], args := [d1, d2] }
  | _ => none }
def CalendarWeeksWrongFalsely : Prop := calendarWeeksRow.holds Tryd.pinned (OpenSpec.ofChange calendarWeeksWrong)

/-- 'assizelaw01.CalendarPoints': WHATEVER THE INPUT: true; the input reads as it did. -/
def calendarPointsSpec : ChangeSpec := { name := "calendarPoints", fn := fun _ => fun
  | [d1, d2, d3] => { results := [.lit (.bool true)], args := [d1, d2, d3] }
  | _ => none }
def calendarPointsRow : OpenClaim := { program := "ytlijdbgknbeefaadoor", sum := "77131bde6faf3f60f7899b03361f6fa3d5b30e10da0f60f1ff930d37c6ab9fd8", func := "assize/assizelaw01.CalendarPoints", spec := "calendarPoints", unfollowed := true, recurses := true, named := ["assize/calendar.lengths"], apart := false, laid := [("assize/calendar.lengths", laid_assize_calendar_lengths)] }
def CalendarPointsSaid : Prop := calendarPointsRow.holds Tryd.pinned (OpenSpec.ofChange calendarPointsSpec)

/-- ITS FALSE NEIGHBOUR: 'it returns false'. Refute it at one input. -/
def calendarPointsWrong : ChangeSpec := { name := "calendarPoints", fn := fun _ => fun
  | [d1, d2, d3] => { results := [.lit (.bool false)], args := [d1, d2, d3] }
  | _ => none }
def CalendarPointsWrongFalsely : Prop := calendarPointsRow.holds Tryd.pinned (OpenSpec.ofChange calendarPointsWrong)

/-- 'assizelaw01.CalendarListSpec': WHATEVER THE INPUT: true; the input reads as it did. -/
def calendarListSpecSpec : ChangeSpec := { name := "calendarListSpec", fn := fun _ => fun
  | [d1, d2, d3, d4] => { results := [.lit (.bool true)], args := [d1, d2, d3, d4] }
  | _ => none }
def calendarListSpecRow : OpenClaim := { program := "ytlijdbgknbeefaadoor", sum := "77131bde6faf3f60f7899b03361f6fa3d5b30e10da0f60f1ff930d37c6ab9fd8", func := "assize/assizelaw01.CalendarListSpec", spec := "calendarListSpec", unfollowed := true, recurses := true, named := ["assize/calendar.lengths"], apart := false, laid := [("assize/calendar.lengths", laid_assize_calendar_lengths)] }
def CalendarListSpecSaid : Prop := calendarListSpecRow.holds Tryd.pinned (OpenSpec.ofChange calendarListSpecSpec)

/-- ITS FALSE NEIGHBOUR: 'it returns false'. Refute it at one input. -/
def calendarListSpecWrong : ChangeSpec := { name := "calendarListSpec", fn := fun _ => fun
  | [d1, d2, d3, d4] => { results := [.lit (.bool false)], args := [d1, d2, d3, d4] }
  | _ => none }
def CalendarListSpecWrongFalsely : Prop := calendarListSpecRow.holds Tryd.pinned (OpenSpec.ofChange calendarListSpecWrong)

/-- 'assizelaw01.CalendarMeets': WHATEVER THE INPUT: true; the input reads as it did. -/
def calendarMeetsSpec : ChangeSpec := { name := "calendarMeets", fn := fun _ => fun
  | [d1, d2, d3] => { results := [.lit (.bool true)], args := [d1, d2, d3] }
  | _ => none }
def calendarMeetsRow : OpenClaim := { program := "ytlijdbgknbeefaadoor", sum := "77131bde6faf3f60f7899b03361f6fa3d5b30e10da0f60f1ff930d37c6ab9fd8", func := "assize/assizelaw01.CalendarMeets", spec := "calendarMeets", unfollowed := true, recurses := true, named := ["assize/calendar.lengths"], apart := false, laid := [("assize/calendar.lengths", laid_assize_calendar_lengths)] }
def CalendarMeetsSaid : Prop := calendarMeetsRow.holds Tryd.pinned (OpenSpec.ofChange calendarMeetsSpec)

/-- ITS FALSE NEIGHBOUR: 'it returns false'. Refute it at one input. -/
def calendarMeetsWrong : ChangeSpec := { name := "calendarMeets", fn := fun _ => fun
  | [d1, d2, d3] => { results := [.lit (.bool false)], args := [d1, d2, d3] }
  | _ => none }
def CalendarMeetsWrongFalsely : Prop := calendarMeetsRow.holds Tryd.pinned (OpenSpec.ofChange calendarMeetsWrong)

/- THE SECOND FORM. 'bulk': how many values and letters a reading holds, each counted each time it is reached (what is shared counts as often as it is met; a slice's spare places count too). A statement '..UptoSaid' is the law's where the arguments, and the package variables that the reading takes, are together of bulk at most 1048576: NARROWER than '..Said'. Prove '..Said' where nothing that the law and all that it calls make is longer than what came in: it says more and counts as full. Else prove '..UptoSaid'. A law counts once. -/
mutual
def uptoBulk {H : Type} : DataW H → Nat
  | .lit (.string bytes) => bytes.length + 1
  | .lit _ => 1
  | .nil => 1
  | .ptr d => uptoBulk d + 1
  | .slice elems spare => uptoBulkAll elems + uptoBulkAll spare + 1
  | .agg parts => uptoBulkAll parts + 1
  | .iface _ d => uptoBulk d + 1
  | .map entries => uptoBulkEntries entries + 1
  | .held _ => 1
def uptoBulkAll {H : Type} : List (DataW H) → Nat
  | [] => 0
  | d :: r => uptoBulk d + uptoBulkAll r
def uptoBulkEntries {H : Type} : List (Lit × DataW H) → Nat
  | [] => 0
  | x :: r => uptoBulkEntry x + uptoBulkEntries r
def uptoBulkEntry {H : Type} : Lit × DataW H → Nat
  | (.string bytes, d) => bytes.length + uptoBulk d + 1
  | (_, d) => uptoBulk d + 1
 end
def uptoSmall : (H : Type) → List (DataW H) → Bool := fun _ ds => decide (uptoBulkAll ds ≤ 1048576)
def OpenSpec.upto (s : _root_.Go.ChangeSpec) : _root_.Go.OpenSpec := { _root_.Go.OpenSpec.ofChange s with cond := some uptoSmall }

/-- 'assizelaw01.CalendarDaySpec', WHERE WHAT IT READS IS OF BULK AT MOST 1048576: true; the input reads as it did. -/
def calendarDaySpecUptoRow : OpenClaim := { program := "ytlijdbgknbeefaadoor", sum := "77131bde6faf3f60f7899b03361f6fa3d5b30e10da0f60f1ff930d37c6ab9fd8", func := "assize/assizelaw01.CalendarDaySpec", spec := "calendarDaySpec", unfollowed := true, recurses := true, named := ["assize/calendar.lengths"], apart := false, laid := [("assize/calendar.lengths", laid_assize_calendar_lengths)], narrowed := true }
def CalendarDaySpecUptoSaid : Prop := calendarDaySpecUptoRow.holds Tryd.pinned (OpenSpec.upto calendarDaySpecSpec)

/-- 'assizelaw01.CalendarInverse', WHERE WHAT IT READS IS OF BULK AT MOST 1048576: true; the input reads as it did. -/
def calendarInverseUptoRow : OpenClaim := { program := "ytlijdbgknbeefaadoor", sum := "77131bde6faf3f60f7899b03361f6fa3d5b30e10da0f60f1ff930d37c6ab9fd8", func := "assize/assizelaw01.CalendarInverse", spec := "calendarInverse", unfollowed := true, recurses := true, named := ["assize/calendar.lengths"], apart := false, laid := [("assize/calendar.lengths", laid_assize_calendar_lengths)], narrowed := true }
def CalendarInverseUptoSaid : Prop := calendarInverseUptoRow.holds Tryd.pinned (OpenSpec.upto calendarInverseSpec)

/-- 'assizelaw01.CalendarOrder', WHERE WHAT IT READS IS OF BULK AT MOST 1048576: true; the input reads as it did. -/
def calendarOrderUptoRow : OpenClaim := { program := "ytlijdbgknbeefaadoor", sum := "77131bde6faf3f60f7899b03361f6fa3d5b30e10da0f60f1ff930d37c6ab9fd8", func := "assize/assizelaw01.CalendarOrder", spec := "calendarOrder", unfollowed := true, recurses := true, named := ["assize/calendar.lengths"], apart := false, laid := [("assize/calendar.lengths", laid_assize_calendar_lengths)], narrowed := true }
def CalendarOrderUptoSaid : Prop := calendarOrderUptoRow.holds Tryd.pinned (OpenSpec.upto calendarOrderSpec)

/-- 'assizelaw01.CalendarWeeks', WHERE WHAT IT READS IS OF BULK AT MOST 1048576: true; the input reads as it did. -/
def calendarWeeksUptoRow : OpenClaim := { program := "ytlijdbgknbeefaadoor", sum := "77131bde6faf3f60f7899b03361f6fa3d5b30e10da0f60f1ff930d37c6ab9fd8", func := "assize/assizelaw01.CalendarWeeks", spec := "calendarWeeks", unfollowed := true, recurses := true, named := ["assize/calendar.lengths"], apart := false, laid := [("assize/calendar.lengths", laid_assize_calendar_lengths)], narrowed := true }
def CalendarWeeksUptoSaid : Prop := calendarWeeksUptoRow.holds Tryd.pinned (OpenSpec.upto calendarWeeksSpec)

/-- 'assizelaw01.CalendarPoints', WHERE WHAT IT READS IS OF BULK AT MOST 1048576: true; the input reads as it did. -/
def calendarPointsUptoRow : OpenClaim := { program := "ytlijdbgknbeefaadoor", sum := "77131bde6faf3f60f7899b03361f6fa3d5b30e10da0f60f1ff930d37c6ab9fd8", func := "assize/assizelaw01.CalendarPoints", spec := "calendarPoints", unfollowed := true, recurses := true, named := ["assize/calendar.lengths"], apart := false, laid := [("assize/calendar.lengths", laid_assize_calendar_lengths)], narrowed := true }
def CalendarPointsUptoSaid : Prop := calendarPointsUptoRow.holds Tryd.pinned (OpenSpec.upto calendarPointsSpec)

/-- 'assizelaw01.CalendarListSpec', WHERE WHAT IT READS IS OF BULK AT MOST 1048576: true; the input reads as it did. -/
def calendarListSpecUptoRow : OpenClaim := { program := "ytlijdbgknbeefaadoor", sum := "77131bde6faf3f60f7899b03361f6fa3d5b30e10da0f60f1ff930d37c6ab9fd8", func := "assize/assizelaw01.CalendarListSpec", spec := "calendarListSpec", unfollowed := true, recurses := true, named := ["assize/calendar.lengths"], apart := false, laid := [("assize/calendar.lengths", laid_assize_calendar_lengths)], narrowed := true }
def CalendarListSpecUptoSaid : Prop := calendarListSpecUptoRow.holds Tryd.pinned (OpenSpec.upto calendarListSpecSpec)

/-- 'assizelaw01.CalendarMeets', WHERE WHAT IT READS IS OF BULK AT MOST 1048576: true; the input reads as it did. -/
def calendarMeetsUptoRow : OpenClaim := { program := "ytlijdbgknbeefaadoor", sum := "77131bde6faf3f60f7899b03361f6fa3d5b30e10da0f60f1ff930d37c6ab9fd8", func := "assize/assizelaw01.CalendarMeets", spec := "calendarMeets", unfollowed := true, recurses := true, named := ["assize/calendar.lengths"], apart := false, laid := [("assize/calendar.lengths", laid_assize_calendar_lengths)], narrowed := true }
def CalendarMeetsUptoSaid : Prop := calendarMeetsUptoRow.holds Tryd.pinned (OpenSpec.upto calendarMeetsSpec)

end Rows
end Go.Proofs.YtlijdbgknbeefaaDoor
