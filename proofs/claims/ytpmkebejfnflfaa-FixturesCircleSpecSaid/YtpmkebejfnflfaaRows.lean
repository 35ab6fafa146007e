/-
  No cell of these rows narrows 'for every input' (looked for: loops, veiled, ifaces, maps, wideKeys, modest, calm, conditions, laid).
  DERIVED. THE GIVEN ROWS OF THIS SEAT. 7 by the template 'for every input the law returns true; each argument reads behind the call as it read before'; 0 by the template 'total and deterministic' (their statements: YtpmkebejfnflfaaTotals.lean).
  GIVEN WITH THE SEED: the statements are not yours to turn. If you find one false, say at which input.
  Laid BY PROGRAM, IN A SANDBOX (cutbox-rows.mjs): the forced cells as the released guide's own fill.sh prints them over the translation 704023e45eff0e80… (all of the seat's roots in one cut). By AI agents, Wed Nov 11 2026. No macro, syntax, notation, axiom, sorry.
-/
import Derived.Test.YtpmkebejfnflfaaChecked
import GoSem.Claim
import GoSem.ClaimJoined
import GoSem.ClaimMapViews
import Derived.JoinedTies
import Derived.KernelRfl
namespace Go.Proofs.Ytpmkebejfnflfaa
/- THE CELL 'sum', in the pinned program and in every row, IS THE sha256 OF THE DUMP (.gsa) THAT YtpmkebejfnflfaaProg.lean LOADS. Nothing in Lean hashes anything: it is a label: what it is worth is what the hold of that sum in a sandbox is worth. -/
noncomputable def Try.pinned : Pinned := { name := "ytpmkebejfnflfaa", sum := "704023e45eff0e802ca0687a4f6389b365fa5cde85fd39efc22b9d2218908492", checked := Try.checked }
namespace Rows
def none {H : Type} : Left H := { results := [], args := [] }

/-- 'assizelaw30.FixturesCircleSpec': WHATEVER THE INPUT: true; the input reads as it did. -/
def fixturesCircleSpecSpec : ChangeSpec := { name := "fixturesCircleSpec", fn := fun _ => fun
  | [d1, d2] => { results := [.lit (.bool true)], args := [d1, d2] }
  | _ => none }
def fixturesCircleSpecRow : OpenClaim := { program := "ytpmkebejfnflfaa", sum := "704023e45eff0e802ca0687a4f6389b365fa5cde85fd39efc22b9d2218908492", func := "assize/assizelaw30.FixturesCircleSpec", spec := "fixturesCircleSpec", unfollowed := true, recurses := true, plainKeys := false, apart := false }
def FixturesCircleSpecSaid : Prop := fixturesCircleSpecRow.holds Try.pinned (OpenSpec.ofChange fixturesCircleSpecSpec)

/-- ITS FALSE NEIGHBOUR: 'it returns false'. Refute it at one input. -/
def fixturesCircleSpecWrong : ChangeSpec := { name := "fixturesCircleSpec", fn := fun _ => fun
  | [d1, d2] => { results := [.lit (.bool false)], args := [d1, d2] }
  | _ => none }
def FixturesCircleSpecWrongFalsely : Prop := fixturesCircleSpecRow.holds Try.pinned (OpenSpec.ofChange fixturesCircleSpecWrong)

/-- 'assizelaw30.FixturesCheckSpec': WHATEVER THE INPUT: true; the input reads as it did. -/
def fixturesCheckSpecSpec : ChangeSpec := { name := "fixturesCheckSpec", fn := fun _ => fun
  | [d1, d2, d3, d4] => { results := [.lit (.bool true)], args := [d1, d2, d3, d4] }
  | _ => none }
def fixturesCheckSpecRow : OpenClaim := { program := "ytpmkebejfnflfaa", sum := "704023e45eff0e802ca0687a4f6389b365fa5cde85fd39efc22b9d2218908492", func := "assize/assizelaw30.FixturesCheckSpec", spec := "fixturesCheckSpec", unfollowed := true, recurses := true, plainKeys := false, apart := false }
def FixturesCheckSpecSaid : Prop := fixturesCheckSpecRow.holds Try.pinned (OpenSpec.ofChange fixturesCheckSpecSpec)

/-- ITS FALSE NEIGHBOUR: 'it returns false'. Refute it at one input. -/
def fixturesCheckSpecWrong : ChangeSpec := { name := "fixturesCheckSpec", fn := fun _ => fun
  | [d1, d2, d3, d4] => { results := [.lit (.bool false)], args := [d1, d2, d3, d4] }
  | _ => none }
def FixturesCheckSpecWrongFalsely : Prop := fixturesCheckSpecRow.holds Try.pinned (OpenSpec.ofChange fixturesCheckSpecWrong)

/-- 'assizelaw30.FixturesDatesSpec': WHATEVER THE INPUT: true; the input reads as it did. -/
def fixturesDatesSpecSpec : ChangeSpec := { name := "fixturesDatesSpec", fn := fun _ => fun
  | [d1, d2, d3, d4] => { results := [.lit (.bool true)], args := [d1, d2, d3, d4] }
  | _ => none }
def fixturesDatesSpecRow : OpenClaim := { program := "ytpmkebejfnflfaa", sum := "704023e45eff0e802ca0687a4f6389b365fa5cde85fd39efc22b9d2218908492", func := "assize/assizelaw30.FixturesDatesSpec", spec := "fixturesDatesSpec", unfollowed := true, recurses := true, plainKeys := false, apart := false }
def FixturesDatesSpecSaid : Prop := fixturesDatesSpecRow.holds Try.pinned (OpenSpec.ofChange fixturesDatesSpecSpec)

/-- ITS FALSE NEIGHBOUR: 'it returns false'. Refute it at one input. -/
def fixturesDatesSpecWrong : ChangeSpec := { name := "fixturesDatesSpec", fn := fun _ => fun
  | [d1, d2, d3, d4] => { results := [.lit (.bool false)], args := [d1, d2, d3, d4] }
  | _ => none }
def FixturesDatesSpecWrongFalsely : Prop := fixturesDatesSpecRow.holds Try.pinned (OpenSpec.ofChange fixturesDatesSpecWrong)

/-- 'assizelaw30.FixturesFull': WHATEVER THE INPUT: true; the input reads as it did. -/
def fixturesFullSpec : ChangeSpec := { name := "fixturesFull", fn := fun _ => fun
  | [d1, d2] => { results := [.lit (.bool true)], args := [d1, d2] }
  | _ => none }
def fixturesFullRow : OpenClaim := { program := "ytpmkebejfnflfaa", sum := "704023e45eff0e802ca0687a4f6389b365fa5cde85fd39efc22b9d2218908492", func := "assize/assizelaw30.FixturesFull", spec := "fixturesFull", unfollowed := true, recurses := true, plainKeys := false, apart := false }
def FixturesFullSaid : Prop := fixturesFullRow.holds Try.pinned (OpenSpec.ofChange fixturesFullSpec)

/-- ITS FALSE NEIGHBOUR: 'it returns false'. Refute it at one input. -/
def fixturesFullWrong : ChangeSpec := { name := "fixturesFull", fn := fun _ => fun
  | [d1, d2] => { results := [.lit (.bool false)], args := [d1, d2] }
  | _ => none }
def FixturesFullWrongFalsely : Prop := fixturesFullRow.holds Try.pinned (OpenSpec.ofChange fixturesFullWrong)

/-- 'assizelaw30.FixturesLess': WHATEVER THE INPUT: true; the input reads as it did. -/
def fixturesLessSpec : ChangeSpec := { name := "fixturesLess", fn := fun _ => fun
  | [d1, d2, d3, d4, d5] => { results := [.lit (.bool true)], args := [d1, d2, d3, d4, d5] }
  | _ => none }
def fixturesLessRow : OpenClaim := { program := "ytpmkebejfnflfaa", sum := "704023e45eff0e802ca0687a4f6389b365fa5cde85fd39efc22b9d2218908492", func := "assize/assizelaw30.FixturesLess", spec := "fixturesLess", unfollowed := true, recurses := true, plainKeys := false, apart := false }
def FixturesLessSaid : Prop := fixturesLessRow.holds Try.pinned (OpenSpec.ofChange fixturesLessSpec)

/-- ITS FALSE NEIGHBOUR: 'it returns false'. Refute it at one input. -/
def fixturesLessWrong : ChangeSpec := { name := "fixturesLess", fn := fun _ => fun
  | [d1, d2, d3, d4, d5] => { results := [.lit (.bool false)], args := [d1, d2, d3, d4, d5] }
  | _ => none }
def FixturesLessWrongFalsely : Prop := fixturesLessRow.holds Try.pinned (OpenSpec.ofChange fixturesLessWrong)

/-- 'assizelaw30.FixturesDays': WHATEVER THE INPUT: true; the input reads as it did. -/
def fixturesDaysSpec : ChangeSpec := { name := "fixturesDays", fn := fun _ => fun
  | [d1, d2, d3, d4] => { results := [.lit (.bool true)], args := [d1, d2, d3, d4] }
  | _ => none }
def fixturesDaysRow : OpenClaim := { program := "ytpmkebejfnflfaa", sum := "704023e45eff0e802ca0687a4f6389b365fa5cde85fd39efc22b9d2218908492", func := "assize/assizelaw30.FixturesDays", spec := "fixturesDays", unfollowed := true, recurses := true, plainKeys := false, apart := false }
def FixturesDaysSaid : Prop := fixturesDaysRow.holds Try.pinned (OpenSpec.ofChange fixturesDaysSpec)

/-- ITS FALSE NEIGHBOUR: 'it returns false'. Refute it at one input. -/
def fixturesDaysWrong : ChangeSpec := { name := "fixturesDays", fn := fun _ => fun
  | [d1, d2, d3, d4] => { results := [.lit (.bool false)], args := [d1, d2, d3, d4] }
  | _ => none }
def FixturesDaysWrongFalsely : Prop := fixturesDaysRow.holds Try.pinned (OpenSpec.ofChange fixturesDaysWrong)

/-- 'assizelaw30.FixturesTurned': WHATEVER THE INPUT: true; the input reads as it did. -/
def fixturesTurnedSpec : ChangeSpec := { name := "fixturesTurned", fn := fun _ => fun
  | [d1, d2, d3, d4] => { results := [.lit (.bool true)], args := [d1, d2, d3, d4] }
  | _ => none }
def fixturesTurnedRow : OpenClaim := { program := "ytpmkebejfnflfaa", sum := "704023e45eff0e802ca0687a4f6389b365fa5cde85fd39efc22b9d2218908492", func := "assize/assizelaw30.FixturesTurned", spec := "fixturesTurned", unfollowed := true, recurses := true, plainKeys := false, apart := false }
def FixturesTurnedSaid : Prop := fixturesTurnedRow.holds Try.pinned (OpenSpec.ofChange fixturesTurnedSpec)

/-- ITS FALSE NEIGHBOUR: 'it returns false'. Refute it at one input. -/
def fixturesTurnedWrong : ChangeSpec := { name := "fixturesTurned", fn := fun _ => fun
  | [d1, d2, d3, d4] => { results := [.lit (.bool false)], args := [d1, d2, d3, d4] }
  | _ => none }
def FixturesTurnedWrongFalsely : Prop := fixturesTurnedRow.holds Try.pinned (OpenSpec.ofChange fixturesTurnedWrong)

/- THE SECOND FORM. 'bulk': how many values and letters a reading holds, each counted each time it is reached (what is shared counts as often as it is met; a slice's spare places count too). A statement '..UptoSaid' is the law's where the arguments, and the package variables that the reading takes, are together of bulk at most 1048576: NARROWER than '..Said'. Prove '..Said' where nothing that the law and all that it calls make is longer than what came in: it says more and counts as full. Else prove '..UptoSaid'. A law counts once. -/
mutual
def uptoBulk {H : Type} : DataW H → Nat
  | .lit (.string bytes) => bytes.length + 1
  | .lit _ => 1
  | .nil => 1
  | .ptr d => uptoBulk d + 1
  | .slice elems spare => uptoBulkAll elems + uptoBulkAll spare + 1
  | .agg parts => uptoBulkAll parts + 1
  | .iface _ d => uptoBulk d + 1
  | .map entries => uptoBulkEntries entries + 1
  | .held _ => 1
def uptoBulkAll {H : Type} : List (DataW H) → Nat
  | [] => 0
  | d :: r => uptoBulk d + uptoBulkAll r
def uptoBulkEntries {H : Type} : List (Lit × DataW H) → Nat
  | [] => 0
  | x :: r => uptoBulkEntry x + uptoBulkEntries r
def uptoBulkEntry {H : Type} : Lit × DataW H → Nat
  | (.string bytes, d) => bytes.length + uptoBulk d + 1
  | (_, d) => uptoBulk d + 1
 end
def uptoSmall : (H : Type) → List (DataW H) → Bool := fun _ ds => decide (uptoBulkAll ds ≤ 1048576)
def OpenSpec.upto (s : _root_.Go.ChangeSpec) : _root_.Go.OpenSpec := { _root_.Go.OpenSpec.ofChange s with cond := some uptoSmall }

/-- 'assizelaw30.FixturesCircleSpec', WHERE WHAT IT READS IS OF BULK AT MOST 1048576: true; the input reads as it did. -/
def fixturesCircleSpecUptoRow : OpenClaim := { program := "ytpmkebejfnflfaa", sum := "704023e45eff0e802ca0687a4f6389b365fa5cde85fd39efc22b9d2218908492", func := "assize/assizelaw30.FixturesCircleSpec", spec := "fixturesCircleSpec", unfollowed := true, recurses := true, plainKeys := false, apart := false, narrowed := true }
def FixturesCircleSpecUptoSaid : Prop := fixturesCircleSpecUptoRow.holds Try.pinned (OpenSpec.upto fixturesCircleSpecSpec)

/-- 'assizelaw30.FixturesCheckSpec', WHERE WHAT IT READS IS OF BULK AT MOST 1048576: true; the input reads as it did. -/
def fixturesCheckSpecUptoRow : OpenClaim := { program := "ytpmkebejfnflfaa", sum := "704023e45eff0e802ca0687a4f6389b365fa5cde85fd39efc22b9d2218908492", func := "assize/assizelaw30.FixturesCheckSpec", spec := "fixturesCheckSpec", unfollowed := true, recurses := true, plainKeys := false, apart := false, narrowed := true }
def FixturesCheckSpecUptoSaid : Prop := fixturesCheckSpecUptoRow.holds Try.pinned (OpenSpec.upto fixturesCheckSpecSpec)

/-- 'assizelaw30.FixturesDatesSpec', WHERE WHAT IT READS IS OF BULK AT MOST 1048576: true; the input reads as it did. -/
def fixturesDatesSpecUptoRow : OpenClaim := { program := "ytpmkebejfnflfaa", sum := "704023e45eff0e802ca0687a4f6389b365fa5cde85fd39efc22b9d2218908492", func := "assize/assizelaw30.FixturesDatesSpec", spec := "fixturesDatesSpec", unfollowed := true, recurses := true, plainKeys := false, apart := false, narrowed := true }
def FixturesDatesSpecUptoSaid : Prop := fixturesDatesSpecUptoRow.holds Try.pinned (OpenSpec.upto fixturesDatesSpecSpec)

/-- 'assizelaw30.FixturesFull', WHERE WHAT IT READS IS OF BULK AT MOST 1048576: true; the input reads as it did. -/
def fixturesFullUptoRow : OpenClaim := { program := "ytpmkebejfnflfaa", sum := "704023e45eff0e802ca0687a4f6389b365fa5cde85fd39efc22b9d2218908492", func := "assize/assizelaw30.FixturesFull", spec := "fixturesFull", unfollowed := true, recurses := true, plainKeys := false, apart := false, narrowed := true }
def FixturesFullUptoSaid : Prop := fixturesFullUptoRow.holds Try.pinned (OpenSpec.upto fixturesFullSpec)

/-- 'assizelaw30.FixturesLess', WHERE WHAT IT READS IS OF BULK AT MOST 1048576: true; the input reads as it did. -/
def fixturesLessUptoRow : OpenClaim := { program := "ytpmkebejfnflfaa", sum := "704023e45eff0e802ca0687a4f6389b365fa5cde85fd39efc22b9d2218908492", func := "assize/assizelaw30.FixturesLess", spec := "fixturesLess", unfollowed := true, recurses := true, plainKeys := false, apart := false, narrowed := true }
def FixturesLessUptoSaid : Prop := fixturesLessUptoRow.holds Try.pinned (OpenSpec.upto fixturesLessSpec)

/-- 'assizelaw30.FixturesDays', WHERE WHAT IT READS IS OF BULK AT MOST 1048576: true; the input reads as it did. -/
def fixturesDaysUptoRow : OpenClaim := { program := "ytpmkebejfnflfaa", sum := "704023e45eff0e802ca0687a4f6389b365fa5cde85fd39efc22b9d2218908492", func := "assize/assizelaw30.FixturesDays", spec := "fixturesDays", unfollowed := true, recurses := true, plainKeys := false, apart := false, narrowed := true }
def FixturesDaysUptoSaid : Prop := fixturesDaysUptoRow.holds Try.pinned (OpenSpec.upto fixturesDaysSpec)

/-- 'assizelaw30.FixturesTurned', WHERE WHAT IT READS IS OF BULK AT MOST 1048576: true; the input reads as it did. -/
def fixturesTurnedUptoRow : OpenClaim := { program := "ytpmkebejfnflfaa", sum := "704023e45eff0e802ca0687a4f6389b365fa5cde85fd39efc22b9d2218908492", func := "assize/assizelaw30.FixturesTurned", spec := "fixturesTurned", unfollowed := true, recurses := true, plainKeys := false, apart := false, narrowed := true }
def FixturesTurnedUptoSaid : Prop := fixturesTurnedUptoRow.holds Try.pinned (OpenSpec.upto fixturesTurnedSpec)

end Rows
end Go.Proofs.Ytpmkebejfnflfaa
