/-
  No cell of these rows narrows 'for every input' (looked for: loops, veiled, ifaces, maps, wideKeys, modest, calm, conditions, laid).
  DERIVED. THE GIVEN ROWS OF THIS SEAT. 4 by the template 'for every input the law returns true; each argument reads behind the call as it read before'; 0 by the template 'total and deterministic' (their statements: YtkflpoiobpblhaaTotals.lean).
  GIVEN WITH THE SEED: the statements are not yours to turn. If you find one false, say at which input.
  Laid BY PROGRAM, IN A SANDBOX (cutbox-rows.mjs): the forced cells as the released guide's own fill.sh prints them over the translation 0f359b75108df88d… (all of the seat's roots in one cut). By AI agents, Wed Nov 11 2026. No macro, syntax, notation, axiom, sorry.
-/
import Derived.Test.YtkflpoiobpblhaaChecked
import GoSem.Claim
import GoSem.ClaimJoined
import GoSem.ClaimMapViews
import Derived.JoinedTies
import Derived.KernelRfl
namespace Go.Proofs.Ytkflpoiobpblhaa
/- THE CELL 'sum', in the pinned program and in every row, IS THE sha256 OF THE DUMP (.gsa) THAT YtkflpoiobpblhaaProg.lean LOADS. Nothing in Lean hashes anything: it is a label: what it is worth is what the hold of that sum in a sandbox is worth. -/
noncomputable def Try.pinned : Pinned := { name := "ytkflpoiobpblhaa", sum := "0f359b75108df88da5e3f7909e4310d77a1f693d402ba8b5521ebf9817fbad90", checked := Try.checked }
namespace Rows
def none {H : Type} : Left H := { results := [], args := [] }

/-- 'assizelaw45.MirrorNumbers': WHATEVER THE INPUT: true; the input reads as it did. -/
def mirrorNumbersSpec : ChangeSpec := { name := "mirrorNumbers", fn := fun _ => fun
  | [d1, d2, d3] => { results := [.lit (.bool true)], args := [d1, d2, d3] }
  | _ => none }
def mirrorNumbersRow : OpenClaim := { program := "ytkflpoiobpblhaa", sum := "0f359b75108df88da5e3f7909e4310d77a1f693d402ba8b5521ebf9817fbad90", func := "assize/assizelaw45.MirrorNumbers", spec := "mirrorNumbers", unfollowed := true, recurses := true, apart := false }
def MirrorNumbersSaid : Prop := mirrorNumbersRow.holds Try.pinned (OpenSpec.ofChange mirrorNumbersSpec)

/-- ITS FALSE NEIGHBOUR: 'it returns false'. Refute it at one input. -/
def mirrorNumbersWrong : ChangeSpec := { name := "mirrorNumbers", fn := fun _ => fun
  | [d1, d2, d3] => { results := [.lit (.bool false)], args := [d1, d2, d3] }
  | _ => none }
def MirrorNumbersWrongFalsely : Prop := mirrorNumbersRow.holds Try.pinned (OpenSpec.ofChange mirrorNumbersWrong)

/-- 'assizelaw45.MirrorStranger': WHATEVER THE INPUT: true; the input reads as it did. -/
def mirrorStrangerSpec : ChangeSpec := { name := "mirrorStranger", fn := fun _ => fun
  | [d1, d2, d3] => { results := [.lit (.bool true)], args := [d1, d2, d3] }
  | _ => none }
def mirrorStrangerRow : OpenClaim := { program := "ytkflpoiobpblhaa", sum := "0f359b75108df88da5e3f7909e4310d77a1f693d402ba8b5521ebf9817fbad90", func := "assize/assizelaw45.MirrorStranger", spec := "mirrorStranger", unfollowed := true, recurses := true, apart := false }
def MirrorStrangerSaid : Prop := mirrorStrangerRow.holds Try.pinned (OpenSpec.ofChange mirrorStrangerSpec)

/-- ITS FALSE NEIGHBOUR: 'it returns false'. Refute it at one input. -/
def mirrorStrangerWrong : ChangeSpec := { name := "mirrorStranger", fn := fun _ => fun
  | [d1, d2, d3] => { results := [.lit (.bool false)], args := [d1, d2, d3] }
  | _ => none }
def MirrorStrangerWrongFalsely : Prop := mirrorStrangerRow.holds Try.pinned (OpenSpec.ofChange mirrorStrangerWrong)

/-- 'assizelaw45.MirrorJoinSpec': WHATEVER THE INPUT: true; the input reads as it did. -/
def mirrorJoinSpecSpec : ChangeSpec := { name := "mirrorJoinSpec", fn := fun _ => fun
  | [d1, d2] => { results := [.lit (.bool true)], args := [d1, d2] }
  | _ => none }
def mirrorJoinSpecRow : OpenClaim := { program := "ytkflpoiobpblhaa", sum := "0f359b75108df88da5e3f7909e4310d77a1f693d402ba8b5521ebf9817fbad90", func := "assize/assizelaw45.MirrorJoinSpec", spec := "mirrorJoinSpec", unfollowed := true, recurses := true, apart := false }
def MirrorJoinSpecSaid : Prop := mirrorJoinSpecRow.holds Try.pinned (OpenSpec.ofChange mirrorJoinSpecSpec)

/-- ITS FALSE NEIGHBOUR: 'it returns false'. Refute it at one input. -/
def mirrorJoinSpecWrong : ChangeSpec := { name := "mirrorJoinSpec", fn := fun _ => fun
  | [d1, d2] => { results := [.lit (.bool false)], args := [d1, d2] }
  | _ => none }
def MirrorJoinSpecWrongFalsely : Prop := mirrorJoinSpecRow.holds Try.pinned (OpenSpec.ofChange mirrorJoinSpecWrong)

/-- 'assizelaw45.MirrorChain': WHATEVER THE INPUT: true; the input reads as it did. -/
def mirrorChainSpec : ChangeSpec := { name := "mirrorChain", fn := fun _ => fun
  | [d1, d2, d3, d4] => { results := [.lit (.bool true)], args := [d1, d2, d3, d4] }
  | _ => none }
def mirrorChainRow : OpenClaim := { program := "ytkflpoiobpblhaa", sum := "0f359b75108df88da5e3f7909e4310d77a1f693d402ba8b5521ebf9817fbad90", func := "assize/assizelaw45.MirrorChain", spec := "mirrorChain", unfollowed := true, recurses := true, apart := false }
def MirrorChainSaid : Prop := mirrorChainRow.holds Try.pinned (OpenSpec.ofChange mirrorChainSpec)

/-- ITS FALSE NEIGHBOUR: 'it returns false'. Refute it at one input. -/
def mirrorChainWrong : ChangeSpec := { name := "mirrorChain", fn := fun _ => fun
  | [d1, d2, d3, d4] => { results := [.lit (.bool false)], args := [d1, d2, d3, d4] }
  | _ => none }
def MirrorChainWrongFalsely : Prop := mirrorChainRow.holds Try.pinned (OpenSpec.ofChange mirrorChainWrong)

/- THE SECOND FORM. 'bulk': how many values and letters a reading holds, each counted each time it is reached (what is shared counts as often as it is met; a slice's spare places count too). A statement '..UptoSaid' is the law's where the arguments, and the package variables that the reading takes, are together of bulk at most 1048576: NARROWER than '..Said'. Prove '..Said' where nothing that the law and all that it calls make is longer than what came in: it says more and counts as full. Else prove '..UptoSaid'. A law counts once. -/
mutual
def uptoBulk {H : Type} : DataW H → Nat
  | .lit (.string bytes) => bytes.length + 1
  | .lit _ => 1
  | .nil => 1
  | .ptr d => uptoBulk d + 1
  | .slice elems spare => uptoBulkAll elems + uptoBulkAll spare + 1
  | .agg parts => uptoBulkAll parts + 1
  | .iface _ d => uptoBulk d + 1
  | .map entries => uptoBulkEntries entries + 1
  | .held _ => 1
def uptoBulkAll {H : Type} : List (DataW H) → Nat
  | [] => 0
  | d :: r => uptoBulk d + uptoBulkAll r
def uptoBulkEntries {H : Type} : List (Lit × DataW H) → Nat
  | [] => 0
  | x :: r => uptoBulkEntry x + uptoBulkEntries r
def uptoBulkEntry {H : Type} : Lit × DataW H → Nat
  | (.string bytes, d) => bytes.length + uptoBulk d + 1
  | (_, d) => uptoBulk d + 1
 end
def uptoSmall : (H : Type) → List (DataW H) → Bool := fun _ ds => decide (uptoBulkAll ds ≤ 1048576)
def OpenSpec.upto (s : _root_.Go.ChangeSpec) : _root_.Go.OpenSpec := { _root_.Go.OpenSpec.ofChange s with cond := some uptoSmall }

/-- 'assizelaw45.MirrorNumbers', WHERE WHAT IT READS IS OF BULK AT MOST 1048576: true; the input reads as it did. -/
def mirrorNumbersUptoRow : OpenClaim := { program := "ytkflpoiobpblhaa", sum := "0f359b75108df88da5e3f7909e4310d77a1f693d402ba8b5521ebf9817fbad90", func := "assize/assizelaw45.MirrorNumbers", spec := "mirrorNumbers", unfollowed := true, recurses := true, apart := false, narrowed := true }
def MirrorNumbersUptoSaid : Prop := mirrorNumbersUptoRow.holds Try.pinned (OpenSpec.upto mirrorNumbersSpec)

/-- 'assizelaw45.MirrorStranger', WHERE WHAT IT READS IS OF BULK AT MOST 1048576: true; the input reads as it did. -/
def mirrorStrangerUptoRow : OpenClaim := { program := "ytkflpoiobpblhaa", sum := "0f359b75108df88da5e3f7909e4310d77a1f693d402ba8b5521ebf9817fbad90", func := "assize/assizelaw45.MirrorStranger", spec := "mirrorStranger", unfollowed := true, recurses := true, apart := false, narrowed := true }
def MirrorStrangerUptoSaid : Prop := mirrorStrangerUptoRow.holds Try.pinned (OpenSpec.upto mirrorStrangerSpec)

/-- 'assizelaw45.MirrorJoinSpec', WHERE WHAT IT READS IS OF BULK AT MOST 1048576: true; the input reads as it did. -/
def mirrorJoinSpecUptoRow : OpenClaim := { program := "ytkflpoiobpblhaa", sum := "0f359b75108df88da5e3f7909e4310d77a1f693d402ba8b5521ebf9817fbad90", func := "assize/assizelaw45.MirrorJoinSpec", spec := "mirrorJoinSpec", unfollowed := true, recurses := true, apart := false, narrowed := true }
def MirrorJoinSpecUptoSaid : Prop := mirrorJoinSpecUptoRow.holds Try.pinned (OpenSpec.upto mirrorJoinSpecSpec)

/-- 'assizelaw45.MirrorChain', WHERE WHAT IT READS IS OF BULK AT MOST 1048576: true; the input reads as it did. -/
def mirrorChainUptoRow : OpenClaim := { program := "ytkflpoiobpblhaa", sum := "0f359b75108df88da5e3f7909e4310d77a1f693d402ba8b5521ebf9817fbad90", func := "assize/assizelaw45.MirrorChain", spec := "mirrorChain", unfollowed := true, recurses := true, apart := false, narrowed := true }
def MirrorChainUptoSaid : Prop := mirrorChainUptoRow.holds Try.pinned (OpenSpec.upto mirrorChainSpec)

end Rows
end Go.Proofs.Ytkflpoiobpblhaa
