/-
  No cell of these rows narrows 'for every input' (looked for: loops, veiled, ifaces, maps, wideKeys, modest, calm, conditions, laid).
  DERIVED. THE GIVEN ROWS OF THIS SEAT. 7 by the template 'for every input the law returns true; each argument reads behind the call as it read before'; 0 by the template 'total and deterministic' (their statements: YtbccdjaeopfalaaTotals.lean).
  GIVEN WITH THE SEED: the statements are not yours to turn. If you find one false, say at which input.
  Laid BY PROGRAM, IN A SANDBOX (cutbox-rows.mjs): the forced cells as the released guide's own fill.sh prints them over the translation a61da4894f22b6ac… (all of the seat's roots in one cut). By AI agents, Wed Nov 11 2026. No macro, syntax, notation, axiom, sorry.
-/
import Derived.Test.YtbccdjaeopfalaaChecked
import GoSem.Claim
import GoSem.ClaimJoined
import GoSem.ClaimMapViews
import Derived.JoinedTies
import Derived.KernelRfl
namespace Go.Proofs.Ytbccdjaeopfalaa
/- THE CELL 'sum', in the pinned program and in every row, IS THE sha256 OF THE DUMP (.gsa) THAT YtbccdjaeopfalaaProg.lean LOADS. Nothing in Lean hashes anything: it is a label: what it is worth is what the hold of that sum in a sandbox is worth. -/
noncomputable def Try.pinned : Pinned := { name := "ytbccdjaeopfalaa", sum := "a61da4894f22b6ac26e40f81f3cb24ef5b7b698109f8613c2fcbb4f08c5e933c", checked := Try.checked }
namespace Rows
def none {H : Type} : Left H := { results := [], args := [] }

/-- 'assizelaw22.LotsRankSpec': WHATEVER THE INPUT: true; the input reads as it did. -/
def lotsRankSpecSpec : ChangeSpec := { name := "lotsRankSpec", fn := fun _ => fun
  | [d1, d2, d3] => { results := [.lit (.bool true)], args := [d1, d2, d3] }
  | _ => none }
def lotsRankSpecRow : OpenClaim := { program := "ytbccdjaeopfalaa", sum := "a61da4894f22b6ac26e40f81f3cb24ef5b7b698109f8613c2fcbb4f08c5e933c", func := "assize/assizelaw22.LotsRankSpec", spec := "lotsRankSpec", unfollowed := true, recurses := true, apart := false }
def LotsRankSpecSaid : Prop := lotsRankSpecRow.holds Try.pinned (OpenSpec.ofChange lotsRankSpecSpec)

/-- ITS FALSE NEIGHBOUR: 'it returns false'. Refute it at one input. -/
def lotsRankSpecWrong : ChangeSpec := { name := "lotsRankSpec", fn := fun _ => fun
  | [d1, d2, d3] => { results := [.lit (.bool false)], args := [d1, d2, d3] }
  | _ => none }
def LotsRankSpecWrongFalsely : Prop := lotsRankSpecRow.holds Try.pinned (OpenSpec.ofChange lotsRankSpecWrong)

/-- 'assizelaw22.LotsOrderSpec': WHATEVER THE INPUT: true; the input reads as it did. -/
def lotsOrderSpecSpec : ChangeSpec := { name := "lotsOrderSpec", fn := fun _ => fun
  | [d1, d2, d3, d4] => { results := [.lit (.bool true)], args := [d1, d2, d3, d4] }
  | _ => none }
def lotsOrderSpecRow : OpenClaim := { program := "ytbccdjaeopfalaa", sum := "a61da4894f22b6ac26e40f81f3cb24ef5b7b698109f8613c2fcbb4f08c5e933c", func := "assize/assizelaw22.LotsOrderSpec", spec := "lotsOrderSpec", unfollowed := true, recurses := true, apart := false }
def LotsOrderSpecSaid : Prop := lotsOrderSpecRow.holds Try.pinned (OpenSpec.ofChange lotsOrderSpecSpec)

/-- ITS FALSE NEIGHBOUR: 'it returns false'. Refute it at one input. -/
def lotsOrderSpecWrong : ChangeSpec := { name := "lotsOrderSpec", fn := fun _ => fun
  | [d1, d2, d3, d4] => { results := [.lit (.bool false)], args := [d1, d2, d3, d4] }
  | _ => none }
def LotsOrderSpecWrongFalsely : Prop := lotsOrderSpecRow.holds Try.pinned (OpenSpec.ofChange lotsOrderSpecWrong)

/-- 'assizelaw22.LotsInverse': WHATEVER THE INPUT: true; the input reads as it did. -/
def lotsInverseSpec : ChangeSpec := { name := "lotsInverse", fn := fun _ => fun
  | [d1, d2, d3] => { results := [.lit (.bool true)], args := [d1, d2, d3] }
  | _ => none }
def lotsInverseRow : OpenClaim := { program := "ytbccdjaeopfalaa", sum := "a61da4894f22b6ac26e40f81f3cb24ef5b7b698109f8613c2fcbb4f08c5e933c", func := "assize/assizelaw22.LotsInverse", spec := "lotsInverse", unfollowed := true, recurses := true, apart := false }
def LotsInverseSaid : Prop := lotsInverseRow.holds Try.pinned (OpenSpec.ofChange lotsInverseSpec)

/-- ITS FALSE NEIGHBOUR: 'it returns false'. Refute it at one input. -/
def lotsInverseWrong : ChangeSpec := { name := "lotsInverse", fn := fun _ => fun
  | [d1, d2, d3] => { results := [.lit (.bool false)], args := [d1, d2, d3] }
  | _ => none }
def LotsInverseWrongFalsely : Prop := lotsInverseRow.holds Try.pinned (OpenSpec.ofChange lotsInverseWrong)

/-- 'assizelaw22.LotsIncreases': WHATEVER THE INPUT: true; the input reads as it did. -/
def lotsIncreasesSpec : ChangeSpec := { name := "lotsIncreases", fn := fun _ => fun
  | [d1, d2, d3] => { results := [.lit (.bool true)], args := [d1, d2, d3] }
  | _ => none }
def lotsIncreasesRow : OpenClaim := { program := "ytbccdjaeopfalaa", sum := "a61da4894f22b6ac26e40f81f3cb24ef5b7b698109f8613c2fcbb4f08c5e933c", func := "assize/assizelaw22.LotsIncreases", spec := "lotsIncreases", unfollowed := true, recurses := true, apart := false }
def LotsIncreasesSaid : Prop := lotsIncreasesRow.holds Try.pinned (OpenSpec.ofChange lotsIncreasesSpec)

/-- ITS FALSE NEIGHBOUR: 'it returns false'. Refute it at one input. -/
def lotsIncreasesWrong : ChangeSpec := { name := "lotsIncreases", fn := fun _ => fun
  | [d1, d2, d3] => { results := [.lit (.bool false)], args := [d1, d2, d3] }
  | _ => none }
def LotsIncreasesWrongFalsely : Prop := lotsIncreasesRow.holds Try.pinned (OpenSpec.ofChange lotsIncreasesWrong)

/-- 'assizelaw22.LotsFair': WHATEVER THE INPUT: true; the input reads as it did. -/
def lotsFairSpec : ChangeSpec := { name := "lotsFair", fn := fun _ => fun
  | [d] => { results := [.lit (.bool true)], args := [d] }
  | _ => none }
def lotsFairRow : OpenClaim := { program := "ytbccdjaeopfalaa", sum := "a61da4894f22b6ac26e40f81f3cb24ef5b7b698109f8613c2fcbb4f08c5e933c", func := "assize/assizelaw22.LotsFair", spec := "lotsFair", unfollowed := true, recurses := true, apart := false }
def LotsFairSaid : Prop := lotsFairRow.holds Try.pinned (OpenSpec.ofChange lotsFairSpec)

/-- ITS FALSE NEIGHBOUR: 'it returns false'. Refute it at one input. -/
def lotsFairWrong : ChangeSpec := { name := "lotsFair", fn := fun _ => fun
  | [d] => { results := [.lit (.bool false)], args := [d] }
  | _ => none }
def LotsFairWrongFalsely : Prop := lotsFairRow.holds Try.pinned (OpenSpec.ofChange lotsFairWrong)

/-- 'assizelaw22.LotsCompose': WHATEVER THE INPUT: true; the input reads as it did. -/
def lotsComposeSpec : ChangeSpec := { name := "lotsCompose", fn := fun _ => fun
  | [d1, d2, d3, d4] => { results := [.lit (.bool true)], args := [d1, d2, d3, d4] }
  | _ => none }
def lotsComposeRow : OpenClaim := { program := "ytbccdjaeopfalaa", sum := "a61da4894f22b6ac26e40f81f3cb24ef5b7b698109f8613c2fcbb4f08c5e933c", func := "assize/assizelaw22.LotsCompose", spec := "lotsCompose", unfollowed := true, recurses := true, apart := false }
def LotsComposeSaid : Prop := lotsComposeRow.holds Try.pinned (OpenSpec.ofChange lotsComposeSpec)

/-- ITS FALSE NEIGHBOUR: 'it returns false'. Refute it at one input. -/
def lotsComposeWrong : ChangeSpec := { name := "lotsCompose", fn := fun _ => fun
  | [d1, d2, d3, d4] => { results := [.lit (.bool false)], args := [d1, d2, d3, d4] }
  | _ => none }
def LotsComposeWrongFalsely : Prop := lotsComposeRow.holds Try.pinned (OpenSpec.ofChange lotsComposeWrong)

/-- 'assizelaw22.LotsOrder': WHATEVER THE INPUT: true; the input reads as it did. -/
def lotsOrderSpec : ChangeSpec := { name := "lotsOrder", fn := fun _ => fun
  | [d1, d2] => { results := [.lit (.bool true)], args := [d1, d2] }
  | _ => none }
def lotsOrderRow : OpenClaim := { program := "ytbccdjaeopfalaa", sum := "a61da4894f22b6ac26e40f81f3cb24ef5b7b698109f8613c2fcbb4f08c5e933c", func := "assize/assizelaw22.LotsOrder", spec := "lotsOrder", unfollowed := true, recurses := true, apart := false }
def LotsOrderSaid : Prop := lotsOrderRow.holds Try.pinned (OpenSpec.ofChange lotsOrderSpec)

/-- ITS FALSE NEIGHBOUR: 'it returns false'. Refute it at one input. -/
def lotsOrderWrong : ChangeSpec := { name := "lotsOrder", fn := fun _ => fun
  | [d1, d2] => { results := [.lit (.bool false)], args := [d1, d2] }
  | _ => none }
def LotsOrderWrongFalsely : Prop := lotsOrderRow.holds Try.pinned (OpenSpec.ofChange lotsOrderWrong)

/- THE SECOND FORM. 'bulk': how many values and letters a reading holds, each counted each time it is reached (what is shared counts as often as it is met; a slice's spare places count too). A statement '..UptoSaid' is the law's where the arguments, and the package variables that the reading takes, are together of bulk at most 1048576: NARROWER than '..Said'. Prove '..Said' where nothing that the law and all that it calls make is longer than what came in: it says more and counts as full. Else prove '..UptoSaid'. A law counts once. -/
mutual
def uptoBulk {H : Type} : DataW H → Nat
  | .lit (.string bytes) => bytes.length + 1
  | .lit _ => 1
  | .nil => 1
  | .ptr d => uptoBulk d + 1
  | .slice elems spare => uptoBulkAll elems + uptoBulkAll spare + 1
  | .agg parts => uptoBulkAll parts + 1
  | .iface _ d => uptoBulk d + 1
  | .map entries => uptoBulkEntries entries + 1
  | .held _ => 1
def uptoBulkAll {H : Type} : List (DataW H) → Nat
  | [] => 0
  | d :: r => uptoBulk d + uptoBulkAll r
def uptoBulkEntries {H : Type} : List (Lit × DataW H) → Nat
  | [] => 0
  | x :: r => uptoBulkEntry x + uptoBulkEntries r
def uptoBulkEntry {H : Type} : Lit × DataW H → Nat
  | (.string bytes, d) => bytes.length + uptoBulk d + 1
  | (_, d) => uptoBulk d + 1
 end
def uptoSmall : (H : Type) → List (DataW H) → Bool := fun _ ds => decide (uptoBulkAll ds ≤ 1048576)
def OpenSpec.upto (s : _root_.Go.ChangeSpec) : _root_.Go.OpenSpec := { _root_.Go.OpenSpec.ofChange s with cond := some uptoSmall }

/-- 'assizelaw22.LotsRankSpec', WHERE WHAT IT READS IS OF BULK AT MOST 1048576: true; the input reads as it did. -/
def lotsRankSpecUptoRow : OpenClaim := { program := "ytbccdjaeopfalaa", sum := "a61da4894f22b6ac26e40f81f3cb24ef5b7b698109f8613c2fcbb4f08c5e933c", func := "assize/assizelaw22.LotsRankSpec", spec := "lotsRankSpec", unfollowed := true, recurses := true, apart := false, narrowed := true }
def LotsRankSpecUptoSaid : Prop := lotsRankSpecUptoRow.holds Try.pinned (OpenSpec.upto lotsRankSpecSpec)

/-- 'assizelaw22.LotsOrderSpec', WHERE WHAT IT READS IS OF BULK AT MOST 1048576: true; the input reads as it did. -/
def lotsOrderSpecUptoRow : OpenClaim := { program := "ytbccdjaeopfalaa", sum := "a61da4894f22b6ac26e40f81f3cb24ef5b7b698109f8613c2fcbb4f08c5e933c", func := "assize/assizelaw22.LotsOrderSpec", spec := "lotsOrderSpec", unfollowed := true, recurses := true, apart := false, narrowed := true }
def LotsOrderSpecUptoSaid : Prop := lotsOrderSpecUptoRow.holds Try.pinned (OpenSpec.upto lotsOrderSpecSpec)

/-- 'assizelaw22.LotsInverse', WHERE WHAT IT READS IS OF BULK AT MOST 1048576: true; the input reads as it did. -/
def lotsInverseUptoRow : OpenClaim := { program := "ytbccdjaeopfalaa", sum := "a61da4894f22b6ac26e40f81f3cb24ef5b7b698109f8613c2fcbb4f08c5e933c", func := "assize/assizelaw22.LotsInverse", spec := "lotsInverse", unfollowed := true, recurses := true, apart := false, narrowed := true }
def LotsInverseUptoSaid : Prop := lotsInverseUptoRow.holds Try.pinned (OpenSpec.upto lotsInverseSpec)

/-- 'assizelaw22.LotsIncreases', WHERE WHAT IT READS IS OF BULK AT MOST 1048576: true; the input reads as it did. -/
def lotsIncreasesUptoRow : OpenClaim := { program := "ytbccdjaeopfalaa", sum := "a61da4894f22b6ac26e40f81f3cb24ef5b7b698109f8613c2fcbb4f08c5e933c", func := "assize/assizelaw22.LotsIncreases", spec := "lotsIncreases", unfollowed := true, recurses := true, apart := false, narrowed := true }
def LotsIncreasesUptoSaid : Prop := lotsIncreasesUptoRow.holds Try.pinned (OpenSpec.upto lotsIncreasesSpec)

/-- 'assizelaw22.LotsFair', WHERE WHAT IT READS IS OF BULK AT MOST 1048576: true; the input reads as it did. -/
def lotsFairUptoRow : OpenClaim := { program := "ytbccdjaeopfalaa", sum := "a61da4894f22b6ac26e40f81f3cb24ef5b7b698109f8613c2fcbb4f08c5e933c", func := "assize/assizelaw22.LotsFair", spec := "lotsFair", unfollowed := true, recurses := true, apart := false, narrowed := true }
def LotsFairUptoSaid : Prop := lotsFairUptoRow.holds Try.pinned (OpenSpec.upto lotsFairSpec)

/-- 'assizelaw22.LotsCompose', WHERE WHAT IT READS IS OF BULK AT MOST 1048576: true; the input reads as it did. -/
def lotsComposeUptoRow : OpenClaim := { program := "ytbccdjaeopfalaa", sum := "a61da4894f22b6ac26e40f81f3cb24ef5b7b698109f8613c2fcbb4f08c5e933c", func := "assize/assizelaw22.LotsCompose", spec := "lotsCompose", unfollowed := true, recurses := true, apart := false, narrowed := true }
def LotsComposeUptoSaid : Prop := lotsComposeUptoRow.holds Try.pinned (OpenSpec.upto lotsComposeSpec)

/-- 'assizelaw22.LotsOrder', WHERE WHAT IT READS IS OF BULK AT MOST 1048576: true; the input reads as it did. -/
def lotsOrderUptoRow : OpenClaim := { program := "ytbccdjaeopfalaa", sum := "a61da4894f22b6ac26e40f81f3cb24ef5b7b698109f8613c2fcbb4f08c5e933c", func := "assize/assizelaw22.LotsOrder", spec := "lotsOrder", unfollowed := true, recurses := true, apart := false, narrowed := true }
def LotsOrderUptoSaid : Prop := lotsOrderUptoRow.holds Try.pinned (OpenSpec.upto lotsOrderSpec)

end Rows
end Go.Proofs.Ytbccdjaeopfalaa
