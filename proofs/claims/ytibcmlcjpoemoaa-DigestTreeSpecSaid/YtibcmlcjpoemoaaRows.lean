/-
  No cell of these rows narrows 'for every input' (looked for: loops, veiled, ifaces, maps, wideKeys, modest, calm, conditions, laid).
  DERIVED. THE GIVEN ROWS OF THIS SEAT. 7 by the template 'for every input the law returns true; each argument reads behind the call as it read before'; 0 by the template 'total and deterministic' (their statements: YtibcmlcjpoemoaaTotals.lean).
  GIVEN WITH THE SEED: the statements are not yours to turn. If you find one false, say at which input.
  Laid BY PROGRAM, IN A SANDBOX (cutbox-rows.mjs): the forced cells as the released guide's own fill.sh prints them over the translation 20fcda8a8c121b54… (all of the seat's roots in one cut). By AI agents, Wed Nov 11 2026. No macro, syntax, notation, axiom, sorry.
-/
import Derived.Test.YtibcmlcjpoemoaaChecked
import GoSem.Claim
import GoSem.ClaimJoined
import GoSem.ClaimMapViews
import Derived.JoinedTies
import Derived.KernelRfl
namespace Go.Proofs.Ytibcmlcjpoemoaa
/- THE CELL 'sum', in the pinned program and in every row, IS THE sha256 OF THE DUMP (.gsa) THAT YtibcmlcjpoemoaaProg.lean LOADS. Nothing in Lean hashes anything: it is a label: what it is worth is what the hold of that sum in a sandbox is worth. -/
noncomputable def Try.pinned : Pinned := { name := "ytibcmlcjpoemoaa", sum := "20fcda8a8c121b54a20aac2c67b46a27f6ab789589395cbe513f436c86844475", checked := Try.checked }
namespace Rows
def none {H : Type} : Left H := { results := [], args := [] }

/-- 'assizelaw03.DigestSumSpec': WHATEVER THE INPUT: true; the input reads as it did. -/
def digestSumSpecSpec : ChangeSpec := { name := "digestSumSpec", fn := fun _ => fun
  | [d1, d2, d3] => { results := [.lit (.bool true)], args := [d1, d2, d3] }
  | _ => none }
def digestSumSpecRow : OpenClaim := { program := "ytibcmlcjpoemoaa", sum := "20fcda8a8c121b54a20aac2c67b46a27f6ab789589395cbe513f436c86844475", func := "assize/assizelaw03.DigestSumSpec", spec := "digestSumSpec", unfollowed := true, recurses := true, apart := false }
def DigestSumSpecSaid : Prop := digestSumSpecRow.holds Try.pinned (OpenSpec.ofChange digestSumSpecSpec)

/-- ITS FALSE NEIGHBOUR: 'it returns false'. Refute it at one input. -/
def digestSumSpecWrong : ChangeSpec := { name := "digestSumSpec", fn := fun _ => fun
  | [d1, d2, d3] => { results := [.lit (.bool false)], args := [d1, d2, d3] }
  | _ => none }
def DigestSumSpecWrongFalsely : Prop := digestSumSpecRow.holds Try.pinned (OpenSpec.ofChange digestSumSpecWrong)

/-- 'assizelaw03.DigestTreeSpec': WHATEVER THE INPUT: true; the input reads as it did. -/
def digestTreeSpecSpec : ChangeSpec := { name := "digestTreeSpec", fn := fun _ => fun
  | [d1, d2, d3, d4] => { results := [.lit (.bool true)], args := [d1, d2, d3, d4] }
  | _ => none }
def digestTreeSpecRow : OpenClaim := { program := "ytibcmlcjpoemoaa", sum := "20fcda8a8c121b54a20aac2c67b46a27f6ab789589395cbe513f436c86844475", func := "assize/assizelaw03.DigestTreeSpec", spec := "digestTreeSpec", unfollowed := true, recurses := true, apart := false }
def DigestTreeSpecSaid : Prop := digestTreeSpecRow.holds Try.pinned (OpenSpec.ofChange digestTreeSpecSpec)

/-- ITS FALSE NEIGHBOUR: 'it returns false'. Refute it at one input. -/
def digestTreeSpecWrong : ChangeSpec := { name := "digestTreeSpec", fn := fun _ => fun
  | [d1, d2, d3, d4] => { results := [.lit (.bool false)], args := [d1, d2, d3, d4] }
  | _ => none }
def DigestTreeSpecWrongFalsely : Prop := digestTreeSpecRow.holds Try.pinned (OpenSpec.ofChange digestTreeSpecWrong)

/-- 'assizelaw03.DigestGrowSpec': WHATEVER THE INPUT: true; the input reads as it did. -/
def digestGrowSpecSpec : ChangeSpec := { name := "digestGrowSpec", fn := fun _ => fun
  | [d1, d2, d3, d4] => { results := [.lit (.bool true)], args := [d1, d2, d3, d4] }
  | _ => none }
def digestGrowSpecRow : OpenClaim := { program := "ytibcmlcjpoemoaa", sum := "20fcda8a8c121b54a20aac2c67b46a27f6ab789589395cbe513f436c86844475", func := "assize/assizelaw03.DigestGrowSpec", spec := "digestGrowSpec", unfollowed := true, recurses := true, apart := false }
def DigestGrowSpecSaid : Prop := digestGrowSpecRow.holds Try.pinned (OpenSpec.ofChange digestGrowSpecSpec)

/-- ITS FALSE NEIGHBOUR: 'it returns false'. Refute it at one input. -/
def digestGrowSpecWrong : ChangeSpec := { name := "digestGrowSpec", fn := fun _ => fun
  | [d1, d2, d3, d4] => { results := [.lit (.bool false)], args := [d1, d2, d3, d4] }
  | _ => none }
def DigestGrowSpecWrongFalsely : Prop := digestGrowSpecRow.holds Try.pinned (OpenSpec.ofChange digestGrowSpecWrong)

/-- 'assizelaw03.DigestTags': WHATEVER THE INPUT: true; the input reads as it did. -/
def digestTagsSpec : ChangeSpec := { name := "digestTags", fn := fun _ => fun
  | [d1, d2] => { results := [.lit (.bool true)], args := [d1, d2] }
  | _ => none }
def digestTagsRow : OpenClaim := { program := "ytibcmlcjpoemoaa", sum := "20fcda8a8c121b54a20aac2c67b46a27f6ab789589395cbe513f436c86844475", func := "assize/assizelaw03.DigestTags", spec := "digestTags", unfollowed := true, recurses := true, apart := false }
def DigestTagsSaid : Prop := digestTagsRow.holds Try.pinned (OpenSpec.ofChange digestTagsSpec)

/-- ITS FALSE NEIGHBOUR: 'it returns false'. Refute it at one input. -/
def digestTagsWrong : ChangeSpec := { name := "digestTags", fn := fun _ => fun
  | [d1, d2] => { results := [.lit (.bool false)], args := [d1, d2] }
  | _ => none }
def DigestTagsWrongFalsely : Prop := digestTagsRow.holds Try.pinned (OpenSpec.ofChange digestTagsWrong)

/-- 'assizelaw03.DigestClimbs': WHATEVER THE INPUT: true; the input reads as it did. -/
def digestClimbsSpec : ChangeSpec := { name := "digestClimbs", fn := fun _ => fun
  | [d] => { results := [.lit (.bool true)], args := [d] }
  | _ => none }
def digestClimbsRow : OpenClaim := { program := "ytibcmlcjpoemoaa", sum := "20fcda8a8c121b54a20aac2c67b46a27f6ab789589395cbe513f436c86844475", func := "assize/assizelaw03.DigestClimbs", spec := "digestClimbs", unfollowed := true, recurses := true, apart := false }
def DigestClimbsSaid : Prop := digestClimbsRow.holds Try.pinned (OpenSpec.ofChange digestClimbsSpec)

/-- ITS FALSE NEIGHBOUR: 'it returns false'. Refute it at one input. -/
def digestClimbsWrong : ChangeSpec := { name := "digestClimbs", fn := fun _ => fun
  | [d] => { results := [.lit (.bool false)], args := [d] }
  | _ => none }
def DigestClimbsWrongFalsely : Prop := digestClimbsRow.holds Try.pinned (OpenSpec.ofChange digestClimbsWrong)

/-- 'assizelaw03.DigestGrows': WHATEVER THE INPUT: true; the input reads as it did. -/
def digestGrowsSpec : ChangeSpec := { name := "digestGrows", fn := fun _ => fun
  | [d] => { results := [.lit (.bool true)], args := [d] }
  | _ => none }
def digestGrowsRow : OpenClaim := { program := "ytibcmlcjpoemoaa", sum := "20fcda8a8c121b54a20aac2c67b46a27f6ab789589395cbe513f436c86844475", func := "assize/assizelaw03.DigestGrows", spec := "digestGrows", unfollowed := true, recurses := true, apart := false }
def DigestGrowsSaid : Prop := digestGrowsRow.holds Try.pinned (OpenSpec.ofChange digestGrowsSpec)

/-- ITS FALSE NEIGHBOUR: 'it returns false'. Refute it at one input. -/
def digestGrowsWrong : ChangeSpec := { name := "digestGrows", fn := fun _ => fun
  | [d] => { results := [.lit (.bool false)], args := [d] }
  | _ => none }
def DigestGrowsWrongFalsely : Prop := digestGrowsRow.holds Try.pinned (OpenSpec.ofChange digestGrowsWrong)

/-- 'assizelaw03.DigestHalves': WHATEVER THE INPUT: true; the input reads as it did. -/
def digestHalvesSpec : ChangeSpec := { name := "digestHalves", fn := fun _ => fun
  | [d] => { results := [.lit (.bool true)], args := [d] }
  | _ => none }
def digestHalvesRow : OpenClaim := { program := "ytibcmlcjpoemoaa", sum := "20fcda8a8c121b54a20aac2c67b46a27f6ab789589395cbe513f436c86844475", func := "assize/assizelaw03.DigestHalves", spec := "digestHalves", unfollowed := true, recurses := true, apart := false }
def DigestHalvesSaid : Prop := digestHalvesRow.holds Try.pinned (OpenSpec.ofChange digestHalvesSpec)

/-- ITS FALSE NEIGHBOUR: 'it returns false'. Refute it at one input. -/
def digestHalvesWrong : ChangeSpec := { name := "digestHalves", fn := fun _ => fun
  | [d] => { results := [.lit (.bool false)], args := [d] }
  | _ => none }
def DigestHalvesWrongFalsely : Prop := digestHalvesRow.holds Try.pinned (OpenSpec.ofChange digestHalvesWrong)

/- THE SECOND FORM. 'bulk': how many values and letters a reading holds, each counted each time it is reached (what is shared counts as often as it is met; a slice's spare places count too). A statement '..UptoSaid' is the law's where the arguments, and the package variables that the reading takes, are together of bulk at most 1048576: NARROWER than '..Said'. Prove '..Said' where nothing that the law and all that it calls make is longer than what came in: it says more and counts as full. Else prove '..UptoSaid'. A law counts once. -/
mutual
def uptoBulk {H : Type} : DataW H → Nat
  | .lit (.string bytes) => bytes.length + 1
  | .lit _ => 1
  | .nil => 1
  | .ptr d => uptoBulk d + 1
  | .slice elems spare => uptoBulkAll elems + uptoBulkAll spare + 1
  | .agg parts => uptoBulkAll parts + 1
  | .iface _ d => uptoBulk d + 1
  | .map entries => uptoBulkEntries entries + 1
  | .held _ => 1
def uptoBulkAll {H : Type} : List (DataW H) → Nat
  | [] => 0
  | d :: r => uptoBulk d + uptoBulkAll r
def uptoBulkEntries {H : Type} : List (Lit × DataW H) → Nat
  | [] => 0
  | x :: r => uptoBulkEntry x + uptoBulkEntries r
def uptoBulkEntry {H : Type} : Lit × DataW H → Nat
  | (.string bytes, d) => bytes.length + uptoBulk d + 1
  | (_, d) => uptoBulk d + 1
 end
def uptoSmall : (H : Type) → List (DataW H) → Bool := fun _ ds => decide (uptoBulkAll ds ≤ 1048576)
def OpenSpec.upto (s : _root_.Go.ChangeSpec) : _root_.Go.OpenSpec := { _root_.Go.OpenSpec.ofChange s with cond := some uptoSmall }

/-- 'assizelaw03.DigestSumSpec', WHERE WHAT IT READS IS OF BULK AT MOST 1048576: true; the input reads as it did. -/
def digestSumSpecUptoRow : OpenClaim := { program := "ytibcmlcjpoemoaa", sum := "20fcda8a8c121b54a20aac2c67b46a27f6ab789589395cbe513f436c86844475", func := "assize/assizelaw03.DigestSumSpec", spec := "digestSumSpec", unfollowed := true, recurses := true, apart := false, narrowed := true }
def DigestSumSpecUptoSaid : Prop := digestSumSpecUptoRow.holds Try.pinned (OpenSpec.upto digestSumSpecSpec)

/-- 'assizelaw03.DigestTreeSpec', WHERE WHAT IT READS IS OF BULK AT MOST 1048576: true; the input reads as it did. -/
def digestTreeSpecUptoRow : OpenClaim := { program := "ytibcmlcjpoemoaa", sum := "20fcda8a8c121b54a20aac2c67b46a27f6ab789589395cbe513f436c86844475", func := "assize/assizelaw03.DigestTreeSpec", spec := "digestTreeSpec", unfollowed := true, recurses := true, apart := false, narrowed := true }
def DigestTreeSpecUptoSaid : Prop := digestTreeSpecUptoRow.holds Try.pinned (OpenSpec.upto digestTreeSpecSpec)

/-- 'assizelaw03.DigestGrowSpec', WHERE WHAT IT READS IS OF BULK AT MOST 1048576: true; the input reads as it did. -/
def digestGrowSpecUptoRow : OpenClaim := { program := "ytibcmlcjpoemoaa", sum := "20fcda8a8c121b54a20aac2c67b46a27f6ab789589395cbe513f436c86844475", func := "assize/assizelaw03.DigestGrowSpec", spec := "digestGrowSpec", unfollowed := true, recurses := true, apart := false, narrowed := true }
def DigestGrowSpecUptoSaid : Prop := digestGrowSpecUptoRow.holds Try.pinned (OpenSpec.upto digestGrowSpecSpec)

/-- 'assizelaw03.DigestTags', WHERE WHAT IT READS IS OF BULK AT MOST 1048576: true; the input reads as it did. -/
def digestTagsUptoRow : OpenClaim := { program := "ytibcmlcjpoemoaa", sum := "20fcda8a8c121b54a20aac2c67b46a27f6ab789589395cbe513f436c86844475", func := "assize/assizelaw03.DigestTags", spec := "digestTags", unfollowed := true, recurses := true, apart := false, narrowed := true }
def DigestTagsUptoSaid : Prop := digestTagsUptoRow.holds Try.pinned (OpenSpec.upto digestTagsSpec)

/-- 'assizelaw03.DigestClimbs', WHERE WHAT IT READS IS OF BULK AT MOST 1048576: true; the input reads as it did. -/
def digestClimbsUptoRow : OpenClaim := { program := "ytibcmlcjpoemoaa", sum := "20fcda8a8c121b54a20aac2c67b46a27f6ab789589395cbe513f436c86844475", func := "assize/assizelaw03.DigestClimbs", spec := "digestClimbs", unfollowed := true, recurses := true, apart := false, narrowed := true }
def DigestClimbsUptoSaid : Prop := digestClimbsUptoRow.holds Try.pinned (OpenSpec.upto digestClimbsSpec)

/-- 'assizelaw03.DigestGrows', WHERE WHAT IT READS IS OF BULK AT MOST 1048576: true; the input reads as it did. -/
def digestGrowsUptoRow : OpenClaim := { program := "ytibcmlcjpoemoaa", sum := "20fcda8a8c121b54a20aac2c67b46a27f6ab789589395cbe513f436c86844475", func := "assize/assizelaw03.DigestGrows", spec := "digestGrows", unfollowed := true, recurses := true, apart := false, narrowed := true }
def DigestGrowsUptoSaid : Prop := digestGrowsUptoRow.holds Try.pinned (OpenSpec.upto digestGrowsSpec)

/-- 'assizelaw03.DigestHalves', WHERE WHAT IT READS IS OF BULK AT MOST 1048576: true; the input reads as it did. -/
def digestHalvesUptoRow : OpenClaim := { program := "ytibcmlcjpoemoaa", sum := "20fcda8a8c121b54a20aac2c67b46a27f6ab789589395cbe513f436c86844475", func := "assize/assizelaw03.DigestHalves", spec := "digestHalves", unfollowed := true, recurses := true, apart := false, narrowed := true }
def DigestHalvesUptoSaid : Prop := digestHalvesUptoRow.holds Try.pinned (OpenSpec.upto digestHalvesSpec)

end Rows
end Go.Proofs.Ytibcmlcjpoemoaa
