/-
  No cell of these rows narrows 'for every input' (looked for: loops, veiled, ifaces, maps, wideKeys, modest, calm, conditions, laid).
  DERIVED. THE GIVEN ROWS OF THIS SEAT. 10 by the template 'for every input the law returns true; each argument reads behind the call as it read before'; 0 by the template 'total and deterministic' (their statements: YtcijhakofoklcaaTotals.lean).
  GIVEN WITH THE SEED: the statements are not yours to turn. If you find one false, say at which input.
  Laid BY PROGRAM, IN A SANDBOX (cutbox-rows.mjs): the forced cells as the released guide's own fill.sh prints them over the translation 8f6de3f8a4b46c14… (all of the seat's roots in one cut). By AI agents, Wed Nov 11 2026. No macro, syntax, notation, axiom, sorry.
-/
import Derived.Test.YtcijhakofoklcaaChecked
import GoSem.Claim
import GoSem.ClaimJoined
import GoSem.ClaimMapViews
import Derived.JoinedTies
import Derived.KernelRfl
namespace Go.Proofs.Ytcijhakofoklcaa
/- THE CELL 'sum', in the pinned program and in every row, IS THE sha256 OF THE DUMP (.gsa) THAT YtcijhakofoklcaaProg.lean LOADS. Nothing in Lean hashes anything: it is a label: what it is worth is what the hold of that sum in a sandbox is worth. -/
noncomputable def Try.pinned : Pinned := { name := "ytcijhakofoklcaa", sum := "8f6de3f8a4b46c143018b615a1571a857e8a031a07fe6dd661cdf0cab61d4c18", checked := Try.checked }
namespace Rows
def none {H : Type} : Left H := { results := [], args := [] }

/-- 'assizelaw04.SigningSignSpec': WHATEVER THE INPUT: true; the input reads as it did. -/
def signingSignSpecSpec : ChangeSpec := { name := "signingSignSpec", fn := fun _ => fun
  | [d1, d2] => { results := [.lit (.bool true)], args := [d1, d2] }
  | _ => none }
def signingSignSpecRow : OpenClaim := { program := "ytcijhakofoklcaa", sum := "8f6de3f8a4b46c143018b615a1571a857e8a031a07fe6dd661cdf0cab61d4c18", func := "assize/assizelaw04.SigningSignSpec", spec := "signingSignSpec", unfollowed := true, recurses := true, apart := false }
def SigningSignSpecSaid : Prop := signingSignSpecRow.holds Try.pinned (OpenSpec.ofChange signingSignSpecSpec)

/-- ITS FALSE NEIGHBOUR: 'it returns false'. Refute it at one input. -/
def signingSignSpecWrong : ChangeSpec := { name := "signingSignSpec", fn := fun _ => fun
  | [d1, d2] => { results := [.lit (.bool false)], args := [d1, d2] }
  | _ => none }
def SigningSignSpecWrongFalsely : Prop := signingSignSpecRow.holds Try.pinned (OpenSpec.ofChange signingSignSpecWrong)

/-- 'assizelaw04.SigningVerifySpec': WHATEVER THE INPUT: true; the input reads as it did. -/
def signingVerifySpecSpec : ChangeSpec := { name := "signingVerifySpec", fn := fun _ => fun
  | [d1, d2, d3, d4] => { results := [.lit (.bool true)], args := [d1, d2, d3, d4] }
  | _ => none }
def signingVerifySpecRow : OpenClaim := { program := "ytcijhakofoklcaa", sum := "8f6de3f8a4b46c143018b615a1571a857e8a031a07fe6dd661cdf0cab61d4c18", func := "assize/assizelaw04.SigningVerifySpec", spec := "signingVerifySpec", unfollowed := true, recurses := true, apart := false }
def SigningVerifySpecSaid : Prop := signingVerifySpecRow.holds Try.pinned (OpenSpec.ofChange signingVerifySpecSpec)

/-- ITS FALSE NEIGHBOUR: 'it returns false'. Refute it at one input. -/
def signingVerifySpecWrong : ChangeSpec := { name := "signingVerifySpec", fn := fun _ => fun
  | [d1, d2, d3, d4] => { results := [.lit (.bool false)], args := [d1, d2, d3, d4] }
  | _ => none }
def SigningVerifySpecWrongFalsely : Prop := signingVerifySpecRow.holds Try.pinned (OpenSpec.ofChange signingVerifySpecWrong)

/-- 'assizelaw04.SigningKeySpec': WHATEVER THE INPUT: true; the input reads as it did. -/
def signingKeySpecSpec : ChangeSpec := { name := "signingKeySpec", fn := fun _ => fun
  | [d1, d2, d3, d4, d5, d6] => { results := [.lit (.bool true)], args := [d1, d2, d3, d4, d5, d6] }
  | _ => none }
def signingKeySpecRow : OpenClaim := { program := "ytcijhakofoklcaa", sum := "8f6de3f8a4b46c143018b615a1571a857e8a031a07fe6dd661cdf0cab61d4c18", func := "assize/assizelaw04.SigningKeySpec", spec := "signingKeySpec", unfollowed := true, recurses := true, apart := false }
def SigningKeySpecSaid : Prop := signingKeySpecRow.holds Try.pinned (OpenSpec.ofChange signingKeySpecSpec)

/-- ITS FALSE NEIGHBOUR: 'it returns false'. Refute it at one input. -/
def signingKeySpecWrong : ChangeSpec := { name := "signingKeySpec", fn := fun _ => fun
  | [d1, d2, d3, d4, d5, d6] => { results := [.lit (.bool false)], args := [d1, d2, d3, d4, d5, d6] }
  | _ => none }
def SigningKeySpecWrongFalsely : Prop := signingKeySpecRow.holds Try.pinned (OpenSpec.ofChange signingKeySpecWrong)

/-- 'assizelaw04.SigningVerifies': WHATEVER THE INPUT: true; the input reads as it did. -/
def signingVerifiesSpec : ChangeSpec := { name := "signingVerifies", fn := fun _ => fun
  | [d1, d2] => { results := [.lit (.bool true)], args := [d1, d2] }
  | _ => none }
def signingVerifiesRow : OpenClaim := { program := "ytcijhakofoklcaa", sum := "8f6de3f8a4b46c143018b615a1571a857e8a031a07fe6dd661cdf0cab61d4c18", func := "assize/assizelaw04.SigningVerifies", spec := "signingVerifies", unfollowed := true, recurses := true, apart := false }
def SigningVerifiesSaid : Prop := signingVerifiesRow.holds Try.pinned (OpenSpec.ofChange signingVerifiesSpec)

/-- ITS FALSE NEIGHBOUR: 'it returns false'. Refute it at one input. -/
def signingVerifiesWrong : ChangeSpec := { name := "signingVerifies", fn := fun _ => fun
  | [d1, d2] => { results := [.lit (.bool false)], args := [d1, d2] }
  | _ => none }
def SigningVerifiesWrongFalsely : Prop := signingVerifiesRow.holds Try.pinned (OpenSpec.ofChange signingVerifiesWrong)

/-- 'assizelaw04.SigningOrder': WHATEVER THE INPUT: true; the input reads as it did. -/
def signingOrderSpec : ChangeSpec := { name := "signingOrder", fn := fun _ => fun
  | [d1, d2, d3] => { results := [.lit (.bool true)], args := [d1, d2, d3] }
  | _ => none }
def signingOrderRow : OpenClaim := { program := "ytcijhakofoklcaa", sum := "8f6de3f8a4b46c143018b615a1571a857e8a031a07fe6dd661cdf0cab61d4c18", func := "assize/assizelaw04.SigningOrder", spec := "signingOrder", unfollowed := true, recurses := true, apart := false }
def SigningOrderSaid : Prop := signingOrderRow.holds Try.pinned (OpenSpec.ofChange signingOrderSpec)

/-- ITS FALSE NEIGHBOUR: 'it returns false'. Refute it at one input. -/
def signingOrderWrong : ChangeSpec := { name := "signingOrder", fn := fun _ => fun
  | [d1, d2, d3] => { results := [.lit (.bool false)], args := [d1, d2, d3] }
  | _ => none }
def SigningOrderWrongFalsely : Prop := signingOrderRow.holds Try.pinned (OpenSpec.ofChange signingOrderWrong)

/-- 'assizelaw04.SigningOpens': WHATEVER THE INPUT: true; the input reads as it did. -/
def signingOpensSpec : ChangeSpec := { name := "signingOpens", fn := fun _ => fun
  | [d1, d2, d3] => { results := [.lit (.bool true)], args := [d1, d2, d3] }
  | _ => none }
def signingOpensRow : OpenClaim := { program := "ytcijhakofoklcaa", sum := "8f6de3f8a4b46c143018b615a1571a857e8a031a07fe6dd661cdf0cab61d4c18", func := "assize/assizelaw04.SigningOpens", spec := "signingOpens", unfollowed := true, recurses := true, apart := false }
def SigningOpensSaid : Prop := signingOpensRow.holds Try.pinned (OpenSpec.ofChange signingOpensSpec)

/-- ITS FALSE NEIGHBOUR: 'it returns false'. Refute it at one input. -/
def signingOpensWrong : ChangeSpec := { name := "signingOpens", fn := fun _ => fun
  | [d1, d2, d3] => { results := [.lit (.bool false)], args := [d1, d2, d3] }
  | _ => none }
def SigningOpensWrongFalsely : Prop := signingOpensRow.holds Try.pinned (OpenSpec.ofChange signingOpensWrong)

/-- 'assizelaw04.SigningBits': WHATEVER THE INPUT: true; the input reads as it did. -/
def signingBitsSpec : ChangeSpec := { name := "signingBits", fn := fun _ => fun
  | [d1, d2, d3] => { results := [.lit (.bool true)], args := [d1, d2, d3] }
  | _ => none }
def signingBitsRow : OpenClaim := { program := "ytcijhakofoklcaa", sum := "8f6de3f8a4b46c143018b615a1571a857e8a031a07fe6dd661cdf0cab61d4c18", func := "assize/assizelaw04.SigningBits", spec := "signingBits", unfollowed := true, recurses := true, apart := false }
def SigningBitsSaid : Prop := signingBitsRow.holds Try.pinned (OpenSpec.ofChange signingBitsSpec)

/-- ITS FALSE NEIGHBOUR: 'it returns false'. Refute it at one input. -/
def signingBitsWrong : ChangeSpec := { name := "signingBits", fn := fun _ => fun
  | [d1, d2, d3] => { results := [.lit (.bool false)], args := [d1, d2, d3] }
  | _ => none }
def SigningBitsWrongFalsely : Prop := signingBitsRow.holds Try.pinned (OpenSpec.ofChange signingBitsWrong)

/-- 'assizelaw04.SigningShape': WHATEVER THE INPUT: true; the input reads as it did. -/
def signingShapeSpec : ChangeSpec := { name := "signingShape", fn := fun _ => fun
  | [d1, d2, d3, d4] => { results := [.lit (.bool true)], args := [d1, d2, d3, d4] }
  | _ => none }
def signingShapeRow : OpenClaim := { program := "ytcijhakofoklcaa", sum := "8f6de3f8a4b46c143018b615a1571a857e8a031a07fe6dd661cdf0cab61d4c18", func := "assize/assizelaw04.SigningShape", spec := "signingShape", unfollowed := true, recurses := true, apart := false }
def SigningShapeSaid : Prop := signingShapeRow.holds Try.pinned (OpenSpec.ofChange signingShapeSpec)

/-- ITS FALSE NEIGHBOUR: 'it returns false'. Refute it at one input. -/
def signingShapeWrong : ChangeSpec := { name := "signingShape", fn := fun _ => fun
  | [d1, d2, d3, d4] => { results := [.lit (.bool false)], args := [d1, d2, d3, d4] }
  | _ => none }
def SigningShapeWrongFalsely : Prop := signingShapeRow.holds Try.pinned (OpenSpec.ofChange signingShapeWrong)

/-- 'assizelaw03.DigestGrowSpec': WHATEVER THE INPUT: true; the input reads as it did. -/
def digestGrowSpecSpec : ChangeSpec := { name := "digestGrowSpec", fn := fun _ => fun
  | [d1, d2, d3, d4] => { results := [.lit (.bool true)], args := [d1, d2, d3, d4] }
  | _ => none }
def digestGrowSpecRow : OpenClaim := { program := "ytcijhakofoklcaa", sum := "8f6de3f8a4b46c143018b615a1571a857e8a031a07fe6dd661cdf0cab61d4c18", func := "assize/assizelaw03.DigestGrowSpec", spec := "digestGrowSpec", unfollowed := true, recurses := true, apart := false }
def DigestGrowSpecSaid : Prop := digestGrowSpecRow.holds Try.pinned (OpenSpec.ofChange digestGrowSpecSpec)

/-- ITS FALSE NEIGHBOUR: 'it returns false'. Refute it at one input. -/
def digestGrowSpecWrong : ChangeSpec := { name := "digestGrowSpec", fn := fun _ => fun
  | [d1, d2, d3, d4] => { results := [.lit (.bool false)], args := [d1, d2, d3, d4] }
  | _ => none }
def DigestGrowSpecWrongFalsely : Prop := digestGrowSpecRow.holds Try.pinned (OpenSpec.ofChange digestGrowSpecWrong)

/-- 'assizelaw03.DigestGrows': WHATEVER THE INPUT: true; the input reads as it did. -/
def digestGrowsSpec : ChangeSpec := { name := "digestGrows", fn := fun _ => fun
  | [d] => { results := [.lit (.bool true)], args := [d] }
  | _ => none }
def digestGrowsRow : OpenClaim := { program := "ytcijhakofoklcaa", sum := "8f6de3f8a4b46c143018b615a1571a857e8a031a07fe6dd661cdf0cab61d4c18", func := "assize/assizelaw03.DigestGrows", spec := "digestGrows", unfollowed := true, recurses := true, apart := false }
def DigestGrowsSaid : Prop := digestGrowsRow.holds Try.pinned (OpenSpec.ofChange digestGrowsSpec)

/-- ITS FALSE NEIGHBOUR: 'it returns false'. Refute it at one input. -/
def digestGrowsWrong : ChangeSpec := { name := "digestGrows", fn := fun _ => fun
  | [d] => { results := [.lit (.bool false)], args := [d] }
  | _ => none }
def DigestGrowsWrongFalsely : Prop := digestGrowsRow.holds Try.pinned (OpenSpec.ofChange digestGrowsWrong)

/- THE SECOND FORM. 'bulk': how many values and letters a reading holds, each counted each time it is reached (what is shared counts as often as it is met; a slice's spare places count too). A statement '..UptoSaid' is the law's where the arguments, and the package variables that the reading takes, are together of bulk at most 1048576: NARROWER than '..Said'. Prove '..Said' where nothing that the law and all that it calls make is longer than what came in: it says more and counts as full. Else prove '..UptoSaid'. A law counts once. -/
mutual
def uptoBulk {H : Type} : DataW H → Nat
  | .lit (.string bytes) => bytes.length + 1
  | .lit _ => 1
  | .nil => 1
  | .ptr d => uptoBulk d + 1
  | .slice elems spare => uptoBulkAll elems + uptoBulkAll spare + 1
  | .agg parts => uptoBulkAll parts + 1
  | .iface _ d => uptoBulk d + 1
  | .map entries => uptoBulkEntries entries + 1
  | .held _ => 1
def uptoBulkAll {H : Type} : List (DataW H) → Nat
  | [] => 0
  | d :: r => uptoBulk d + uptoBulkAll r
def uptoBulkEntries {H : Type} : List (Lit × DataW H) → Nat
  | [] => 0
  | x :: r => uptoBulkEntry x + uptoBulkEntries r
def uptoBulkEntry {H : Type} : Lit × DataW H → Nat
  | (.string bytes, d) => bytes.length + uptoBulk d + 1
  | (_, d) => uptoBulk d + 1
 end
def uptoSmall : (H : Type) → List (DataW H) → Bool := fun _ ds => decide (uptoBulkAll ds ≤ 1048576)
def OpenSpec.upto (s : _root_.Go.ChangeSpec) : _root_.Go.OpenSpec := { _root_.Go.OpenSpec.ofChange s with cond := some uptoSmall }

/-- 'assizelaw04.SigningSignSpec', WHERE WHAT IT READS IS OF BULK AT MOST 1048576: true; the input reads as it did. -/
def signingSignSpecUptoRow : OpenClaim := { program := "ytcijhakofoklcaa", sum := "8f6de3f8a4b46c143018b615a1571a857e8a031a07fe6dd661cdf0cab61d4c18", func := "assize/assizelaw04.SigningSignSpec", spec := "signingSignSpec", unfollowed := true, recurses := true, apart := false, narrowed := true }
def SigningSignSpecUptoSaid : Prop := signingSignSpecUptoRow.holds Try.pinned (OpenSpec.upto signingSignSpecSpec)

/-- 'assizelaw04.SigningVerifySpec', WHERE WHAT IT READS IS OF BULK AT MOST 1048576: true; the input reads as it did. -/
def signingVerifySpecUptoRow : OpenClaim := { program := "ytcijhakofoklcaa", sum := "8f6de3f8a4b46c143018b615a1571a857e8a031a07fe6dd661cdf0cab61d4c18", func := "assize/assizelaw04.SigningVerifySpec", spec := "signingVerifySpec", unfollowed := true, recurses := true, apart := false, narrowed := true }
def SigningVerifySpecUptoSaid : Prop := signingVerifySpecUptoRow.holds Try.pinned (OpenSpec.upto signingVerifySpecSpec)

/-- 'assizelaw04.SigningKeySpec', WHERE WHAT IT READS IS OF BULK AT MOST 1048576: true; the input reads as it did. -/
def signingKeySpecUptoRow : OpenClaim := { program := "ytcijhakofoklcaa", sum := "8f6de3f8a4b46c143018b615a1571a857e8a031a07fe6dd661cdf0cab61d4c18", func := "assize/assizelaw04.SigningKeySpec", spec := "signingKeySpec", unfollowed := true, recurses := true, apart := false, narrowed := true }
def SigningKeySpecUptoSaid : Prop := signingKeySpecUptoRow.holds Try.pinned (OpenSpec.upto signingKeySpecSpec)

/-- 'assizelaw04.SigningVerifies', WHERE WHAT IT READS IS OF BULK AT MOST 1048576: true; the input reads as it did. -/
def signingVerifiesUptoRow : OpenClaim := { program := "ytcijhakofoklcaa", sum := "8f6de3f8a4b46c143018b615a1571a857e8a031a07fe6dd661cdf0cab61d4c18", func := "assize/assizelaw04.SigningVerifies", spec := "signingVerifies", unfollowed := true, recurses := true, apart := false, narrowed := true }
def SigningVerifiesUptoSaid : Prop := signingVerifiesUptoRow.holds Try.pinned (OpenSpec.upto signingVerifiesSpec)

/-- 'assizelaw04.SigningOrder', WHERE WHAT IT READS IS OF BULK AT MOST 1048576: true; the input reads as it did. -/
def signingOrderUptoRow : OpenClaim := { program := "ytcijhakofoklcaa", sum := "8f6de3f8a4b46c143018b615a1571a857e8a031a07fe6dd661cdf0cab61d4c18", func := "assize/assizelaw04.SigningOrder", spec := "signingOrder", unfollowed := true, recurses := true, apart := false, narrowed := true }
def SigningOrderUptoSaid : Prop := signingOrderUptoRow.holds Try.pinned (OpenSpec.upto signingOrderSpec)

/-- 'assizelaw04.SigningOpens', WHERE WHAT IT READS IS OF BULK AT MOST 1048576: true; the input reads as it did. -/
def signingOpensUptoRow : OpenClaim := { program := "ytcijhakofoklcaa", sum := "8f6de3f8a4b46c143018b615a1571a857e8a031a07fe6dd661cdf0cab61d4c18", func := "assize/assizelaw04.SigningOpens", spec := "signingOpens", unfollowed := true, recurses := true, apart := false, narrowed := true }
def SigningOpensUptoSaid : Prop := signingOpensUptoRow.holds Try.pinned (OpenSpec.upto signingOpensSpec)

/-- 'assizelaw04.SigningBits', WHERE WHAT IT READS IS OF BULK AT MOST 1048576: true; the input reads as it did. -/
def signingBitsUptoRow : OpenClaim := { program := "ytcijhakofoklcaa", sum := "8f6de3f8a4b46c143018b615a1571a857e8a031a07fe6dd661cdf0cab61d4c18", func := "assize/assizelaw04.SigningBits", spec := "signingBits", unfollowed := true, recurses := true, apart := false, narrowed := true }
def SigningBitsUptoSaid : Prop := signingBitsUptoRow.holds Try.pinned (OpenSpec.upto signingBitsSpec)

/-- 'assizelaw04.SigningShape', WHERE WHAT IT READS IS OF BULK AT MOST 1048576: true; the input reads as it did. -/
def signingShapeUptoRow : OpenClaim := { program := "ytcijhakofoklcaa", sum := "8f6de3f8a4b46c143018b615a1571a857e8a031a07fe6dd661cdf0cab61d4c18", func := "assize/assizelaw04.SigningShape", spec := "signingShape", unfollowed := true, recurses := true, apart := false, narrowed := true }
def SigningShapeUptoSaid : Prop := signingShapeUptoRow.holds Try.pinned (OpenSpec.upto signingShapeSpec)

/-- 'assizelaw03.DigestGrowSpec', WHERE WHAT IT READS IS OF BULK AT MOST 1048576: true; the input reads as it did. -/
def digestGrowSpecUptoRow : OpenClaim := { program := "ytcijhakofoklcaa", sum := "8f6de3f8a4b46c143018b615a1571a857e8a031a07fe6dd661cdf0cab61d4c18", func := "assize/assizelaw03.DigestGrowSpec", spec := "digestGrowSpec", unfollowed := true, recurses := true, apart := false, narrowed := true }
def DigestGrowSpecUptoSaid : Prop := digestGrowSpecUptoRow.holds Try.pinned (OpenSpec.upto digestGrowSpecSpec)

/-- 'assizelaw03.DigestGrows', WHERE WHAT IT READS IS OF BULK AT MOST 1048576: true; the input reads as it did. -/
def digestGrowsUptoRow : OpenClaim := { program := "ytcijhakofoklcaa", sum := "8f6de3f8a4b46c143018b615a1571a857e8a031a07fe6dd661cdf0cab61d4c18", func := "assize/assizelaw03.DigestGrows", spec := "digestGrows", unfollowed := true, recurses := true, apart := false, narrowed := true }
def DigestGrowsUptoSaid : Prop := digestGrowsUptoRow.holds Try.pinned (OpenSpec.upto digestGrowsSpec)

end Rows
end Go.Proofs.Ytcijhakofoklcaa
