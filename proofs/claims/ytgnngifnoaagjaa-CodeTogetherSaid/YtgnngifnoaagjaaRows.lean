/-
  No cell of these rows narrows 'for every input' (looked for: loops, veiled, ifaces, maps, wideKeys, modest, calm, conditions, laid).
  DERIVED. THE GIVEN ROWS OF THIS SEAT. 9 by the template 'for every input the law returns true; each argument reads behind the call as it read before'; 0 by the template 'total and deterministic' (their statements: YtgnngifnoaagjaaTotals.lean).
  GIVEN WITH THE SEED: the statements are not yours to turn. If you find one false, say at which input.
  Laid BY PROGRAM, IN A SANDBOX (cutbox-rows.mjs): the forced cells as the released guide's own fill.sh prints them over the translation 4de33ab5e370d000… (all of the seat's roots in one cut). By AI agents, Wed Nov 11 2026. No macro, syntax, notation, axiom, sorry.
-/
import Derived.Test.YtgnngifnoaagjaaChecked
import GoSem.Claim
import GoSem.ClaimJoined
import GoSem.ClaimMapViews
import Derived.JoinedTies
import Derived.KernelRfl
namespace Go.Proofs.Ytgnngifnoaagjaa
/- THE CELL 'sum', in the pinned program and in every row, IS THE sha256 OF THE DUMP (.gsa) THAT YtgnngifnoaagjaaProg.lean LOADS. Nothing in Lean hashes anything: it is a label: what it is worth is what the hold of that sum in a sandbox is worth. -/
noncomputable def Try.pinned : Pinned := { name := "ytgnngifnoaagjaa", sum := "4de33ab5e370d0007176f4d5bc0dca4ba4584160ad6cbe86c972bdb8b93bc153", checked := Try.checked }
namespace Rows
def none {H : Type} : Left H := { results := [], args := [] }

/-- 'moidorelaw06.CodeEncode': WHATEVER THE INPUT: true; the input reads as it did. -/
def codeEncodeSpec : ChangeSpec := { name := "codeEncode", fn := fun _ => fun
  | [d1, d2] => { results := [.lit (.bool true)], args := [d1, d2] }
  | _ => none }
def codeEncodeRow : OpenClaim := { program := "ytgnngifnoaagjaa", sum := "4de33ab5e370d0007176f4d5bc0dca4ba4584160ad6cbe86c972bdb8b93bc153", func := "moidore/moidorelaw06.CodeEncode", spec := "codeEncode", inPlace := ["math/bits.Add64"], recurses := true, named := ["math/bits.divideError", "math/bits.overflowError"], apart := false }
def CodeEncodeSaid : Prop := codeEncodeRow.holds Try.pinned (OpenSpec.ofChange codeEncodeSpec)

/-- ITS FALSE NEIGHBOUR: 'it returns false'. Refute it at one input. -/
def codeEncodeWrong : ChangeSpec := { name := "codeEncode", fn := fun _ => fun
  | [d1, d2] => { results := [.lit (.bool false)], args := [d1, d2] }
  | _ => none }
def CodeEncodeWrongFalsely : Prop := codeEncodeRow.holds Try.pinned (OpenSpec.ofChange codeEncodeWrong)

/-- 'moidorelaw06.CodeDistance': WHATEVER THE INPUT: true; the input reads as it did. -/
def codeDistanceSpec : ChangeSpec := { name := "codeDistance", fn := fun _ => fun
  | [d1, d2, d3] => { results := [.lit (.bool true)], args := [d1, d2, d3] }
  | _ => none }
def codeDistanceRow : OpenClaim := { program := "ytgnngifnoaagjaa", sum := "4de33ab5e370d0007176f4d5bc0dca4ba4584160ad6cbe86c972bdb8b93bc153", func := "moidore/moidorelaw06.CodeDistance", spec := "codeDistance", inPlace := ["math/bits.Add64"], recurses := true, named := ["math/bits.divideError", "math/bits.overflowError"], apart := false }
def CodeDistanceSaid : Prop := codeDistanceRow.holds Try.pinned (OpenSpec.ofChange codeDistanceSpec)

/-- ITS FALSE NEIGHBOUR: 'it returns false'. Refute it at one input. -/
def codeDistanceWrong : ChangeSpec := { name := "codeDistance", fn := fun _ => fun
  | [d1, d2, d3] => { results := [.lit (.bool false)], args := [d1, d2, d3] }
  | _ => none }
def CodeDistanceWrongFalsely : Prop := codeDistanceRow.holds Try.pinned (OpenSpec.ofChange codeDistanceWrong)

/-- 'moidorelaw06.CodeNearest': WHATEVER THE INPUT: true; the input reads as it did. -/
def codeNearestSpec : ChangeSpec := { name := "codeNearest", fn := fun _ => fun
  | [d] => { results := [.lit (.bool true)], args := [d] }
  | _ => none }
def codeNearestRow : OpenClaim := { program := "ytgnngifnoaagjaa", sum := "4de33ab5e370d0007176f4d5bc0dca4ba4584160ad6cbe86c972bdb8b93bc153", func := "moidore/moidorelaw06.CodeNearest", spec := "codeNearest", inPlace := ["math/bits.Add64"], recurses := true, named := ["math/bits.divideError", "math/bits.overflowError"], apart := false }
def CodeNearestSaid : Prop := codeNearestRow.holds Try.pinned (OpenSpec.ofChange codeNearestSpec)

/-- ITS FALSE NEIGHBOUR: 'it returns false'. Refute it at one input. -/
def codeNearestWrong : ChangeSpec := { name := "codeNearest", fn := fun _ => fun
  | [d] => { results := [.lit (.bool false)], args := [d] }
  | _ => none }
def CodeNearestWrongFalsely : Prop := codeNearestRow.holds Try.pinned (OpenSpec.ofChange codeNearestWrong)

/-- 'moidorelaw06.CodeDecodes': WHATEVER THE INPUT: true; the input reads as it did. -/
def codeDecodesSpec : ChangeSpec := { name := "codeDecodes", fn := fun _ => fun
  | [d1, d2] => { results := [.lit (.bool true)], args := [d1, d2] }
  | _ => none }
def codeDecodesRow : OpenClaim := { program := "ytgnngifnoaagjaa", sum := "4de33ab5e370d0007176f4d5bc0dca4ba4584160ad6cbe86c972bdb8b93bc153", func := "moidore/moidorelaw06.CodeDecodes", spec := "codeDecodes", inPlace := ["math/bits.Add64"], recurses := true, named := ["math/bits.divideError", "math/bits.overflowError"], apart := false }
def CodeDecodesSaid : Prop := codeDecodesRow.holds Try.pinned (OpenSpec.ofChange codeDecodesSpec)

/-- ITS FALSE NEIGHBOUR: 'it returns false'. Refute it at one input. -/
def codeDecodesWrong : ChangeSpec := { name := "codeDecodes", fn := fun _ => fun
  | [d1, d2] => { results := [.lit (.bool false)], args := [d1, d2] }
  | _ => none }
def CodeDecodesWrongFalsely : Prop := codeDecodesRow.holds Try.pinned (OpenSpec.ofChange codeDecodesWrong)

/-- 'moidorelaw06.CodeSeparated': WHATEVER THE INPUT: true; the input reads as it did. -/
def codeSeparatedSpec : ChangeSpec := { name := "codeSeparated", fn := fun _ => fun
  | [d] => { results := [.lit (.bool true)], args := [d] }
  | _ => none }
def codeSeparatedRow : OpenClaim := { program := "ytgnngifnoaagjaa", sum := "4de33ab5e370d0007176f4d5bc0dca4ba4584160ad6cbe86c972bdb8b93bc153", func := "moidore/moidorelaw06.CodeSeparated", spec := "codeSeparated", inPlace := ["math/bits.Add64"], recurses := true, named := ["math/bits.divideError", "math/bits.overflowError"], apart := false }
def CodeSeparatedSaid : Prop := codeSeparatedRow.holds Try.pinned (OpenSpec.ofChange codeSeparatedSpec)

/-- ITS FALSE NEIGHBOUR: 'it returns false'. Refute it at one input. -/
def codeSeparatedWrong : ChangeSpec := { name := "codeSeparated", fn := fun _ => fun
  | [d] => { results := [.lit (.bool false)], args := [d] }
  | _ => none }
def CodeSeparatedWrongFalsely : Prop := codeSeparatedRow.holds Try.pinned (OpenSpec.ofChange codeSeparatedWrong)

/-- 'moidorelaw06.CodeContains': WHATEVER THE INPUT: true; the input reads as it did. -/
def codeContainsSpec : ChangeSpec := { name := "codeContains", fn := fun _ => fun
  | [d1, d2] => { results := [.lit (.bool true)], args := [d1, d2] }
  | _ => none }
def codeContainsRow : OpenClaim := { program := "ytgnngifnoaagjaa", sum := "4de33ab5e370d0007176f4d5bc0dca4ba4584160ad6cbe86c972bdb8b93bc153", func := "moidore/moidorelaw06.CodeContains", spec := "codeContains", inPlace := ["math/bits.Add64"], recurses := true, named := ["math/bits.divideError", "math/bits.overflowError"], apart := false }
def CodeContainsSaid : Prop := codeContainsRow.holds Try.pinned (OpenSpec.ofChange codeContainsSpec)

/-- ITS FALSE NEIGHBOUR: 'it returns false'. Refute it at one input. -/
def codeContainsWrong : ChangeSpec := { name := "codeContains", fn := fun _ => fun
  | [d1, d2] => { results := [.lit (.bool false)], args := [d1, d2] }
  | _ => none }
def CodeContainsWrongFalsely : Prop := codeContainsRow.holds Try.pinned (OpenSpec.ofChange codeContainsWrong)

/-- 'moidorelaw06.CodeFold': WHATEVER THE INPUT: true; the input reads as it did. -/
def codeFoldSpec : ChangeSpec := { name := "codeFold", fn := fun _ => fun
  | [d1, d2, d3] => { results := [.lit (.bool true)], args := [d1, d2, d3] }
  | _ => none }
def codeFoldRow : OpenClaim := { program := "ytgnngifnoaagjaa", sum := "4de33ab5e370d0007176f4d5bc0dca4ba4584160ad6cbe86c972bdb8b93bc153", func := "moidore/moidorelaw06.CodeFold", spec := "codeFold", inPlace := ["math/bits.Add64"], recurses := true, named := ["math/bits.divideError", "math/bits.overflowError"], apart := false }
def CodeFoldSaid : Prop := codeFoldRow.holds Try.pinned (OpenSpec.ofChange codeFoldSpec)

/-- ITS FALSE NEIGHBOUR: 'it returns false'. Refute it at one input. -/
def codeFoldWrong : ChangeSpec := { name := "codeFold", fn := fun _ => fun
  | [d1, d2, d3] => { results := [.lit (.bool false)], args := [d1, d2, d3] }
  | _ => none }
def CodeFoldWrongFalsely : Prop := codeFoldRow.holds Try.pinned (OpenSpec.ofChange codeFoldWrong)

/-- 'moidorelaw06.CodeClose': WHATEVER THE INPUT: true; the input reads as it did. -/
def codeCloseSpec : ChangeSpec := { name := "codeClose", fn := fun _ => fun
  | [d] => { results := [.lit (.bool true)], args := [d] }
  | _ => none }
def codeCloseRow : OpenClaim := { program := "ytgnngifnoaagjaa", sum := "4de33ab5e370d0007176f4d5bc0dca4ba4584160ad6cbe86c972bdb8b93bc153", func := "moidore/moidorelaw06.CodeClose", spec := "codeClose", inPlace := ["math/bits.Add64"], recurses := true, named := ["math/bits.divideError", "math/bits.overflowError"], apart := false }
def CodeCloseSaid : Prop := codeCloseRow.holds Try.pinned (OpenSpec.ofChange codeCloseSpec)

/-- ITS FALSE NEIGHBOUR: 'it returns false'. Refute it at one input. -/
def codeCloseWrong : ChangeSpec := { name := "codeClose", fn := fun _ => fun
  | [d] => { results := [.lit (.bool false)], args := [d] }
  | _ => none }
def CodeCloseWrongFalsely : Prop := codeCloseRow.holds Try.pinned (OpenSpec.ofChange codeCloseWrong)

/-- 'moidorelaw06.CodeTogether': WHATEVER THE INPUT: true; the input reads as it did. -/
def codeTogetherSpec : ChangeSpec := { name := "codeTogether", fn := fun _ => fun
  | [d1, d2, d3] => { results := [.lit (.bool true)], args := [d1, d2, d3] }
  | _ => none }
def codeTogetherRow : OpenClaim := { program := "ytgnngifnoaagjaa", sum := "4de33ab5e370d0007176f4d5bc0dca4ba4584160ad6cbe86c972bdb8b93bc153", func := "moidore/moidorelaw06.CodeTogether", spec := "codeTogether", inPlace := ["math/bits.Add64"], recurses := true, named := ["math/bits.divideError", "math/bits.overflowError"], apart := false }
def CodeTogetherSaid : Prop := codeTogetherRow.holds Try.pinned (OpenSpec.ofChange codeTogetherSpec)

/-- ITS FALSE NEIGHBOUR: 'it returns false'. Refute it at one input. -/
def codeTogetherWrong : ChangeSpec := { name := "codeTogether", fn := fun _ => fun
  | [d1, d2, d3] => { results := [.lit (.bool false)], args := [d1, d2, d3] }
  | _ => none }
def CodeTogetherWrongFalsely : Prop := codeTogetherRow.holds Try.pinned (OpenSpec.ofChange codeTogetherWrong)

/- THE SECOND FORM. 'bulk': how many values and letters a reading holds, each counted each time it is reached (what is shared counts as often as it is met; a slice's spare places count too). A statement '..UptoSaid' is the law's where the arguments, and the package variables that the reading takes, are together of bulk at most 1048576: NARROWER than '..Said'. Prove '..Said' where nothing that the law and all that it calls make is longer than what came in: it says more and counts as full. Else prove '..UptoSaid'. A law counts once. -/
mutual
def uptoBulk {H : Type} : DataW H → Nat
  | .lit (.string bytes) => bytes.length + 1
  | .lit _ => 1
  | .nil => 1
  | .ptr d => uptoBulk d + 1
  | .slice elems spare => uptoBulkAll elems + uptoBulkAll spare + 1
  | .agg parts => uptoBulkAll parts + 1
  | .iface _ d => uptoBulk d + 1
  | .map entries => uptoBulkEntries entries + 1
  | .held _ => 1
def uptoBulkAll {H : Type} : List (DataW H) → Nat
  | [] => 0
  | d :: r => uptoBulk d + uptoBulkAll r
def uptoBulkEntries {H : Type} : List (Lit × DataW H) → Nat
  | [] => 0
  | x :: r => uptoBulkEntry x + uptoBulkEntries r
def uptoBulkEntry {H : Type} : Lit × DataW H → Nat
  | (.string bytes, d) => bytes.length + uptoBulk d + 1
  | (_, d) => uptoBulk d + 1
 end
def uptoSmall : (H : Type) → List (DataW H) → Bool := fun _ ds => decide (uptoBulkAll ds ≤ 1048576)
def OpenSpec.upto (s : _root_.Go.ChangeSpec) : _root_.Go.OpenSpec := { _root_.Go.OpenSpec.ofChange s with cond := some uptoSmall }

/-- 'moidorelaw06.CodeEncode', WHERE WHAT IT READS IS OF BULK AT MOST 1048576: true; the input reads as it did. -/
def codeEncodeUptoRow : OpenClaim := { program := "ytgnngifnoaagjaa", sum := "4de33ab5e370d0007176f4d5bc0dca4ba4584160ad6cbe86c972bdb8b93bc153", func := "moidore/moidorelaw06.CodeEncode", spec := "codeEncode", inPlace := ["math/bits.Add64"], recurses := true, named := ["math/bits.divideError", "math/bits.overflowError"], apart := false, narrowed := true }
def CodeEncodeUptoSaid : Prop := codeEncodeUptoRow.holds Try.pinned (OpenSpec.upto codeEncodeSpec)

/-- 'moidorelaw06.CodeDistance', WHERE WHAT IT READS IS OF BULK AT MOST 1048576: true; the input reads as it did. -/
def codeDistanceUptoRow : OpenClaim := { program := "ytgnngifnoaagjaa", sum := "4de33ab5e370d0007176f4d5bc0dca4ba4584160ad6cbe86c972bdb8b93bc153", func := "moidore/moidorelaw06.CodeDistance", spec := "codeDistance", inPlace := ["math/bits.Add64"], recurses := true, named := ["math/bits.divideError", "math/bits.overflowError"], apart := false, narrowed := true }
def CodeDistanceUptoSaid : Prop := codeDistanceUptoRow.holds Try.pinned (OpenSpec.upto codeDistanceSpec)

/-- 'moidorelaw06.CodeNearest', WHERE WHAT IT READS IS OF BULK AT MOST 1048576: true; the input reads as it did. -/
def codeNearestUptoRow : OpenClaim := { program := "ytgnngifnoaagjaa", sum := "4de33ab5e370d0007176f4d5bc0dca4ba4584160ad6cbe86c972bdb8b93bc153", func := "moidore/moidorelaw06.CodeNearest", spec := "codeNearest", inPlace := ["math/bits.Add64"], recurses := true, named := ["math/bits.divideError", "math/bits.overflowError"], apart := false, narrowed := true }
def CodeNearestUptoSaid : Prop := codeNearestUptoRow.holds Try.pinned (OpenSpec.upto codeNearestSpec)

/-- 'moidorelaw06.CodeDecodes', WHERE WHAT IT READS IS OF BULK AT MOST 1048576: true; the input reads as it did. -/
def codeDecodesUptoRow : OpenClaim := { program := "ytgnngifnoaagjaa", sum := "4de33ab5e370d0007176f4d5bc0dca4ba4584160ad6cbe86c972bdb8b93bc153", func := "moidore/moidorelaw06.CodeDecodes", spec := "codeDecodes", inPlace := ["math/bits.Add64"], recurses := true, named := ["math/bits.divideError", "math/bits.overflowError"], apart := false, narrowed := true }
def CodeDecodesUptoSaid : Prop := codeDecodesUptoRow.holds Try.pinned (OpenSpec.upto codeDecodesSpec)

/-- 'moidorelaw06.CodeSeparated', WHERE WHAT IT READS IS OF BULK AT MOST 1048576: true; the input reads as it did. -/
def codeSeparatedUptoRow : OpenClaim := { program := "ytgnngifnoaagjaa", sum := "4de33ab5e370d0007176f4d5bc0dca4ba4584160ad6cbe86c972bdb8b93bc153", func := "moidore/moidorelaw06.CodeSeparated", spec := "codeSeparated", inPlace := ["math/bits.Add64"], recurses := true, named := ["math/bits.divideError", "math/bits.overflowError"], apart := false, narrowed := true }
def CodeSeparatedUptoSaid : Prop := codeSeparatedUptoRow.holds Try.pinned (OpenSpec.upto codeSeparatedSpec)

/-- 'moidorelaw06.CodeContains', WHERE WHAT IT READS IS OF BULK AT MOST 1048576: true; the input reads as it did. -/
def codeContainsUptoRow : OpenClaim := { program := "ytgnngifnoaagjaa", sum := "4de33ab5e370d0007176f4d5bc0dca4ba4584160ad6cbe86c972bdb8b93bc153", func := "moidore/moidorelaw06.CodeContains", spec := "codeContains", inPlace := ["math/bits.Add64"], recurses := true, named := ["math/bits.divideError", "math/bits.overflowError"], apart := false, narrowed := true }
def CodeContainsUptoSaid : Prop := codeContainsUptoRow.holds Try.pinned (OpenSpec.upto codeContainsSpec)

/-- 'moidorelaw06.CodeFold', WHERE WHAT IT READS IS OF BULK AT MOST 1048576: true; the input reads as it did. -/
def codeFoldUptoRow : OpenClaim := { program := "ytgnngifnoaagjaa", sum := "4de33ab5e370d0007176f4d5bc0dca4ba4584160ad6cbe86c972bdb8b93bc153", func := "moidore/moidorelaw06.CodeFold", spec := "codeFold", inPlace := ["math/bits.Add64"], recurses := true, named := ["math/bits.divideError", "math/bits.overflowError"], apart := false, narrowed := true }
def CodeFoldUptoSaid : Prop := codeFoldUptoRow.holds Try.pinned (OpenSpec.upto codeFoldSpec)

/-- 'moidorelaw06.CodeClose', WHERE WHAT IT READS IS OF BULK AT MOST 1048576: true; the input reads as it did. -/
def codeCloseUptoRow : OpenClaim := { program := "ytgnngifnoaagjaa", sum := "4de33ab5e370d0007176f4d5bc0dca4ba4584160ad6cbe86c972bdb8b93bc153", func := "moidore/moidorelaw06.CodeClose", spec := "codeClose", inPlace := ["math/bits.Add64"], recurses := true, named := ["math/bits.divideError", "math/bits.overflowError"], apart := false, narrowed := true }
def CodeCloseUptoSaid : Prop := codeCloseUptoRow.holds Try.pinned (OpenSpec.upto codeCloseSpec)

/-- 'moidorelaw06.CodeTogether', WHERE WHAT IT READS IS OF BULK AT MOST 1048576: true; the input reads as it did. -/
def codeTogetherUptoRow : OpenClaim := { program := "ytgnngifnoaagjaa", sum := "4de33ab5e370d0007176f4d5bc0dca4ba4584160ad6cbe86c972bdb8b93bc153", func := "moidore/moidorelaw06.CodeTogether", spec := "codeTogether", inPlace := ["math/bits.Add64"], recurses := true, named := ["math/bits.divideError", "math/bits.overflowError"], apart := false, narrowed := true }
def CodeTogetherUptoSaid : Prop := codeTogetherUptoRow.holds Try.pinned (OpenSpec.upto codeTogetherSpec)

end Rows
end Go.Proofs.Ytgnngifnoaagjaa
