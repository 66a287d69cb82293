/-
  No cell of these rows narrows 'for every input' (looked for: loops, veiled, ifaces, maps, wideKeys, modest, calm, conditions, laid).
  DERIVED. THE GIVEN ROWS OF THIS SEAT. 9 by the template 'for every input the law returns true; each argument reads behind the call as it read before'; 0 by the template 'total and deterministic' (their statements: YtcnbinjoeilfgaaTotals.lean).
  GIVEN WITH THE SEED: the statements are not yours to turn. If you find one false, say at which input.
  Laid BY PROGRAM, IN A SANDBOX (cutbox-rows.mjs): the forced cells as the released guide's own fill.sh prints them over the translation 0adf8cd627aad5b2… (all of the seat's roots in one cut). By AI agents, Wed Nov 11 2026. No macro, syntax, notation, axiom, sorry.
-/
import Derived.Test.YtcnbinjoeilfgaaChecked
import GoSem.Claim
import GoSem.ClaimJoined
import GoSem.ClaimMapViews
import Derived.JoinedTies
import Derived.KernelRfl
namespace Go.Proofs.Ytcnbinjoeilfgaa
/- THE CELL 'sum', in the pinned program and in every row, IS THE sha256 OF THE DUMP (.gsa) THAT YtcnbinjoeilfgaaProg.lean LOADS. Nothing in Lean hashes anything: it is a label: what it is worth is what the hold of that sum in a sandbox is worth. -/
noncomputable def Try.pinned : Pinned := { name := "ytcnbinjoeilfgaa", sum := "0adf8cd627aad5b2744a796c9a49e31f3d92ea6787846ac03f0a787879954e7f", checked := Try.checked }
namespace Rows
def none {H : Type} : Left H := { results := [], args := [] }

/-- 'moidorelaw04.TransformForward': WHATEVER THE INPUT: true; the input reads as it did. -/
def transformForwardSpec : ChangeSpec := { name := "transformForward", fn := fun _ => fun
  | [d1, d2] => { results := [.lit (.bool true)], args := [d1, d2] }
  | _ => none }
def transformForwardRow : OpenClaim := { program := "ytcnbinjoeilfgaa", sum := "0adf8cd627aad5b2744a796c9a49e31f3d92ea6787846ac03f0a787879954e7f", func := "moidore/moidorelaw04.TransformForward", spec := "transformForward", inPlace := ["math/bits.Add64"], recurses := true, named := ["math/bits.divideError", "math/bits.overflowError"], apart := false }
def TransformForwardSaid : Prop := transformForwardRow.holds Try.pinned (OpenSpec.ofChange transformForwardSpec)

/-- ITS FALSE NEIGHBOUR: 'it returns false'. Refute it at one input. -/
def transformForwardWrong : ChangeSpec := { name := "transformForward", fn := fun _ => fun
  | [d1, d2] => { results := [.lit (.bool false)], args := [d1, d2] }
  | _ => none }
def TransformForwardWrongFalsely : Prop := transformForwardRow.holds Try.pinned (OpenSpec.ofChange transformForwardWrong)

/-- 'moidorelaw04.TransformDomain': WHATEVER THE INPUT: true; the input reads as it did. -/
def transformDomainSpec : ChangeSpec := { name := "transformDomain", fn := fun _ => fun
  | [d1, d2, d3] => { results := [.lit (.bool true)], args := [d1, d2, d3] }
  | _ => none }
def transformDomainRow : OpenClaim := { program := "ytcnbinjoeilfgaa", sum := "0adf8cd627aad5b2744a796c9a49e31f3d92ea6787846ac03f0a787879954e7f", func := "moidore/moidorelaw04.TransformDomain", spec := "transformDomain", inPlace := ["math/bits.Add64"], recurses := true, named := ["math/bits.divideError", "math/bits.overflowError"], apart := false }
def TransformDomainSaid : Prop := transformDomainRow.holds Try.pinned (OpenSpec.ofChange transformDomainSpec)

/-- ITS FALSE NEIGHBOUR: 'it returns false'. Refute it at one input. -/
def transformDomainWrong : ChangeSpec := { name := "transformDomain", fn := fun _ => fun
  | [d1, d2, d3] => { results := [.lit (.bool false)], args := [d1, d2, d3] }
  | _ => none }
def TransformDomainWrongFalsely : Prop := transformDomainRow.holds Try.pinned (OpenSpec.ofChange transformDomainWrong)

/-- 'moidorelaw04.TransformEvaluate': WHATEVER THE INPUT: true; the input reads as it did. -/
def transformEvaluateSpec : ChangeSpec := { name := "transformEvaluate", fn := fun _ => fun
  | [d] => { results := [.lit (.bool true)], args := [d] }
  | _ => none }
def transformEvaluateRow : OpenClaim := { program := "ytcnbinjoeilfgaa", sum := "0adf8cd627aad5b2744a796c9a49e31f3d92ea6787846ac03f0a787879954e7f", func := "moidore/moidorelaw04.TransformEvaluate", spec := "transformEvaluate", inPlace := ["math/bits.Add64"], recurses := true, named := ["math/bits.divideError", "math/bits.overflowError"], apart := false }
def TransformEvaluateSaid : Prop := transformEvaluateRow.holds Try.pinned (OpenSpec.ofChange transformEvaluateSpec)

/-- ITS FALSE NEIGHBOUR: 'it returns false'. Refute it at one input. -/
def transformEvaluateWrong : ChangeSpec := { name := "transformEvaluate", fn := fun _ => fun
  | [d] => { results := [.lit (.bool false)], args := [d] }
  | _ => none }
def TransformEvaluateWrongFalsely : Prop := transformEvaluateRow.holds Try.pinned (OpenSpec.ofChange transformEvaluateWrong)

/-- 'moidoretop.TopProducts': WHATEVER THE INPUT: true; the input reads as it did. -/
def topProductsSpec : ChangeSpec := { name := "topProducts", fn := fun _ => fun
  | [d1, d2, d3] => { results := [.lit (.bool true)], args := [d1, d2, d3] }
  | _ => none }
def topProductsRow : OpenClaim := { program := "ytcnbinjoeilfgaa", sum := "0adf8cd627aad5b2744a796c9a49e31f3d92ea6787846ac03f0a787879954e7f", func := "moidore/moidoretop.TopProducts", spec := "topProducts", inPlace := ["math/bits.Add64"], recurses := true, named := ["math/bits.divideError", "math/bits.overflowError"], apart := false }
def TopProductsSaid : Prop := topProductsRow.holds Try.pinned (OpenSpec.ofChange topProductsSpec)

/-- ITS FALSE NEIGHBOUR: 'it returns false'. Refute it at one input. -/
def topProductsWrong : ChangeSpec := { name := "topProducts", fn := fun _ => fun
  | [d1, d2, d3] => { results := [.lit (.bool false)], args := [d1, d2, d3] }
  | _ => none }
def TopProductsWrongFalsely : Prop := topProductsRow.holds Try.pinned (OpenSpec.ofChange topProductsWrong)

/-- 'moidorelaw04.TransformLinear': WHATEVER THE INPUT: true; the input reads as it did. -/
def transformLinearSpec : ChangeSpec := { name := "transformLinear", fn := fun _ => fun
  | [d1, d2, d3] => { results := [.lit (.bool true)], args := [d1, d2, d3] }
  | _ => none }
def transformLinearRow : OpenClaim := { program := "ytcnbinjoeilfgaa", sum := "0adf8cd627aad5b2744a796c9a49e31f3d92ea6787846ac03f0a787879954e7f", func := "moidore/moidorelaw04.TransformLinear", spec := "transformLinear", inPlace := ["math/bits.Add64"], recurses := true, named := ["math/bits.divideError", "math/bits.overflowError"], apart := false }
def TransformLinearSaid : Prop := transformLinearRow.holds Try.pinned (OpenSpec.ofChange transformLinearSpec)

/-- ITS FALSE NEIGHBOUR: 'it returns false'. Refute it at one input. -/
def transformLinearWrong : ChangeSpec := { name := "transformLinear", fn := fun _ => fun
  | [d1, d2, d3] => { results := [.lit (.bool false)], args := [d1, d2, d3] }
  | _ => none }
def TransformLinearWrongFalsely : Prop := transformLinearRow.holds Try.pinned (OpenSpec.ofChange transformLinearWrong)

/-- 'moidorelaw04.TransformProduct': WHATEVER THE INPUT: true; the input reads as it did. -/
def transformProductSpec : ChangeSpec := { name := "transformProduct", fn := fun _ => fun
  | [d1, d2] => { results := [.lit (.bool true)], args := [d1, d2] }
  | _ => none }
def transformProductRow : OpenClaim := { program := "ytcnbinjoeilfgaa", sum := "0adf8cd627aad5b2744a796c9a49e31f3d92ea6787846ac03f0a787879954e7f", func := "moidore/moidorelaw04.TransformProduct", spec := "transformProduct", inPlace := ["math/bits.Add64"], recurses := true, named := ["math/bits.divideError", "math/bits.overflowError"], apart := false }
def TransformProductSaid : Prop := transformProductRow.holds Try.pinned (OpenSpec.ofChange transformProductSpec)

/-- ITS FALSE NEIGHBOUR: 'it returns false'. Refute it at one input. -/
def transformProductWrong : ChangeSpec := { name := "transformProduct", fn := fun _ => fun
  | [d1, d2] => { results := [.lit (.bool false)], args := [d1, d2] }
  | _ => none }
def TransformProductWrongFalsely : Prop := transformProductRow.holds Try.pinned (OpenSpec.ofChange transformProductWrong)

/-- 'moidorelaw04.TransformInterpolate': WHATEVER THE INPUT: true; the input reads as it did. -/
def transformInterpolateSpec : ChangeSpec := { name := "transformInterpolate", fn := fun _ => fun
  | [d1, d2, d3] => { results := [.lit (.bool true)], args := [d1, d2, d3] }
  | _ => none }
def transformInterpolateRow : OpenClaim := { program := "ytcnbinjoeilfgaa", sum := "0adf8cd627aad5b2744a796c9a49e31f3d92ea6787846ac03f0a787879954e7f", func := "moidore/moidorelaw04.TransformInterpolate", spec := "transformInterpolate", inPlace := ["math/bits.Add64"], recurses := true, named := ["math/bits.divideError", "math/bits.overflowError"], apart := false }
def TransformInterpolateSaid : Prop := transformInterpolateRow.holds Try.pinned (OpenSpec.ofChange transformInterpolateSpec)

/-- ITS FALSE NEIGHBOUR: 'it returns false'. Refute it at one input. -/
def transformInterpolateWrong : ChangeSpec := { name := "transformInterpolate", fn := fun _ => fun
  | [d1, d2, d3] => { results := [.lit (.bool false)], args := [d1, d2, d3] }
  | _ => none }
def TransformInterpolateWrongFalsely : Prop := transformInterpolateRow.holds Try.pinned (OpenSpec.ofChange transformInterpolateWrong)

/-- 'moidorelaw04.TransformInverse': WHATEVER THE INPUT: true; the input reads as it did. -/
def transformInverseSpec : ChangeSpec := { name := "transformInverse", fn := fun _ => fun
  | [d] => { results := [.lit (.bool true)], args := [d] }
  | _ => none }
def transformInverseRow : OpenClaim := { program := "ytcnbinjoeilfgaa", sum := "0adf8cd627aad5b2744a796c9a49e31f3d92ea6787846ac03f0a787879954e7f", func := "moidore/moidorelaw04.TransformInverse", spec := "transformInverse", inPlace := ["math/bits.Add64"], recurses := true, named := ["math/bits.divideError", "math/bits.overflowError"], apart := false }
def TransformInverseSaid : Prop := transformInverseRow.holds Try.pinned (OpenSpec.ofChange transformInverseSpec)

/-- ITS FALSE NEIGHBOUR: 'it returns false'. Refute it at one input. -/
def transformInverseWrong : ChangeSpec := { name := "transformInverse", fn := fun _ => fun
  | [d] => { results := [.lit (.bool false)], args := [d] }
  | _ => none }
def TransformInverseWrongFalsely : Prop := transformInverseRow.holds Try.pinned (OpenSpec.ofChange transformInverseWrong)

/-- 'moidoretop.TopInterpolations': WHATEVER THE INPUT: true; the input reads as it did. -/
def topInterpolationsSpec : ChangeSpec := { name := "topInterpolations", fn := fun _ => fun
  | [d1, d2, d3] => { results := [.lit (.bool true)], args := [d1, d2, d3] }
  | _ => none }
def topInterpolationsRow : OpenClaim := { program := "ytcnbinjoeilfgaa", sum := "0adf8cd627aad5b2744a796c9a49e31f3d92ea6787846ac03f0a787879954e7f", func := "moidore/moidoretop.TopInterpolations", spec := "topInterpolations", inPlace := ["math/bits.Add64"], recurses := true, named := ["math/bits.divideError", "math/bits.overflowError"], apart := false }
def TopInterpolationsSaid : Prop := topInterpolationsRow.holds Try.pinned (OpenSpec.ofChange topInterpolationsSpec)

/-- ITS FALSE NEIGHBOUR: 'it returns false'. Refute it at one input. -/
def topInterpolationsWrong : ChangeSpec := { name := "topInterpolations", fn := fun _ => fun
  | [d1, d2, d3] => { results := [.lit (.bool false)], args := [d1, d2, d3] }
  | _ => none }
def TopInterpolationsWrongFalsely : Prop := topInterpolationsRow.holds Try.pinned (OpenSpec.ofChange topInterpolationsWrong)

/- THE SECOND FORM. 'bulk': how many values and letters a reading holds, each counted each time it is reached (what is shared counts as often as it is met; a slice's spare places count too). A statement '..UptoSaid' is the law's where the arguments, and the package variables that the reading takes, are together of bulk at most 1048576: NARROWER than '..Said'. Prove '..Said' where nothing that the law and all that it calls make is longer than what came in: it says more and counts as full. Else prove '..UptoSaid'. A law counts once. -/
mutual
def uptoBulk {H : Type} : DataW H → Nat
  | .lit (.string bytes) => bytes.length + 1
  | .lit _ => 1
  | .nil => 1
  | .ptr d => uptoBulk d + 1
  | .slice elems spare => uptoBulkAll elems + uptoBulkAll spare + 1
  | .agg parts => uptoBulkAll parts + 1
  | .iface _ d => uptoBulk d + 1
  | .map entries => uptoBulkEntries entries + 1
  | .held _ => 1
def uptoBulkAll {H : Type} : List (DataW H) → Nat
  | [] => 0
  | d :: r => uptoBulk d + uptoBulkAll r
def uptoBulkEntries {H : Type} : List (Lit × DataW H) → Nat
  | [] => 0
  | x :: r => uptoBulkEntry x + uptoBulkEntries r
def uptoBulkEntry {H : Type} : Lit × DataW H → Nat
  | (.string bytes, d) => bytes.length + uptoBulk d + 1
  | (_, d) => uptoBulk d + 1
 end
def uptoSmall : (H : Type) → List (DataW H) → Bool := fun _ ds => decide (uptoBulkAll ds ≤ 1048576)
def OpenSpec.upto (s : _root_.Go.ChangeSpec) : _root_.Go.OpenSpec := { _root_.Go.OpenSpec.ofChange s with cond := some uptoSmall }

/-- 'moidorelaw04.TransformForward', WHERE WHAT IT READS IS OF BULK AT MOST 1048576: true; the input reads as it did. -/
def transformForwardUptoRow : OpenClaim := { program := "ytcnbinjoeilfgaa", sum := "0adf8cd627aad5b2744a796c9a49e31f3d92ea6787846ac03f0a787879954e7f", func := "moidore/moidorelaw04.TransformForward", spec := "transformForward", inPlace := ["math/bits.Add64"], recurses := true, named := ["math/bits.divideError", "math/bits.overflowError"], apart := false, narrowed := true }
def TransformForwardUptoSaid : Prop := transformForwardUptoRow.holds Try.pinned (OpenSpec.upto transformForwardSpec)

/-- 'moidorelaw04.TransformDomain', WHERE WHAT IT READS IS OF BULK AT MOST 1048576: true; the input reads as it did. -/
def transformDomainUptoRow : OpenClaim := { program := "ytcnbinjoeilfgaa", sum := "0adf8cd627aad5b2744a796c9a49e31f3d92ea6787846ac03f0a787879954e7f", func := "moidore/moidorelaw04.TransformDomain", spec := "transformDomain", inPlace := ["math/bits.Add64"], recurses := true, named := ["math/bits.divideError", "math/bits.overflowError"], apart := false, narrowed := true }
def TransformDomainUptoSaid : Prop := transformDomainUptoRow.holds Try.pinned (OpenSpec.upto transformDomainSpec)

/-- 'moidorelaw04.TransformEvaluate', WHERE WHAT IT READS IS OF BULK AT MOST 1048576: true; the input reads as it did. -/
def transformEvaluateUptoRow : OpenClaim := { program := "ytcnbinjoeilfgaa", sum := "0adf8cd627aad5b2744a796c9a49e31f3d92ea6787846ac03f0a787879954e7f", func := "moidore/moidorelaw04.TransformEvaluate", spec := "transformEvaluate", inPlace := ["math/bits.Add64"], recurses := true, named := ["math/bits.divideError", "math/bits.overflowError"], apart := false, narrowed := true }
def TransformEvaluateUptoSaid : Prop := transformEvaluateUptoRow.holds Try.pinned (OpenSpec.upto transformEvaluateSpec)

/-- 'moidoretop.TopProducts', WHERE WHAT IT READS IS OF BULK AT MOST 1048576: true; the input reads as it did. -/
def topProductsUptoRow : OpenClaim := { program := "ytcnbinjoeilfgaa", sum := "0adf8cd627aad5b2744a796c9a49e31f3d92ea6787846ac03f0a787879954e7f", func := "moidore/moidoretop.TopProducts", spec := "topProducts", inPlace := ["math/bits.Add64"], recurses := true, named := ["math/bits.divideError", "math/bits.overflowError"], apart := false, narrowed := true }
def TopProductsUptoSaid : Prop := topProductsUptoRow.holds Try.pinned (OpenSpec.upto topProductsSpec)

/-- 'moidorelaw04.TransformLinear', WHERE WHAT IT READS IS OF BULK AT MOST 1048576: true; the input reads as it did. -/
def transformLinearUptoRow : OpenClaim := { program := "ytcnbinjoeilfgaa", sum := "0adf8cd627aad5b2744a796c9a49e31f3d92ea6787846ac03f0a787879954e7f", func := "moidore/moidorelaw04.TransformLinear", spec := "transformLinear", inPlace := ["math/bits.Add64"], recurses := true, named := ["math/bits.divideError", "math/bits.overflowError"], apart := false, narrowed := true }
def TransformLinearUptoSaid : Prop := transformLinearUptoRow.holds Try.pinned (OpenSpec.upto transformLinearSpec)

/-- 'moidorelaw04.TransformProduct', WHERE WHAT IT READS IS OF BULK AT MOST 1048576: true; the input reads as it did. -/
def transformProductUptoRow : OpenClaim := { program := "ytcnbinjoeilfgaa", sum := "0adf8cd627aad5b2744a796c9a49e31f3d92ea6787846ac03f0a787879954e7f", func := "moidore/moidorelaw04.TransformProduct", spec := "transformProduct", inPlace := ["math/bits.Add64"], recurses := true, named := ["math/bits.divideError", "math/bits.overflowError"], apart := false, narrowed := true }
def TransformProductUptoSaid : Prop := transformProductUptoRow.holds Try.pinned (OpenSpec.upto transformProductSpec)

/-- 'moidorelaw04.TransformInterpolate', WHERE WHAT IT READS IS OF BULK AT MOST 1048576: true; the input reads as it did. -/
def transformInterpolateUptoRow : OpenClaim := { program := "ytcnbinjoeilfgaa", sum := "0adf8cd627aad5b2744a796c9a49e31f3d92ea6787846ac03f0a787879954e7f", func := "moidore/moidorelaw04.TransformInterpolate", spec := "transformInterpolate", inPlace := ["math/bits.Add64"], recurses := true, named := ["math/bits.divideError", "math/bits.overflowError"], apart := false, narrowed := true }
def TransformInterpolateUptoSaid : Prop := transformInterpolateUptoRow.holds Try.pinned (OpenSpec.upto transformInterpolateSpec)

/-- 'moidorelaw04.TransformInverse', WHERE WHAT IT READS IS OF BULK AT MOST 1048576: true; the input reads as it did. -/
def transformInverseUptoRow : OpenClaim := { program := "ytcnbinjoeilfgaa", sum := "0adf8cd627aad5b2744a796c9a49e31f3d92ea6787846ac03f0a787879954e7f", func := "moidore/moidorelaw04.TransformInverse", spec := "transformInverse", inPlace := ["math/bits.Add64"], recurses := true, named := ["math/bits.divideError", "math/bits.overflowError"], apart := false, narrowed := true }
def TransformInverseUptoSaid : Prop := transformInverseUptoRow.holds Try.pinned (OpenSpec.upto transformInverseSpec)

/-- 'moidoretop.TopInterpolations', WHERE WHAT IT READS IS OF BULK AT MOST 1048576: true; the input reads as it did. -/
def topInterpolationsUptoRow : OpenClaim := { program := "ytcnbinjoeilfgaa", sum := "0adf8cd627aad5b2744a796c9a49e31f3d92ea6787846ac03f0a787879954e7f", func := "moidore/moidoretop.TopInterpolations", spec := "topInterpolations", inPlace := ["math/bits.Add64"], recurses := true, named := ["math/bits.divideError", "math/bits.overflowError"], apart := false, narrowed := true }
def TopInterpolationsUptoSaid : Prop := topInterpolationsUptoRow.holds Try.pinned (OpenSpec.upto topInterpolationsSpec)

end Rows
end Go.Proofs.Ytcnbinjoeilfgaa
