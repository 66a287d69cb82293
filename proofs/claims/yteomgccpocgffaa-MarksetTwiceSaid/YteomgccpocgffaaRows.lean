/-
  No cell of these rows narrows 'for every input' (looked for: loops, veiled, ifaces, maps, wideKeys, modest, calm, conditions, laid).
  DERIVED. THE GIVEN ROWS OF THIS SEAT. 7 by the template 'for every input the law returns true; each argument reads behind the call as it read before'; 0 by the template 'total and deterministic' (their statements: YteomgccpocgffaaTotals.lean).
  GIVEN WITH THE SEED: the statements are not yours to turn. If you find one false, say at which input.
  Laid BY PROGRAM, IN A SANDBOX (cutbox-rows.mjs): the forced cells as the released guide's own fill.sh prints them over the translation 1500e30e41ac8c98… (all of the seat's roots in one cut). By AI agents, Wed Nov 11 2026. No macro, syntax, notation, axiom, sorry.
-/
import Derived.Test.YteomgccpocgffaaChecked
import GoSem.Claim
import GoSem.ClaimJoined
import GoSem.ClaimMapViews
import Derived.JoinedTies
import Derived.KernelRfl
namespace Go.Proofs.Yteomgccpocgffaa
/- THE CELL 'sum', in the pinned program and in every row, IS THE sha256 OF THE DUMP (.gsa) THAT YteomgccpocgffaaProg.lean LOADS. Nothing in Lean hashes anything: it is a label: what it is worth is what the hold of that sum in a sandbox is worth. -/
noncomputable def Try.pinned : Pinned := { name := "yteomgccpocgffaa", sum := "1500e30e41ac8c985054f21067e391d7d2b49135e6fb7cb13c85d2dd4833cdcc", checked := Try.checked }
namespace Rows
def none {H : Type} : Left H := { results := [], args := [] }

/-- 'moidorelaw38.MarksetMatchesModel': WHATEVER THE INPUT: true; the input reads as it did. -/
def marksetMatchesModelSpec : ChangeSpec := { name := "marksetMatchesModel", fn := fun _ => fun
  | [d1, d2] => { results := [.lit (.bool true)], args := [d1, d2] }
  | _ => none }
def marksetMatchesModelRow : OpenClaim := { program := "yteomgccpocgffaa", sum := "1500e30e41ac8c985054f21067e391d7d2b49135e6fb7cb13c85d2dd4833cdcc", func := "moidore/moidorelaw38.MarksetMatchesModel", spec := "marksetMatchesModel", recurses := true, apart := false }
def MarksetMatchesModelSaid : Prop := marksetMatchesModelRow.holds Try.pinned (OpenSpec.ofChange marksetMatchesModelSpec)

/-- ITS FALSE NEIGHBOUR: 'it returns false'. Refute it at one input. -/
def marksetMatchesModelWrong : ChangeSpec := { name := "marksetMatchesModel", fn := fun _ => fun
  | [d1, d2] => { results := [.lit (.bool false)], args := [d1, d2] }
  | _ => none }
def MarksetMatchesModelWrongFalsely : Prop := marksetMatchesModelRow.holds Try.pinned (OpenSpec.ofChange marksetMatchesModelWrong)

/-- 'moidorelaw38.MarksetOrder': WHATEVER THE INPUT: true; the input reads as it did. -/
def marksetOrderSpec : ChangeSpec := { name := "marksetOrder", fn := fun _ => fun
  | [d] => { results := [.lit (.bool true)], args := [d] }
  | _ => none }
def marksetOrderRow : OpenClaim := { program := "yteomgccpocgffaa", sum := "1500e30e41ac8c985054f21067e391d7d2b49135e6fb7cb13c85d2dd4833cdcc", func := "moidore/moidorelaw38.MarksetOrder", spec := "marksetOrder", recurses := true, apart := false }
def MarksetOrderSaid : Prop := marksetOrderRow.holds Try.pinned (OpenSpec.ofChange marksetOrderSpec)

/-- ITS FALSE NEIGHBOUR: 'it returns false'. Refute it at one input. -/
def marksetOrderWrong : ChangeSpec := { name := "marksetOrder", fn := fun _ => fun
  | [d] => { results := [.lit (.bool false)], args := [d] }
  | _ => none }
def MarksetOrderWrongFalsely : Prop := marksetOrderRow.holds Try.pinned (OpenSpec.ofChange marksetOrderWrong)

/-- 'moidorelaw38.MarksetAdd': WHATEVER THE INPUT: true; the input reads as it did. -/
def marksetAddSpec : ChangeSpec := { name := "marksetAdd", fn := fun _ => fun
  | [d1, d2] => { results := [.lit (.bool true)], args := [d1, d2] }
  | _ => none }
def marksetAddRow : OpenClaim := { program := "yteomgccpocgffaa", sum := "1500e30e41ac8c985054f21067e391d7d2b49135e6fb7cb13c85d2dd4833cdcc", func := "moidore/moidorelaw38.MarksetAdd", spec := "marksetAdd", recurses := true, apart := false }
def MarksetAddSaid : Prop := marksetAddRow.holds Try.pinned (OpenSpec.ofChange marksetAddSpec)

/-- ITS FALSE NEIGHBOUR: 'it returns false'. Refute it at one input. -/
def marksetAddWrong : ChangeSpec := { name := "marksetAdd", fn := fun _ => fun
  | [d1, d2] => { results := [.lit (.bool false)], args := [d1, d2] }
  | _ => none }
def MarksetAddWrongFalsely : Prop := marksetAddRow.holds Try.pinned (OpenSpec.ofChange marksetAddWrong)

/-- 'moidorelaw38.MarksetRemove': WHATEVER THE INPUT: true; the input reads as it did. -/
def marksetRemoveSpec : ChangeSpec := { name := "marksetRemove", fn := fun _ => fun
  | [d1, d2] => { results := [.lit (.bool true)], args := [d1, d2] }
  | _ => none }
def marksetRemoveRow : OpenClaim := { program := "yteomgccpocgffaa", sum := "1500e30e41ac8c985054f21067e391d7d2b49135e6fb7cb13c85d2dd4833cdcc", func := "moidore/moidorelaw38.MarksetRemove", spec := "marksetRemove", recurses := true, apart := false }
def MarksetRemoveSaid : Prop := marksetRemoveRow.holds Try.pinned (OpenSpec.ofChange marksetRemoveSpec)

/-- ITS FALSE NEIGHBOUR: 'it returns false'. Refute it at one input. -/
def marksetRemoveWrong : ChangeSpec := { name := "marksetRemove", fn := fun _ => fun
  | [d1, d2] => { results := [.lit (.bool false)], args := [d1, d2] }
  | _ => none }
def MarksetRemoveWrongFalsely : Prop := marksetRemoveRow.holds Try.pinned (OpenSpec.ofChange marksetRemoveWrong)

/-- 'moidorelaw38.MarksetTwice': WHATEVER THE INPUT: true; the input reads as it did. -/
def marksetTwiceSpec : ChangeSpec := { name := "marksetTwice", fn := fun _ => fun
  | [d1, d2, d3] => { results := [.lit (.bool true)], args := [d1, d2, d3] }
  | _ => none }
def marksetTwiceRow : OpenClaim := { program := "yteomgccpocgffaa", sum := "1500e30e41ac8c985054f21067e391d7d2b49135e6fb7cb13c85d2dd4833cdcc", func := "moidore/moidorelaw38.MarksetTwice", spec := "marksetTwice", recurses := true, apart := false }
def MarksetTwiceSaid : Prop := marksetTwiceRow.holds Try.pinned (OpenSpec.ofChange marksetTwiceSpec)

/-- ITS FALSE NEIGHBOUR: 'it returns false'. Refute it at one input. -/
def marksetTwiceWrong : ChangeSpec := { name := "marksetTwice", fn := fun _ => fun
  | [d1, d2, d3] => { results := [.lit (.bool false)], args := [d1, d2, d3] }
  | _ => none }
def MarksetTwiceWrongFalsely : Prop := marksetTwiceRow.holds Try.pinned (OpenSpec.ofChange marksetTwiceWrong)

/-- 'moidorelaw38.MarksetEmpty': WHATEVER THE INPUT: true; the input reads as it did. -/
def marksetEmptySpec : ChangeSpec := { name := "marksetEmpty", fn := fun _ => fun
  | [d] => { results := [.lit (.bool true)], args := [d] }
  | _ => none }
def marksetEmptyRow : OpenClaim := { program := "yteomgccpocgffaa", sum := "1500e30e41ac8c985054f21067e391d7d2b49135e6fb7cb13c85d2dd4833cdcc", func := "moidore/moidorelaw38.MarksetEmpty", spec := "marksetEmpty", recurses := true, apart := false }
def MarksetEmptySaid : Prop := marksetEmptyRow.holds Try.pinned (OpenSpec.ofChange marksetEmptySpec)

/-- ITS FALSE NEIGHBOUR: 'it returns false'. Refute it at one input. -/
def marksetEmptyWrong : ChangeSpec := { name := "marksetEmpty", fn := fun _ => fun
  | [d] => { results := [.lit (.bool false)], args := [d] }
  | _ => none }
def MarksetEmptyWrongFalsely : Prop := marksetEmptyRow.holds Try.pinned (OpenSpec.ofChange marksetEmptyWrong)

/-- 'moidorelaw38.MarksetIsolated': WHATEVER THE INPUT: true; the input reads as it did. -/
def marksetIsolatedSpec : ChangeSpec := { name := "marksetIsolated", fn := fun _ => fun
  | [d1, d2] => { results := [.lit (.bool true)], args := [d1, d2] }
  | _ => none }
def marksetIsolatedRow : OpenClaim := { program := "yteomgccpocgffaa", sum := "1500e30e41ac8c985054f21067e391d7d2b49135e6fb7cb13c85d2dd4833cdcc", func := "moidore/moidorelaw38.MarksetIsolated", spec := "marksetIsolated", recurses := true, apart := false }
def MarksetIsolatedSaid : Prop := marksetIsolatedRow.holds Try.pinned (OpenSpec.ofChange marksetIsolatedSpec)

/-- ITS FALSE NEIGHBOUR: 'it returns false'. Refute it at one input. -/
def marksetIsolatedWrong : ChangeSpec := { name := "marksetIsolated", fn := fun _ => fun
  | [d1, d2] => { results := [.lit (.bool false)], args := [d1, d2] }
  | _ => none }
def MarksetIsolatedWrongFalsely : Prop := marksetIsolatedRow.holds Try.pinned (OpenSpec.ofChange marksetIsolatedWrong)

/- THE SECOND FORM. 'bulk': how many values and letters a reading holds, each counted each time it is reached (what is shared counts as often as it is met; a slice's spare places count too). A statement '..UptoSaid' is the law's where the arguments, and the package variables that the reading takes, are together of bulk at most 1048576: NARROWER than '..Said'. Prove '..Said' where nothing that the law and all that it calls make is longer than what came in: it says more and counts as full. Else prove '..UptoSaid'. A law counts once. -/
mutual
def uptoBulk {H : Type} : DataW H → Nat
  | .lit (.string bytes) => bytes.length + 1
  | .lit _ => 1
  | .nil => 1
  | .ptr d => uptoBulk d + 1
  | .slice elems spare => uptoBulkAll elems + uptoBulkAll spare + 1
  | .agg parts => uptoBulkAll parts + 1
  | .iface _ d => uptoBulk d + 1
  | .map entries => uptoBulkEntries entries + 1
  | .held _ => 1
def uptoBulkAll {H : Type} : List (DataW H) → Nat
  | [] => 0
  | d :: r => uptoBulk d + uptoBulkAll r
def uptoBulkEntries {H : Type} : List (Lit × DataW H) → Nat
  | [] => 0
  | x :: r => uptoBulkEntry x + uptoBulkEntries r
def uptoBulkEntry {H : Type} : Lit × DataW H → Nat
  | (.string bytes, d) => bytes.length + uptoBulk d + 1
  | (_, d) => uptoBulk d + 1
 end
def uptoSmall : (H : Type) → List (DataW H) → Bool := fun _ ds => decide (uptoBulkAll ds ≤ 1048576)
def OpenSpec.upto (s : _root_.Go.ChangeSpec) : _root_.Go.OpenSpec := { _root_.Go.OpenSpec.ofChange s with cond := some uptoSmall }

/-- 'moidorelaw38.MarksetMatchesModel', WHERE WHAT IT READS IS OF BULK AT MOST 1048576: true; the input reads as it did. -/
def marksetMatchesModelUptoRow : OpenClaim := { program := "yteomgccpocgffaa", sum := "1500e30e41ac8c985054f21067e391d7d2b49135e6fb7cb13c85d2dd4833cdcc", func := "moidore/moidorelaw38.MarksetMatchesModel", spec := "marksetMatchesModel", recurses := true, apart := false, narrowed := true }
def MarksetMatchesModelUptoSaid : Prop := marksetMatchesModelUptoRow.holds Try.pinned (OpenSpec.upto marksetMatchesModelSpec)

/-- 'moidorelaw38.MarksetOrder', WHERE WHAT IT READS IS OF BULK AT MOST 1048576: true; the input reads as it did. -/
def marksetOrderUptoRow : OpenClaim := { program := "yteomgccpocgffaa", sum := "1500e30e41ac8c985054f21067e391d7d2b49135e6fb7cb13c85d2dd4833cdcc", func := "moidore/moidorelaw38.MarksetOrder", spec := "marksetOrder", recurses := true, apart := false, narrowed := true }
def MarksetOrderUptoSaid : Prop := marksetOrderUptoRow.holds Try.pinned (OpenSpec.upto marksetOrderSpec)

/-- 'moidorelaw38.MarksetAdd', WHERE WHAT IT READS IS OF BULK AT MOST 1048576: true; the input reads as it did. -/
def marksetAddUptoRow : OpenClaim := { program := "yteomgccpocgffaa", sum := "1500e30e41ac8c985054f21067e391d7d2b49135e6fb7cb13c85d2dd4833cdcc", func := "moidore/moidorelaw38.MarksetAdd", spec := "marksetAdd", recurses := true, apart := false, narrowed := true }
def MarksetAddUptoSaid : Prop := marksetAddUptoRow.holds Try.pinned (OpenSpec.upto marksetAddSpec)

/-- 'moidorelaw38.MarksetRemove', WHERE WHAT IT READS IS OF BULK AT MOST 1048576: true; the input reads as it did. -/
def marksetRemoveUptoRow : OpenClaim := { program := "yteomgccpocgffaa", sum := "1500e30e41ac8c985054f21067e391d7d2b49135e6fb7cb13c85d2dd4833cdcc", func := "moidore/moidorelaw38.MarksetRemove", spec := "marksetRemove", recurses := true, apart := false, narrowed := true }
def MarksetRemoveUptoSaid : Prop := marksetRemoveUptoRow.holds Try.pinned (OpenSpec.upto marksetRemoveSpec)

/-- 'moidorelaw38.MarksetTwice', WHERE WHAT IT READS IS OF BULK AT MOST 1048576: true; the input reads as it did. -/
def marksetTwiceUptoRow : OpenClaim := { program := "yteomgccpocgffaa", sum := "1500e30e41ac8c985054f21067e391d7d2b49135e6fb7cb13c85d2dd4833cdcc", func := "moidore/moidorelaw38.MarksetTwice", spec := "marksetTwice", recurses := true, apart := false, narrowed := true }
def MarksetTwiceUptoSaid : Prop := marksetTwiceUptoRow.holds Try.pinned (OpenSpec.upto marksetTwiceSpec)

/-- 'moidorelaw38.MarksetEmpty', WHERE WHAT IT READS IS OF BULK AT MOST 1048576: true; the input reads as it did. -/
def marksetEmptyUptoRow : OpenClaim := { program := "yteomgccpocgffaa", sum := "1500e30e41ac8c985054f21067e391d7d2b49135e6fb7cb13c85d2dd4833cdcc", func := "moidore/moidorelaw38.MarksetEmpty", spec := "marksetEmpty", recurses := true, apart := false, narrowed := true }
def MarksetEmptyUptoSaid : Prop := marksetEmptyUptoRow.holds Try.pinned (OpenSpec.upto marksetEmptySpec)

/-- 'moidorelaw38.MarksetIsolated', WHERE WHAT IT READS IS OF BULK AT MOST 1048576: true; the input reads as it did. -/
def marksetIsolatedUptoRow : OpenClaim := { program := "yteomgccpocgffaa", sum := "1500e30e41ac8c985054f21067e391d7d2b49135e6fb7cb13c85d2dd4833cdcc", func := "moidore/moidorelaw38.MarksetIsolated", spec := "marksetIsolated", recurses := true, apart := false, narrowed := true }
def MarksetIsolatedUptoSaid : Prop := marksetIsolatedUptoRow.holds Try.pinned (OpenSpec.upto marksetIsolatedSpec)

end Rows
end Go.Proofs.Yteomgccpocgffaa
