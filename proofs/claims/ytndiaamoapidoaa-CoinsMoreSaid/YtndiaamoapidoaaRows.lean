/-
  No cell of these rows narrows 'for every input' (looked for: loops, veiled, ifaces, maps, wideKeys, modest, calm, conditions, laid).
  DERIVED. THE GIVEN ROWS OF THIS SEAT. 7 by the template 'for every input the law returns true; each argument reads behind the call as it read before'; 0 by the template 'total and deterministic' (their statements: YtndiaamoapidoaaTotals.lean).
  GIVEN WITH THE SEED: the statements are not yours to turn. If you find one false, say at which input.
  Laid BY PROGRAM, IN A SANDBOX (cutbox-rows.mjs): the forced cells as the released guide's own fill.sh prints them over the translation e6ecb383353fe6b4… (all of the seat's roots in one cut). By AI agents, Wed Nov 11 2026. No macro, syntax, notation, axiom, sorry.
-/
import Derived.Test.YtndiaamoapidoaaChecked
import GoSem.Claim
import GoSem.ClaimJoined
import GoSem.ClaimMapViews
import Derived.JoinedTies
import Derived.KernelRfl
namespace Go.Proofs.Ytndiaamoapidoaa
/- THE CELL 'sum', in the pinned program and in every row, IS THE sha256 OF THE DUMP (.gsa) THAT YtndiaamoapidoaaProg.lean LOADS. Nothing in Lean hashes anything: it is a label: what it is worth is what the hold of that sum in a sandbox is worth. -/
noncomputable def Try.pinned : Pinned := { name := "ytndiaamoapidoaa", sum := "e6ecb383353fe6b4c2322d20bef8094174a5e7f6f7d454ca426ffaa47b59c31d", checked := Try.checked }
namespace Rows
def none {H : Type} : Left H := { results := [], args := [] }

/-- 'moidorelaw50.CoinsSelect': WHATEVER THE INPUT: true; the input reads as it did. -/
def coinsSelectSpec : ChangeSpec := { name := "coinsSelect", fn := fun _ => fun
  | [d1, d2, d3] => { results := [.lit (.bool true)], args := [d1, d2, d3] }
  | _ => none }
def coinsSelectRow : OpenClaim := { program := "ytndiaamoapidoaa", sum := "e6ecb383353fe6b4c2322d20bef8094174a5e7f6f7d454ca426ffaa47b59c31d", func := "moidore/moidorelaw50.CoinsSelect", spec := "coinsSelect", recurses := true, apart := false }
def CoinsSelectSaid : Prop := coinsSelectRow.holds Try.pinned (OpenSpec.ofChange coinsSelectSpec)

/-- ITS FALSE NEIGHBOUR: 'it returns false'. Refute it at one input. -/
def coinsSelectWrong : ChangeSpec := { name := "coinsSelect", fn := fun _ => fun
  | [d1, d2, d3] => { results := [.lit (.bool false)], args := [d1, d2, d3] }
  | _ => none }
def CoinsSelectWrongFalsely : Prop := coinsSelectRow.holds Try.pinned (OpenSpec.ofChange coinsSelectWrong)

/-- 'moidorelaw50.CoinsGood': WHATEVER THE INPUT: true; the input reads as it did. -/
def coinsGoodSpec : ChangeSpec := { name := "coinsGood", fn := fun _ => fun
  | [d1, d2, d3] => { results := [.lit (.bool true)], args := [d1, d2, d3] }
  | _ => none }
def coinsGoodRow : OpenClaim := { program := "ytndiaamoapidoaa", sum := "e6ecb383353fe6b4c2322d20bef8094174a5e7f6f7d454ca426ffaa47b59c31d", func := "moidore/moidorelaw50.CoinsGood", spec := "coinsGood", recurses := true, apart := false }
def CoinsGoodSaid : Prop := coinsGoodRow.holds Try.pinned (OpenSpec.ofChange coinsGoodSpec)

/-- ITS FALSE NEIGHBOUR: 'it returns false'. Refute it at one input. -/
def coinsGoodWrong : ChangeSpec := { name := "coinsGood", fn := fun _ => fun
  | [d1, d2, d3] => { results := [.lit (.bool false)], args := [d1, d2, d3] }
  | _ => none }
def CoinsGoodWrongFalsely : Prop := coinsGoodRow.holds Try.pinned (OpenSpec.ofChange coinsGoodWrong)

/-- 'moidorelaw50.CoinsOrder': WHATEVER THE INPUT: true; the input reads as it did. -/
def coinsOrderSpec : ChangeSpec := { name := "coinsOrder", fn := fun _ => fun
  | [d1, d2, d3] => { results := [.lit (.bool true)], args := [d1, d2, d3] }
  | _ => none }
def coinsOrderRow : OpenClaim := { program := "ytndiaamoapidoaa", sum := "e6ecb383353fe6b4c2322d20bef8094174a5e7f6f7d454ca426ffaa47b59c31d", func := "moidore/moidorelaw50.CoinsOrder", spec := "coinsOrder", recurses := true, apart := false }
def CoinsOrderSaid : Prop := coinsOrderRow.holds Try.pinned (OpenSpec.ofChange coinsOrderSpec)

/-- ITS FALSE NEIGHBOUR: 'it returns false'. Refute it at one input. -/
def coinsOrderWrong : ChangeSpec := { name := "coinsOrder", fn := fun _ => fun
  | [d1, d2, d3] => { results := [.lit (.bool false)], args := [d1, d2, d3] }
  | _ => none }
def CoinsOrderWrongFalsely : Prop := coinsOrderRow.holds Try.pinned (OpenSpec.ofChange coinsOrderWrong)

/-- 'moidorelaw50.CoinsMore': WHATEVER THE INPUT: true; the input reads as it did. -/
def coinsMoreSpec : ChangeSpec := { name := "coinsMore", fn := fun _ => fun
  | [d1, d2, d3] => { results := [.lit (.bool true)], args := [d1, d2, d3] }
  | _ => none }
def coinsMoreRow : OpenClaim := { program := "ytndiaamoapidoaa", sum := "e6ecb383353fe6b4c2322d20bef8094174a5e7f6f7d454ca426ffaa47b59c31d", func := "moidore/moidorelaw50.CoinsMore", spec := "coinsMore", recurses := true, apart := false }
def CoinsMoreSaid : Prop := coinsMoreRow.holds Try.pinned (OpenSpec.ofChange coinsMoreSpec)

/-- ITS FALSE NEIGHBOUR: 'it returns false'. Refute it at one input. -/
def coinsMoreWrong : ChangeSpec := { name := "coinsMore", fn := fun _ => fun
  | [d1, d2, d3] => { results := [.lit (.bool false)], args := [d1, d2, d3] }
  | _ => none }
def CoinsMoreWrongFalsely : Prop := coinsMoreRow.holds Try.pinned (OpenSpec.ofChange coinsMoreWrong)

/-- 'moidorelaw50.CoinsLeast': WHATEVER THE INPUT: true; the input reads as it did. -/
def coinsLeastSpec : ChangeSpec := { name := "coinsLeast", fn := fun _ => fun
  | [d1, d2, d3] => { results := [.lit (.bool true)], args := [d1, d2, d3] }
  | _ => none }
def coinsLeastRow : OpenClaim := { program := "ytndiaamoapidoaa", sum := "e6ecb383353fe6b4c2322d20bef8094174a5e7f6f7d454ca426ffaa47b59c31d", func := "moidore/moidorelaw50.CoinsLeast", spec := "coinsLeast", recurses := true, apart := false }
def CoinsLeastSaid : Prop := coinsLeastRow.holds Try.pinned (OpenSpec.ofChange coinsLeastSpec)

/-- ITS FALSE NEIGHBOUR: 'it returns false'. Refute it at one input. -/
def coinsLeastWrong : ChangeSpec := { name := "coinsLeast", fn := fun _ => fun
  | [d1, d2, d3] => { results := [.lit (.bool false)], args := [d1, d2, d3] }
  | _ => none }
def CoinsLeastWrongFalsely : Prop := coinsLeastRow.holds Try.pinned (OpenSpec.ofChange coinsLeastWrong)

/-- 'moidorelaw50.CoinsChange': WHATEVER THE INPUT: true; the input reads as it did. -/
def coinsChangeSpec : ChangeSpec := { name := "coinsChange", fn := fun _ => fun
  | [d1, d2, d3] => { results := [.lit (.bool true)], args := [d1, d2, d3] }
  | _ => none }
def coinsChangeRow : OpenClaim := { program := "ytndiaamoapidoaa", sum := "e6ecb383353fe6b4c2322d20bef8094174a5e7f6f7d454ca426ffaa47b59c31d", func := "moidore/moidorelaw50.CoinsChange", spec := "coinsChange", recurses := true, apart := false }
def CoinsChangeSaid : Prop := coinsChangeRow.holds Try.pinned (OpenSpec.ofChange coinsChangeSpec)

/-- ITS FALSE NEIGHBOUR: 'it returns false'. Refute it at one input. -/
def coinsChangeWrong : ChangeSpec := { name := "coinsChange", fn := fun _ => fun
  | [d1, d2, d3] => { results := [.lit (.bool false)], args := [d1, d2, d3] }
  | _ => none }
def CoinsChangeWrongFalsely : Prop := coinsChangeRow.holds Try.pinned (OpenSpec.ofChange coinsChangeWrong)

/-- 'moidorelaw50.CoinsPays': WHATEVER THE INPUT: true; the input reads as it did. -/
def coinsPaysSpec : ChangeSpec := { name := "coinsPays", fn := fun _ => fun
  | [d1, d2, d3] => { results := [.lit (.bool true)], args := [d1, d2, d3] }
  | _ => none }
def coinsPaysRow : OpenClaim := { program := "ytndiaamoapidoaa", sum := "e6ecb383353fe6b4c2322d20bef8094174a5e7f6f7d454ca426ffaa47b59c31d", func := "moidore/moidorelaw50.CoinsPays", spec := "coinsPays", recurses := true, apart := false }
def CoinsPaysSaid : Prop := coinsPaysRow.holds Try.pinned (OpenSpec.ofChange coinsPaysSpec)

/-- ITS FALSE NEIGHBOUR: 'it returns false'. Refute it at one input. -/
def coinsPaysWrong : ChangeSpec := { name := "coinsPays", fn := fun _ => fun
  | [d1, d2, d3] => { results := [.lit (.bool false)], args := [d1, d2, d3] }
  | _ => none }
def CoinsPaysWrongFalsely : Prop := coinsPaysRow.holds Try.pinned (OpenSpec.ofChange coinsPaysWrong)

/- THE SECOND FORM. 'bulk': how many values and letters a reading holds, each counted each time it is reached (what is shared counts as often as it is met; a slice's spare places count too). A statement '..UptoSaid' is the law's where the arguments, and the package variables that the reading takes, are together of bulk at most 1048576: NARROWER than '..Said'. Prove '..Said' where nothing that the law and all that it calls make is longer than what came in: it says more and counts as full. Else prove '..UptoSaid'. A law counts once. -/
mutual
def uptoBulk {H : Type} : DataW H → Nat
  | .lit (.string bytes) => bytes.length + 1
  | .lit _ => 1
  | .nil => 1
  | .ptr d => uptoBulk d + 1
  | .slice elems spare => uptoBulkAll elems + uptoBulkAll spare + 1
  | .agg parts => uptoBulkAll parts + 1
  | .iface _ d => uptoBulk d + 1
  | .map entries => uptoBulkEntries entries + 1
  | .held _ => 1
def uptoBulkAll {H : Type} : List (DataW H) → Nat
  | [] => 0
  | d :: r => uptoBulk d + uptoBulkAll r
def uptoBulkEntries {H : Type} : List (Lit × DataW H) → Nat
  | [] => 0
  | x :: r => uptoBulkEntry x + uptoBulkEntries r
def uptoBulkEntry {H : Type} : Lit × DataW H → Nat
  | (.string bytes, d) => bytes.length + uptoBulk d + 1
  | (_, d) => uptoBulk d + 1
 end
def uptoSmall : (H : Type) → List (DataW H) → Bool := fun _ ds => decide (uptoBulkAll ds ≤ 1048576)
def OpenSpec.upto (s : _root_.Go.ChangeSpec) : _root_.Go.OpenSpec := { _root_.Go.OpenSpec.ofChange s with cond := some uptoSmall }

/-- 'moidorelaw50.CoinsSelect', WHERE WHAT IT READS IS OF BULK AT MOST 1048576: true; the input reads as it did. -/
def coinsSelectUptoRow : OpenClaim := { program := "ytndiaamoapidoaa", sum := "e6ecb383353fe6b4c2322d20bef8094174a5e7f6f7d454ca426ffaa47b59c31d", func := "moidore/moidorelaw50.CoinsSelect", spec := "coinsSelect", recurses := true, apart := false, narrowed := true }
def CoinsSelectUptoSaid : Prop := coinsSelectUptoRow.holds Try.pinned (OpenSpec.upto coinsSelectSpec)

/-- 'moidorelaw50.CoinsGood', WHERE WHAT IT READS IS OF BULK AT MOST 1048576: true; the input reads as it did. -/
def coinsGoodUptoRow : OpenClaim := { program := "ytndiaamoapidoaa", sum := "e6ecb383353fe6b4c2322d20bef8094174a5e7f6f7d454ca426ffaa47b59c31d", func := "moidore/moidorelaw50.CoinsGood", spec := "coinsGood", recurses := true, apart := false, narrowed := true }
def CoinsGoodUptoSaid : Prop := coinsGoodUptoRow.holds Try.pinned (OpenSpec.upto coinsGoodSpec)

/-- 'moidorelaw50.CoinsOrder', WHERE WHAT IT READS IS OF BULK AT MOST 1048576: true; the input reads as it did. -/
def coinsOrderUptoRow : OpenClaim := { program := "ytndiaamoapidoaa", sum := "e6ecb383353fe6b4c2322d20bef8094174a5e7f6f7d454ca426ffaa47b59c31d", func := "moidore/moidorelaw50.CoinsOrder", spec := "coinsOrder", recurses := true, apart := false, narrowed := true }
def CoinsOrderUptoSaid : Prop := coinsOrderUptoRow.holds Try.pinned (OpenSpec.upto coinsOrderSpec)

/-- 'moidorelaw50.CoinsMore', WHERE WHAT IT READS IS OF BULK AT MOST 1048576: true; the input reads as it did. -/
def coinsMoreUptoRow : OpenClaim := { program := "ytndiaamoapidoaa", sum := "e6ecb383353fe6b4c2322d20bef8094174a5e7f6f7d454ca426ffaa47b59c31d", func := "moidore/moidorelaw50.CoinsMore", spec := "coinsMore", recurses := true, apart := false, narrowed := true }
def CoinsMoreUptoSaid : Prop := coinsMoreUptoRow.holds Try.pinned (OpenSpec.upto coinsMoreSpec)

/-- 'moidorelaw50.CoinsLeast', WHERE WHAT IT READS IS OF BULK AT MOST 1048576: true; the input reads as it did. -/
def coinsLeastUptoRow : OpenClaim := { program := "ytndiaamoapidoaa", sum := "e6ecb383353fe6b4c2322d20bef8094174a5e7f6f7d454ca426ffaa47b59c31d", func := "moidore/moidorelaw50.CoinsLeast", spec := "coinsLeast", recurses := true, apart := false, narrowed := true }
def CoinsLeastUptoSaid : Prop := coinsLeastUptoRow.holds Try.pinned (OpenSpec.upto coinsLeastSpec)

/-- 'moidorelaw50.CoinsChange', WHERE WHAT IT READS IS OF BULK AT MOST 1048576: true; the input reads as it did. -/
def coinsChangeUptoRow : OpenClaim := { program := "ytndiaamoapidoaa", sum := "e6ecb383353fe6b4c2322d20bef8094174a5e7f6f7d454ca426ffaa47b59c31d", func := "moidore/moidorelaw50.CoinsChange", spec := "coinsChange", recurses := true, apart := false, narrowed := true }
def CoinsChangeUptoSaid : Prop := coinsChangeUptoRow.holds Try.pinned (OpenSpec.upto coinsChangeSpec)

/-- 'moidorelaw50.CoinsPays', WHERE WHAT IT READS IS OF BULK AT MOST 1048576: true; the input reads as it did. -/
def coinsPaysUptoRow : OpenClaim := { program := "ytndiaamoapidoaa", sum := "e6ecb383353fe6b4c2322d20bef8094174a5e7f6f7d454ca426ffaa47b59c31d", func := "moidore/moidorelaw50.CoinsPays", spec := "coinsPays", recurses := true, apart := false, narrowed := true }
def CoinsPaysUptoSaid : Prop := coinsPaysUptoRow.holds Try.pinned (OpenSpec.upto coinsPaysSpec)

end Rows
end Go.Proofs.Ytndiaamoapidoaa
