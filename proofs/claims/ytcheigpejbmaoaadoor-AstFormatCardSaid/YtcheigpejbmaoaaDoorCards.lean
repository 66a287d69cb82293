/-
  DERIVED. GIVEN WITH THE SEED: THE CARDS: each row of YtcheigpejbmaoaaDoorRows.lean that lists a variable, with what it lists TIED to the program's text (the seventh form; the later family's looks); each row that meets fmt, with fmt's text TOLD by the authors' own Lean function (tested against real Go, not proved from fmt's source: count such statements apart). THE CARD IS WHAT COUNTS. Prove the row's statement (the work); the ties are given (YtcheigpejbmaoaaDoorTie.lean); close each card by the builder's one call (the guide's Derived/Test/ToyasCard.lean, 'card_holds'). Laid BY PROGRAM, IN A SANDBOX (cutbox-door.mjs). By AI agents, Wed Nov 11 2026. No macro, syntax, notation, axiom, sorry.
-/
import Derived.Test.YtcheigpejbmaoaaDoorRows
import GoSem.ClaimSeven
namespace Go.Proofs.YtcheigpejbmaoaaDoor
namespace Rows

/-- THE TIED CARD OF 'moidorelaw15.AstEqual'. -/
def astEqualCard : Claim7 := { stood := { row := astEqualRow, standIns := [], harness := (true, "2c9baa84c2f4185ab72454aa6864ef7be2edf16778d780370c6f164276810359"), looks := false }, kinds := [], alts := [], laidByText := true, laidKinds := [.data, .data, .data], laidTests := true, laidLooks := .later }
def AstEqualCardSaid : Prop := Claim7.holds Tryd.pinned (.plain (OpenSpec.ofChange astEqualSpec)) astEqualCard

/-- THE TIED CARD OF 'moidorelaw15.AstValid'. -/
def astValidCard : Claim7 := { stood := { row := astValidRow, standIns := [], harness := (true, "2c9baa84c2f4185ab72454aa6864ef7be2edf16778d780370c6f164276810359"), looks := false }, kinds := [], alts := [], laidByText := true, laidKinds := [.data, .data, .data], laidTests := true, laidLooks := .later }
def AstValidCardSaid : Prop := Claim7.holds Tryd.pinned (.plain (OpenSpec.ofChange astValidSpec)) astValidCard

/-- THE TIED CARD OF 'moidorelaw15.AstType'. -/
def astTypeCard : Claim7 := { stood := { row := astTypeRow, standIns := [], harness := (true, "2c9baa84c2f4185ab72454aa6864ef7be2edf16778d780370c6f164276810359"), looks := false }, kinds := [], alts := [], laidByText := true, laidKinds := [.data, .data, .data], laidTests := true, laidLooks := .later }
def AstTypeCardSaid : Prop := Claim7.holds Tryd.pinned (.plain (OpenSpec.ofChange astTypeSpec)) astTypeCard

/-- THE TIED CARD OF 'moidorelaw15.AstFormat'. -/
def astFormatCard : Claim7 := { stood := { row := astFormatRow, standIns := [], harness := (true, "2c9baa84c2f4185ab72454aa6864ef7be2edf16778d780370c6f164276810359"), looks := false }, kinds := [], alts := [], laidByText := true, laidKinds := [.data, .data, .data], laidTests := true, laidLooks := .later }
def AstFormatCardSaid : Prop := Claim7.holds Tryd.pinned (.plain (OpenSpec.ofChange astFormatSpec)) astFormatCard

/-- THE TIED CARD OF 'moidorelaw15.AstInjective'. -/
def astInjectiveCard : Claim7 := { stood := { row := astInjectiveRow, standIns := [], harness := (true, "2c9baa84c2f4185ab72454aa6864ef7be2edf16778d780370c6f164276810359"), looks := false }, kinds := [], alts := [], laidByText := true, laidKinds := [.data, .data, .data], laidTests := true, laidLooks := .later }
def AstInjectiveCardSaid : Prop := Claim7.holds Tryd.pinned (.plain (OpenSpec.ofChange astInjectiveSpec)) astInjectiveCard

/-- THE SECOND FORM's CARD OF 'moidorelaw15.AstEqual'. -/
def astEqualUptoCard : Claim7 := { stood := { row := astEqualUptoRow, standIns := [], harness := (true, "2c9baa84c2f4185ab72454aa6864ef7be2edf16778d780370c6f164276810359"), looks := false }, kinds := [], alts := [], laidByText := true, laidKinds := [.data, .data, .data], laidTests := true, laidLooks := .later }
def AstEqualUptoCardSaid : Prop := Claim7.holds Tryd.pinned (.plain (OpenSpec.upto astEqualSpec)) astEqualUptoCard

/-- THE SECOND FORM's CARD OF 'moidorelaw15.AstValid'. -/
def astValidUptoCard : Claim7 := { stood := { row := astValidUptoRow, standIns := [], harness := (true, "2c9baa84c2f4185ab72454aa6864ef7be2edf16778d780370c6f164276810359"), looks := false }, kinds := [], alts := [], laidByText := true, laidKinds := [.data, .data, .data], laidTests := true, laidLooks := .later }
def AstValidUptoCardSaid : Prop := Claim7.holds Tryd.pinned (.plain (OpenSpec.upto astValidSpec)) astValidUptoCard

/-- THE SECOND FORM's CARD OF 'moidorelaw15.AstType'. -/
def astTypeUptoCard : Claim7 := { stood := { row := astTypeUptoRow, standIns := [], harness := (true, "2c9baa84c2f4185ab72454aa6864ef7be2edf16778d780370c6f164276810359"), looks := false }, kinds := [], alts := [], laidByText := true, laidKinds := [.data, .data, .data], laidTests := true, laidLooks := .later }
def AstTypeUptoCardSaid : Prop := Claim7.holds Tryd.pinned (.plain (OpenSpec.upto astTypeSpec)) astTypeUptoCard

/-- THE SECOND FORM's CARD OF 'moidorelaw15.AstFormat'. -/
def astFormatUptoCard : Claim7 := { stood := { row := astFormatUptoRow, standIns := [], harness := (true, "2c9baa84c2f4185ab72454aa6864ef7be2edf16778d780370c6f164276810359"), looks := false }, kinds := [], alts := [], laidByText := true, laidKinds := [.data, .data, .data], laidTests := true, laidLooks := .later }
def AstFormatUptoCardSaid : Prop := Claim7.holds Tryd.pinned (.plain (OpenSpec.upto astFormatSpec)) astFormatUptoCard

/-- THE SECOND FORM's CARD OF 'moidorelaw15.AstInjective'. -/
def astInjectiveUptoCard : Claim7 := { stood := { row := astInjectiveUptoRow, standIns := [], harness := (true, "2c9baa84c2f4185ab72454aa6864ef7be2edf16778d780370c6f164276810359"), looks := false }, kinds := [], alts := [], laidByText := true, laidKinds := [.data, .data, .data], laidTests := true, laidLooks := .later }
def AstInjectiveUptoCardSaid : Prop := Claim7.holds Tryd.pinned (.plain (OpenSpec.upto astInjectiveSpec)) astInjectiveUptoCard
end Rows
end Go.Proofs.YtcheigpejbmaoaaDoor
