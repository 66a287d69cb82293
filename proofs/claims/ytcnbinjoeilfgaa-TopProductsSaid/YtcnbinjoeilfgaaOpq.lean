/- A byte, opened. -/
import Derived.Test.YtcnbinjoeilfgaaGS
namespace Go.Proofs.Ytcnbinjoeilfgaa
open Go.ChangeShapes Go.WideShapes Go.ChangeAt Go.RowKit
theorem nat8_of_wf {n : Int} (h : (Lit.int .u8 n).wf = true) : ∃ k : Nat, n = (k : Int) ∧ k < 256 := by
  have hb := bounds_u8 h
  exact ⟨n.toNat, by omega, by omega⟩
end Go.Proofs.Ytcnbinjoeilfgaa
