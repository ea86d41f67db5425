/- The walks of sum.wide's plus, minus, compare. -/
import Derived.Test.YtiancppdcfahaaaDoorWideA
import Derived.StillTailTactics
import Derived.Deep.AppendLies
namespace Go.Proofs.YtiancppdcfahaaaDoor
open Go.RowKit

theorem sub_split {a x k' : Nat} (ha : a < W64) (hx : x < W64) (hk : k' ≤ 1) : ∃ k s : Nat, a + k * W64 = s + x + k' ∧ s < W64 ∧ k ≤ 1 := by
  by_cases h : x + k' ≤ a
  · exact ⟨0, a - x - k', by omega, by omega, by omega⟩
  · exact ⟨1, a + W64 - x - k', by unfold W64 at *; omega, by unfold W64 at *; omega, by omega⟩

end Go.Proofs.YtiancppdcfahaaaDoor
