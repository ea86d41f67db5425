/- The walks of sum.Neg, sum.Compare. -/
import Derived.Test.YtiancppdcfahaaaDoorNumE
namespace Go.Proofs.YtiancppdcfahaaaDoor
open Go.RowKit

/-- A decimal, 0 for one that may not be. -/
def cM (M S : Int) : Int := if goodB M S then M else 0
def cS (M S : Int) : Int := if goodB M S then S else 0
theorem cS_range (M S : Int) : 0 ≤ cS M S ∧ cS M S ≤ 18 := by
  unfold cS goodB
  split
  · rename_i h; simp at h; omega
  · omega
theorem cM_range (M S : Int) (h : I64 M) : -9223372036854775807 ≤ cM M S ∧ cM M S ≤ 9223372036854775807 := by
  unfold I64 at h
  unfold cM goodB
  split
  · rename_i h; simp at h; omega
  · omega

end Go.Proofs.YtiancppdcfahaaaDoor
