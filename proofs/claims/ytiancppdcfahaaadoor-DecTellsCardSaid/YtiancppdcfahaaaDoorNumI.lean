/- The walk of sum.Times. -/
import Derived.Test.YtiancppdcfahaaaDoorNumH
namespace Go.Proofs.YtiancppdcfahaaaDoor
open Go.RowKit

/-- The product of two decimals, as Times reckons it. -/
def mulOk (m1 s1 m2 s2 : Int) : Bool := goodB m1 s1 && (goodB m2 s2 && decOk (m1.natAbs * m2.natAbs) (s1 + s2).toNat)
def mulM (m1 s1 m2 s2 : Int) : Int := if goodB m1 s1 && goodB m2 s2 then decMv (decide (m1 < 0) != decide (m2 < 0)) (m1.natAbs * m2.natAbs) (s1 + s2).toNat else 0
def mulS (m1 s1 m2 s2 : Int) : Int := if goodB m1 s1 && goodB m2 s2 then decSv (m1.natAbs * m2.natAbs) (s1 + s2).toNat else 0

theorem good_range {M S : Int} (h : goodB M S = true) : 0 ≤ S ∧ S ≤ 18 ∧ M ≠ -9223372036854775808 := by unfold goodB at h; simp at h; omega

end Go.Proofs.YtiancppdcfahaaaDoor
