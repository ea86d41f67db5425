/- The walk of sum.wide's compare. -/
import Derived.Test.YtiancppdcfahaaaDoorWideB
namespace Go.Proofs.YtiancppdcfahaaaDoor
open Go.RowKit

/-- What compare tells of two numbers. -/
def cmpN (A B : Nat) : Int := if A < B then -1 else if A > B then 1 else 0
theorem cmpN_lt {A B : Nat} (h : A < B) : cmpN A B = -1 := if_pos h
theorem cmpN_gt {A B : Nat} (h : A > B) : cmpN A B = 1 := by unfold cmpN; rw [if_neg (by omega), if_pos h]
theorem cmpN_eq (A : Nat) : cmpN A A = 0 := by unfold cmpN; rw [if_neg (by omega), if_neg (by omega)]

end Go.Proofs.YtiancppdcfahaaaDoor
