/- The walks of stamp.Ms, Of, Seconds. -/
import Derived.Test.YtiancppdcfahaaaDoorStampA
namespace Go.Proofs.YtiancppdcfahaaaDoor
open Go.RowKit

/-- Whether so many of a unit are a time, and which. -/
def msOk (n L P : Int) : Bool := decide (n.tmod P = 0 ∧ (n.tdiv P ≤ (1125899906842624 : Int).tdiv L ∧ (-1125899906842624 : Int).tdiv L ≤ n.tdiv P))
def msV (n L P : Int) : Int := if msOk n L P then n.tdiv P * L else 0
/-- Whether a time is so many of a unit, and how many. -/
def ofOk (n L P : Int) : Bool := decide (timeB n = true ∧ n.tmod L = 0 ∧ (n.tdiv L ≤ (9223372036854775807 : Int).tdiv P ∧ (-9223372036854775808 : Int).tdiv P ≤ n.tdiv L))
def ofV (n L P : Int) : Int := if ofOk n L P then n.tdiv L * P else 0
theorem tdiv_range (n : Int) (P : Int) (hP : 1 ≤ P) (h : I64 n) : I64 (n.tdiv P) := by
  have h1 : (n.tdiv P).natAbs ≤ n.natAbs := by rw [Int.natAbs_tdiv]; exact Nat.div_le_self _ _
  unfold I64 at *
  by_cases h0 : 0 ≤ n
  · have := Int.tdiv_nonneg h0 (by omega : 0 ≤ P); omega
  · have h2 : n.tdiv P ≤ 0 := by
      have := Int.tdiv_nonneg (a := -n) (b := P) (by omega) (by omega)
      rw [Int.neg_tdiv] at this; omega
    omega

end Go.Proofs.YtiancppdcfahaaaDoor
