/- The walks of stamp.whole, Int, Uint. -/
import Derived.Test.YtiancppdcfahaaaDoorStampE
namespace Go.Proofs.YtiancppdcfahaaaDoor
open Go.RowKit

/-- The number of the digits that a list begins with; whether it is too great; what is behind them. -/
def wGo : List Nat → Nat → Bool → Nat × Bool × List Nat
  | [], n, o => (n, o, [])
  | d :: l, n, o => if 48 ≤ d ∧ d ≤ 57 then (if o || decide (n > (9223372036854775807 - (d - 48)) / 10) then wGo l n true else wGo l (n * 10 + (d - 48)) false) else (n, o, d :: l)
/-- Where a text's digits begin. -/
def wFrom (s : ByteArray) (signed : Bool) : Nat := if signed && minusB s then 1 else 0
/-- What whole tells. -/
def wholeV (s : ByteArray) (signed : Bool) : Int × Int × Int :=
  let r := wGo ((byL s).drop (wFrom s signed)) 0 false
  if s.size - r.2.2.length = wFrom s signed ∨ r.2.2 ≠ [] then (0, 11, ((s.size - r.2.2.length : Nat) : Int))
  else if r.2.1 then (0, 12, 0) else (if 0 < wFrom s signed then -(r.1 : Int) else (r.1 : Int), 0, 0)

theorem wFrom_le (s : ByteArray) (signed : Bool) : wFrom s signed ≤ s.size := by
  unfold wFrom minusB
  split
  · rename_i h
    by_cases h0 : s.size = 0
    · have : byL s = [] := List.eq_nil_of_length_eq_zero (by rw [byL_length]; exact h0)
      rw [this] at h
      simp at h
    · omega
  · omega

end Go.Proofs.YtiancppdcfahaaaDoor
