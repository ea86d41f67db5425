/- The walks of the document's decimal, Norm, and the statement's dot. -/
import Derived.Test.YtbkhdjbhijmghaaRefD
namespace Go.Proofs.Ytbkhdjbhijmghaa
open Go.RowKit

theorem strip_pos {N s : Nat} (h : 0 < N) : 0 < (strip N s).1 := by
  induction s generalizing N with
  | zero => exact h
  | succ s ih =>
    unfold strip
    split
    · exact ih (by omega)
    · exact h

/-- The statement's decimal of a number and its digits behind the point. -/
def dotM (m : Int) (s : Nat) : Int := decMv (decide (m < 0)) m.natAbs s
def dotS (m : Int) (s : Nat) : Int := decSv m.natAbs s

end Go.Proofs.Ytbkhdjbhijmghaa
