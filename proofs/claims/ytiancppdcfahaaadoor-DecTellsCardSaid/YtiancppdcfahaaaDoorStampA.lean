/- The walks of stamp.isTime, unitOf, Ms, Of, Seconds. -/
import Derived.Test.YtiancppdcfahaaaDoorNumJ
namespace Go.Proofs.YtiancppdcfahaaaDoor
open Go.RowKit

/-- Whether milliseconds are a time. -/
def timeB (ms : Int) : Bool := decide (-1125899906842624 ≤ ms ∧ ms ≤ 1125899906842624)

/-- A unit as a value: how many milliseconds it is, how many of it are one. -/
def unitV (L P : Int) : Value := .agg #[.int .i64 L, .int .i64 P]
end Go.Proofs.YtiancppdcfahaaaDoor
