/- math/bits: Mul64, LeadingZeros64, Len64 off the shelf (laid in plain words by the shelf's own tool); Add64, Sub64, Div64 by ten. -/
import Derived.Shelf.Small.Bits
import Derived.Shelf.Strconv.Itoa0
import Derived.Shelf.Bits.Mul64
import Derived.Shelf.Spec.BitsCarry
import Derived.Test.YtiancppdcfahaaaDoorBase
namespace Go.Proofs.YtiancppdcfahaaaDoor
open Go.Shelf Go.RowKit
open Go.RowKit Go.Lib in
/-- 2^64. -/
def W64 : Nat := 18446744073709551616

end Go.Proofs.YtiancppdcfahaaaDoor
