/- The walk of sum.Over where there is no quotient: one may not be, or the divisor is 0. -/
import Derived.Test.YtiancppdcfahaaaDoorNumK
namespace Go.Proofs.YtiancppdcfahaaaDoor
open Go.RowKit

end Go.Proofs.YtiancppdcfahaaaDoor
