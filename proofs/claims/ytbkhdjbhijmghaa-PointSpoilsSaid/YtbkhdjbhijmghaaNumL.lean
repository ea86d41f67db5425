/- The walk of sum.Over where there is no quotient: one may not be, or the divisor is 0. -/
import Derived.Test.YtbkhdjbhijmghaaNumK
namespace Go.Proofs.Ytbkhdjbhijmghaa
open Go.RowKit

end Go.Proofs.Ytbkhdjbhijmghaa
