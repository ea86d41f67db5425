/- The walk of sum.Scaled. -/
import Derived.Test.YtiancppdcfahaaaDoorNumI
namespace Go.Proofs.YtiancppdcfahaaaDoor
open Go.RowKit

/-- Whether a decimal may be told with so many digits. -/
def scIn (M S s : Int) : Bool := goodB M S && (decide (S ≤ s) && decide (s ≤ 18))
def scOk (M S s : Int) : Bool := scIn M S s && decOk (scN M S s) 0
def scM (M S s : Int) : Int := if scIn M S s then decMv (decide (M < 0)) (scN M S s) 0 else 0

end Go.Proofs.YtiancppdcfahaaaDoor
