/- The walk of the document's Parse. -/
import Derived.Test.YtiancppdcfahaaaDoorStampH
import Derived.Test.YtiancppdcfahaaaDoorDigTrim
import Derived.Deep.AppendLies
namespace Go.Proofs.YtiancppdcfahaaaDoor
open Go.RowKit

/-- Where a text's digits begin. -/
def pFrom (s : ByteArray) : Nat := if minusB s then 1 else 0
/-- The digits of a list of bytes. -/
def digitsOf (l : List Nat) : List Nat := (l.filter digB).map (fun c => c - 48)
/-- What Parse tells: the decimal; what is wrong; where. -/
def parseV (s : ByteArray) : (Int × Int) × Int × Int :=
  let f := pFrom s
  let p := f + runL ((byL s).drop f)
  if p = f then ((0, 0), 11, (f : Int))
  else if (byL s)[p]? = some 46 then
    let e := p + 1 + runL ((byL s).drop (p + 1))
    if e - p - 1 = 0 then ((0, 0), 11, (e : Int))
    else if e < s.size then ((0, 0), 11, (e : Int))
    else if decOk (valD (digitsOf ((byL s).drop f))) (e - p - 1) then ((decMv (f == 1) (valD (digitsOf ((byL s).drop f))) (e - p - 1), decSv (valD (digitsOf ((byL s).drop f))) (e - p - 1)), 0, 0)
    else ((0, 0), 12, 0)
  else if p < s.size then ((0, 0), 11, (p : Int))
  else if decOk (valD (digitsOf ((byL s).drop f))) 0 then ((decMv (f == 1) (valD (digitsOf ((byL s).drop f))) 0, decSv (valD (digitsOf ((byL s).drop f))) 0), 0, 0)
  else ((0, 0), 12, 0)

end Go.Proofs.YtiancppdcfahaaaDoor
