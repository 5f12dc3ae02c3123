/- How many bytes an instruction has: plain. No conditions. -/
import Derived.Test.YtmjbchhobgfajaaDoorPutN
namespace Go.Proofs.YtmjbchhobgfajaaDoor
open Go.RowKit

/-- How many bytes an instruction has. -/
def sizeN (m : Mach) : Int :=
  if shapeB m then
    let n : Int := 1 + ((regsOf m).length + 1) / 2
    if fieldOf m = 0 then n else if fieldOf m = 110 then n + 5 else if fieldOf m = 116 then n + 1 + 3 * m.args.length
    else n + (widthN ((fieldOf m).toNat : Int) (farOf m)).1
  else 0
end Go.Proofs.YtmjbchhobgfajaaDoor
