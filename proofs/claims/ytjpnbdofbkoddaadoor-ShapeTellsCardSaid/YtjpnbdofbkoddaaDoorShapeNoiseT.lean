import Derived.Test.YtjpnbdofbkoddaaDoorShapeScalesT
import Derived.Test.YtjpnbdofbkoddaaDoorNoisePlainT
set_option linter.unusedVariables false
set_option linter.unusedSimpArgs false
namespace Go.Proofs.YtjpnbdofbkoddaaDoor.Shape
open Go.RowKit Go.Proofs.YtjpnbdofbkoddaaDoorW.PrintWords Go.Proofs.YtjpnbdofbkoddaaDoorW.PrintLast Go.Proofs.YtjpnbdofbkoddaaDoorW.PrintMore
open Go.Proofs.YtjpnbdofbkoddaaDoor.ShapePlain (I32)
open Go.Proofs.YtjpnbdofbkoddaaDoor.NoisePlain (hd nz fo U32)
end Go.Proofs.YtjpnbdofbkoddaaDoor.Shape
