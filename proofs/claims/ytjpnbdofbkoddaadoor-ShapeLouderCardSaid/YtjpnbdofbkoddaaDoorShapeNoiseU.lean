import Derived.Test.YtjpnbdofbkoddaaDoorShapeScalesU
import Derived.Test.YtjpnbdofbkoddaaDoorNoisePlainU
namespace Go.Proofs.YtjpnbdofbkoddaaDoor.Shape
open Go.RowKit Go.Proofs.YtjpnbdofbkoddaaDoorW.PrintWords Go.Proofs.YtjpnbdofbkoddaaDoorW.PrintLast Go.Proofs.YtjpnbdofbkoddaaDoorW.PrintMore
open Go.Proofs.YtjpnbdofbkoddaaDoor.ShapePlain (I32)
open Go.Proofs.YtjpnbdofbkoddaaDoor.NoisePlain (hd nz fo U32)
set_option linter.unusedVariables false
set_option linter.unusedSimpArgs false
end Go.Proofs.YtjpnbdofbkoddaaDoor.Shape

