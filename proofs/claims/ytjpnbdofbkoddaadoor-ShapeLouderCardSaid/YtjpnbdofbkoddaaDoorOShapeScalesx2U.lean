import Derived.Test.YtjpnbdofbkoddaaDoorOShapeScalesx0U
import Derived.Test.YtjpnbdofbkoddaaDoorOShapeScalesx1U
import Derived.Test.YtjpnbdofbkoddaaDoorMathU
namespace Go.Proofs.YtjpnbdofbkoddaaDoor.OShapeScales
open Go.RowKit Go.Proofs.YtjpnbdofbkoddaaDoorW.PrintWords Go.Proofs.YtjpnbdofbkoddaaDoorW.PrintLast Go.Proofs.YtjpnbdofbkoddaaDoorW.PrintMore
attribute [local go_sem] max2_int min2_int max_two min_two max_three min_three max_four min_four   -- for this text's walks alone
set_option linter.unusedVariables false
set_option linter.unusedSimpArgs false

def ptv (x g L : Int) : Int := if L = 0 ∨ 4611686018427387904 < L then 0 else Int.tdiv (x * min (max g (-1073741824)) 1073741824) L
end Go.Proofs.YtjpnbdofbkoddaaDoor.OShapeScales

