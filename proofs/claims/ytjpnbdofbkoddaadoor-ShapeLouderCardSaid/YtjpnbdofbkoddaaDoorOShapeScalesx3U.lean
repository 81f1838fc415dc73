import Derived.Test.YtjpnbdofbkoddaaDoorOShapeScalesx0U
import Derived.Test.YtjpnbdofbkoddaaDoorOShapeScalesx2U
namespace Go.Proofs.YtjpnbdofbkoddaaDoor.OShapeScales
open Go.RowKit Go.Proofs.YtjpnbdofbkoddaaDoorW.PrintWords Go.Proofs.YtjpnbdofbkoddaaDoorW.PrintLast Go.Proofs.YtjpnbdofbkoddaaDoorW.PrintMore
attribute [local go_sem] max2_int min2_int max_two min_two max_three min_three max_four min_four   -- for this text's walks alone
set_option linter.unusedVariables false
set_option linter.unusedSimpArgs false

end Go.Proofs.YtjpnbdofbkoddaaDoor.OShapeScales

