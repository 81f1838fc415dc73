import Derived.Test.YtjpnbdofbkoddaaDoorProg
import Derived.Below
import Derived.Deep.Draws
import Derived.Deep.AppendLies
import Derived.Maps.AppendAt
import Derived.OwnWalk
import Derived.Laws.BytesArg
import Derived.Laws.MakeOwn
import Derived.Laws.OwnMore
import Derived.Deep.OwnRows
import Derived.Tactics
import Derived.Lib.ConvBytes
import Derived.Laws.Slices
import Derived.WalkKit
import Derived.KernelRfl
import Derived.RowKit3
import Derived.Deep.LoopGhost
import Derived.Deep.QuietTactic
import Derived.BigQuiet
import Derived.WideLaws
import Derived.Deep.DeepCutAuto
import Derived.Deep.CutBlock
import Derived.Deep.RegionHeld3
import Derived.Laws.Rows
import Derived.Lib.AppendStr
import Derived.ArgAppend
import Derived.Laws.IdiomCopy
import Derived.OrdersHeld
import Derived.Laws.BitsLemmas
import Derived.RowKit
import Derived.Test.YtjpnbdofbkoddaaDoorWWordsT
import Derived.Test.YtjpnbdofbkoddaaDoorWLastT
import Derived.Test.YtjpnbdofbkoddaaDoorWTabT
import Derived.Test.YtjpnbdofbkoddaaDoorWFourT
import Derived.Test.YtjpnbdofbkoddaaDoorWQPutT
import Derived.Test.YtjpnbdofbkoddaaDoorWApartT
import Derived.Test.YtjpnbdofbkoddaaDoorWArrT
import Derived.Test.YtjpnbdofbkoddaaDoorWZerosT
import Derived.Test.YtjpnbdofbkoddaaDoorWFootT
import Derived.Test.YtjpnbdofbkoddaaDoorWKeptT
import Derived.Test.YtjpnbdofbkoddaaDoorWShareT
import Derived.Test.YtjpnbdofbkoddaaDoorWNT
import Derived.Test.YtjpnbdofbkoddaaDoorWFootNeT
import Derived.Test.YtjpnbdofbkoddaaDoorWAtT
import Derived.Test.YtjpnbdofbkoddaaDoorWEqStructT
import Derived.Test.YtjpnbdofbkoddaaDoorWRepsOneT
import Derived.Test.YtjpnbdofbkoddaaDoorWInvT
import Derived.Test.YtjpnbdofbkoddaaDoorWInvWordsT
import Derived.Test.YtjpnbdofbkoddaaDoorWGuardT
import Derived.Test.YtjpnbdofbkoddaaDoorWNEvT
import Derived.Test.YtjpnbdofbkoddaaDoorWMoreT
set_option linter.unusedVariables false
set_option linter.unusedSimpArgs false
namespace Go.Proofs.YtjpnbdofbkoddaaDoor.OShapeSeeds
open Go.RowKit Go.Proofs.YtjpnbdofbkoddaaDoorW.PrintWords Go.Proofs.YtjpnbdofbkoddaaDoorW.PrintLast Go.Proofs.YtjpnbdofbkoddaaDoorW.PrintMore
attribute [local go_sem] max2_int min2_int max_two min_two max_three min_three max_four min_four
def errW : Option Int → Value
 | none => .nilIface
 | some c => .iface 0 (.int .i64 c)
theorem errW_none : errW none = .nilIface := rfl
theorem errW_some (c : Int) : errW (some c) = .iface 0 (.int .i64 c) := rfl
theorem info3 : (Tryd.prog.info? 3).map (fun i => (i.zero, i.size, i.bytes)) = some (some (.int .i64 0), 1, 8) := by kernel_rfl
theorem info21 : (Tryd.prog.info? 21).map (fun i => (i.zero, i.size, i.bytes)) = some (some (.int .i32 0), 1, 4) := by kernel_rfl
end Go.Proofs.YtjpnbdofbkoddaaDoor.OShapeSeeds
