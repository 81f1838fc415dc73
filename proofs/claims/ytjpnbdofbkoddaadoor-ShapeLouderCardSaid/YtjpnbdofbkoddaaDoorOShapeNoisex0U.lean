import Derived.Test.YtjpnbdofbkoddaaDoorProg
import Derived.Below
import Derived.Deep.Draws
import Derived.Deep.AppendLies
import Derived.Maps.AppendAt
import Derived.OwnWalk
import Derived.Laws.BytesArg
import Derived.Laws.MakeOwn
import Derived.Laws.OwnMore
import Derived.Deep.OwnRows
import Derived.Tactics
import Derived.Lib.ConvBytes
import Derived.Laws.Slices
import Derived.WalkKit
import Derived.KernelRfl
import Derived.RowKit3
import Derived.Deep.LoopGhost
import Derived.Deep.QuietTactic
import Derived.BigQuiet
import Derived.WideLaws
import Derived.Deep.DeepCutAuto
import Derived.Deep.CutBlock
import Derived.Deep.RegionHeld3
import Derived.Laws.Rows
import Derived.Lib.AppendStr
import Derived.ArgAppend
import Derived.Laws.IdiomCopy
import Derived.OrdersHeld
import Derived.Laws.BitsLemmas
import Derived.RowKit
import Derived.Test.YtjpnbdofbkoddaaDoorWWordsU
import Derived.Test.YtjpnbdofbkoddaaDoorWLastU
import Derived.Test.YtjpnbdofbkoddaaDoorWTabU
import Derived.Test.YtjpnbdofbkoddaaDoorWFourU
import Derived.Test.YtjpnbdofbkoddaaDoorWQPutU
import Derived.Test.YtjpnbdofbkoddaaDoorWApartU
import Derived.Test.YtjpnbdofbkoddaaDoorWArrU
import Derived.Test.YtjpnbdofbkoddaaDoorWZerosU
import Derived.Test.YtjpnbdofbkoddaaDoorWFootU
import Derived.Test.YtjpnbdofbkoddaaDoorWKeptU
import Derived.Test.YtjpnbdofbkoddaaDoorWShareU
import Derived.Test.YtjpnbdofbkoddaaDoorWNU
import Derived.Test.YtjpnbdofbkoddaaDoorWFootNeU
import Derived.Test.YtjpnbdofbkoddaaDoorWAtU
import Derived.Test.YtjpnbdofbkoddaaDoorWEqStructU
import Derived.Test.YtjpnbdofbkoddaaDoorWRepsOneU
import Derived.Test.YtjpnbdofbkoddaaDoorWInvU
import Derived.Test.YtjpnbdofbkoddaaDoorWInvWordsU
import Derived.Test.YtjpnbdofbkoddaaDoorWGuardU
import Derived.Test.YtjpnbdofbkoddaaDoorWNEvU
import Derived.Test.YtjpnbdofbkoddaaDoorWMoreU
namespace Go.Proofs.YtjpnbdofbkoddaaDoor.OShapeNoise
open Go.RowKit Go.Proofs.YtjpnbdofbkoddaaDoorW.PrintWords Go.Proofs.YtjpnbdofbkoddaaDoorW.PrintLast Go.Proofs.YtjpnbdofbkoddaaDoorW.PrintMore
attribute [local go_sem] max2_int min2_int max_two min_two max_three min_three max_four min_four   -- for this text's walks alone
set_option linter.unusedVariables false
set_option linter.unusedSimpArgs false



def errW : Option Int → Value
  | none => .nilIface
  | some c => .iface 0 (.int .i64 c)
theorem errW_none : errW none = .nilIface := rfl
theorem errW_some (c : Int) : errW (some c) = .iface 0 (.int .i64 c) := rfl

theorem info21 : (Tryd.prog.info? 21).map (fun i => (i.zero, i.size, i.bytes)) = some (some (.int .i32 0), 1, 4) := by kernel_rfl
end Go.Proofs.YtjpnbdofbkoddaaDoor.OShapeNoise

