import Derived.Test.YtjmoklebimejaaaDoorProg
import Derived.Below
import Derived.Deep.Draws
import Derived.Deep.AppendLies
import Derived.Maps.AppendAt
import Derived.OwnWalk
import Derived.Laws.BytesArg
import Derived.Laws.MakeOwn
import Derived.Laws.OwnMore
import Derived.Deep.OwnRows
import Derived.Tactics
import Derived.Lib.ConvBytes
import Derived.Laws.Slices
import Derived.WalkKit
import Derived.KernelRfl
import Derived.RowKit3
import Derived.Deep.LoopGhost
import Derived.Deep.QuietTactic
import Derived.BigQuiet
import Derived.WideLaws
import Derived.Deep.DeepCutAuto
import Derived.Deep.CutBlock
import Derived.Deep.RegionHeld3
import Derived.Laws.Rows
import Derived.Lib.AppendStr
import Derived.ArgAppend
import Derived.Laws.IdiomCopy
import Derived.OrdersHeld
import Derived.Laws.BitsLemmas
import Derived.RowKit
import Derived.Test.YtjmoklebimejaaaDoorWWords
import Derived.Test.YtjmoklebimejaaaDoorWLast
import Derived.Test.YtjmoklebimejaaaDoorWTab
import Derived.Test.YtjmoklebimejaaaDoorWFour
import Derived.Test.YtjmoklebimejaaaDoorWQPut
import Derived.Test.YtjmoklebimejaaaDoorWApart
import Derived.Test.YtjmoklebimejaaaDoorWArr
import Derived.Test.YtjmoklebimejaaaDoorWZeros
import Derived.Test.YtjmoklebimejaaaDoorWFoot
import Derived.Test.YtjmoklebimejaaaDoorWKept
import Derived.Test.YtjmoklebimejaaaDoorWShare
import Derived.Test.YtjmoklebimejaaaDoorWN
import Derived.Test.YtjmoklebimejaaaDoorWFootNe
import Derived.Test.YtjmoklebimejaaaDoorWAt
import Derived.Test.YtjmoklebimejaaaDoorWEqStruct
import Derived.Test.YtjmoklebimejaaaDoorWRepsOne
import Derived.Test.YtjmoklebimejaaaDoorWInv
import Derived.Test.YtjmoklebimejaaaDoorWInvWords
import Derived.Test.YtjmoklebimejaaaDoorWGuard
import Derived.Test.YtjmoklebimejaaaDoorWNEv
import Derived.Test.YtjmoklebimejaaaDoorWMore
namespace Go.Proofs.YtjmoklebimejaaaDoor.OSymReads
open Go.RowKit Go.Proofs.YtjmoklebimejaaaDoorW.PrintWords Go.Proofs.YtjmoklebimejaaaDoorW.PrintLast Go.Proofs.YtjmoklebimejaaaDoorW.PrintMore
attribute [local go_sem] max2_int min2_int max_two min_two max_three min_three max_four min_four   -- for this text's walks alone
set_option linter.unusedVariables false
set_option linter.unusedSimpArgs false



def errW : Option Int → Value
  | none => .nilIface
  | some c => .iface 0 (.int .i64 c)
theorem errW_none : errW none = .nilIface := rfl
theorem errW_some (c : Int) : errW (some c) = .iface 0 (.int .i64 c) := rfl

theorem info3 : (Tryd.prog.info? 3).map (fun i => (i.zero, i.size, i.bytes)) = some (some (.int .i64 0), 1, 8) := by kernel_rfl
-- the values' own types

end Go.Proofs.YtjmoklebimejaaaDoor.OSymReads
