-- PRINTED BY print.sh 35421559b90ae4d0a3588c463048766b98c2df88dd9212a6774a882060cdf62d: not written by this session
import Derived.Test.YtcobbiapgihefaaProg
import Derived.Below
import Derived.Deep.Draws
import Derived.Deep.AppendLies
import Derived.Maps.AppendAt
import Derived.OwnWalk
import Derived.Laws.BytesArg
import Derived.Laws.MakeOwn
import Derived.Laws.OwnMore
import Derived.Deep.OwnRows
import Derived.Tactics
import Derived.Lib.ConvBytes
import Derived.Laws.Slices
import Derived.WalkKit
import Derived.KernelRfl
import Derived.RowKit3
import Derived.Deep.LoopGhost
import Derived.Deep.QuietTactic
import Derived.BigQuiet
import Derived.WideLaws
import Derived.Deep.DeepCutAuto
import Derived.Deep.CutBlock
import Derived.Deep.RegionHeld3
import Derived.Laws.Rows
import Derived.Lib.AppendStr
import Derived.ArgAppend
import Derived.Laws.IdiomCopy
import Derived.OrdersHeld
import Derived.Laws.BitsLemmas
import Derived.RowKit
import Derived.Test.YtcobbiapgihefaaWWords
import Derived.Test.YtcobbiapgihefaaWLast
import Derived.Test.YtcobbiapgihefaaWTab
import Derived.Test.YtcobbiapgihefaaWFour
import Derived.Test.YtcobbiapgihefaaWQPut
import Derived.Test.YtcobbiapgihefaaWApart
import Derived.Test.YtcobbiapgihefaaWArr
import Derived.Test.YtcobbiapgihefaaWZeros
import Derived.Test.YtcobbiapgihefaaWFoot
import Derived.Test.YtcobbiapgihefaaWKept
import Derived.Test.YtcobbiapgihefaaWShare
import Derived.Test.YtcobbiapgihefaaWN
import Derived.Test.YtcobbiapgihefaaWFootNe
import Derived.Test.YtcobbiapgihefaaWAt
import Derived.Test.YtcobbiapgihefaaWEqStruct
import Derived.Test.YtcobbiapgihefaaWRepsOne
import Derived.Test.YtcobbiapgihefaaWInv
import Derived.Test.YtcobbiapgihefaaWInvWords
import Derived.Test.YtcobbiapgihefaaWGuard
import Derived.Test.YtcobbiapgihefaaWNEv
import Derived.Test.YtcobbiapgihefaaWMore
namespace Go.Proofs.Ytcobbiapgihefaa.PWriterPlays
open Go.RowKit Go.Proofs.YtcobbiapgihefaaW.PrintWords Go.Proofs.YtcobbiapgihefaaW.PrintLast Go.Proofs.YtcobbiapgihefaaW.PrintMore
attribute [local go_sem] max2_int min2_int max_two min_two max_three min_three max_four min_four   -- for this text's walks alone
set_option linter.unusedVariables false
set_option linter.unusedSimpArgs false



def errW : Option Int → Value
  | none => .nilIface
  | some c => .iface 0 (.int .i64 c)
theorem errW_none : errW none = .nilIface := rfl
theorem errW_some (c : Int) : errW (some c) = .iface 0 (.int .i64 c) := rfl

theorem info3 : (Try.prog.info? 3).map (fun i => (i.zero, i.size, i.bytes)) = some (some (.int .i64 0), 1, 8) := by kernel_rfl
-- the values' own types

end Go.Proofs.Ytcobbiapgihefaa.PWriterPlays
