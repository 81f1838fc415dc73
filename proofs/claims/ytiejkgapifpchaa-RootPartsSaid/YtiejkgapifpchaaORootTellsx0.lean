import Derived.Test.YtiejkgapifpchaaProg
import Derived.Below
import Derived.Deep.Draws
import Derived.Deep.AppendLies
import Derived.Maps.AppendAt
import Derived.OwnWalk
import Derived.Laws.BytesArg
import Derived.Laws.MakeOwn
import Derived.Laws.OwnMore
import Derived.Deep.OwnRows
import Derived.Tactics
import Derived.Lib.ConvBytes
import Derived.Laws.Slices
import Derived.WalkKit
import Derived.KernelRfl
import Derived.RowKit3
import Derived.Deep.LoopGhost
import Derived.Deep.QuietTactic
import Derived.BigQuiet
import Derived.WideLaws
import Derived.Deep.DeepCutAuto
import Derived.Deep.CutBlock
import Derived.Deep.RegionHeld3
import Derived.Laws.Rows
import Derived.Lib.AppendStr
import Derived.ArgAppend
import Derived.Laws.IdiomCopy
import Derived.OrdersHeld
import Derived.Laws.BitsLemmas
import Derived.RowKit
import Derived.Test.YtiejkgapifpchaaWWords
import Derived.Test.YtiejkgapifpchaaWLast
import Derived.Test.YtiejkgapifpchaaWTab
import Derived.Test.YtiejkgapifpchaaWFour
import Derived.Test.YtiejkgapifpchaaWQPut
import Derived.Test.YtiejkgapifpchaaWApart
import Derived.Test.YtiejkgapifpchaaWArr
import Derived.Test.YtiejkgapifpchaaWZeros
import Derived.Test.YtiejkgapifpchaaWFoot
import Derived.Test.YtiejkgapifpchaaWKept
import Derived.Test.YtiejkgapifpchaaWShare
import Derived.Test.YtiejkgapifpchaaWN
import Derived.Test.YtiejkgapifpchaaWFootNe
import Derived.Test.YtiejkgapifpchaaWAt
import Derived.Test.YtiejkgapifpchaaWEqStruct
import Derived.Test.YtiejkgapifpchaaWRepsOne
import Derived.Test.YtiejkgapifpchaaWInv
import Derived.Test.YtiejkgapifpchaaWInvWords
import Derived.Test.YtiejkgapifpchaaWGuard
import Derived.Test.YtiejkgapifpchaaWNEv
import Derived.Test.YtiejkgapifpchaaWMore
namespace Go.Proofs.Ytiejkgapifpchaa.ORootTells
open Go.RowKit Go.Proofs.YtiejkgapifpchaaW.PrintWords Go.Proofs.YtiejkgapifpchaaW.PrintLast Go.Proofs.YtiejkgapifpchaaW.PrintMore
attribute [local go_sem] max2_int min2_int max_two min_two max_three min_three max_four min_four   -- for this text's walks alone
set_option linter.unusedVariables false
set_option linter.unusedSimpArgs false



def errW : Option Int → Value
  | none => .nilIface
  | some c => .iface 0 (.int .i64 c)
theorem errW_none : errW none = .nilIface := rfl
theorem errW_some (c : Int) : errW (some c) = .iface 0 (.int .i64 c) := rfl

theorem info21 : (Try.prog.info? 21).map (fun i => (i.zero, i.size, i.bytes)) = some (some (.int .i32 0), 1, 4) := by kernel_rfl
-- the values' own types

end Go.Proofs.Ytiejkgapifpchaa.ORootTells
