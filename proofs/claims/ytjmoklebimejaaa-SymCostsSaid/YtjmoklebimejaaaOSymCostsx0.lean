import Derived.Test.YtjmoklebimejaaaProg
import Derived.Below
import Derived.Deep.Draws
import Derived.Deep.AppendLies
import Derived.Maps.AppendAt
import Derived.OwnWalk
import Derived.Laws.BytesArg
import Derived.Laws.MakeOwn
import Derived.Laws.OwnMore
import Derived.Deep.OwnRows
import Derived.Tactics
import Derived.Lib.ConvBytes
import Derived.Laws.Slices
import Derived.WalkKit
import Derived.KernelRfl
import Derived.RowKit3
import Derived.Deep.LoopGhost
import Derived.Deep.QuietTactic
import Derived.BigQuiet
import Derived.WideLaws
import Derived.Deep.DeepCutAuto
import Derived.Deep.CutBlock
import Derived.Deep.RegionHeld3
import Derived.Laws.Rows
import Derived.Lib.AppendStr
import Derived.ArgAppend
import Derived.Laws.IdiomCopy
import Derived.OrdersHeld
import Derived.Laws.BitsLemmas
import Derived.RowKit
import Derived.Test.YtjmoklebimejaaaWWords
import Derived.Test.YtjmoklebimejaaaWLast
import Derived.Test.YtjmoklebimejaaaWTab
import Derived.Test.YtjmoklebimejaaaWFour
import Derived.Test.YtjmoklebimejaaaWQPut
import Derived.Test.YtjmoklebimejaaaWApart
import Derived.Test.YtjmoklebimejaaaWArr
import Derived.Test.YtjmoklebimejaaaWZeros
import Derived.Test.YtjmoklebimejaaaWFoot
import Derived.Test.YtjmoklebimejaaaWKept
import Derived.Test.YtjmoklebimejaaaWShare
import Derived.Test.YtjmoklebimejaaaWN
import Derived.Test.YtjmoklebimejaaaWFootNe
import Derived.Test.YtjmoklebimejaaaWAt
import Derived.Test.YtjmoklebimejaaaWEqStruct
import Derived.Test.YtjmoklebimejaaaWRepsOne
import Derived.Test.YtjmoklebimejaaaWInv
import Derived.Test.YtjmoklebimejaaaWInvWords
import Derived.Test.YtjmoklebimejaaaWGuard
import Derived.Test.YtjmoklebimejaaaWNEv
import Derived.Test.YtjmoklebimejaaaWMore
namespace Go.Proofs.Ytjmoklebimejaaa.OSymCosts
open Go.RowKit Go.Proofs.YtjmoklebimejaaaW.PrintWords Go.Proofs.YtjmoklebimejaaaW.PrintLast Go.Proofs.YtjmoklebimejaaaW.PrintMore
attribute [local go_sem] max2_int min2_int max_two min_two max_three min_three max_four min_four   -- for this text's walks alone
set_option linter.unusedVariables false
set_option linter.unusedSimpArgs false



def errW : Option Int → Value
  | none => .nilIface
  | some c => .iface 0 (.int .i64 c)
theorem errW_none : errW none = .nilIface := rfl
theorem errW_some (c : Int) : errW (some c) = .iface 0 (.int .i64 c) := rfl

-- the values' own types

end Go.Proofs.Ytjmoklebimejaaa.OSymCosts
