import Derived.Test.YtcmkejlkcfhklaaProg
import Derived.Below
import Derived.Deep.Draws
import Derived.Deep.AppendLies
import Derived.Maps.AppendAt
import Derived.OwnWalk
import Derived.Laws.BytesArg
import Derived.Laws.MakeOwn
import Derived.Laws.OwnMore
import Derived.Deep.OwnRows
import Derived.Tactics
import Derived.Lib.ConvBytes
import Derived.Laws.Slices
import Derived.WalkKit
import Derived.KernelRfl
import Derived.RowKit3
import Derived.Deep.LoopGhost
import Derived.Deep.QuietTactic
import Derived.BigQuiet
import Derived.WideLaws
import Derived.Deep.DeepCutAuto
import Derived.Deep.CutBlock
import Derived.Deep.RegionHeld3
import Derived.Laws.Rows
import Derived.Lib.AppendStr
import Derived.ArgAppend
import Derived.Laws.IdiomCopy
import Derived.OrdersHeld
import Derived.Laws.BitsLemmas
import Derived.RowKit
import Derived.Test.YtcmkejlkcfhklaaWWords
import Derived.Test.YtcmkejlkcfhklaaWLast
import Derived.Test.YtcmkejlkcfhklaaWTab
import Derived.Test.YtcmkejlkcfhklaaWFour
import Derived.Test.YtcmkejlkcfhklaaWQPut
import Derived.Test.YtcmkejlkcfhklaaWApart
import Derived.Test.YtcmkejlkcfhklaaWArr
import Derived.Test.YtcmkejlkcfhklaaWZeros
import Derived.Test.YtcmkejlkcfhklaaWFoot
import Derived.Test.YtcmkejlkcfhklaaWKept
import Derived.Test.YtcmkejlkcfhklaaWShare
import Derived.Test.YtcmkejlkcfhklaaWN
import Derived.Test.YtcmkejlkcfhklaaWFootNe
import Derived.Test.YtcmkejlkcfhklaaWAt
import Derived.Test.YtcmkejlkcfhklaaWEqStruct
import Derived.Test.YtcmkejlkcfhklaaWRepsOne
import Derived.Test.YtcmkejlkcfhklaaWInv
import Derived.Test.YtcmkejlkcfhklaaWInvWords
import Derived.Test.YtcmkejlkcfhklaaWGuard
import Derived.Test.YtcmkejlkcfhklaaWNEv
import Derived.Test.YtcmkejlkcfhklaaWMore
namespace Go.Proofs.Ytcmkejlkcfhklaa.OEmphWrites
open Go.RowKit Go.Proofs.YtcmkejlkcfhklaaW.PrintWords Go.Proofs.YtcmkejlkcfhklaaW.PrintLast Go.Proofs.YtcmkejlkcfhklaaW.PrintMore
attribute [local go_sem] max2_int min2_int max_two min_two max_three min_three max_four min_four   -- for this text's walks alone
set_option linter.unusedVariables false
set_option linter.unusedSimpArgs false



def errW : Option Int → Value
  | none => .nilIface
  | some c => .iface 0 (.int .i64 c)
theorem errW_none : errW none = .nilIface := rfl
theorem errW_some (c : Int) : errW (some c) = .iface 0 (.int .i64 c) := rfl

theorem info2 : (Try.prog.info? 2).map (fun i => (i.zero, i.size, i.bytes)) = some (some (.int .i64 0), 1, 8) := by kernel_rfl
theorem info21 : (Try.prog.info? 21).map (fun i => (i.zero, i.size, i.bytes)) = some (some (.int .i32 0), 1, 4) := by kernel_rfl
theorem info34 : (Try.prog.info? 34).map (fun i => (i.zero, i.size, i.bytes)) = some (some (.int .i16 0), 1, 2) := by kernel_rfl
-- the values' own types

end Go.Proofs.Ytcmkejlkcfhklaa.OEmphWrites
