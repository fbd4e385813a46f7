-- Laid by a program of this session (wip/tpl/mine.sh), out of the program's form in Lean: Lean checks it.
import Derived.Test.YtcaohimipkoapaaProg
import Derived.Below
import Derived.Deep.Draws
import Derived.Deep.AppendLies
import Derived.Maps.AppendAt
import Derived.OwnWalk
import Derived.Laws.BytesArg
import Derived.Laws.MakeOwn
import Derived.Laws.OwnMore
import Derived.Deep.OwnRows
import Derived.Tactics
import Derived.Lib.ConvBytes
import Derived.Laws.Slices
import Derived.WalkKit
import Derived.KernelRfl
import Derived.RowKit3
import Derived.Deep.LoopGhost
import Derived.Deep.QuietTactic
import Derived.BigQuiet
import Derived.WideLaws
import Derived.Deep.DeepCutAuto
import Derived.Deep.CutBlock
import Derived.Deep.RegionHeld3
import Derived.Laws.Rows
import Derived.Lib.AppendStr
import Derived.ArgAppend
import Derived.Laws.IdiomCopy
import Derived.OrdersHeld
import Derived.Laws.BitsLemmas
import Derived.RowKit
import Derived.Lib.SliceRun
import Derived.Test.YtcaohimipkoapaaWWords
import Derived.Test.YtcaohimipkoapaaWLast
import Derived.Test.YtcaohimipkoapaaWTab
import Derived.Test.YtcaohimipkoapaaWFour
import Derived.Test.YtcaohimipkoapaaWQPut
import Derived.Test.YtcaohimipkoapaaWApart
import Derived.Test.YtcaohimipkoapaaWArr
import Derived.Test.YtcaohimipkoapaaWZeros
import Derived.Test.YtcaohimipkoapaaWFoot
import Derived.Test.YtcaohimipkoapaaWKept
import Derived.Test.YtcaohimipkoapaaWShare
import Derived.Test.YtcaohimipkoapaaWN
import Derived.Test.YtcaohimipkoapaaWFootNe
import Derived.Test.YtcaohimipkoapaaWAt
import Derived.Test.YtcaohimipkoapaaWEqStruct
import Derived.Test.YtcaohimipkoapaaWRepsOne
import Derived.Test.YtcaohimipkoapaaWInv
import Derived.Test.YtcaohimipkoapaaWInvWords
import Derived.Test.YtcaohimipkoapaaWGuard
import Derived.Test.YtcaohimipkoapaaWNEv
import Derived.Test.YtcaohimipkoapaaWMore
namespace Go.Proofs.Ytcaohimipkoapaa.QCsrMasks
open Go.RowKit Go.Proofs.YtcaohimipkoapaaW.PrintWords Go.Proofs.YtcaohimipkoapaaW.PrintLast Go.Proofs.YtcaohimipkoapaaW.PrintMore
attribute [local go_sem] max2_int min2_int max_two min_two max_three min_three max_four min_four   -- for this text's walks alone
set_option linter.unusedVariables false
set_option linter.unusedSimpArgs false



def errW : Option Int → Value
  | none => .nilIface
  | some c => .iface 0 (.int .i64 c)
theorem errW_none : errW none = .nilIface := rfl
theorem errW_some (c : Int) : errW (some c) = .iface 0 (.int .i64 c) := rfl

theorem info3 : (Try.prog.info? 3).map (fun i => (i.zero, i.size, i.bytes)) = some (some (.int .i64 0), 1, 8) := by kernel_rfl
theorem info22 : (Try.prog.info? 22).map (fun i => (i.zero, i.size, i.bytes)) = some (some (.int .u32 0), 1, 4) := by kernel_rfl
-- the values' own types

end Go.Proofs.Ytcaohimipkoapaa.QCsrMasks
