/- Proved here: that functions of the program come to what plain Lean functions say, and (where it stands) the row of a law. No condition beyond that of the rows. Laid by a program of this session (wip/printgiven.py) out of the print of the translation. -/
import Derived.Test.YtlbceljgmkojeaaProg
import Derived.Test.YtlbceljgmkojeaaNext
import Derived.Below
import Derived.Deep.Draws
import Derived.Deep.AppendLies
import Derived.Maps.AppendAt
import Derived.OwnWalk
import Derived.Laws.BytesArg
import Derived.Laws.MakeOwn
import Derived.Laws.OwnMore
import Derived.Deep.OwnRows
import Derived.Tactics
import Derived.Lib.ConvBytes
import Derived.Laws.Slices
import Derived.WalkKit
import Derived.KernelRfl
import Derived.RowKit3
import Derived.Deep.LoopGhost
import Derived.Deep.QuietTactic
import Derived.BigQuiet
import Derived.WideLaws
import Derived.Deep.DeepCutAuto
import Derived.Deep.CutBlock
import Derived.Deep.RegionHeld3
import Derived.Laws.Rows
import Derived.Lib.AppendStr
import Derived.ArgAppend
import Derived.Laws.IdiomCopy
import Derived.OrdersHeld
import Derived.Laws.BitsLemmas
import Derived.RowKit
import Derived.Test.YtlbceljgmkojeaaWWords
import Derived.Test.YtlbceljgmkojeaaWLast
import Derived.Test.YtlbceljgmkojeaaWTab
import Derived.Test.YtlbceljgmkojeaaWFour
import Derived.Test.YtlbceljgmkojeaaWQPut
import Derived.Test.YtlbceljgmkojeaaWApart
import Derived.Test.YtlbceljgmkojeaaWArr
import Derived.Test.YtlbceljgmkojeaaWZeros
import Derived.Test.YtlbceljgmkojeaaWFoot
import Derived.Test.YtlbceljgmkojeaaWKept
import Derived.Test.YtlbceljgmkojeaaWShare
import Derived.Test.YtlbceljgmkojeaaWN
import Derived.Test.YtlbceljgmkojeaaWFootNe
import Derived.Test.YtlbceljgmkojeaaWAt
import Derived.Test.YtlbceljgmkojeaaWEqStruct
import Derived.Test.YtlbceljgmkojeaaWRepsOne
import Derived.Test.YtlbceljgmkojeaaWInv
import Derived.Test.YtlbceljgmkojeaaWInvWords
import Derived.Test.YtlbceljgmkojeaaWGuard
import Derived.Test.YtlbceljgmkojeaaWNEv
import Derived.Test.YtlbceljgmkojeaaWMore
namespace Go.Proofs.Ytlbceljgmkojeaa.PUtf
open Go.RowKit Go.Proofs.YtlbceljgmkojeaaW.PrintWords Go.Proofs.YtlbceljgmkojeaaW.PrintLast Go.Proofs.YtlbceljgmkojeaaW.PrintMore
attribute [local go_sem] max2_int min2_int max_two min_two max_three min_three max_four min_four   -- for this text's walks alone
set_option linter.unusedVariables false
set_option linter.unusedSimpArgs false



def errW : Option Int → Value
  | none => .nilIface
  | some c => .iface 0 (.int .i64 c)
theorem errW_none : errW none = .nilIface := rfl
theorem errW_some (c : Int) : errW (some c) = .iface 0 (.int .i64 c) := rfl

theorem info5 : (Try.prog.info? 5).map (fun i => (i.zero, i.size, i.bytes)) = some (some (.int .u8 0), 1, 1) := by kernel_rfl
theorem info21 : (Try.prog.info? 21).map (fun i => (i.zero, i.size, i.bytes)) = some (some (.int .i32 0), 1, 4) := by kernel_rfl
-- the values' own types

end Go.Proofs.Ytlbceljgmkojeaa.PUtf
