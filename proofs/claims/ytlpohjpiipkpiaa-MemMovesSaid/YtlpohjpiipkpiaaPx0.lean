/- The machine's side: functions of the translation as plain Lean functions, and that the machine's calls come to what they say. No condition. Written by a program (wip/tools/pp.py over the kit's printer); Lean checks it. -/
import Derived.Test.YtlpohjpiipkpiaaProg
import Derived.Below
import Derived.Deep.Draws
import Derived.Deep.AppendLies
import Derived.Maps.AppendAt
import Derived.OwnWalk
import Derived.Laws.BytesArg
import Derived.Laws.MakeOwn
import Derived.Laws.OwnMore
import Derived.Deep.OwnRows
import Derived.Tactics
import Derived.Lib.ConvBytes
import Derived.Laws.Slices
import Derived.WalkKit
import Derived.KernelRfl
import Derived.RowKit3
import Derived.Deep.LoopGhost
import Derived.Deep.QuietTactic
import Derived.BigQuiet
import Derived.WideLaws
import Derived.Deep.DeepCutAuto
import Derived.Deep.CutBlock
import Derived.Deep.RegionHeld3
import Derived.Laws.Rows
import Derived.Lib.AppendStr
import Derived.ArgAppend
import Derived.Laws.IdiomCopy
import Derived.OrdersHeld
import Derived.Laws.BitsLemmas
import Derived.RowKit
import Derived.WalkSpells
import Derived.Test.YtlpohjpiipkpiaaX
import Derived.Lib.MakeNoZero
import Derived.Test.YtlpohjpiipkpiaaWWords
import Derived.Test.YtlpohjpiipkpiaaWLast
import Derived.Test.YtlpohjpiipkpiaaWTab
import Derived.Test.YtlpohjpiipkpiaaWFour
import Derived.Test.YtlpohjpiipkpiaaWQPut
import Derived.Test.YtlpohjpiipkpiaaWApart
import Derived.Test.YtlpohjpiipkpiaaWArr
import Derived.Test.YtlpohjpiipkpiaaWZeros
import Derived.Test.YtlpohjpiipkpiaaWFoot
import Derived.Test.YtlpohjpiipkpiaaWKept
import Derived.Test.YtlpohjpiipkpiaaWShare
import Derived.Test.YtlpohjpiipkpiaaWN
import Derived.Test.YtlpohjpiipkpiaaWFootNe
import Derived.Test.YtlpohjpiipkpiaaWAt
import Derived.Test.YtlpohjpiipkpiaaWEqStruct
import Derived.Test.YtlpohjpiipkpiaaWRepsOne
import Derived.Test.YtlpohjpiipkpiaaWInv
import Derived.Test.YtlpohjpiipkpiaaWInvWords
import Derived.Test.YtlpohjpiipkpiaaWGuard
import Derived.Test.YtlpohjpiipkpiaaWNEv
import Derived.Test.YtlpohjpiipkpiaaWMore
namespace Go.Proofs.Ytlpohjpiipkpiaa.P
open Go.RowKit Go.Proofs.YtlpohjpiipkpiaaW.PrintWords Go.Proofs.YtlpohjpiipkpiaaW.PrintLast Go.Proofs.YtlpohjpiipkpiaaW.PrintMore
attribute [local go_sem] max2_int min2_int max_two min_two max_three min_three max_four min_four   -- for this text's walks alone
set_option linter.unusedVariables false
set_option linter.unusedSimpArgs false



def errW : Option Int → Value
  | none => .nilIface
  | some c => .iface 0 (.int .i64 c)
theorem errW_none : errW none = .nilIface := rfl
theorem errW_some (c : Int) : errW (some c) = .iface 0 (.int .i64 c) := rfl

theorem info5 : (Try.prog.info? 5).map (fun i => (i.zero, i.size, i.bytes)) = some (some (.int .u8 0), 1, 1) := by kernel_rfl
-- the values' own types

end Go.Proofs.Ytlpohjpiipkpiaa.P
