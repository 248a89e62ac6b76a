/- The machine's side: functions of the translation as plain Lean functions, and that the machine's calls come to what they say. No condition. Written by a program (wip/tools/pp.py over the kit's printer); Lean checks it. -/
import Derived.Test.YtngfijkageapgaaProg
import Derived.Below
import Derived.Deep.Draws
import Derived.Deep.AppendLies
import Derived.Maps.AppendAt
import Derived.OwnWalk
import Derived.Laws.BytesArg
import Derived.Laws.MakeOwn
import Derived.Laws.OwnMore
import Derived.Deep.OwnRows
import Derived.Tactics
import Derived.Lib.ConvBytes
import Derived.Laws.Slices
import Derived.WalkKit
import Derived.KernelRfl
import Derived.RowKit3
import Derived.Deep.LoopGhost
import Derived.Deep.QuietTactic
import Derived.BigQuiet
import Derived.WideLaws
import Derived.Deep.DeepCutAuto
import Derived.Deep.CutBlock
import Derived.Deep.RegionHeld3
import Derived.Laws.Rows
import Derived.Lib.AppendStr
import Derived.ArgAppend
import Derived.Laws.IdiomCopy
import Derived.OrdersHeld
import Derived.Laws.BitsLemmas
import Derived.RowKit
import Derived.WalkSpells
import Derived.Test.YtngfijkageapgaaX
import Derived.Handy
import Derived.Deep.RegionLaw
import Derived.Lib.SliceRun
import Derived.Test.YtngfijkageapgaaV1
import Derived.Laws.ComplexArith
import Derived.Laws.Cover2
import Derived.Laws.Cover3
import Derived.BigQuiet
import Derived.Test.YtngfijkageapgaaWWords
import Derived.Test.YtngfijkageapgaaWLast
import Derived.Test.YtngfijkageapgaaWTab
import Derived.Test.YtngfijkageapgaaWFour
import Derived.Test.YtngfijkageapgaaWQPut
import Derived.Test.YtngfijkageapgaaWApart
import Derived.Test.YtngfijkageapgaaWArr
import Derived.Test.YtngfijkageapgaaWZeros
import Derived.Test.YtngfijkageapgaaWFoot
import Derived.Test.YtngfijkageapgaaWKept
import Derived.Test.YtngfijkageapgaaWShare
import Derived.Test.YtngfijkageapgaaWN
import Derived.Test.YtngfijkageapgaaWFootNe
import Derived.Test.YtngfijkageapgaaWAt
import Derived.Test.YtngfijkageapgaaWEqStruct
import Derived.Test.YtngfijkageapgaaWRepsOne
import Derived.Test.YtngfijkageapgaaWInv
import Derived.Test.YtngfijkageapgaaWInvWords
import Derived.Test.YtngfijkageapgaaWGuard
import Derived.Test.YtngfijkageapgaaWNEv
import Derived.Test.YtngfijkageapgaaWMore
namespace Go.Proofs.Ytngfijkageapgaa.P
open Go.RowKit Go.Proofs.YtngfijkageapgaaW.PrintWords Go.Proofs.YtngfijkageapgaaW.PrintLast Go.Proofs.YtngfijkageapgaaW.PrintMore
attribute [local go_sem] max2_int min2_int max_two min_two max_three min_three max_four min_four   -- for this text's walks alone
set_option linter.unusedVariables false
set_option linter.unusedSimpArgs false



def errW : Option Int → Value
  | none => .nilIface
  | some c => .iface 0 (.int .i64 c)
theorem errW_none : errW none = .nilIface := rfl
theorem errW_some (c : Int) : errW (some c) = .iface 0 (.int .i64 c) := rfl

theorem info5 : (Try.prog.info? 5).map (fun i => (i.zero, i.size, i.bytes)) = some (some (.int .u8 0), 1, 1) := by kernel_rfl
-- the values' own types

end Go.Proofs.Ytngfijkageapgaa.P
