-- Written by this session's own program wip/xprint.py: a changed copy of the kit's print.
import Derived.Test.YtdaofffedfccmaaDoorProg
import Derived.Below
import Derived.Deep.Draws
import Derived.Deep.AppendLies
import Derived.Maps.AppendAt
import Derived.OwnWalk
import Derived.Laws.BytesArg
import Derived.Laws.MakeOwn
import Derived.Laws.OwnMore
import Derived.Deep.OwnRows
import Derived.Tactics
import Derived.Lib.ConvBytes
import Derived.Laws.Slices
import Derived.WalkKit
import Derived.KernelRfl
import Derived.RowKit3
import Derived.Deep.LoopGhost
import Derived.Deep.QuietTactic
import Derived.BigQuiet
import Derived.WideLaws
import Derived.Deep.DeepCutAuto
import Derived.Deep.CutBlock
import Derived.Deep.RegionHeld3
import Derived.Laws.Rows
import Derived.Lib.AppendStr
import Derived.ArgAppend
import Derived.Laws.IdiomCopy
import Derived.OrdersHeld
import Derived.Laws.BitsLemmas
import Derived.RowKit
import Derived.Test.YtdaofffedfccmaaDoorXSplit
import Derived.Test.YtdaofffedfccmaaDoorXBuild
import Derived.Test.YtdaofffedfccmaaDoorXArm
import Derived.Test.YtdaofffedfccmaaDoorXClock
import Derived.Test.YtdaofffedfccmaaDoorXOptT
import Derived.Test.YtdaofffedfccmaaDoorXOpens
import Derived.Test.YtdaofffedfccmaaDoorWWords
import Derived.Test.YtdaofffedfccmaaDoorWLast
import Derived.Test.YtdaofffedfccmaaDoorWTab
import Derived.Test.YtdaofffedfccmaaDoorWFour
import Derived.Test.YtdaofffedfccmaaDoorWQPut
import Derived.Test.YtdaofffedfccmaaDoorWApart
import Derived.Test.YtdaofffedfccmaaDoorWArr
import Derived.Test.YtdaofffedfccmaaDoorWZeros
import Derived.Test.YtdaofffedfccmaaDoorWFoot
import Derived.Test.YtdaofffedfccmaaDoorWKept
import Derived.Test.YtdaofffedfccmaaDoorWShare
import Derived.Test.YtdaofffedfccmaaDoorWN
import Derived.Test.YtdaofffedfccmaaDoorWFootNe
import Derived.Test.YtdaofffedfccmaaDoorWAt
import Derived.Test.YtdaofffedfccmaaDoorWEqStruct
import Derived.Test.YtdaofffedfccmaaDoorWRepsOne
import Derived.Test.YtdaofffedfccmaaDoorWInv
import Derived.Test.YtdaofffedfccmaaDoorWInvWords
import Derived.Test.YtdaofffedfccmaaDoorWGuard
import Derived.Test.YtdaofffedfccmaaDoorWNEv
import Derived.Test.YtdaofffedfccmaaDoorWMore
namespace Go.Proofs.YtdaofffedfccmaaDoor.XOptionAny
open Go.RowKit Go.Proofs.YtdaofffedfccmaaDoorW.PrintWords Go.Proofs.YtdaofffedfccmaaDoorW.PrintLast Go.Proofs.YtdaofffedfccmaaDoorW.PrintMore
attribute [local go_sem] max2_int min2_int max_two min_two max_three min_three max_four min_four   -- for this text's walks alone
set_option linter.unusedVariables false
set_option linter.unusedSimpArgs false



def errW : Option Int → Value
  | none => .nilIface
  | some c => .iface 0 (.int .i64 c)
theorem errW_none : errW none = .nilIface := rfl
theorem errW_some (c : Int) : errW (some c) = .iface 0 (.int .i64 c) := rfl

theorem info5 : (Tryd.prog.info? 5).map (fun i => (i.zero, i.size, i.bytes)) = some (some (.int .u8 0), 1, 1) := by kernel_rfl
theorem info9 : (Tryd.prog.info? 9).map (fun i => (i.zero, i.size, i.bytes)) = some (some (.string ⟨#[]⟩), 1, 16) := by kernel_rfl
-- the values' own types

end Go.Proofs.YtdaofffedfccmaaDoor.XOptionAny
