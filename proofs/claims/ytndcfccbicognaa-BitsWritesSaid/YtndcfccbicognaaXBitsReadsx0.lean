-- Written by this session's own program wip/xprint.py: a changed copy of the kit's print.
import Derived.Test.YtndcfccbicognaaProg
import Derived.Below
import Derived.Deep.Draws
import Derived.Deep.AppendLies
import Derived.Maps.AppendAt
import Derived.OwnWalk
import Derived.Laws.BytesArg
import Derived.Laws.MakeOwn
import Derived.Laws.OwnMore
import Derived.Deep.OwnRows
import Derived.Tactics
import Derived.Lib.ConvBytes
import Derived.Laws.Slices
import Derived.WalkKit
import Derived.KernelRfl
import Derived.RowKit3
import Derived.Deep.LoopGhost
import Derived.Deep.QuietTactic
import Derived.BigQuiet
import Derived.WideLaws
import Derived.Deep.DeepCutAuto
import Derived.Deep.CutBlock
import Derived.Deep.RegionHeld3
import Derived.Laws.Rows
import Derived.Lib.AppendStr
import Derived.ArgAppend
import Derived.Laws.IdiomCopy
import Derived.OrdersHeld
import Derived.Laws.BitsLemmas
import Derived.RowKit
import Derived.Test.YtndcfccbicognaaXOpens
import Derived.Test.YtndcfccbicognaaWWords
import Derived.Test.YtndcfccbicognaaWLast
import Derived.Test.YtndcfccbicognaaWTab
import Derived.Test.YtndcfccbicognaaWFour
import Derived.Test.YtndcfccbicognaaWQPut
import Derived.Test.YtndcfccbicognaaWApart
import Derived.Test.YtndcfccbicognaaWArr
import Derived.Test.YtndcfccbicognaaWZeros
import Derived.Test.YtndcfccbicognaaWFoot
import Derived.Test.YtndcfccbicognaaWKept
import Derived.Test.YtndcfccbicognaaWShare
import Derived.Test.YtndcfccbicognaaWN
import Derived.Test.YtndcfccbicognaaWFootNe
import Derived.Test.YtndcfccbicognaaWAt
import Derived.Test.YtndcfccbicognaaWEqStruct
import Derived.Test.YtndcfccbicognaaWRepsOne
import Derived.Test.YtndcfccbicognaaWInv
import Derived.Test.YtndcfccbicognaaWInvWords
import Derived.Test.YtndcfccbicognaaWGuard
import Derived.Test.YtndcfccbicognaaWNEv
import Derived.Test.YtndcfccbicognaaWMore
namespace Go.Proofs.Ytndcfccbicognaa.XBitsReads
open Go.RowKit Go.Proofs.YtndcfccbicognaaW.PrintWords Go.Proofs.YtndcfccbicognaaW.PrintLast Go.Proofs.YtndcfccbicognaaW.PrintMore
attribute [local go_sem] max2_int min2_int max_two min_two max_three min_three max_four min_four   -- for this text's walks alone
set_option linter.unusedVariables false
set_option linter.unusedSimpArgs false



def errW : Option Int → Value
  | none => .nilIface
  | some c => .iface 0 (.int .i64 c)
theorem errW_none : errW none = .nilIface := rfl
theorem errW_some (c : Int) : errW (some c) = .iface 0 (.int .i64 c) := rfl

theorem info5 : (Try.prog.info? 5).map (fun i => (i.zero, i.size, i.bytes)) = some (some (.int .u8 0), 1, 1) := by kernel_rfl
-- the values' own types

end Go.Proofs.Ytndcfccbicognaa.XBitsReads
