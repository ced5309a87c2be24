-- Written by the kit's print.py for this claim, called with several roots by this session's own script (print-roots.sh)
import Derived.Test.YtajmjmnlapplaaaDoorProg
import Derived.Below
import Derived.Deep.Draws
import Derived.Deep.AppendLies
import Derived.Maps.AppendAt
import Derived.OwnWalk
import Derived.Laws.BytesArg
import Derived.Laws.MakeOwn
import Derived.Laws.OwnMore
import Derived.Deep.OwnRows
import Derived.Tactics
import Derived.Lib.ConvBytes
import Derived.Laws.Slices
import Derived.WalkKit
import Derived.KernelRfl
import Derived.RowKit3
import Derived.Deep.LoopGhost
import Derived.Deep.QuietTactic
import Derived.BigQuiet
import Derived.WideLaws
import Derived.Deep.DeepCutAuto
import Derived.Deep.CutBlock
import Derived.Deep.RegionHeld3
import Derived.Laws.Rows
import Derived.Lib.AppendStr
import Derived.ArgAppend
import Derived.Laws.IdiomCopy
import Derived.OrdersHeld
import Derived.Laws.BitsLemmas
import Derived.RowKit
import Derived.Test.YtajmjmnlapplaaaDoorA2
import Derived.Test.YtajmjmnlapplaaaDoorWWords
import Derived.Test.YtajmjmnlapplaaaDoorWLast
import Derived.Test.YtajmjmnlapplaaaDoorWTab
import Derived.Test.YtajmjmnlapplaaaDoorWFour
import Derived.Test.YtajmjmnlapplaaaDoorWQPut
import Derived.Test.YtajmjmnlapplaaaDoorWApart
import Derived.Test.YtajmjmnlapplaaaDoorWArr
import Derived.Test.YtajmjmnlapplaaaDoorWZeros
import Derived.Test.YtajmjmnlapplaaaDoorWFoot
import Derived.Test.YtajmjmnlapplaaaDoorWKept
import Derived.Test.YtajmjmnlapplaaaDoorWShare
import Derived.Test.YtajmjmnlapplaaaDoorWN
import Derived.Test.YtajmjmnlapplaaaDoorWFootNe
import Derived.Test.YtajmjmnlapplaaaDoorWAt
import Derived.Test.YtajmjmnlapplaaaDoorWEqStruct
import Derived.Test.YtajmjmnlapplaaaDoorWRepsOne
import Derived.Test.YtajmjmnlapplaaaDoorWInv
import Derived.Test.YtajmjmnlapplaaaDoorWInvWords
import Derived.Test.YtajmjmnlapplaaaDoorWGuard
import Derived.Test.YtajmjmnlapplaaaDoorWNEv
import Derived.Test.YtajmjmnlapplaaaDoorWMore
namespace Go.Proofs.YtajmjmnlapplaaaDoor.PIno
open Go.RowKit Go.Proofs.YtajmjmnlapplaaaDoor.PInts Go.Proofs.YtajmjmnlapplaaaDoorW.PrintWords Go.Proofs.YtajmjmnlapplaaaDoorW.PrintLast Go.Proofs.YtajmjmnlapplaaaDoorW.PrintMore
attribute [local go_sem] max2_int min2_int max_two min_two max_three min_three max_four min_four   -- for this text's walks alone
set_option linter.unusedVariables false
set_option linter.unusedSimpArgs false



def errW : Option Int → Value
  | none => .nilIface
  | some c => .iface 0 (.int .i64 c)
theorem errW_none : errW none = .nilIface := rfl
theorem errW_some (c : Int) : errW (some c) = .iface 0 (.int .i64 c) := rfl

theorem info3 : (Tryd.prog.info? 3).map (fun i => (i.zero, i.size, i.bytes)) = some (some (.int .i64 0), 1, 8) := by kernel_rfl
-- the values' own types

end Go.Proofs.YtajmjmnlapplaaaDoor.PIno
