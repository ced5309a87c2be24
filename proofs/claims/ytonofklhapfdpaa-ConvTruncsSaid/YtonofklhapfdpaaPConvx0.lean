-- Written by the kit's print.py for this claim, called with several roots by this session's own script (print-roots.sh)
import Derived.Test.YtonofklhapfdpaaProg
import Derived.Below
import Derived.Deep.Draws
import Derived.Deep.AppendLies
import Derived.Maps.AppendAt
import Derived.OwnWalk
import Derived.Laws.BytesArg
import Derived.Laws.MakeOwn
import Derived.Laws.OwnMore
import Derived.Deep.OwnRows
import Derived.Tactics
import Derived.Lib.ConvBytes
import Derived.Laws.Slices
import Derived.WalkKit
import Derived.KernelRfl
import Derived.RowKit3
import Derived.Deep.LoopGhost
import Derived.Deep.QuietTactic
import Derived.BigQuiet
import Derived.WideLaws
import Derived.Deep.DeepCutAuto
import Derived.Deep.CutBlock
import Derived.Deep.RegionHeld3
import Derived.Laws.Rows
import Derived.Lib.AppendStr
import Derived.ArgAppend
import Derived.Laws.IdiomCopy
import Derived.OrdersHeld
import Derived.Laws.BitsLemmas
import Derived.RowKit
import Derived.Test.YtonofklhapfdpaaGiven
import Derived.Test.YtonofklhapfdpaaWWords
import Derived.Test.YtonofklhapfdpaaWLast
import Derived.Test.YtonofklhapfdpaaWTab
import Derived.Test.YtonofklhapfdpaaWFour
import Derived.Test.YtonofklhapfdpaaWQPut
import Derived.Test.YtonofklhapfdpaaWApart
import Derived.Test.YtonofklhapfdpaaWArr
import Derived.Test.YtonofklhapfdpaaWZeros
import Derived.Test.YtonofklhapfdpaaWFoot
import Derived.Test.YtonofklhapfdpaaWKept
import Derived.Test.YtonofklhapfdpaaWShare
import Derived.Test.YtonofklhapfdpaaWN
import Derived.Test.YtonofklhapfdpaaWFootNe
import Derived.Test.YtonofklhapfdpaaWAt
import Derived.Test.YtonofklhapfdpaaWEqStruct
import Derived.Test.YtonofklhapfdpaaWRepsOne
import Derived.Test.YtonofklhapfdpaaWInv
import Derived.Test.YtonofklhapfdpaaWInvWords
import Derived.Test.YtonofklhapfdpaaWGuard
import Derived.Test.YtonofklhapfdpaaWNEv
import Derived.Test.YtonofklhapfdpaaWMore
namespace Go.Proofs.Ytonofklhapfdpaa.PConv
open Go.RowKit Go.Proofs.YtonofklhapfdpaaW.PrintWords Go.Proofs.YtonofklhapfdpaaW.PrintLast Go.Proofs.YtonofklhapfdpaaW.PrintMore
attribute [local go_sem] max2_int min2_int max_two min_two max_three min_three max_four min_four   -- for this text's walks alone
set_option linter.unusedVariables false
set_option linter.unusedSimpArgs false



def errW : Option Int → Value
  | none => .nilIface
  | some c => .iface 0 (.int .i64 c)
theorem errW_none : errW none = .nilIface := rfl
theorem errW_some (c : Int) : errW (some c) = .iface 0 (.int .i64 c) := rfl

-- the values' own types

end Go.Proofs.Ytonofklhapfdpaa.PConv
