-- Written by a program of this session (wip/tools/stubprint.py over the kit's print), parts by hand.
import Derived.Test.YtnincfdfobaooaaProg
import Derived.Below
import Derived.Deep.Draws
import Derived.Deep.AppendLies
import Derived.Maps.AppendAt
import Derived.OwnWalk
import Derived.Laws.BytesArg
import Derived.Laws.MakeOwn
import Derived.Laws.OwnMore
import Derived.Deep.OwnRows
import Derived.Tactics
import Derived.Lib.ConvBytes
import Derived.Laws.Slices
import Derived.WalkKit
import Derived.KernelRfl
import Derived.RowKit3
import Derived.Deep.LoopGhost
import Derived.Deep.QuietTactic
import Derived.BigQuiet
import Derived.WideLaws
import Derived.Deep.DeepCutAuto
import Derived.Deep.CutBlock
import Derived.Deep.RegionHeld3
import Derived.Laws.Rows
import Derived.Lib.AppendStr
import Derived.ArgAppend
import Derived.Laws.IdiomCopy
import Derived.OrdersHeld
import Derived.Laws.BitsLemmas
import Derived.RowKit
import Derived.Test.YtnincfdfobaooaaWWords
import Derived.Test.YtnincfdfobaooaaWLast
import Derived.Test.YtnincfdfobaooaaWTab
import Derived.Test.YtnincfdfobaooaaWFour
import Derived.Test.YtnincfdfobaooaaWQPut
import Derived.Test.YtnincfdfobaooaaWApart
import Derived.Test.YtnincfdfobaooaaWArr
import Derived.Test.YtnincfdfobaooaaWZeros
import Derived.Test.YtnincfdfobaooaaWFoot
import Derived.Test.YtnincfdfobaooaaWKept
import Derived.Test.YtnincfdfobaooaaWShare
import Derived.Test.YtnincfdfobaooaaWN
import Derived.Test.YtnincfdfobaooaaWFootNe
import Derived.Test.YtnincfdfobaooaaWAt
import Derived.Test.YtnincfdfobaooaaWEqStruct
import Derived.Test.YtnincfdfobaooaaWRepsOne
import Derived.Test.YtnincfdfobaooaaWInv
import Derived.Test.YtnincfdfobaooaaWInvWords
import Derived.Test.YtnincfdfobaooaaWGuard
import Derived.Test.YtnincfdfobaooaaWNEv
import Derived.Test.YtnincfdfobaooaaWMore
namespace Go.Proofs.Ytnincfdfobaooaa.PVint
open Go.RowKit Go.Proofs.YtnincfdfobaooaaW.PrintWords Go.Proofs.YtnincfdfobaooaaW.PrintLast Go.Proofs.YtnincfdfobaooaaW.PrintMore
attribute [local go_sem] max2_int min2_int max_two min_two max_three min_three max_four min_four   -- for this text's walks alone
set_option linter.unusedVariables false
set_option linter.unusedSimpArgs false



def errW : Option Int → Value
  | none => .nilIface
  | some c => .iface 0 (.int .i64 c)
theorem errW_none : errW none = .nilIface := rfl
theorem errW_some (c : Int) : errW (some c) = .iface 0 (.int .i64 c) := rfl

theorem info5 : (Try.prog.info? 5).map (fun i => (i.zero, i.size, i.bytes)) = some (some (.int .u8 0), 1, 1) := by kernel_rfl
-- the values' own types

end Go.Proofs.Ytnincfdfobaooaa.PVint
