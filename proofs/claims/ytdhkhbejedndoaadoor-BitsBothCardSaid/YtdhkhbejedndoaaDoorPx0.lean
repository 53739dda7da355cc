-- By myprint.py (a session's own program over the kit's print.py; some functions' texts are by hand). Lean checks it.
import Derived.Test.YtdhkhbejedndoaaDoorProg
import Derived.Below
import Derived.Deep.Draws
import Derived.Deep.AppendLies
import Derived.Maps.AppendAt
import Derived.OwnWalk
import Derived.Laws.BytesArg
import Derived.Laws.MakeOwn
import Derived.Laws.OwnMore
import Derived.Deep.OwnRows
import Derived.Tactics
import Derived.Lib.ConvBytes
import Derived.Laws.Slices
import Derived.WalkKit
import Derived.KernelRfl
import Derived.RowKit3
import Derived.Deep.LoopGhost
import Derived.Deep.QuietTactic
import Derived.BigQuiet
import Derived.WideLaws
import Derived.Deep.DeepCutAuto
import Derived.Deep.CutBlock
import Derived.Deep.RegionHeld3
import Derived.Laws.Rows
import Derived.Lib.AppendStr
import Derived.ArgAppend
import Derived.Laws.IdiomCopy
import Derived.OrdersHeld
import Derived.Laws.BitsLemmas
import Derived.RowKit
import Derived.Test.YtdhkhbejedndoaaDoorWWords
import Derived.Test.YtdhkhbejedndoaaDoorWLast
import Derived.Test.YtdhkhbejedndoaaDoorWTab
import Derived.Test.YtdhkhbejedndoaaDoorWFour
import Derived.Test.YtdhkhbejedndoaaDoorWQPut
import Derived.Test.YtdhkhbejedndoaaDoorWApart
import Derived.Test.YtdhkhbejedndoaaDoorWArr
import Derived.Test.YtdhkhbejedndoaaDoorWZeros
import Derived.Test.YtdhkhbejedndoaaDoorWFoot
import Derived.Test.YtdhkhbejedndoaaDoorWKept
import Derived.Test.YtdhkhbejedndoaaDoorWShare
import Derived.Test.YtdhkhbejedndoaaDoorWN
import Derived.Test.YtdhkhbejedndoaaDoorWFootNe
import Derived.Test.YtdhkhbejedndoaaDoorWAt
import Derived.Test.YtdhkhbejedndoaaDoorWEqStruct
import Derived.Test.YtdhkhbejedndoaaDoorWRepsOne
import Derived.Test.YtdhkhbejedndoaaDoorWInv
import Derived.Test.YtdhkhbejedndoaaDoorWInvWords
import Derived.Test.YtdhkhbejedndoaaDoorWGuard
import Derived.Test.YtdhkhbejedndoaaDoorWNEv
import Derived.Test.YtdhkhbejedndoaaDoorWMore
namespace Go.Proofs.YtdhkhbejedndoaaDoor.P
open Go.RowKit Go.Proofs.YtdhkhbejedndoaaDoorW.PrintWords Go.Proofs.YtdhkhbejedndoaaDoorW.PrintLast Go.Proofs.YtdhkhbejedndoaaDoorW.PrintMore
attribute [local go_sem] max2_int min2_int max_two min_two max_three min_three max_four min_four   -- for this text's walks alone
set_option linter.unusedVariables false
set_option linter.unusedSimpArgs false



def errW : Option Int → Value
  | none => .nilIface
  | some c => .iface 0 (.int .i64 c)
theorem errW_none : errW none = .nilIface := rfl
theorem errW_some (c : Int) : errW (some c) = .iface 0 (.int .i64 c) := rfl

theorem info3 : (Tryd.prog.info? 3).map (fun i => (i.zero, i.size, i.bytes)) = some (some (.int .i64 0), 1, 8) := by kernel_rfl
theorem info4 : (Tryd.prog.info? 4).map (fun i => (i.zero, i.size, i.bytes)) = some (some (.bool false), 1, 1) := by kernel_rfl
-- the values' own types

end Go.Proofs.YtdhkhbejedndoaaDoor.P
