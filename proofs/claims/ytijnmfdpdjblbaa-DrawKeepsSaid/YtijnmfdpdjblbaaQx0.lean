/- Functions of the program as plain Lean functions, each with a proof that its call comes to just these answers, or the row that joins them to the given statement; no condition beside the statement's own. Written for this claim by pf.py, this session's program over the kit's print. -/
import Derived.Test.YtijnmfdpdjblbaaProg
import Derived.Below
import Derived.Deep.Draws
import Derived.Deep.AppendLies
import Derived.Maps.AppendAt
import Derived.OwnWalk
import Derived.Laws.BytesArg
import Derived.Laws.MakeOwn
import Derived.Laws.OwnMore
import Derived.Deep.OwnRows
import Derived.Tactics
import Derived.Lib.ConvBytes
import Derived.Laws.Slices
import Derived.WalkKit
import Derived.KernelRfl
import Derived.RowKit3
import Derived.Deep.LoopGhost
import Derived.Deep.QuietTactic
import Derived.BigQuiet
import Derived.WideLaws
import Derived.Deep.DeepCutAuto
import Derived.Deep.CutBlock
import Derived.Deep.RegionHeld3
import Derived.Laws.Rows
import Derived.Lib.AppendStr
import Derived.ArgAppend
import Derived.Laws.IdiomCopy
import Derived.OrdersHeld
import Derived.Laws.BitsLemmas
import Derived.RowKit
import Derived.Test.YtijnmfdpdjblbaaHWords
import Derived.Test.YtijnmfdpdjblbaaHDraw
import Derived.Test.YtijnmfdpdjblbaaHApp
import Derived.Test.YtijnmfdpdjblbaaWWords
import Derived.Test.YtijnmfdpdjblbaaWLast
import Derived.Test.YtijnmfdpdjblbaaWTab
import Derived.Test.YtijnmfdpdjblbaaWFour
import Derived.Test.YtijnmfdpdjblbaaWQPut
import Derived.Test.YtijnmfdpdjblbaaWApart
import Derived.Test.YtijnmfdpdjblbaaWArr
import Derived.Test.YtijnmfdpdjblbaaWZeros
import Derived.Test.YtijnmfdpdjblbaaWFoot
import Derived.Test.YtijnmfdpdjblbaaWKept
import Derived.Test.YtijnmfdpdjblbaaWShare
import Derived.Test.YtijnmfdpdjblbaaWN
import Derived.Test.YtijnmfdpdjblbaaWFootNe
import Derived.Test.YtijnmfdpdjblbaaWAt
import Derived.Test.YtijnmfdpdjblbaaWEqStruct
import Derived.Test.YtijnmfdpdjblbaaWRepsOne
import Derived.Test.YtijnmfdpdjblbaaWInv
import Derived.Test.YtijnmfdpdjblbaaWInvWords
import Derived.Test.YtijnmfdpdjblbaaWGuard
import Derived.Test.YtijnmfdpdjblbaaWNEv
import Derived.Test.YtijnmfdpdjblbaaWMore
namespace Go.Proofs.Ytijnmfdpdjblbaa.Q
open Go.RowKit Go.Proofs.YtijnmfdpdjblbaaW.PrintWords Go.Proofs.YtijnmfdpdjblbaaW.PrintLast Go.Proofs.YtijnmfdpdjblbaaW.PrintMore
attribute [local go_sem] max2_int min2_int max_two min_two max_three min_three max_four min_four   -- for this text's walks alone
set_option linter.unusedVariables false
set_option linter.unusedSimpArgs false



def errW : Option Int → Value
  | none => .nilIface
  | some c => .iface 0 (.int .i64 c)
theorem errW_none : errW none = .nilIface := rfl
theorem errW_some (c : Int) : errW (some c) = .iface 0 (.int .i64 c) := rfl

theorem info3 : (Try.prog.info? 3).map (fun i => (i.zero, i.size, i.bytes)) = some (some (.int .i64 0), 1, 8) := by kernel_rfl
theorem info5 : (Try.prog.info? 5).map (fun i => (i.zero, i.size, i.bytes)) = some (some (.int .u8 0), 1, 1) := by kernel_rfl
-- the values' own types

end Go.Proofs.Ytijnmfdpdjblbaa.Q
