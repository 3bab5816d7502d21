/- Functions of the program as plain Lean functions, each with a proof that its call comes to just these answers, or the row that joins them to the given statement; no condition beside the statement's own. Written for this claim by pf.py, this session's program over the kit's print. -/
import Derived.Test.YtofkldjoeablgaaProg
import Derived.Below
import Derived.Deep.Draws
import Derived.Deep.AppendLies
import Derived.Maps.AppendAt
import Derived.OwnWalk
import Derived.Laws.BytesArg
import Derived.Laws.MakeOwn
import Derived.Laws.OwnMore
import Derived.Deep.OwnRows
import Derived.Tactics
import Derived.Lib.ConvBytes
import Derived.Laws.Slices
import Derived.WalkKit
import Derived.KernelRfl
import Derived.RowKit3
import Derived.Deep.LoopGhost
import Derived.Deep.QuietTactic
import Derived.BigQuiet
import Derived.WideLaws
import Derived.Deep.DeepCutAuto
import Derived.Deep.CutBlock
import Derived.Deep.RegionHeld3
import Derived.Laws.Rows
import Derived.Lib.AppendStr
import Derived.ArgAppend
import Derived.Laws.IdiomCopy
import Derived.OrdersHeld
import Derived.Laws.BitsLemmas
import Derived.RowKit
import Derived.Test.YtofkldjoeablgaaHWords
import Derived.Test.YtofkldjoeablgaaWWords
import Derived.Test.YtofkldjoeablgaaWLast
import Derived.Test.YtofkldjoeablgaaWTab
import Derived.Test.YtofkldjoeablgaaWFour
import Derived.Test.YtofkldjoeablgaaWQPut
import Derived.Test.YtofkldjoeablgaaWApart
import Derived.Test.YtofkldjoeablgaaWArr
import Derived.Test.YtofkldjoeablgaaWZeros
import Derived.Test.YtofkldjoeablgaaWFoot
import Derived.Test.YtofkldjoeablgaaWKept
import Derived.Test.YtofkldjoeablgaaWShare
import Derived.Test.YtofkldjoeablgaaWN
import Derived.Test.YtofkldjoeablgaaWFootNe
import Derived.Test.YtofkldjoeablgaaWAt
import Derived.Test.YtofkldjoeablgaaWEqStruct
import Derived.Test.YtofkldjoeablgaaWRepsOne
import Derived.Test.YtofkldjoeablgaaWInv
import Derived.Test.YtofkldjoeablgaaWInvWords
import Derived.Test.YtofkldjoeablgaaWGuard
import Derived.Test.YtofkldjoeablgaaWNEv
import Derived.Test.YtofkldjoeablgaaWMore
namespace Go.Proofs.Ytofkldjoeablgaa.Q
open Go.RowKit Go.Proofs.YtofkldjoeablgaaW.PrintWords Go.Proofs.YtofkldjoeablgaaW.PrintLast Go.Proofs.YtofkldjoeablgaaW.PrintMore
attribute [local go_sem] max2_int min2_int max_two min_two max_three min_three max_four min_four   -- for this text's walks alone
set_option linter.unusedVariables false
set_option linter.unusedSimpArgs false



def errW : Option Int → Value
  | none => .nilIface
  | some c => .iface 0 (.int .i64 c)
theorem errW_none : errW none = .nilIface := rfl
theorem errW_some (c : Int) : errW (some c) = .iface 0 (.int .i64 c) := rfl

-- the values' own types

end Go.Proofs.Ytofkldjoeablgaa.Q
