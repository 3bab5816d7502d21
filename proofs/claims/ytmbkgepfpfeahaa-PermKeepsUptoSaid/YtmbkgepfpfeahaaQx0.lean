/- Functions of the program as plain Lean functions, each with a proof that its call comes to just these answers, or the row that joins them to the given statement; no condition beside the statement's own. Written for this claim by pf.py, this session's program over the kit's print. -/
import Derived.Test.YtmbkgepfpfeahaaProg
import Derived.Below
import Derived.Deep.Draws
import Derived.Deep.AppendLies
import Derived.Maps.AppendAt
import Derived.OwnWalk
import Derived.Laws.BytesArg
import Derived.Laws.MakeOwn
import Derived.Laws.OwnMore
import Derived.Deep.OwnRows
import Derived.Tactics
import Derived.Lib.ConvBytes
import Derived.Laws.Slices
import Derived.WalkKit
import Derived.KernelRfl
import Derived.RowKit3
import Derived.Deep.LoopGhost
import Derived.Deep.QuietTactic
import Derived.BigQuiet
import Derived.WideLaws
import Derived.Deep.DeepCutAuto
import Derived.Deep.CutBlock
import Derived.Deep.RegionHeld3
import Derived.Laws.Rows
import Derived.Lib.AppendStr
import Derived.ArgAppend
import Derived.Laws.IdiomCopy
import Derived.OrdersHeld
import Derived.Laws.BitsLemmas
import Derived.RowKit
import Derived.Test.YtmbkgepfpfeahaaHWords
import Derived.Test.YtmbkgepfpfeahaaHDel
import Derived.Test.YtmbkgepfpfeahaaHApp
import Derived.Test.YtmbkgepfpfeahaaWWords
import Derived.Test.YtmbkgepfpfeahaaWLast
import Derived.Test.YtmbkgepfpfeahaaWTab
import Derived.Test.YtmbkgepfpfeahaaWFour
import Derived.Test.YtmbkgepfpfeahaaWQPut
import Derived.Test.YtmbkgepfpfeahaaWApart
import Derived.Test.YtmbkgepfpfeahaaWArr
import Derived.Test.YtmbkgepfpfeahaaWZeros
import Derived.Test.YtmbkgepfpfeahaaWFoot
import Derived.Test.YtmbkgepfpfeahaaWKept
import Derived.Test.YtmbkgepfpfeahaaWShare
import Derived.Test.YtmbkgepfpfeahaaWN
import Derived.Test.YtmbkgepfpfeahaaWFootNe
import Derived.Test.YtmbkgepfpfeahaaWAt
import Derived.Test.YtmbkgepfpfeahaaWEqStruct
import Derived.Test.YtmbkgepfpfeahaaWRepsOne
import Derived.Test.YtmbkgepfpfeahaaWInv
import Derived.Test.YtmbkgepfpfeahaaWInvWords
import Derived.Test.YtmbkgepfpfeahaaWGuard
import Derived.Test.YtmbkgepfpfeahaaWNEv
import Derived.Test.YtmbkgepfpfeahaaWMore
namespace Go.Proofs.Ytmbkgepfpfeahaa.Q
open Go.RowKit Go.Proofs.YtmbkgepfpfeahaaW.PrintWords Go.Proofs.YtmbkgepfpfeahaaW.PrintLast Go.Proofs.YtmbkgepfpfeahaaW.PrintMore
attribute [local go_sem] max2_int min2_int max_two min_two max_three min_three max_four min_four   -- for this text's walks alone
set_option linter.unusedVariables false
set_option linter.unusedSimpArgs false



def errW : Option Int → Value
  | none => .nilIface
  | some c => .iface 0 (.int .i64 c)
theorem errW_none : errW none = .nilIface := rfl
theorem errW_some (c : Int) : errW (some c) = .iface 0 (.int .i64 c) := rfl

theorem info3 : (Try.prog.info? 3).map (fun i => (i.zero, i.size, i.bytes)) = some (some (.int .i64 0), 1, 8) := by kernel_rfl
theorem info4 : (Try.prog.info? 4).map (fun i => (i.zero, i.size, i.bytes)) = some (some (.bool false), 1, 1) := by kernel_rfl
theorem info9 : (Try.prog.info? 9).map (fun i => (i.zero, i.size, i.bytes)) = some (some (.string ⟨#[]⟩), 1, 16) := by kernel_rfl
-- the values' own types

end Go.Proofs.Ytmbkgepfpfeahaa.Q
