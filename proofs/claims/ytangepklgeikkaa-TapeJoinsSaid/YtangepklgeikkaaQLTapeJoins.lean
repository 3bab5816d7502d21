/- Functions of the program as plain Lean functions, each with a proof that its call comes to just these answers, or the row that joins them to the given statement; no condition beside the statement's own. Written for this claim by pf.py, this session's program over the kit's print. -/
import Derived.Test.YtangepklgeikkaaQx6
namespace Go.Proofs.Ytangepklgeikkaa.Q
open Go.RowKit Go.Proofs.YtangepklgeikkaaW.PrintWords Go.Proofs.YtangepklgeikkaaW.PrintLast
def churnlaw09_TapeJoins.Pure : Prop := ∀ (y0 : List Int) (y1 : Int) (y2 : Int), (y0.length ≤ maxLen ∧ y0.length * 1 ≤ 140737488351232 ∧ ∀ x0_ ∈ y0, (Lit.int .u8 x0_).wf = true) → (Lit.int .i64 y1).wf = true → (Lit.int .i64 y2).wf = true → churnlaw09_TapeJoins.f y0 y1 y2 = some true
end Go.Proofs.Ytangepklgeikkaa.Q
