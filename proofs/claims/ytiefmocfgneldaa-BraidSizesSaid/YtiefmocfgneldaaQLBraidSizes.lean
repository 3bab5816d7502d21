/- Functions of the program as plain Lean functions, each with a proof that its call comes to just these answers, or the row that joins them to the given statement; no condition beside the statement's own. Written for this claim by pf.py, this session's program over the kit's print. -/
import Derived.Test.YtiefmocfgneldaaQx15
namespace Go.Proofs.Ytiefmocfgneldaa.Q
open Go.RowKit Go.Proofs.YtiefmocfgneldaaW.PrintWords Go.Proofs.YtiefmocfgneldaaW.PrintLast
def churnlaw12_BraidSizes.Pure : Prop := ∀ (y0 : Int) (y1 : Int), (Lit.int .i64 y0).wf = true → (Lit.int .i64 y1).wf = true → churnlaw12_BraidSizes.f y0 y1 = some true
end Go.Proofs.Ytiefmocfgneldaa.Q
