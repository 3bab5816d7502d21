/- Functions of the program as plain Lean functions, each with a proof that its call comes to just these answers, or the row that joins them to the given statement; no condition beside the statement's own. Written for this claim by pf.py, this session's program over the kit's print. -/
import Derived.Test.YtijnmfdpdjblbaaQx19
namespace Go.Proofs.Ytijnmfdpdjblbaa.Q
open Go.RowKit Go.Proofs.YtijnmfdpdjblbaaW.PrintWords Go.Proofs.YtijnmfdpdjblbaaW.PrintLast
def churnlaw10_DrawKeeps.Pure : Prop := ∀ (y0 : List Int) (y1 : List Int) (y2 : List Int), (y0.length ≤ maxLen ∧ y0.length * 1 ≤ 140737488351232 ∧ ∀ x0_ ∈ y0, (Lit.int .u8 x0_).wf = true) → (y1.length ≤ maxLen ∧ y1.length * 8 ≤ 140737488351232 ∧ ∀ x0_ ∈ y1, (Lit.int .i64 x0_).wf = true) → (y2.length ≤ maxLen ∧ y2.length * 8 ≤ 140737488351232 ∧ ∀ x0_ ∈ y2, (Lit.int .i64 x0_).wf = true) → churnlaw10_DrawKeeps.f y0 y1 y2 = some true
end Go.Proofs.Ytijnmfdpdjblbaa.Q
