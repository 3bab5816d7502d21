/- Functions of the program as plain Lean functions, each with a proof that its call comes to just these answers, or the row that joins them to the given statement; no condition beside the statement's own. Written for this claim by pf.py, this session's program over the kit's print. -/
import Derived.Test.YthkcadmjfkcbgaaQx30
namespace Go.Proofs.Ythkcadmjfkcbgaa.Q
open Go.RowKit Go.Proofs.YthkcadmjfkcbgaaW.PrintWords Go.Proofs.YthkcadmjfkcbgaaW.PrintLast
def churnlaw06_FramePieces.Pure : Prop := ∀ (y0 : List Int) (y1 : List Int), (y0.length ≤ maxLen ∧ y0.length * 1 ≤ 140737488351232 ∧ ∀ x0_ ∈ y0, (Lit.int .u8 x0_).wf = true) → (y1.length ≤ maxLen ∧ y1.length * 2 ≤ 140737488351232 ∧ ∀ x0_ ∈ y1, (Lit.int .u16 x0_).wf = true) → churnlaw06_FramePieces.f y0 y1 = some true
end Go.Proofs.Ythkcadmjfkcbgaa.Q
