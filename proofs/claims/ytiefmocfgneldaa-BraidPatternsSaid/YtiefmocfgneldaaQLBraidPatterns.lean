/- Functions of the program as plain Lean functions, each with a proof that its call comes to just these answers, or the row that joins them to the given statement; no condition beside the statement's own. Written for this claim by pf.py, this session's program over the kit's print. -/
import Derived.Test.YtiefmocfgneldaaQx20
namespace Go.Proofs.Ytiefmocfgneldaa.Q
open Go.RowKit Go.Proofs.YtiefmocfgneldaaW.PrintWords Go.Proofs.YtiefmocfgneldaaW.PrintLast
def churnlaw12_BraidPatterns.Pure : Prop := ∀ (y0 : List (S52)), (y0.length ≤ maxLen ∧ y0.length * 96 ≤ 140737488351232 ∧ ∀ x0_ ∈ y0, ((x0_.f0.length ≤ maxLen ∧ x0_.f0.length * 8 ≤ 140737488351232 ∧ ∀ x1_ ∈ x0_.f0, (Lit.int .i64 x1_).wf = true) ∧ (x0_.f1.length ≤ maxLen ∧ x0_.f1.length * 8 ≤ 140737488351232 ∧ ∀ x1_ ∈ x0_.f1, (Lit.int .i64 x1_).wf = true) ∧ (x0_.f2.length ≤ maxLen ∧ x0_.f2.length * 8 ≤ 140737488351232 ∧ ∀ x1_ ∈ x0_.f2, (Lit.int .i64 x1_).wf = true) ∧ (x0_.f3.length ≤ maxLen ∧ x0_.f3.length * 8 ≤ 140737488351232 ∧ ∀ x1_ ∈ x0_.f3, (Lit.int .i64 x1_).wf = true))) → churnlaw12_BraidPatterns.f y0 = some true
end Go.Proofs.Ytiefmocfgneldaa.Q
