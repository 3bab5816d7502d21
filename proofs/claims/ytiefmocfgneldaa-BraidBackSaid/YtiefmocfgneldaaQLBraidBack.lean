/- Functions of the program as plain Lean functions, each with a proof that its call comes to just these answers, or the row that joins them to the given statement; no condition beside the statement's own. Written for this claim by pf.py, this session's program over the kit's print. -/
import Derived.Test.YtiefmocfgneldaaQx12
namespace Go.Proofs.Ytiefmocfgneldaa.Q
open Go.RowKit Go.Proofs.YtiefmocfgneldaaW.PrintWords Go.Proofs.YtiefmocfgneldaaW.PrintLast
def churnlaw12_BraidBack.Pure : Prop := ∀ (y0_0 : List Int) (y0_1 : List Int) (y0_2 : List Int) (y0_3 : List Int), (y0_0.length ≤ maxLen ∧ y0_0.length * 8 ≤ 140737488351232 ∧ ∀ x0_ ∈ y0_0, (Lit.int .i64 x0_).wf = true) → (y0_1.length ≤ maxLen ∧ y0_1.length * 8 ≤ 140737488351232 ∧ ∀ x0_ ∈ y0_1, (Lit.int .i64 x0_).wf = true) → (y0_2.length ≤ maxLen ∧ y0_2.length * 8 ≤ 140737488351232 ∧ ∀ x0_ ∈ y0_2, (Lit.int .i64 x0_).wf = true) → (y0_3.length ≤ maxLen ∧ y0_3.length * 8 ≤ 140737488351232 ∧ ∀ x0_ ∈ y0_3, (Lit.int .i64 x0_).wf = true) → ∃ k, churnlaw12_BraidBack.f k y0_0 y0_1 y0_2 y0_3 = some true
end Go.Proofs.Ytiefmocfgneldaa.Q
