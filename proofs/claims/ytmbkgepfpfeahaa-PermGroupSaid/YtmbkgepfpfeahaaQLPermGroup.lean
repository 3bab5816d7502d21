/- Functions of the program as plain Lean functions, each with a proof that its call comes to just these answers, or the row that joins them to the given statement; no condition beside the statement's own. Written for this claim by pf.py, this session's program over the kit's print. -/
import Derived.Test.YtmbkgepfpfeahaaQx28
namespace Go.Proofs.Ytmbkgepfpfeahaa.Q
open Go.RowKit Go.Proofs.YtmbkgepfpfeahaaW.PrintWords Go.Proofs.YtmbkgepfpfeahaaW.PrintLast
def churnlaw11_PermGroup.Pure : Prop := ∀ (y0 : List Int) (y1 : List Int) (y2 : List Int) (y3 : List ByteArray), (y0.length ≤ maxLen ∧ y0.length * 8 ≤ 140737488351232 ∧ ∀ x0_ ∈ y0, (Lit.int .i64 x0_).wf = true) → (y1.length ≤ maxLen ∧ y1.length * 8 ≤ 140737488351232 ∧ ∀ x0_ ∈ y1, (Lit.int .i64 x0_).wf = true) → (y2.length ≤ maxLen ∧ y2.length * 8 ≤ 140737488351232 ∧ ∀ x0_ ∈ y2, (Lit.int .i64 x0_).wf = true) → (y3.length ≤ maxLen ∧ y3.length * 16 ≤ 140737488351232 ∧ ∀ x0_ ∈ y3, x0_.size ≤ 140737488351232) → ∃ k, churnlaw11_PermGroup.f k y0 y1 y2 y3 = some true
end Go.Proofs.Ytmbkgepfpfeahaa.Q
