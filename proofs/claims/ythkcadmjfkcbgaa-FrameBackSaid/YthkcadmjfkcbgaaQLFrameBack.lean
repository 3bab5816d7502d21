/- Functions of the program as plain Lean functions, each with a proof that its call comes to just these answers, or the row that joins them to the given statement; no condition beside the statement's own. Written for this claim by pf.py, this session's program over the kit's print. -/
import Derived.Test.YthkcadmjfkcbgaaQx26
namespace Go.Proofs.Ythkcadmjfkcbgaa.Q
open Go.RowKit Go.Proofs.YthkcadmjfkcbgaaW.PrintWords Go.Proofs.YthkcadmjfkcbgaaW.PrintLast
structure S23 where
  f0 : Int
  f1 : Int
  f2 : Int
def churnlaw06_FrameBack.Pure : Prop := ∀ (y0_0 : S23) (y0_1 : List (List Int)) (y1 : List Int), ((Lit.int .i64 y0_0.f0).wf = true ∧ (Lit.int .i64 y0_0.f1).wf = true ∧ (Lit.int .i64 y0_0.f2).wf = true) → (y0_1.length ≤ maxLen ∧ y0_1.length * 24 ≤ 140737488351232 ∧ ∀ x0_ ∈ y0_1, (x0_.length ≤ maxLen ∧ x0_.length * 1 ≤ 140737488351232 ∧ ∀ x1_ ∈ x0_, (Lit.int .u8 x1_).wf = true)) → (y1.length ≤ maxLen ∧ y1.length * 1 ≤ 140737488351232 ∧ ∀ x0_ ∈ y1, (Lit.int .u8 x0_).wf = true) → ∃ k, churnlaw06_FrameBack.f k y0_0.f0 y0_0.f1 y0_0.f2 y0_1 y1 = some true
end Go.Proofs.Ythkcadmjfkcbgaa.Q
