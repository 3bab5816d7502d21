/- A nil Feed takes nothing in: the law's call answers true at every piece: the statement over lists that the row asks for. -/
import Derived.Test.YthkcadmjfkcbgaaQLFrameNil
set_option linter.unusedVariables false
namespace Go.Proofs.Ythkcadmjfkcbgaa.Pure
open Go.RowKit Go.Proofs.Ythkcadmjfkcbgaa.Q
theorem FrameNil : churnlaw06_FrameNil.Pure := fun _ _ => rfl
end Go.Proofs.Ythkcadmjfkcbgaa.Pure
