/- Every Split is the document's, and its parts are memory of their own (P9.2): the law's call answers true at every tape and every number of chunks: the statement over lists that the row asks for. -/
import Derived.Test.YtangepklgeikkaaPlain
import Derived.Test.YtangepklgeikkaaQLTapeSplits
set_option linter.unusedVariables false
namespace Go.Proofs.Ytangepklgeikkaa.Pure
open Go.RowKit Go.Proofs.Ytangepklgeikkaa.Q Go.Proofs.Ytangepklgeikkaa.Pl
theorem TapeSplits : churnlaw09_TapeSplits.Pure := by
  rintro p c ⟨hm, h8, hw⟩ hc
  unfold churnlaw09_TapeSplits.f
  rw [if_pos (by omega)]
end Go.Proofs.Ytangepklgeikkaa.Pure
