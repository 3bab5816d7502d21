/- Bytes in pieces are the bytes at once: the law's call answers true at every list and every cuts: the statement over lists that the row asks for. -/
import Derived.Test.YthkcadmjfkcbgaaPlain
import Derived.Test.YthkcadmjfkcbgaaQLFramePieces
set_option linter.unusedVariables false
namespace Go.Proofs.Ythkcadmjfkcbgaa.Pure
open Go.RowKit Go.Proofs.Ythkcadmjfkcbgaa.Q Go.Proofs.Ythkcadmjfkcbgaa.Pl
theorem wf_u16 {x : Int} (h : (Lit.int .u16 x).wf = true) : 0 ≤ x ∧ x ≤ 65535 := by
  have a : IntKind.u16.min = 0 := by rfl
  have b : IntKind.u16.max = 65535 := by rfl
  simp [Lit.wf, a, b] at h
  omega
theorem FramePieces : churnlaw06_FramePieces.Pure := by
  rintro l0 l1 ⟨-, -, h0⟩ ⟨-, -, h1⟩
  unfold churnlaw06_FramePieces.f
  rw [if_pos]
  refine ⟨List.all_eq_true.2 fun x hx => ?_, List.all_eq_true.2 fun x hx => ?_⟩
  · have := wf_u8 (h0 x hx)
    simpa using this
  · have := wf_u16 (h1 x hx)
    simpa using this
end Go.Proofs.Ythkcadmjfkcbgaa.Pure
