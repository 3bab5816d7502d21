/- n bytes and then m bytes are n + m bytes, and n bytes are n times one (P9.1, P9.3): the statement over lists that the row asks for. -/
import Derived.Test.YtangepklgeikkaaPlain
import Derived.Test.YtangepklgeikkaaQLTapeJoins
set_option linter.unusedVariables false
namespace Go.Proofs.Ytangepklgeikkaa.Pure
open Go.RowKit Go.Proofs.Ytangepklgeikkaa.Q Go.Proofs.YtangepklgeikkaaW.PrintWords Go.Proofs.YtangepklgeikkaaW.PrintLast Go.Proofs.Ytangepklgeikkaa.Pl
theorem wf_i64 {x : Int} (h : (Lit.int .i64 x).wf = true) : -9223372036854775808 ≤ x ∧ x ≤ 9223372036854775807 := by
  have a : IntKind.i64.min = -9223372036854775808 := by rfl
  have b : IntKind.i64.max = 9223372036854775807 := by rfl
  simp [Lit.wf, a, b] at h
  omega
theorem place_at (x : Int) (n : Nat) (h : (Lit.int .i64 x).wf = true) : ∃ p : Nat, churnlaw09_place.f x ((n : Int) + 1) = some (p : Int) ∧ p ≤ n := by
  obtain ⟨h1, h2⟩ := wf_i64 h
  have key : ∀ y : Int, 0 ≤ y → ∃ p : Nat, Int.tmod y ((n : Int) + 1) = (p : Int) ∧ p ≤ n := by
    intro y hy
    obtain ⟨z, rfl⟩ := Int.eq_ofNat_of_zero_le hy
    refine ⟨z % (n + 1), ?_, by have := Nat.mod_lt z (show 0 < n + 1 by omega); omega⟩
    rw [show ((n : Int) + 1) = ((n + 1 : Nat) : Int) from rfl, ← Int.ofNat_tmod]
  unfold churnlaw09_place.f
  by_cases h0 : x < 0
  · rw [if_pos h0, if_neg (by omega), w64 (x := x + 1) (by omega) (by omega), w64 (by omega) (by omega)]
    obtain ⟨p, hp, hl⟩ := key (-(x + 1)) (by omega)
    exact ⟨p, by rw [hp], hl⟩
  · rw [if_neg h0, if_neg (by omega)]
    obtain ⟨p, hp, hl⟩ := key x (by omega)
    exact ⟨p, by rw [hp], hl⟩
theorem TapeJoins : churnlaw09_TapeJoins.Pure := by
  rintro p n m ⟨hm, h8, hw⟩ h1 h2
  unfold churnlaw09_TapeJoins.f
  obtain ⟨pn, e1, l1⟩ := place_at n p.length h1
  obtain ⟨pm, e2, l2⟩ := place_at m p.length h2
  rw [if_pos ⟨pn, pm, strOfNums p, rfl, by simp [strOfNums_size], e1, e2, l1, l2, by omega⟩]
end Go.Proofs.Ytangepklgeikkaa.Pure
