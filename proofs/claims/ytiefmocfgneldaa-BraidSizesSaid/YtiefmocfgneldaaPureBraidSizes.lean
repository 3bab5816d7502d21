/- Every Sizes and Bounds is the document's, and memory of its own each time (P12.1): the statement over numbers that the row asks for: both sides come to the same lists. -/
import Derived.Test.YtiefmocfgneldaaBraid6
import Derived.Test.YtiefmocfgneldaaQLBraidSizes
set_option linter.unusedVariables false
namespace Go.Proofs.Ytiefmocfgneldaa.Pure
open Go.RowKit Go.Proofs.Ytiefmocfgneldaa.Q Go.Proofs.YtiefmocfgneldaaW.PrintWords Go.Proofs.YtiefmocfgneldaaW.PrintLast Go.Proofs.Ytiefmocfgneldaa.Pl
theorem both_sizes (n m : Int) : ∃ (S : List Int) (er : Int), Ev (fun k => braid_Sizes.f k n m) (S, er) ∧ Ev (fun k => churnref12_Sizes.f k n m) (S, er) ∧ S.length ≤ 64 := by
  by_cases h : 0 ≤ n ∧ n ≤ 256 ∧ 1 ≤ m ∧ m ≤ 64
  · obtain ⟨a, ha⟩ := Int.eq_ofNat_of_zero_le h.1
    obtain ⟨b, hb⟩ := Int.eq_ofNat_of_zero_le (show 0 ≤ m by omega)
    subst ha hb
    exact ⟨_, _, sizes_good a b (by omega) (by omega) (by omega), ref_sizes_good a b (by omega) (by omega) (by omega), by rw [sz_len]; omega⟩
  · exact ⟨_, _, sizes_bad n m h, ref_sizes_bad n m h, by simp⟩
theorem both_bounds (n : Int) : ∃ S : List Int, Ev (fun k => braid_Bounds.f k n) S ∧ Ev (fun k => churnref12_Bounds.f k n) S ∧ S.length ≤ 256 := by
  by_cases h : 0 ≤ n ∧ n ≤ 256
  · obtain ⟨a, ha⟩ := Int.eq_ofNat_of_zero_le h.1
    subst ha
    exact ⟨_, bounds_good a (by omega), ref_bounds_good a (by omega), by unfold bnd; rw [tab_len]; omega⟩
  · refine ⟨[], ?_, ?_, by simp⟩
    · unfold braid_Bounds.f
      have bad : ∀ b, b = true → Ev (fun k => braid_Bounds.j0 k n b) [] := fun b hb => Ev.step (f := fun _ => some []) (fun k => by rw [braid_Bounds.j0, if_pos hb]) (Ev.now _)
      by_cases h1 : n < 1
      · exact ev_pos h1 (bad _ rfl)
      · exact ev_neg h1 (bad _ (by simp; omega))
    · unfold churnref12_Bounds.f
      by_cases h1 : n > 256
      · exact ev_pos h1 (Ev.now _)
      · exact ev_neg h1 (Ev.step (f := fun _ => some []) (fun k => by rw [churnref12_Bounds.l0, if_neg (by omega)]) (Ev.now _))
theorem BraidSizes : churnlaw12_BraidSizes.Pure := by
  intro n m hn hm
  unfold churnlaw12_BraidSizes.f
  obtain ⟨S, er, s1, s2, s3⟩ := both_sizes n m
  obtain ⟨B, b1, b2, b3⟩ := both_bounds n
  obtain ⟨k1, h1⟩ := Ev.rounds s1
  obtain ⟨k2, h2⟩ := Ev.rounds s2
  obtain ⟨k3, h3⟩ := Ev.rounds b2
  obtain ⟨k4, h4⟩ := Ev.rounds b1
  obtain ⟨k5, h5⟩ := Ev.rounds (same12_yes S (by omega))
  obtain ⟨k6, h6⟩ := Ev.rounds (same12_yes B (by omega))
  obtain ⟨k7, h7⟩ := Ev.rounds awake12
  rw [if_pos ⟨k1, k2, k3, k4, k5, k6, k7, S, B, er, h1, h2, h3, h4, h5, h6, h7, by omega, by omega⟩]
end Go.Proofs.Ytiefmocfgneldaa.Pure
