/- From, Unrank, Identity and Bounds answer as the document's (P11.1): the printed statement, proved over lists. -/
import Derived.Test.YtmbkgepfpfeahaaPerm4
import Derived.Test.YtmbkgepfpfeahaaQx22
set_option linter.unusedVariables false
set_option linter.unusedSimpArgs false
namespace Go.Proofs.Ytmbkgepfpfeahaa.Pure
open Go.RowKit Go.Proofs.Ytmbkgepfpfeahaa.Q Go.Proofs.YtmbkgepfpfeahaaW.PrintWords Go.Proofs.YtmbkgepfpfeahaaW.PrintLast Go.Proofs.Ytmbkgepfpfeahaa.Pl

theorem fromA_len (n : Int) (l : List Int) (hl : l.length ≤ 17592186043904) : (fromA n l).1.length ≤ 17592186043905 := by
  unfold fromA
  split
  · simp
  · split
    · next h0 h =>
      have := h.1
      simp only [fromL_len, iota_len]
      by_cases h1 : n ≤ 1
      · omega
      · rw [mx_pos _ (by omega)] at this; omega
    · simp
theorem unrA_len (l : List Int) (hl : l.length ≤ 17592186043904) : (unrA l).1.length ≤ 17592186043904 := by
  unfold unrA
  split
  · simp only [unr_len]; omega
  · simp
theorem PermMakes : churnlaw11_PermMakes.Pure := by
  intro n l hn h1 h2 h3
  have hn' := wf_i64 hn
  refine Ev.rounds (g := fun k => churnlaw11_PermMakes.f k n l) (r := true) ?_
  unfold churnlaw11_PermMakes.f
  refine ev_bind awake11 (ev_pos rfl ?_)
  have l1 := fromA_len n l (by omega)
  have l2 := unrA_len l (by omega)
  refine ev_bind (ref_from_ev n l hn' (by omega)) (ev_bind (ref_unrank_ev l (by omega)) (ev_bind (from_ev n l hn' (by omega)) (ev_bind (unrank_ev l (by omega)) (ev_pos rfl (ev_pos rfl ?_)))))
  refine ev_bind (same_ev _ _ (by omega)) (ev_pos (by simp) (ev_bind (same_ev _ _ (by omega)) ?_))
  have e : (!(decide ((unrA l).1 = (unrA l).1))) = false := by simp
  rw [e]
  refine Ev.step (fun k => by rw [churnlaw11_PermMakes.j0, if_neg (by decide)]) ?_
  by_cases hb : n > 5000
  · exact ev_pos hb (Ev.now _)
  · refine ev_neg hb ?_
    have hid : Ev (fun k => perm_Identity.f k n) (iota n.toNat) ∧ Ev (fun k => churnref11_Identity.f k n) (iota n.toNat) := by
      by_cases h0 : n ≤ 0
      · have : iota n.toNat = [] := List.eq_nil_of_length_eq_zero (by rw [iota_len]; omega)
        rw [this]
        exact ⟨identity_none n h0, ref_identity_none n h0⟩
      · obtain ⟨m, rfl⟩ : ∃ m : Nat, n = (m : Int) := ⟨n.toNat, by omega⟩
        exact ⟨identity_ev m (by omega), ref_identity_ev m (by omega)⟩
    refine ev_bind hid.1 (ev_bind hid.2 (ev_bind (same_ev _ _ (by rw [iota_len]; omega)) (ev_pos (by simp) ?_)))
    refine ev_bind (bounds_ev n (by omega)) (ev_bind (ref_bounds_ev n (by omega)) (ev_bind (same_ev _ _ (by rw [boundsL_len]; omega)) (ev_some (by simp))))

end Go.Proofs.Ytmbkgepfpfeahaa.Pure
