/- Check, Inverse, Draws and Rank answer as the document's (P11.1): the printed statement, proved over lists. -/
import Derived.Test.YtmbkgepfpfeahaaPerm5r
import Derived.Test.YtmbkgepfpfeahaaQx22
set_option linter.unusedVariables false
set_option linter.unusedSimpArgs false
namespace Go.Proofs.Ytmbkgepfpfeahaa.Pure
open Go.RowKit Go.Proofs.Ytmbkgepfpfeahaa.Q Go.Proofs.YtmbkgepfpfeahaaW.PrintWords Go.Proofs.YtmbkgepfpfeahaaW.PrintLast Go.Proofs.Ytmbkgepfpfeahaa.Pl

theorem PermChecks : churnlaw11_PermChecks.Pure := by
  intro p h1 h2 h3
  refine Ev.rounds (g := fun k => churnlaw11_PermChecks.f k p) (r := true) ?_
  unfold churnlaw11_PermChecks.f
  refine ev_bind awake11 (ev_pos rfl (ev_bind (perm_check_ev [1, 1] (by decide)) ?_))
  have e : ((if Fits [1, 1] then 0 else 110 : Int) == 0) = false := by decide
  rw [e]
  refine Ev.step (fun k => by rw [churnlaw11_PermChecks.j0, if_neg (by decide)]) ?_
  have l1 : (invA p).1.length ≤ 17592186043904 := by unfold invA; split <;> simp [invL_len]; omega
  have l2 : (drawsA p).1.length ≤ 17592186043904 := by unfold drawsA; split <;> simp [drawsL_len]; omega
  have l3 : (rankA p).1.length ≤ 17592186043904 := by unfold rankA; split <;> simp [digits_len]; omega
  have e1 : (invA p).2 = if Fits p then 0 else 110 := by unfold invA; split <;> rfl
  have e2 : (drawsA p).2 = if Fits p then 0 else 110 := by unfold drawsA; split <;> rfl
  have e3 : (rankA p).2 = if Fits p then 0 else 110 := by unfold rankA; split <;> rfl
  refine ev_bind (ref_inverse_all p (by omega)) (ev_bind (ref_draws_all p (by omega)) (ev_bind (ref_rank_all p (by omega)) (ev_bind (inverse_all p (by omega)) (ev_bind (draws_all p (by omega)) (ev_bind (rank_all p (by omega)) (ev_bind (perm_check_ev p (by omega)) ?_))))))
  refine ev_pos e1.symm (ev_pos rfl (ev_pos (e2.trans e1.symm) (ev_pos (e3.trans e1.symm) ?_)))
  exact ev_bind (same_ev _ _ (by omega)) (ev_pos (by simp) (ev_bind (same_ev _ _ (by omega)) (ev_pos (by simp) (ev_bind (same_ev _ _ (by omega)) (ev_some (by simp))))))

end Go.Proofs.Ytmbkgepfpfeahaa.Pure
