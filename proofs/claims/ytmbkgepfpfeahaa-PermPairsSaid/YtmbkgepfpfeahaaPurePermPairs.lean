/- Every Compose, and every Apply of a list of numbers, is the reference's (P11.1): the printed statement, proved over lists. -/
import Derived.Test.YtmbkgepfpfeahaaPerm1
import Derived.Test.YtmbkgepfpfeahaaQx5
set_option linter.unusedVariables false
set_option linter.unusedSimpArgs false
namespace Go.Proofs.Ytmbkgepfpfeahaa.Pure
open Go.RowKit Go.Proofs.Ytmbkgepfpfeahaa.Q Go.Proofs.YtmbkgepfpfeahaaW.PrintWords Go.Proofs.YtmbkgepfpfeahaaW.PrintLast Go.Proofs.Ytmbkgepfpfeahaa.Pl

theorem awake_ev : Ev (fun k => churnlaw11_awake.f k) true := Ev.of (fun k => churnlaw11_awake.mono k) (k := 20) (by decide +kernel)

theorem compose_ev (p q : List Int) (hp : p.length ≤ 17592186044415) (hq : q.length ≤ 17592186044415) :
    ∃ r, Ev (fun k => perm_Compose.f k p q) r ∧ Ev (fun k => churnref11_Compose.f k p q) r ∧ r.1.length ≤ p.length := by
  unfold perm_Compose.f churnref11_Compose.f
  by_cases h : p.length = q.length
  · by_cases f1 : Fits p
    · by_cases f2 : Fits q
      · have hb : ∀ x ∈ p, 0 ≤ x ∧ x < (q.length : Int) := fun x hx => by have := f1.1 x hx; omega
        refine ⟨(pick p q, 0), ?_, ?_, by simp [pick]⟩
        · exact ev_pos (by omega) (ev_bind (fits_ev p (by omega)) (ev_pos (by simp [f1]) (ev_bind (fits_ev q (by omega)) (ev_pos (by simp [f2]) (ev_bind (picked_ev p q hp hb) (Ev.now _))))))
        · exact ev_bind (check_ev p (by omega)) (ev_pos (by simp [f1]) (ev_bind (check_ev q (by omega)) (ev_pos (by simp [f2]) (ev_pos (by omega) (ev_bind (put_ev p q hp hb) (Ev.now _))))))
      · refine ⟨([], 110), ?_, ?_, by simp⟩
        · exact ev_pos (by omega) (ev_bind (fits_ev p (by omega)) (ev_pos (by simp [f1]) (ev_bind (fits_ev q (by omega)) (ev_neg (by simp [f2]) (Ev.now _)))))
        · exact ev_bind (check_ev p (by omega)) (ev_pos (by simp [f1]) (ev_bind (check_ev q (by omega)) (ev_neg (by simp [f2]) (Ev.now _))))
    · refine ⟨([], 110), ?_, ?_, by simp⟩
      · exact ev_pos (by omega) (ev_bind (fits_ev p (by omega)) (ev_neg (by simp [f1]) (Ev.now _)))
      · exact ev_bind (check_ev p (by omega)) (ev_neg (by simp [f1]) (Ev.now _))
  · refine ⟨([], 110), ev_neg (by omega) (Ev.now _), ?_, by simp⟩
    by_cases f1 : Fits p
    · by_cases f2 : Fits q
      · exact ev_bind (check_ev p (by omega)) (ev_pos (by simp [f1]) (ev_bind (check_ev q (by omega)) (ev_pos (by simp [f2]) (ev_neg (by omega) (Ev.now _)))))
      · exact ev_bind (check_ev p (by omega)) (ev_pos (by simp [f1]) (ev_bind (check_ev q (by omega)) (ev_neg (by simp [f2]) (Ev.now _))))
    · exact ev_bind (check_ev p (by omega)) (ev_neg (by simp [f1]) (Ev.now _))

theorem apply_ev (p q : List Int) (hp : p.length ≤ 17592186044415) :
    ∃ r, Ev (fun k => perm_Apply_int.f k p q) r ∧ Ev (fun k => churnref11_Apply.f k p q) r ∧ r.1.length ≤ p.length := by
  unfold perm_Apply_int.f churnref11_Apply.f
  by_cases h : p.length = q.length
  · by_cases f1 : Fits p
    · have hb : ∀ x ∈ p, 0 ≤ x ∧ x < (q.length : Int) := fun x hx => by have := f1.1 x hx; omega
      refine ⟨(pick p q, 0), ?_, ?_, by simp [pick]⟩
      · exact ev_pos (by omega) (ev_bind (fits_ev p (by omega)) (ev_pos (by simp [f1]) (ev_bind (picked_ev p q hp hb) (Ev.now _))))
      · exact ev_bind (check_ev p (by omega)) (ev_pos (by simp [f1]) (ev_pos (by omega) (ev_bind (put_ev p q hp hb) (Ev.now _))))
    · refine ⟨([], 110), ?_, ?_, by simp⟩
      · exact ev_pos (by omega) (ev_bind (fits_ev p (by omega)) (ev_neg (by simp [f1]) (Ev.now _)))
      · exact ev_bind (check_ev p (by omega)) (ev_neg (by simp [f1]) (Ev.now _))
  · refine ⟨([], 110), ev_neg (by omega) (Ev.now _), ?_, by simp⟩
    by_cases f1 : Fits p
    · exact ev_bind (check_ev p (by omega)) (ev_pos (by simp [f1]) (ev_neg (by omega) (Ev.now _)))
    · exact ev_bind (check_ev p (by omega)) (ev_neg (by simp [f1]) (Ev.now _))

theorem same_self (r : List Int) (h : r.length ≤ 9223372036854775000) : Ev (fun k => churnlaw11_same.f k r r) true := ev_to (same_ev r r h) (by simp)

theorem PermPairs : churnlaw11_PermPairs.Pure := by
  intro p q hp hp8 hpw hq hq8 hqw
  obtain ⟨⟨r, e⟩, c1, c2, hr⟩ := compose_ev p q (by omega) (by omega)
  obtain ⟨⟨s, f⟩, a1, a2, hs⟩ := apply_ev p q (by omega)
  simp only at hr hs
  refine Ev.rounds (g := fun k => churnlaw11_PermPairs.f k p q) (r := true) ?_
  unfold churnlaw11_PermPairs.f
  exact ev_bind awake_ev (ev_pos rfl (ev_bind c2 (ev_bind a2 (ev_bind c1 (ev_bind a1 (ev_pos rfl (ev_pos rfl (ev_bind (same_self r (by omega)) (ev_pos rfl (ev_bind (same_self s (by omega)) (Ev.now _)))))))))))

end Go.Proofs.Ytmbkgepfpfeahaa.Pure
