/- Of two lists of draws of the same sizes the one's pattern and the other's offsets are told by draws too, and by none that is told by another pattern or other offsets (P12.3): the printed statement, proved over lists. -/
import Derived.Test.YtiefmocfgneldaaBraid4
import Derived.Test.YtiefmocfgneldaaQx13
set_option linter.unusedVariables false
set_option linter.unusedSimpArgs false
namespace Go.Proofs.Ytiefmocfgneldaa.Pure
open Go.RowKit Go.Proofs.Ytiefmocfgneldaa.Q Go.Proofs.YtiefmocfgneldaaW.PrintWords Go.Proofs.YtiefmocfgneldaaW.PrintLast Go.Proofs.Ytiefmocfgneldaa.Pl

theorem carries_j2 (a o b p x y : List Int) (la : a.length ≤ 256) (lo : o.length ≤ 256) (lx : x.length ≤ 256) (h : x = y ↔ (a = b ∧ o = p)) : Ev (fun k => churnlaw12_BraidCarries.j2 k a o b p x y false) true := by
  refine Ev.step (fun k => by rw [churnlaw12_BraidCarries.j2, if_neg (by simp)]) ?_
  refine ev_bind (same12_ev x y (by omega)) (ev_bind (same12_ev a b (by omega)) ?_)
  by_cases h1 : a = b
  · refine ev_pos (by simp [h1]) (ev_bind (same12_ev o p (by omega)) (ev_some ?_))
    by_cases h2 : o = p
    · have := h.2 ⟨h1, h2⟩
      simp [this, h2]
    · have : x ≠ y := fun e => h2 (h.1 e).2
      simp [this, h2]
  · refine ev_neg (by simp [h1]) (ev_some ?_)
    have : x ≠ y := fun e => h1 (h.1 e).1
    simp [this]

theorem BraidCarries : churnlaw12_BraidCarries.Pure := by
  intro s f1 f2 hs hs8 hsw h1 h18 h1w h2 h28 h2w
  refine Ev.rounds (g := fun k => churnlaw12_BraidCarries.f k s f1 f2) (r := true) ?_
  unfold churnlaw12_BraidCarries.f
  refine ev_bind awake12 (ev_pos rfl ?_)
  have bad : ∀ (x1 x2 x7 x8 x10 x11 : List Int) (b : Bool), b = true → Ev (fun k => churnlaw12_BraidCarries.j0 k s x1 x2 x7 x8 x10 x11 b) true := fun x1 x2 x7 x8 x10 x11 b hb => Ev.step (f := fun _ => some true) (fun k => by rw [churnlaw12_BraidCarries.j0, if_pos hb]) (Ev.now _)
  rcases good_or s f1 (by omega) (by omega) with ⟨P, g, e⟩ | ⟨g, e⟩
  · rcases good_or s f2 (by omega) (by omega) with ⟨Q, g', e'⟩ | ⟨g', e'⟩
    · refine ev_bind e (ev_bind e' (ev_pos rfl ?_))
      have l1 := g.le
      have l2 := g'.le
      have t1 := g.len
      have t2 := g'.len
      obtain ⟨xs, R, gR, r1, r2⟩ := g.cross g'
      obtain ⟨ys, T, gT, u1, u2⟩ := g'.cross g
      have l3 := gR.le
      have l4 := gT.le
      have t3 := gR.len
      have t4 := gT.len
      have ex := gR.back
      have ey := gT.back
      rw [r1, r2] at ex
      rw [u1, u2] at ey
      refine Ev.step (fun k => by rw [churnlaw12_BraidCarries.j0, if_neg (by simp)]) ?_
      refine ev_bind ex (ev_bind ey (ev_pos rfl (ev_pos rfl (ev_pos (by simp only; omega) ?_))))
      simp only
      refine Ev.step (fun k => by rw [churnlaw12_BraidCarries.j1, if_neg (by simp; omega)]) ?_
      have key : xs = ys ↔ (fsts P = fsts Q ∧ allOff s.length P = allOff s.length Q) := by
        constructor
        · intro h
          have := gR.same gT h
          subst this
          exact ⟨by rw [← r1, u1], by rw [← u2, r2]⟩
        · rintro ⟨h3, h4⟩
          exact gR.inj gT (by rw [r1, u1, h3]) (by rw [r2, u2, h4])
      have j2 := carries_j2 (fsts P) (allOff s.length P) (fsts Q) (allOff s.length Q) xs ys (by omega) (by omega) (by omega) key
      refine ev_bind (same12_ev _ _ (by omega)) ?_
      by_cases h3 : fsts P = fsts Q
      · have x2 : xs = f2 := gR.inj g' (by rw [r1, h3]) r2
        have y1 : ys = f1 := gT.inj g (by rw [u1, h3]) u2
        refine ev_pos (by simp [h3]) (ev_bind (same12_ev _ _ (by omega)) (ev_pos (by simp [x2]) (ev_bind (same12_ev _ _ (by omega)) (ev_pos (by simp [y1]) (ev_bind (same12_ev _ _ (by omega)) ?_)))))
        by_cases h4 : allOff s.length P = allOff s.length Q
        · have x1 : xs = f1 := gR.inj g r1 (by rw [r2, h4])
          have y2 : ys = f2 := gT.inj g' u1 (by rw [u2, h4])
          refine ev_pos (by simp [h4]) (ev_bind (same12_ev _ _ (by omega)) (ev_pos (by simp [x1]) (ev_bind (same12_ev _ _ (by omega)) ?_)))
          simp only [y2, decide_true, Bool.not_true]
          rw [y2] at j2
          exact j2
        · exact ev_neg (by simp [h4]) j2
      · refine ev_neg (by simp [h3]) (ev_bind (same12_ev _ _ (by omega)) ?_)
        by_cases h4 : allOff s.length P = allOff s.length Q
        · have x1 : xs = f1 := gR.inj g r1 (by rw [r2, h4])
          have y2 : ys = f2 := gT.inj g' u1 (by rw [u2, h4])
          refine ev_pos (by simp [h4]) (ev_bind (same12_ev _ _ (by omega)) (ev_pos (by simp [x1]) (ev_bind (same12_ev _ _ (by omega)) ?_)))
          simp only [y2, decide_true, Bool.not_true]
          rw [y2] at j2
          exact j2
        · exact ev_neg (by simp [h4]) j2
    · exact ev_bind e (ev_bind e' (ev_pos rfl (bad _ _ _ _ _ _ _ (by simp))))
  · rcases good_or s f2 (by omega) (by omega) with ⟨Q, g', e'⟩ | ⟨g', e'⟩
    · exact ev_bind e (ev_bind e' (ev_neg (by simp) (bad _ _ _ _ _ _ _ rfl)))
    · exact ev_bind e (ev_bind e' (ev_neg (by simp) (bad _ _ _ _ _ _ _ rfl)))

end Go.Proofs.Ytiefmocfgneldaa.Pure
