/- Two lists of bounds one behind the other are drawn one behind the other; bytes behind those that are read count for nothing (P10.3, P10.4), where what is read is of bulk at most 1048576: the printed statement, proved over lists. -/
import Derived.Test.YtijnmfdpdjblbaaDraw6
import Derived.Test.YtijnmfdpdjblbaaQx18
import Derived.Test.YtijnmfdpdjblbaaQx12
set_option linter.unusedVariables false
set_option linter.unusedSimpArgs false
namespace Go.Proofs.Ytijnmfdpdjblbaa.Pure
open Go.RowKit Go.Proofs.Ytijnmfdpdjblbaa.Q Go.Proofs.YtijnmfdpdjblbaaW.PrintWords Go.Proofs.YtijnmfdpdjblbaaW.PrintLast Go.Proofs.Ytijnmfdpdjblbaa.Pl

theorem any_append (a b : List Int) : ((a ++ b).any fun x => !okBound x) = ((a.any fun x => !okBound x) || (b.any fun x => !okBound x)) := List.any_append
theorem drw_f (p bs : List Int) (hp : ∀ x ∈ p, 0 ≤ x ∧ x ≤ 255) (hl : p.length ≤ 140737488351232) (hbl : bs.length ≤ 17592186043904) : draw_All.f p bs = some (drA p bs) := by
  rw [drw_all_f p bs hp hl hbl, allA_dr]
theorem drA_bad {p bs : List Int} (h : (bs.any fun b => !okBound b) = true) : drA p bs = ([], 0, 2) := by unfold drA; rw [if_pos h]
theorem drA_some {p bs : List Int} (h : ¬ (bs.any fun b => !okBound b) = true) {r : List Int × Nat} (hr : dr p bs 0 = some r) : drA p bs = (r.1, (r.2 : Int), 0) := by unfold drA; rw [if_neg h, hr]
theorem drA_none {p bs : List Int} (h : ¬ (bs.any fun b => !okBound b) = true) (hr : dr p bs 0 = none) : drA p bs = ([], 0, 3) := by unfold drA; rw [if_neg h, hr]
theorem DrawPieces : ∀ (p a b : List Int), p.length ≤ 1048576 → (∀ x ∈ p, (Lit.int .u8 x).wf = true) → a.length ≤ 1048576 → (∀ x ∈ a, (Lit.int .i64 x).wf = true) → b.length ≤ 1048576 → (∀ x ∈ b, (Lit.int .i64 x).wf = true) → ∃ k, churnlaw10_DrawPieces.f k p a b = some true := by
  intro p a b h1 hp h3 ha h5 hb
  have hp' : ∀ x ∈ p, 0 ≤ x ∧ x ≤ 255 := fun x hx => wf_u8 (hp x hx)
  refine Ev.rounds (g := fun k => churnlaw10_DrawPieces.f k p a b) (r := true) ?_
  unfold churnlaw10_DrawPieces.f
  have e1 := drw_f p a hp' (by omega) (by omega)
  have e2 := drw_f p (a ++ b) hp' (by omega) (by simp; omega)
  have e3 := drw_f [] b (by simp) (by simp) (by omega)
  refine ev_bind0 (show churnlaw10_alive.f = some true from rfl) (ev_pos rfl (ev_bind0 e1 (ev_bind0 rfl (ev_pos (by simp; omega) (ev_bind0 rfl (ev_pos (by simp; omega) ?_))))))
  rw [List.nil_append]
  refine ev_bind0 e2 (ev_bind0 e3 ?_)
  by_cases hA : (a.any fun x => !okBound x) = true
  · rw [drA_bad hA, drA_bad (by rw [any_append, hA]; rfl)]
    exact ev_neg (by decide) (ev_pos rfl (Ev.now _))
  · cases hr : dr p a 0 with
    | none =>
      rw [drA_none hA hr]
      refine ev_neg (by decide) ?_
      by_cases hB : (b.any fun x => !okBound x) = true
      · rw [drA_bad (show ((a ++ b).any fun x => !okBound x) = true by rw [any_append, hB, Bool.or_true]), drA_bad hB]
        exact ev_neg (by decide) (ev_pos rfl (Ev.now _))
      · rw [drA_none (show ¬ ((a ++ b).any fun x => !okBound x) = true by rw [any_append]; simp [hA, hB]) (by rw [dr_append, hr]; rfl)]
        exact ev_pos rfl (Ev.now _)
    | some r =>
      obtain ⟨d, n⟩ := r
      have hn := dr_le p a 0 (by omega) _ hr
      simp only at hn
      rw [drA_some hA hr]
      refine ev_pos rfl (ev_neg (show ¬ (n : Int) < 0 by omega) ?_)
      have hdec : decide ((n : Int) > (p.length : Int)) = false := decide_eq_false (by omega)
      rw [hdec]
      have hpd : ∀ x ∈ p.drop n, 0 ≤ x ∧ x ≤ 255 := fun x hx => hp' x (List.mem_of_mem_drop hx)
      have hpt : ∀ x ∈ p.take n, 0 ≤ x ∧ x ≤ 255 := fun x hx => hp' x (List.mem_of_mem_take hx)
      have hpl : ∀ x ∈ p ++ [0, 255, 7], 0 ≤ x ∧ x ≤ 255 := fun x hx => by
        rcases List.mem_append.1 hx with hx | hx
        · exact hp' x hx
        · simp at hx; omega
      have f1 := drw_f (p.drop n) b hpd (by simp; omega) (by omega)
      have f2 := drw_f (p.take n) a hpt (by simp; omega) (by omega)
      have f3 := drw_f (p ++ [0, 255, 7]) a hpl (by simp; omega) (by omega)
      have s2 : dr (p.take n) a 0 = some (d, n) := dr_same p (p.take n) a 0 (by omega) _ hr (by simp; omega) (fun i hi => by
        simp only at hi
        rw [rd_nat, rd_nat, List.getD_eq_getElem?_getD, List.getD_eq_getElem?_getD, List.getElem?_take, if_pos hi])
      have s3 : dr (p ++ [0, 255, 7]) a 0 = some (d, n) := dr_same p _ a 0 (by omega) _ hr (by simp; omega) (fun i hi => by
        simp only at hi
        rw [rd_nat, rd_nat, List.getD_eq_getElem?_getD, List.getD_eq_getElem?_getD, List.getElem?_append_left (by omega)])
      rw [drA_some hA s2] at f2
      rw [drA_some hA s3] at f3
      refine Ev.step (fun k => by rw [churnlaw10_DrawPieces.j0, if_neg (by decide), if_pos (show 0 ≤ (n : Int) by omega), if_pos (show (n : Int) ≤ (p.length : Int) by omega), Int.toNat_natCast]) ?_
      refine ev_bind0 f1 ?_
      by_cases hB : (b.any fun x => !okBound x) = true
      · rw [drA_bad hB, drA_bad (show ((a ++ b).any fun x => !okBound x) = true by rw [any_append, hB, Bool.or_true])]
        exact ev_neg (by decide) (ev_pos rfl (ev_pos rfl (ev_some rfl)))
      · have hAB : ¬ ((a ++ b).any fun x => !okBound x) = true := by rw [any_append]; simp [hA, hB]
        have hs := dr_drop p n hn.2.1 b 0 (by omega)
        have hc : dr p (a ++ b) 0 = (dr p b n).map fun r => (d ++ r.1, r.2) := by rw [dr_append, hr]; rfl
        cases hq : dr p b n with
        | none =>
          rw [drA_none hB (by rw [hs, Nat.add_zero, hq]; rfl), drA_none hAB (by rw [hc, hq]; rfl)]
          exact ev_neg (by decide) (ev_pos rfl (ev_pos rfl (ev_some rfl)))
        | some s =>
          obtain ⟨c, m⟩ := s
          have hm := dr_le p b n hn.2.1 _ hq
          simp only at hm
          rw [drA_some hB (r := (c, m - n)) (by rw [hs, Nat.add_zero, hq]; rfl), drA_some hAB (r := (d ++ c, m)) (by rw [hc, hq]; rfl)]
          refine ev_pos rfl (ev_bind0 f2 (ev_bind0 rfl (ev_pos (by simp; omega) (ev_bind0 rfl (ev_bind0 rfl (ev_pos (by simp; omega) ?_))))))
          rw [List.nil_append]
          refine ev_bind0 f3 (ev_pos rfl (ev_pos rfl (ev_pos rfl (ev_pos rfl (ev_pos rfl ?_)))))
          refine ev_bind (same10_ev d d (by omega) rfl) (ev_pos rfl (ev_bind (same10_ev d d (by omega) rfl) (ev_pos rfl ?_)))
          refine ev_pos ?_ (ev_bind0 rfl (ev_pos (by simp; omega) (ev_bind0 rfl (ev_pos (by simp; omega) ?_))))
          · show (m : Int) = wrap64 ((n : Int) + ((m - n : Nat) : Int))
            rw [w64 (by omega) (by omega)]
            omega
          · rw [List.nil_append]
            exact ev_bind (same10_ev (d ++ c) (d ++ c) (by simp; omega) rfl) (ev_some rfl)

end Go.Proofs.Ytijnmfdpdjblbaa.Pure
