/- A tape that is turned has its length, tells the draws that were wanted, with as many bytes read; turned back it is the tape that it was; two turns on end are the last one alone (P10.2): the printed statement, proved over lists. -/
import Derived.Test.YtijnmfdpdjblbaaDraw7
import Derived.Test.YtijnmfdpdjblbaaQx16
set_option linter.unusedVariables false
set_option linter.unusedSimpArgs false
namespace Go.Proofs.Ytijnmfdpdjblbaa.Pure
open Go.RowKit Go.Proofs.Ytijnmfdpdjblbaa.Q Go.Proofs.YtijnmfdpdjblbaaW.PrintWords Go.Proofs.YtijnmfdpdjblbaaW.PrintLast Go.Proofs.Ytijnmfdpdjblbaa.Pl

theorem drw_f' (p bs : List Int) (hp : Bytes p) (hl : p.length ≤ 140737488351232) (hbl : bs.length ≤ 17592186043904) : draw_All.f p bs = some (drA p bs) := by
  rw [drw_all_f p bs hp hl hbl, allA_dr]
theorem anyOk {bs : List Int} (h : AllOk bs) : ¬ (bs.any fun b => !okBound b) = true := by
  intro hc
  obtain ⟨b, hb, e⟩ := List.any_eq_true.1 hc
  have := h b hb
  rw [okBound_of b this.1 this.2] at e
  exact absurd e (by decide)
theorem valid_zero : ∀ (bs : List Int), AllOk bs → Valid bs (List.replicate bs.length 0)
  | [], _ => trivial
  | b :: bs, h => by
    have := h b List.mem_cons_self
    rw [List.length_cons, List.replicate_succ]
    exact ⟨by omega, by omega, valid_zero bs (fun x hx => h x (List.mem_cons_of_mem _ hx))⟩
theorem valid_len : ∀ (bs ws : List Int), Valid bs ws → ws.length = bs.length
  | [], [], _ => rfl
  | b :: bs, w :: ws, h => by simp [valid_len bs ws h.2.2]
  | [], _ :: _, h => h.elim
  | _ :: _, [], h => h.elim
theorem ext_tail {a b : List Int} (hl : a.length = b.length) (n : Nat) (h1 : ∀ i, i < n → rd a (i : Int) = rd b (i : Int)) (h2 : ∀ i, n ≤ i → rd a (i : Int) = rd b (i : Int)) : a = b :=
  ext_rd hl fun i _ => by
    by_cases c : i < n
    · exact h1 i c
    · exact h2 i (by omega)
theorem DrawEven : churnlaw10_DrawEven.Pure := by
  intro p bs ws h1 h2 hp h3 h4 hb h5 h6 hw
  have hp' : Bytes p := fun x hx => wf_u8 (hp x hx)
  refine Ev.rounds (g := fun k => churnlaw10_DrawEven.f k p bs ws) (r := true) ?_
  unfold churnlaw10_DrawEven.f
  refine ev_bind0 (show churnlaw10_alive.f = some true from rfl) (ev_pos rfl (ev_bind0 (drw_f' p bs hp' (by omega) (by omega)) (ev_bind0 (drw_turn_f p bs ws hp' (by omega) (by omega)) ?_)))
  by_cases hc : AllOk bs ∧ Valid bs ws
  · obtain ⟨hB, hV⟩ := hc
    cases hr : dr p bs 0 with
    | none =>
      rw [turnA_none p bs ws hB hV hr]
      have e : drA p bs = ([], 0, 3) := by unfold drA; rw [if_neg (anyOk hB), hr]
      rw [e]
      exact ev_neg (by decide) (ev_pos rfl (Ev.now _))
    | some r =>
      obtain ⟨o, n⟩ := r
      have hn := dr_le p bs 0 (by omega) _ hr
      have hVo := dr_valid p hp' bs 0 hB (by omega) _ hr
      simp only at hn hVo
      have e : drA p bs = (o, (n : Int), 0) := by unfold drA; rw [if_neg (anyOk hB), hr]
      obtain ⟨q, eq, bq, lq, tq, sq⟩ := turnA_some p bs ws hp' hB hV hr
      simp only at tq sq
      have back := Tn.back hp' lq hB hV (by omega) tq
      have hdq := Tn.dr back
      have eq2 : drA q bs = (ws, (n : Int), 0) := by unfold drA; rw [if_neg (anyOk hB), hdq]
      obtain ⟨p', e1, b1, l1, t1, s1⟩ := turnA_some q bs o bq hB hVo hdq
      simp only at t1 s1
      obtain ⟨z, e2, b2, l2, t2, s2⟩ := turnA_some p bs (List.replicate bs.length 0) hp' hB (valid_zero bs hB) hr
      simp only at t2 s2
      have hdz := Tn.dr (Tn.back hp' l2 hB (valid_zero bs hB) (by omega) t2)
      obtain ⟨y, e3, b3, l3, t3, s3⟩ := turnA_some z bs ws b2 hB hV hdz
      simp only at t3 s3
      have ep : p' = p := ext_tail (by omega) n (fun i hi => Tn.same (by omega) t1 back i (by omega) hi) (fun i hi => by rw [s1 i hi, sq i hi])
      have ton := Tn.on hp' l2 hB (valid_zero bs hB) (by omega) t2 t3
      have ey : y = q := ext_tail (by omega) n (fun i hi => Tn.same (by omega) ton tq i (by omega) hi) (fun i hi => by rw [s3 i hi, s2 i hi, sq i hi])
      rw [eq, e]
      have et : q.drop n = p.drop n := ext_rd (by simp [lq]) fun i _ => by rw [rd_drop, rd_drop, sq (n + i) (by omega)]
      have g1 := drw_f' q bs bq (by omega) (by omega)
      have g2 := drw_turn_f q bs o bq (by omega) (by omega)
      have g3 := drw_turn_f p bs (List.replicate bs.length 0) hp' (by omega) (by omega)
      have g4 := drw_turn_f z bs ws b2 (by omega) (by omega)
      rw [eq2] at g1
      rw [e1, ep] at g2
      rw [e2] at g3
      rw [e3, ey] at g4
      refine ev_pos rfl (ev_bind0 g1 (ev_bind0 g2 (ev_pos (show 0 ≤ (bs.length : Int) by omega) (ev_pos (show (bs.length : Int).toNat ≤ 35184372088832 by omega) ?_))))
      rw [Int.toNat_natCast]
      refine ev_bind0 g3 (ev_bind0 g4 (ev_pos rfl (ev_pos rfl (ev_pos rfl (ev_pos rfl (ev_pos rfl (ev_pos (show (q.length : Int) = (p.length : Int) by omega) ?_)))))))
      refine ev_bind (same10_ev ws ws (by omega) rfl) (ev_pos rfl (ev_pos rfl (ev_pos rfl (ev_pos rfl (ev_pos (show 0 ≤ (n : Int) by omega) (ev_pos (show (n : Int) ≤ (q.length : Int) by omega) (ev_pos (show (n : Int) ≤ (p.length : Int) by omega) (ev_some ?_))))))))
      show ((strOfNums (q.drop (n : Int).toNat)).toList == (strOfNums (p.drop (n : Int).toNat)).toList) = true
      rw [Int.toNat_natCast, et]
      simp
  · rw [turnA_bad p bs ws hc]
    refine ev_neg (by decide) ?_
    by_cases h2' : (2 : Int) = (drA p bs).2.2
    · exact ev_pos h2' (Ev.now _)
    · exact ev_neg h2' (ev_pos rfl (ev_some rfl))

end Go.Proofs.Ytijnmfdpdjblbaa.Pure
