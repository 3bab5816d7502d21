/- All answers, for every tape and every list of bounds, as the document's walk does: the draws, how many bytes were read, or the error: the printed statement, proved over lists. -/
import Derived.Test.YtijnmfdpdjblbaaDraw4
import Derived.Test.YtijnmfdpdjblbaaQx13
set_option linter.unusedVariables false
set_option linter.unusedSimpArgs false
namespace Go.Proofs.Ytijnmfdpdjblbaa.Pure
open Go.RowKit Go.Proofs.Ytijnmfdpdjblbaa.Q Go.Proofs.YtijnmfdpdjblbaaW.PrintWords Go.Proofs.YtijnmfdpdjblbaaW.PrintLast Go.Proofs.Ytijnmfdpdjblbaa.Pl

theorem DrawAlls : churnlaw10_DrawAlls.Pure := by
  intro p bs h1 h2 hp h3 h4 hb
  have hp' : ∀ x ∈ p, 0 ≤ x ∧ x ≤ 255 := fun x hx => wf_u8 (hp x hx)
  refine Ev.rounds (g := fun k => churnlaw10_DrawAlls.f k p bs) (r := true) ?_
  unfold churnlaw10_DrawAlls.f
  refine ev_bind0 (show churnlaw10_alive.f = some true from rfl) (ev_pos rfl (ev_bind (ref_all_ev p bs hp' (by omega) (by omega)) (ev_bind0 (drw_all_f p bs hp' (by omega) (by omega)) (ev_bind (same10_ev _ _ ?_ rfl) (ev_pos rfl (ev_pos rfl (ev_some ?_)))))))
  · have := allA_len p bs (by omega)
    omega
  · simp

end Go.Proofs.Ytijnmfdpdjblbaa.Pure
