/- Turn answers, for every tape, every list of bounds and every list of wanted draws, as the document's walk does: the turned tape, or the error: the printed statement, proved over lists. -/
import Derived.Test.YtijnmfdpdjblbaaDraw5
import Derived.Test.YtijnmfdpdjblbaaQx15
set_option linter.unusedVariables false
set_option linter.unusedSimpArgs false
namespace Go.Proofs.Ytijnmfdpdjblbaa.Pure
open Go.RowKit Go.Proofs.Ytijnmfdpdjblbaa.Q Go.Proofs.YtijnmfdpdjblbaaW.PrintWords Go.Proofs.YtijnmfdpdjblbaaW.PrintLast Go.Proofs.Ytijnmfdpdjblbaa.Pl

theorem DrawTurns : churnlaw10_DrawTurns.Pure := by
  intro p bs ws h1 h2 hp h3 h4 hb h5 h6 hw
  have hp' : ∀ x ∈ p, 0 ≤ x ∧ x ≤ 255 := fun x hx => wf_u8 (hp x hx)
  refine Ev.rounds (g := fun k => churnlaw10_DrawTurns.f k p bs ws) (r := true) ?_
  unfold churnlaw10_DrawTurns.f
  refine ev_bind0 (show churnlaw10_alive.f = some true from rfl) (ev_pos rfl (ev_bind (ref_turn_ev p bs ws hp' (by omega) (by omega) (by omega)) (ev_bind0 (drw_turn_f p bs ws hp' (by omega) (by omega)) (ev_pos rfl (ev_some ?_)))))
  simp

end Go.Proofs.Ytijnmfdpdjblbaa.Pure
