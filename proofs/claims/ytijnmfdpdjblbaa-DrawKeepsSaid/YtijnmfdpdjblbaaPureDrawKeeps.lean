/- What is handed in stays as it is, spare room too, and isn't kept; answers are new memory: the statement over lists that the row asks for: both sides' draws come to the same. -/
import Derived.Test.YtijnmfdpdjblbaaDraw5
import Derived.Test.YtijnmfdpdjblbaaQLDrawKeeps
set_option linter.unusedVariables false
namespace Go.Proofs.Ytijnmfdpdjblbaa.Pure
open Go.RowKit Go.Proofs.Ytijnmfdpdjblbaa.Q Go.Proofs.YtijnmfdpdjblbaaW.PrintWords Go.Proofs.YtijnmfdpdjblbaaW.PrintLast Go.Proofs.Ytijnmfdpdjblbaa.Pl
theorem turnA_len (p b t : List Int) (h : p.length ≤ 140737488351232) : (turnA p b t).1.length ≤ 140737488351232 := by
  unfold turnA
  split
  · unfold turnR
    split
    · simp only [turned_len]; omega
    · simp
  · simp
theorem DrawKeeps : churnlaw10_DrawKeeps.Pure := by
  rintro p b t ⟨hp, p8, hw⟩ ⟨hb, b8, bw⟩ ⟨ht, t8, tw⟩
  unfold churnlaw10_DrawKeeps.f
  rw [if_pos]
  refine ⟨⟨?_, ?_, ?_⟩, fun x hx => wf_u8 (hw x hx), by omega, by omega, by omega⟩
  · intro p b hy h1 h2
    obtain ⟨k, hk⟩ := Ev.rounds (ref_all_ev p b hy h1 h2)
    exact ⟨k, _, _, _, hk, drw_all_f p b hy h1 h2, allA_len p b h2⟩
  · intro p b t hy h1 h2 h3
    exact ⟨_, _, drw_turn_f p b t hy h1 h2, turnA_len p b t h1⟩
  · intro l hl
    exact Ev.rounds (same10_ev l l (by omega) rfl)
end Go.Proofs.Ytijnmfdpdjblbaa.Pure
