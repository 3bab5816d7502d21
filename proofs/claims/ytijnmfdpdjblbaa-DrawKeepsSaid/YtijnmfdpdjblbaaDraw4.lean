/- All and Turn, by the reference and by the program: what they come to. -/
import Derived.Test.YtijnmfdpdjblbaaDraw3
import Derived.Test.YtijnmfdpdjblbaaQx14
import Derived.Test.YtijnmfdpdjblbaaQx7
set_option linter.unusedVariables false
set_option linter.unusedSimpArgs false
namespace Go.Proofs.Ytijnmfdpdjblbaa.Pl
open Go.RowKit Go.Proofs.Ytijnmfdpdjblbaa.Q Go.Proofs.YtijnmfdpdjblbaaW.PrintWords Go.Proofs.YtijnmfdpdjblbaaW.PrintLast
def allA (p bs : List Int) : List Int × Int × Int := if (bs.any fun b => !okBound b) = true then ([], 0, 2) else allR (run p bs 0 [])
theorem ref_all_ev (p bs : List Int) (hp : ∀ x ∈ p, 0 ≤ x ∧ x ≤ 255) (hl : p.length ≤ 140737488351232) (hbl : bs.length ≤ 17592186043904) : Ev (fun k => churnref10_All.f k p bs) (allA p bs) := by
  unfold churnref10_All.f allA
  refine ev_bind (wrong_ev bs (by omega)) ?_
  by_cases h : (bs.any fun b => !okBound b) = true
  · refine ev_pos h (ev_some ?_)
    rw [if_pos h]
  · refine ev_neg h (ev_pos (by omega) (ev_pos (by omega) ?_))
    rw [if_neg h]
    exact ⟨p.length + bs.length + 3, fun k hk => ref_all p bs (allOk_of (by simpa using h)) hp (by omega) (by omega) bs.length 0 0 k [] (by omega) rfl (by omega) (by omega)⟩
theorem run_end (p : List Int) : ∀ (bs : List Int) (u : Nat) (L : List (Int × Int)), (run p bs u L).2.2 = 0 ∨ (run p bs u L).2.2 = 3 := by
  intro bs
  induction bs with
  | nil => intro u L; exact Or.inl rfl
  | cons b bs ih =>
    intro u L
    rw [run]
    cases draw1 p b u with
    | none => exact Or.inr rfl
    | some q => exact ih _ _
theorem drw_all_f (p bs : List Int) (hp : ∀ x ∈ p, 0 ≤ x ∧ x ≤ 255) (hl : p.length ≤ 140737488351232) (hbl : bs.length ≤ 17592186043904) : draw_All.f p bs = some (allA p bs) := by
  unfold draw_All.f allA eachf
  rw [if_pos (by omega)]
  by_cases h : (bs.any fun b => !okBound b) = true
  · rw [if_pos h, if_pos h]
    rfl
  · have hd : eachl (fun _ _ _ => true) (p.length + bs.length + 5) bs (strOfNums p) 0 [] = some (run p bs 0 []) := drw_all _ p bs (allOk_of (by simpa using h)) hp (by omega) (fun _ _ _ _ _ _ _ => rfl) bs.length 0 0 _ [] (by omega) rfl (by omega) (by omega)
    rw [if_neg h, if_neg h, hd, Option.bind_some]
    unfold allR
    by_cases e : (run p bs 0 []).2.2 = 0
    · rw [if_pos e, if_pos e]
      have := run_len p bs 0 [] e
      unfold filled
      rw [this]
      simp
    · rw [if_neg e, if_neg e]
theorem allA_len (p bs : List Int) (hbl : bs.length ≤ 17592186043904) : (allA p bs).1.length ≤ 17592186043904 := by
  unfold allA allR
  split
  · simp
  · split
    · next h => have := run_len p bs 0 [] h; simp at this ⊢; omega
    · simp
end Go.Proofs.Ytijnmfdpdjblbaa.Pl
