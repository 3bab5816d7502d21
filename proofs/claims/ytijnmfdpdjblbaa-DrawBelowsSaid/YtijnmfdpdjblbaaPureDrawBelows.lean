/- Below answers, from any place of any tape and for any bounds one behind the other, as the document's walk does: the draw, what is left and used, or the error with the zero tape: the printed statement, proved over lists. -/
import Derived.Test.YtijnmfdpdjblbaaDraw2
import Derived.Test.YtijnmfdpdjblbaaQx18
set_option linter.unusedVariables false
set_option linter.unusedSimpArgs false
namespace Go.Proofs.Ytijnmfdpdjblbaa.Pure
open Go.RowKit Go.Proofs.Ytijnmfdpdjblbaa.Q Go.Proofs.YtijnmfdpdjblbaaW.PrintWords Go.Proofs.YtijnmfdpdjblbaaW.PrintLast Go.Proofs.Ytijnmfdpdjblbaa.Pl

theorem ref1_ev (p : List Int) (b : Int) (h1 : 1 ≤ b) (h2 : b ≤ 256) (hp : ∀ x ∈ p, 0 ≤ x ∧ x ≤ 255) (hl : p.length ≤ 140737488351232) (u : Nat) (hu : u ≤ p.length) :
    Ev (fun k => churnref10_Below.f k p (u : Int) b) (match draw1 p b u with | some (v, n) => (v, (n : Int), 0) | none => (0, 0, 3)) := ⟨p.length + 2, fun k hk => ref1 p b h1 h2 hp (by omega) u k hu (by omega)⟩
theorem drw1_ev (p : List Int) (b : Int) (h1 : 1 ≤ b) (h2 : b ≤ 256) (hp : ∀ x ∈ p, 0 ≤ x ∧ x ≤ 255) (hl : p.length ≤ 140737488351232) (u : Nat) (hu : u ≤ p.length) :
    Ev (fun k => draw_Below.f k (strOfNums p) (u : Int) b) (match draw1 p b u with | some (v, n) => (v, strOfNums p, (n : Int), 0) | none => (0, ⟨#[]⟩, 0, 3)) := ⟨p.length + 2, fun k hk => drw1 p b h1 h2 hp (by omega) u k hu (by omega)⟩
theorem ref1_bad (p : List Int) (b u : Int) (hb : b < 1 ∨ b > 256) : Ev (fun k => churnref10_Below.f k p u b) (0, 0, 2) := by
  refine Ev.step (f := fun _ => some (0, 0, 2)) (fun k => ?_) (ev_some rfl)
  show churnref10_Below.f (k + 1) p u b = _
  unfold churnref10_Below.f
  by_cases h : b < 1
  · rw [if_pos h, churnref10_Below.j0, if_pos rfl]
  · rw [if_neg h, churnref10_Below.j0, if_pos (by simp; omega)]
theorem drw1_bad (s : ByteArray) (b u : Int) (k : Nat) (hb : b < 1 ∨ b > 256) : draw_Below.f k s u b = some (0, ⟨#[]⟩, 0, 2) := by
  have : okBound b = false := by unfold okBound; simp; omega
  unfold draw_Below.f
  rw [isBound_f, Option.bind_some, this, if_neg (by decide)]
theorem belows_refused (p bs : List Int) (e x : Int) (at_ i : Int) (hx : x ≠ 0) (n : Int) (H : Ev (fun k => churnlaw10_DrawBelows.l0 k p bs at_ (wrap64 (i + 1)) (strOfNums p) at_) true) : Ev (fun k => churnlaw10_DrawBelows.j3 k p bs at_ i n x false (strOfNums p) at_ (⟨#[]⟩ : ByteArray) 0) true := by
  refine Ev.step (f := fun k => churnlaw10_DrawBelows.l0 k p bs at_ (wrap64 (i + 1)) (strOfNums p) at_) (fun k => ?_) H
  rw [churnlaw10_DrawBelows.j3, if_neg (by decide), if_neg hx]
  unfold tape_Tape_Left.f tape_Tape_Used.f
  rw [Option.bind_some, if_pos (show wrap64 (((⟨#[]⟩ : ByteArray).size : Int) - 0) = 0 from w64 (x := 0) (by omega) (by omega)), Option.bind_some, if_pos rfl]
theorem belows (p bs : List Int) (hp : ∀ x ∈ p, 0 ≤ x ∧ x ≤ 255) (hl : p.length ≤ 140737488351232) (hbl : bs.length ≤ 17592186043904) : ∀ (d i u : Nat), i + d = bs.length → u ≤ p.length → Ev (fun k => churnlaw10_DrawBelows.l0 k p bs (u : Int) (i : Int) (strOfNums p) (u : Int)) true := by
  intro d
  induction d with
  | zero =>
    intro i u hi hu
    exact Ev.step (f := fun _ => some true) (fun k => by rw [churnlaw10_DrawBelows.l0, if_neg (by omega)]) (ev_some rfl)
  | succ d ih =>
    intro i u hi hu
    refine Ev.step (fun k => by rw [churnlaw10_DrawBelows.l0, if_pos (by omega), if_pos (by omega)]) ?_
    by_cases hb : rd bs (i : Int) < 1 ∨ rd bs (i : Int) > 256
    · refine ev_bind (ref1_bad p _ _ hb) (ev_bind ⟨0, fun k _ => drw1_bad _ _ _ k hb⟩ (ev_pos rfl (ev_pos rfl ?_)))
      refine ev_bind0 (a := (u : Int)) rfl ?_
      have e : ((u : Int) != (u : Int)) = false := by simp
      rw [e]
      exact belows_refused p bs 0 2 _ _ (by decide) _ (by rw [w64 (by omega) (by omega)]; exact ih (i + 1) u (by omega) hu)
    · have e : ((u : Int) != (u : Int)) = false := by simp
      refine ev_bind (ref1_ev p _ (by omega) (by omega) hp hl u hu) (ev_bind (drw1_ev p _ (by omega) (by omega) hp hl u hu) ?_)
      cases hd : draw1 p (rd bs (i : Int)) u with
      | none =>
        refine ev_pos rfl (ev_pos rfl (ev_bind0 (a := (u : Int)) rfl ?_))
        rw [e]
        exact belows_refused p bs 0 3 _ _ (by decide) _ (by rw [w64 (by omega) (by omega)]; exact ih (i + 1) u (by omega) hu)
      | some q =>
        obtain ⟨v, n⟩ := q
        have hn := draw1_le p _ u hu hd
        refine ev_pos rfl (ev_pos rfl (ev_bind0 (a := (u : Int)) rfl ?_))
        rw [e]
        refine Ev.step (f := fun k => churnlaw10_DrawBelows.l0 k p bs (n : Int) (wrap64 ((i : Int) + 1)) (strOfNums p) (n : Int)) (fun k => ?_) (by rw [w64 (by omega) (by omega)]; exact ih (i + 1) n (by omega) hn.2.1)
        rw [churnlaw10_DrawBelows.j3, if_neg (by decide), if_pos rfl]
        unfold tape_Tape_Left.f tape_Tape_Used.f
        rw [Option.bind_some, if_pos rfl, Option.bind_some, strOfNums_size, if_pos rfl]
theorem belows_j1 (p bs : List Int) (u : Nat) (hp : ∀ x ∈ p, 0 ≤ x ∧ x ≤ 255) (hl : p.length ≤ 140737488351232) (hbl : bs.length ≤ 17592186043904) (hu : u ≤ p.length) : Ev (fun k => churnlaw10_DrawBelows.j1 k p (u : Int) bs) true := by
  refine Ev.step (f := fun k => churnlaw10_DrawBelows.l0 k p bs (u : Int) 0 (strOfNums p) (u : Int)) (fun k => ?_) (belows p bs hp hl hbl bs.length 0 u (by omega) hu)
  have hT : ∃ z, tape_Tape_Take.f (strOfNums p) 0 (u : Int) = some (z, strOfNums p, (u : Int), 0) := by
    unfold tape_Tape_Take.f
    rw [if_neg (by omega), strOfNums_size, w64 (by omega) (by omega), if_neg (by omega), w64 (by omega) (by omega), if_pos (by omega), Int.zero_add]
    exact ⟨_, rfl⟩
  obtain ⟨z, hT⟩ := hT
  rw [churnlaw10_DrawBelows.j1, tape_New.f, Option.bind_some, hT, Option.bind_some, if_pos rfl]
theorem DrawBelows : churnlaw10_DrawBelows.Pure := by
  intro p a bs h1 h2 hp h3 h4 h5 hb
  have hp' : ∀ x ∈ p, 0 ≤ x ∧ x ≤ 255 := fun x hx => wf_u8 (hp x hx)
  refine Ev.rounds (g := fun k => churnlaw10_DrawBelows.f k p a bs) (r := true) ?_
  unfold churnlaw10_DrawBelows.f
  refine ev_bind0 (show churnlaw10_alive.f = some true from rfl) (ev_pos rfl ?_)
  by_cases ha : a < 0
  · refine ev_pos ha (Ev.step (fun k => by rw [churnlaw10_DrawBelows.j0, if_pos rfl]) ?_)
    exact belows_j1 p bs 0 hp' (by omega) (by omega) (by omega)
  · refine ev_neg ha ?_
    by_cases ha2 : a > (p.length : Int)
    · refine Ev.step (fun k => by rw [churnlaw10_DrawBelows.j0, if_pos (decide_eq_true ha2)]) ?_
      exact belows_j1 p bs 0 hp' (by omega) (by omega) (by omega)
    · refine Ev.step (fun k => by rw [churnlaw10_DrawBelows.j0, if_neg (by simp; omega)]) ?_
      obtain ⟨u, rfl⟩ : ∃ u : Nat, a = (u : Int) := ⟨a.toNat, by omega⟩
      exact belows_j1 p bs u hp' (by omega) (by omega) (by omega)

end Go.Proofs.Ytijnmfdpdjblbaa.Pure
