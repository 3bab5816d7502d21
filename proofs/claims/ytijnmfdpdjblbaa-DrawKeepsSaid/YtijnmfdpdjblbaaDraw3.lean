/- A list of draws, by the reference and by the program, goes as 'run' says. -/
import Derived.Test.YtijnmfdpdjblbaaDraw2
import Derived.Test.YtijnmfdpdjblbaaQx12
set_option linter.unusedVariables false
set_option linter.unusedSimpArgs false
namespace Go.Proofs.Ytijnmfdpdjblbaa.Pl
open Go.RowKit Go.Proofs.Ytijnmfdpdjblbaa.Q Go.Proofs.YtijnmfdpdjblbaaW.PrintWords Go.Proofs.YtijnmfdpdjblbaaW.PrintLast
def AllOk (bs : List Int) : Prop := ∀ b ∈ bs, 1 ≤ b ∧ b ≤ 256
theorem allOk_at {bs : List Int} (h : AllOk bs) (i : Nat) (hi : i < bs.length) : 1 ≤ rd bs (i : Int) ∧ rd bs (i : Int) ≤ 256 := h _ (rd_mem bs (i : Int) (by simpa using hi))
def allR (q : List (Int × Int) × Int × Int) : List Int × Int × Int := if q.2.2 = 0 then (q.1.map (·.1), q.2.1, 0) else ([], 0, q.2.2)
theorem ref_all (p bs : List Int) (hb : AllOk bs) (hp : ∀ x ∈ p, 0 ≤ x ∧ x ≤ 255) (hl : p.length ≤ 9223372036854775000) (hbl : bs.length ≤ 17592186044000) :
    ∀ (rem i u k : Nat) (L : List (Int × Int)), i + rem = bs.length → L.length = i → u ≤ p.length → p.length + rem + 3 ≤ k → churnref10_All.l0 k p bs (L.map (·.1)) (u : Int) (i : Int) = some (allR (run p (bs.drop i) u L)) := by
  intro rem
  induction rem with
  | zero =>
    intro i u k L hi hL hu hk
    obtain ⟨k, rfl⟩ : ∃ m, k = m + 1 := ⟨k - 1, by omega⟩
    rw [churnref10_All.l0, if_neg (by omega), List.drop_eq_nil_of_le (by omega)]
    rfl
  | succ rem ih =>
    intro i u k L hi hL hu hk
    obtain ⟨k, rfl⟩ : ∃ m, k = m + 1 := ⟨k - 1, by omega⟩
    obtain ⟨b1, b2⟩ := allOk_at hb i (by omega)
    rw [churnref10_All.l0, if_pos (by omega), if_pos (by omega), ref1 p _ b1 b2 hp hl u k hu (by omega), Option.bind_some, drop_rd bs i (by omega), run]
    cases hd : draw1 p (rd bs (i : Int)) u with
    | none => rfl
    | some q =>
      obtain ⟨v, n⟩ := q
      have hn := draw1_le p _ u hu hd
      simp only
      rw [if_pos trivial, if_pos (by simp; omega), w64 (by omega) (by omega)]
      have := ih (i + 1) n k (L ++ [(v, (n : Int) - 1)]) (by omega) (by simp; omega) hn.2.1 (by omega)
      rw [List.map_append] at this
      exact this
theorem drw_all (G : Nat → Int → Int → Bool) (p bs : List Int) (hb : AllOk bs) (hp : ∀ x ∈ p, 0 ≤ x ∧ x ≤ 255) (hl : p.length ≤ 9223372036854775000)
    (hG : ∀ (i u n : Nat) (v : Int), i < bs.length → u ≤ p.length → draw1 p (rd bs (i : Int)) u = some (v, n) → G i ((n : Int) - 1) v = true) :
    ∀ (rem i u k : Nat) (L : List (Int × Int)), i + rem = bs.length → L.length = i → u ≤ p.length → p.length + rem + 3 ≤ k → eachl G k bs (strOfNums p) (u : Int) L = some (run p (bs.drop i) u L) := by
  intro rem
  induction rem with
  | zero =>
    intro i u k L hi hL hu hk
    obtain ⟨k, rfl⟩ : ∃ m, k = m + 1 := ⟨k - 1, by omega⟩
    rw [eachl, if_neg (by omega), List.drop_eq_nil_of_le (by omega)]
    rfl
  | succ rem ih =>
    intro i u k L hi hL hu hk
    obtain ⟨k, rfl⟩ : ∃ m, k = m + 1 := ⟨k - 1, by omega⟩
    obtain ⟨b1, b2⟩ := allOk_at hb i (by omega)
    have hrd : bs.getD L.length 0 = rd bs (i : Int) := by rw [hL, rd_nat]
    rw [eachl, if_pos (by omega), hrd, drw1 p _ b1 b2 hp hl u k hu (by omega), Option.bind_some, drop_rd bs i (by omega), run]
    cases hd : draw1 p (rd bs (i : Int)) u with
    | none => rfl
    | some q =>
      obtain ⟨v, n⟩ := q
      have hn := draw1_le p _ u hu hd
      simp only
      rw [if_pos trivial, w64 (x := (n : Int) - 1) (by omega) (by omega), if_pos (by rw [hL]; exact hG i u n v (by omega) hu hd)]
      exact ih (i + 1) n k (L ++ [(v, (n : Int) - 1)]) (by omega) (by simp; omega) hn.2.1 (by omega)
theorem run_len (p : List Int) : ∀ (bs : List Int) (u : Nat) (L : List (Int × Int)), (run p bs u L).2.2 = 0 → (run p bs u L).1.length = L.length + bs.length := by
  intro bs
  induction bs with
  | nil => intro u L h; rfl
  | cons b bs ih =>
    intro u L h
    rw [run] at h ⊢
    cases hd : draw1 p b u with
    | none => rw [hd] at h; exact absurd (show (3 : Int) = 0 from h) (by decide)
    | some q =>
      obtain ⟨v, n⟩ := q
      rw [hd] at h
      simp only at h ⊢
      rw [ih n _ h]
      simp
      omega
theorem same10_ev (a b : List Int) (ha : a.length ≤ 9223372036854775000) (h : a = b) : Ev (fun k => churnlaw10_same.f k a b) true := by
  subst h
  unfold churnlaw10_same.f
  refine ev_pos rfl ?_
  have key : ∀ (d i : Nat), i + d = a.length → Ev (fun k => churnlaw10_same.l0 k a a (i : Int)) true := by
    intro d
    induction d with
    | zero =>
      intro i hi
      exact Ev.step (f := fun _ => some true) (fun k => by rw [churnlaw10_same.l0, if_neg (by omega)]) (Ev.now _)
    | succ d ih =>
      intro i hi
      exact Ev.step (fun k => by rw [churnlaw10_same.l0, if_pos (by omega), if_pos (by omega), if_pos (by omega), if_pos rfl, w64 (by omega) (by omega)]; rfl) (ih (i + 1) (by omega))
  exact key a.length 0 (by omega)
theorem wrong_ev (bs : List Int) (hl : bs.length ≤ 9223372036854775000) : Ev (fun k => churnref10_wrong.f k bs) (bs.any fun b => !okBound b) := by
  have key : ∀ (d i : Nat), i + d = bs.length → Ev (fun k => churnref10_wrong.l0 k bs (i : Int)) ((bs.drop i).any fun b => !okBound b) := by
    intro d
    induction d with
    | zero =>
      intro i hi
      rw [List.drop_eq_nil_of_le (by omega)]
      exact Ev.step (f := fun _ => some false) (fun k => by rw [churnref10_wrong.l0, if_neg (by omega)]) (Ev.now _)
    | succ d ih =>
      intro i hi
      rw [drop_rd bs i (by omega), List.any_cons]
      by_cases h1 : rd bs (i : Int) < 1
      · have : okBound (rd bs (i : Int)) = false := by unfold okBound; simp; omega
        rw [this]
        exact Ev.step (f := fun _ => some true) (fun k => by rw [churnref10_wrong.l0, if_pos (by omega), if_pos (by omega), if_pos h1]) (Ev.now _)
      · by_cases h2 : rd bs (i : Int) > 256
        · have : okBound (rd bs (i : Int)) = false := by unfold okBound; simp; omega
          rw [this]
          exact Ev.step (f := fun _ => some true) (fun k => by rw [churnref10_wrong.l0, if_pos (by omega), if_pos (by omega), if_neg h1, if_pos h2]) (Ev.now _)
        · have : okBound (rd bs (i : Int)) = true := okBound_of _ (by omega) (by omega)
          rw [this]
          exact Ev.step (fun k => by rw [churnref10_wrong.l0, if_pos (by omega), if_pos (by omega), if_neg h1, if_neg h2, w64 (by omega) (by omega)]; rfl) (ih (i + 1) (by omega))
  exact key bs.length 0 (by omega)
theorem allOk_of {bs : List Int} (h : (bs.any fun b => !okBound b) = false) : AllOk bs := by
  intro b hb
  have := (List.any_eq_false.1 h) b hb
  simp [okBound] at this
  omega
end Go.Proofs.Ytijnmfdpdjblbaa.Pl
