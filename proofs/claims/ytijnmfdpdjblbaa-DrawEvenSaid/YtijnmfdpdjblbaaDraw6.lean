/- A list of draws without the places: what one list behind another draws, what bytes behind count, and where the tape is cut. -/
import Derived.Test.YtijnmfdpdjblbaaDraw4
set_option linter.unusedVariables false
set_option linter.unusedSimpArgs false
namespace Go.Proofs.Ytijnmfdpdjblbaa.Pl
open Go.RowKit Go.Proofs.Ytijnmfdpdjblbaa.Q Go.Proofs.YtijnmfdpdjblbaaW.PrintWords Go.Proofs.YtijnmfdpdjblbaaW.PrintLast
def dr (p : List Int) : List Int → Nat → Option (List Int × Nat)
  | [], u => some ([], u)
  | b :: bs, u => (draw1 p b u).bind fun q => (dr p bs q.2).map fun r => (q.1 :: r.1, r.2)
theorem run_dr (p : List Int) : ∀ (bs : List Int) (u : Nat) (L : List (Int × Int)),
    match dr p bs u with
    | some r => (run p bs u L).2.2 = 0 ∧ (run p bs u L).2.1 = (r.2 : Int) ∧ (run p bs u L).1.map (·.1) = L.map (·.1) ++ r.1
    | none => (run p bs u L).2.2 = 3 := by
  intro bs
  induction bs with
  | nil => intro u L; exact ⟨rfl, rfl, by simp [run]⟩
  | cons b bs ih =>
    intro u L
    rw [dr, run]
    cases draw1 p b u with
    | none => rfl
    | some q =>
      obtain ⟨v, n⟩ := q
      have := ih n (L ++ [(v, (n : Int) - 1)])
      simp only [Option.bind_some]
      cases h : dr p bs n with
      | none => rw [h] at this; exact this
      | some r =>
        rw [h] at this
        simp only [Option.map_some]
        exact ⟨this.1, this.2.1, by rw [this.2.2]; simp⟩
def drA (p bs : List Int) : List Int × Int × Int := if (bs.any fun b => !okBound b) = true then ([], 0, 2) else match dr p bs 0 with | some r => (r.1, (r.2 : Int), 0) | none => ([], 0, 3)
theorem allA_dr (p bs : List Int) : allA p bs = drA p bs := by
  unfold allA drA allR
  split
  · rfl
  · have := run_dr p bs 0 []
    cases h : dr p bs 0 with
    | none => rw [h] at this; simp only at this; rw [this]; rfl
    | some r =>
      rw [h] at this
      simp only at this
      rw [this.1, if_pos rfl, this.2.1, this.2.2]
      rfl
theorem scan_iff (p : List Int) (b : Int) : ∀ (d u j : Nat), scan p b d u = some j ↔ u ≤ j ∧ j < u + d ∧ taken p b j ∧ ∀ i, u ≤ i → i < j → ¬ taken p b i := by
  intro d
  induction d with
  | zero => intro u j; simp [scan]; omega
  | succ d ih =>
    intro u j
    unfold scan
    by_cases ht : taken p b u
    · rw [if_pos ht]
      constructor
      · intro h
        obtain rfl := Option.some.inj h
        exact ⟨Nat.le_refl _, by omega, ht, fun i h1 h2 => by omega⟩
      · rintro ⟨h1, h2, h3, h4⟩
        by_cases e : u = j
        · rw [e]
        · exact absurd ht (h4 u (Nat.le_refl _) (by omega))
    · rw [if_neg ht, ih]
      constructor
      · rintro ⟨h1, h2, h3, h4⟩
        refine ⟨by omega, by omega, h3, fun i h5 h6 => ?_⟩
        by_cases e : i = u
        · rw [e]; exact ht
        · exact h4 i (by omega) h6
      · rintro ⟨h1, h2, h3, h4⟩
        refine ⟨?_, by omega, h3, fun i h5 h6 => h4 i (by omega) h6⟩
        by_cases e : u = j
        · rw [← e] at h3; exact absurd h3 ht
        · omega
theorem draw1_iff (p : List Int) (b : Int) (hb : b ≠ 1) (u : Nat) (hu : u ≤ p.length) (v : Int) (n : Nat) : draw1 p b u = some (v, n) ↔ u < n ∧ n ≤ p.length ∧ taken p b (n - 1) ∧ (∀ i, u ≤ i → i < n - 1 → ¬ taken p b i) ∧ v = Int.tmod (rd p ((n - 1 : Nat) : Int)) b := by
  unfold draw1
  rw [if_neg hb, Option.map_eq_some_iff]
  constructor
  · rintro ⟨j, hj, h⟩
    rw [scan_iff] at hj
    simp only [Prod.mk.injEq] at h
    obtain ⟨rfl, rfl⟩ := h
    exact ⟨by omega, by omega, hj.2.2.1, fun i h1 h2 => hj.2.2.2 i h1 (by omega), rfl⟩
  · rintro ⟨h1, h2, h3, h4, rfl⟩
    exact ⟨n - 1, (scan_iff p b _ _ _).2 ⟨by omega, by omega, h3, h4⟩, by simp; omega⟩
theorem dr_le (p : List Int) : ∀ (bs : List Int) (u : Nat), u ≤ p.length → ∀ r, dr p bs u = some r → u ≤ r.2 ∧ r.2 ≤ p.length ∧ r.1.length = bs.length := by
  intro bs
  induction bs with
  | nil =>
    intro u hu r h
    obtain rfl := Option.some.inj h
    exact ⟨Nat.le_refl _, hu, rfl⟩
  | cons b bs ih =>
    intro u hu r h
    rw [dr] at h
    obtain ⟨⟨v, n⟩, h1, h2⟩ := Option.bind_eq_some_iff.1 h
    obtain ⟨s, h3, rfl⟩ := Option.map_eq_some_iff.1 h2
    have a := draw1_le p b u hu h1
    have c := ih n a.2.1 s h3
    exact ⟨by simp only; omega, c.2.1, by simp [c.2.2]⟩
theorem dr_append (p : List Int) : ∀ (a b : List Int) (u : Nat), dr p (a ++ b) u = (dr p a u).bind fun q => (dr p b q.2).map fun r => (q.1 ++ r.1, r.2) := by
  intro a
  induction a with
  | nil =>
    intro b u
    rw [List.nil_append]
    simp only [dr, Option.bind_some, List.nil_append]
    cases dr p b u <;> rfl
  | cons x a ih =>
    intro b u
    rw [List.cons_append, dr, dr]
    cases draw1 p x u with
    | none => rfl
    | some q =>
      simp only [Option.bind_some]
      rw [ih b q.2]
      cases dr p a q.2 with
      | none => rfl
      | some r =>
        simp only [Option.bind_some, Option.map_some]
        cases dr p b r.2 <;> rfl
theorem rd_drop (p : List Int) (n i : Nat) : rd (p.drop n) (i : Int) = rd p ((n + i : Nat) : Int) := by
  rw [rd_nat, rd_nat, List.getD_eq_getElem?_getD, List.getD_eq_getElem?_getD, List.getElem?_drop]
theorem taken_drop (p : List Int) (n : Nat) (b : Int) (i : Nat) : taken (p.drop n) b i ↔ taken p b (n + i) := by
  unfold taken
  rw [rd_drop]
theorem scan_drop (p : List Int) (n : Nat) (b : Int) : ∀ (d u : Nat), scan (p.drop n) b d u = (scan p b d (n + u)).map (· - n) := by
  intro d
  induction d with
  | zero => intro u; rfl
  | succ d ih =>
    intro u
    unfold scan
    by_cases h : taken p b (n + u)
    · rw [if_pos h, if_pos ((taken_drop p n b u).2 h)]
      simp
    · rw [if_neg h, if_neg (fun h' => h ((taken_drop p n b u).1 h')), ih (u + 1)]
      rfl
theorem draw1_drop (p : List Int) (n : Nat) (b : Int) (u : Nat) : draw1 (p.drop n) b u = (draw1 p b (n + u)).map fun q => (q.1, q.2 - n) := by
  unfold draw1
  by_cases hb : b = 1
  · rw [if_pos hb, if_pos hb]
    simp
  · rw [if_neg hb, if_neg hb, scan_drop, List.length_drop, show p.length - n - u = p.length - (n + u) by omega]
    cases h : scan p b (p.length - (n + u)) (n + u) with
    | none => rfl
    | some j =>
      have := scan_some p b _ _ _ h
      simp only [Option.map_some]
      rw [rd_drop, show n + (j - n) = j by omega, show j - n + 1 = j + 1 - n by omega]
theorem dr_drop (p : List Int) (n : Nat) (hn : n ≤ p.length) : ∀ (bs : List Int) (u : Nat), n + u ≤ p.length → dr (p.drop n) bs u = (dr p bs (n + u)).map fun r => (r.1, r.2 - n) := by
  intro bs
  induction bs with
  | nil => intro u hu; simp [dr]
  | cons b bs ih =>
    intro u hu
    rw [dr, dr, draw1_drop]
    cases h : draw1 p b (n + u) with
    | none => rfl
    | some q =>
      have := draw1_le p b (n + u) hu h
      simp only [Option.map_some, Option.bind_some]
      rw [ih (q.2 - n) (by omega), show n + (q.2 - n) = q.2 by omega]
      cases dr p bs q.2 <;> rfl
theorem draw1_same (p q : List Int) (b : Int) (u : Nat) (hu : u ≤ p.length) (v : Int) (n : Nat) (h : draw1 p b u = some (v, n)) (hq : n ≤ q.length) (he : ∀ i, i < n → rd q (i : Int) = rd p (i : Int)) : draw1 q b u = some (v, n) := by
  by_cases hb : b = 1
  · subst hb; exact h
  · rw [draw1_iff p b hb u hu] at h
    obtain ⟨h1, h2, h3, h4, h5⟩ := h
    rw [draw1_iff q b hb u (by omega)]
    refine ⟨h1, hq, ?_, fun i h6 h7 => ?_, ?_⟩
    · unfold taken; rw [he (n - 1) (by omega)]; exact h3
    · have := h4 i h6 h7
      unfold taken at this ⊢
      rw [he i (by omega)]
      exact this
    · rw [he (n - 1) (by omega)]; exact h5
theorem dr_same (p q : List Int) : ∀ (bs : List Int) (u : Nat), u ≤ p.length → ∀ r, dr p bs u = some r → r.2 ≤ q.length → (∀ i, i < r.2 → rd q (i : Int) = rd p (i : Int)) → dr q bs u = some r := by
  intro bs
  induction bs with
  | nil => intro u hu r h _ _; exact h
  | cons b bs ih =>
    intro u hu r h hq he
    rw [dr] at h ⊢
    obtain ⟨⟨v, n⟩, h1, h2⟩ := Option.bind_eq_some_iff.1 h
    obtain ⟨s, h3, rfl⟩ := Option.map_eq_some_iff.1 h2
    have a := draw1_le p b u hu h1
    have c := dr_le p bs n a.2.1 s h3
    rw [draw1_same p q b u hu v n h1 (by simp only at hq; omega) (fun i hi => he i (by simp only; omega)), Option.bind_some, ih n a.2.1 s h3 hq he]
    rfl
end Go.Proofs.Ytijnmfdpdjblbaa.Pl
