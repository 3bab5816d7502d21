/- A list of draws, by the reference and by the program: what it comes to. -/
import Derived.Test.YtijnmfdpdjblbaaDraw1
import Derived.Test.YtijnmfdpdjblbaaQx11
set_option linter.unusedVariables false
set_option linter.unusedSimpArgs false
namespace Go.Proofs.Ytijnmfdpdjblbaa.Pl
open Go.RowKit Go.Proofs.Ytijnmfdpdjblbaa.Q Go.Proofs.YtijnmfdpdjblbaaW.PrintWords Go.Proofs.YtijnmfdpdjblbaaW.PrintLast
/-- Where the first byte from u on lies that is taken. -/
def scan (p : List Int) (b : Int) : Nat → Nat → Option Nat
  | 0, _ => none
  | d + 1, u => if taken p b u then some u else scan p b d (u + 1)
theorem scan_some (p : List Int) (b : Int) : ∀ (d u j : Nat), scan p b d u = some j → u ≤ j ∧ j < u + d ∧ taken p b j := by
  intro d
  induction d with
  | zero => intro u j h; exact absurd h (by simp [scan])
  | succ d ih =>
    intro u j h
    unfold scan at h
    by_cases ht : taken p b u
    · rw [if_pos ht] at h
      obtain rfl := Option.some.inj h
      exact ⟨Nat.le_refl _, by omega, ht⟩
    · rw [if_neg ht] at h
      have := ih (u + 1) j h
      exact ⟨by omega, by omega, this.2.2⟩
theorem below_scan (p : List Int) (b : Int) : ∀ (d u : Nat), below p b d u = match scan p b d u with
    | some j => (Int.tmod (rd p (j : Int)) b, ((j + 1 : Nat) : Int), 0)
    | none => (0, 0, 3) := by
  intro d
  induction d with
  | zero => intro u; rfl
  | succ d ih =>
    intro u
    unfold below scan
    by_cases ht : taken p b u
    · rw [if_pos ht, if_pos ht]
    · rw [if_neg ht, if_neg ht]; exact ih (u + 1)
/-- The draw for a bound from the place u on: the draw and the place behind. -/
def draw1 (p : List Int) (b : Int) (u : Nat) : Option (Int × Nat) := if b = 1 then some (0, u) else (scan p b (p.length - u) u).map fun j : Nat => (Int.tmod (rd p (j : Int)) b, j + 1)
theorem draw1_le (p : List Int) (b : Int) (u : Nat) (hu : u ≤ p.length) {v : Int} {n : Nat} (h : draw1 p b u = some (v, n)) : u ≤ n ∧ n ≤ p.length ∧ (b ≠ 1 → u < n) := by
  unfold draw1 at h
  by_cases hb : b = 1
  · rw [if_pos hb] at h
    simp only [Option.some.injEq, Prod.mk.injEq] at h
    obtain ⟨rfl, rfl⟩ := h
    exact ⟨Nat.le_refl _, hu, fun h => absurd hb h⟩
  · rw [if_neg hb] at h
    obtain ⟨j, hj, h⟩ := Option.map_eq_some_iff.1 h
    simp only [Prod.mk.injEq] at h
    obtain ⟨rfl, rfl⟩ := h
    have := scan_some p b _ u j hj
    exact ⟨by omega, by omega, fun _ => by omega⟩
theorem ref1 (p : List Int) (b : Int) (h1 : 1 ≤ b) (h2 : b ≤ 256) (hp : ∀ x ∈ p, 0 ≤ x ∧ x ≤ 255) (hl : p.length ≤ 9223372036854775000) (u k : Nat) (hu : u ≤ p.length) (hk : p.length - u + 2 ≤ k) :
    churnref10_Below.f k p (u : Int) b = some (match draw1 p b u with | some (v, n) => (v, (n : Int), 0) | none => (0, 0, 3)) := by
  obtain ⟨k, rfl⟩ : ∃ m, k = m + 1 := ⟨k - 1, by omega⟩
  unfold churnref10_Below.f
  rw [if_neg (by omega), churnref10_Below.j0, if_neg (by simp; omega)]
  unfold draw1
  by_cases hb : b = 1
  · rw [if_pos hb, if_pos hb]
  · rw [if_neg hb, if_neg hb, ref_below p b h1 h2 hp hl (p.length - u) u k (by omega) (by omega), below_scan]
    cases scan p b (p.length - u) u <;> rfl
theorem okBound_of (b : Int) (h1 : 1 ≤ b) (h2 : b ≤ 256) : okBound b = true := by unfold okBound; simp; omega
theorem drw1 (p : List Int) (b : Int) (h1 : 1 ≤ b) (h2 : b ≤ 256) (hp : ∀ x ∈ p, 0 ≤ x ∧ x ≤ 255) (hl : p.length ≤ 9223372036854775000) (u k : Nat) (hu : u ≤ p.length) (hk : p.length - u + 1 ≤ k) :
    draw_Below.f k (strOfNums p) (u : Int) b = some (match draw1 p b u with | some (v, n) => (v, strOfNums p, (n : Int), 0) | none => (0, ⟨#[]⟩, 0, 3)) := by
  unfold draw_Below.f
  rw [isBound_f, Option.bind_some, if_pos (okBound_of b h1 h2)]
  unfold draw1
  by_cases hb : b = 1
  · rw [if_pos hb, if_pos hb]
  · rw [if_neg hb, if_neg hb, draw_below p b h1 h2 hp hl (p.length - u) u k (by omega) (by omega), below_scan]
    cases scan p b (p.length - u) u <;> rfl
/-- The draws for the bounds, one behind the other: draw and place of its byte. -/
def run (p : List Int) : List Int → Nat → List (Int × Int) → List (Int × Int) × Int × Int
  | [], u, L => (L, (u : Int), 0)
  | b :: bs, u, L => match draw1 p b u with
    | some (v, n) => run p bs n (L ++ [(v, (n : Int) - 1)])
    | none => (L, 0, 3)
end Go.Proofs.Ytijnmfdpdjblbaa.Pl
