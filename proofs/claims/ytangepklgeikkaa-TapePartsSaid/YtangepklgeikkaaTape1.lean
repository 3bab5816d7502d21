/- The printed Split of tape, told plainly. -/
import Derived.Test.YtangepklgeikkaaPlain
import Derived.Test.YtangepklgeikkaaQx9
set_option linter.unusedVariables false
set_option linter.unusedSimpArgs false
namespace Go.Proofs.Ytangepklgeikkaa.Pl
open Go.RowKit Go.Proofs.Ytangepklgeikkaa.Q Go.Proofs.YtangepklgeikkaaW.PrintWords Go.Proofs.YtangepklgeikkaaW.PrintLast

/-- Part j of q things. -/
def piece (l : List Int) (q j : Nat) : List Int := (l.take ((j + 1) * q)).drop (j * q)
def pieces (l : List Int) (q c : Nat) : List (List Int) := (List.range c).map (piece l q)
def noiseOf (p : List Int) : List Int := p.take 18
def restOf (p : List Int) : List Int := (p.drop 18).drop ((p.length - 18) / 2)
def braidOf (p : List Int) : List Int := (p.drop 18).take ((p.length - 18) / 2)
def qOf (p : List Int) (c : Nat) : Nat := (restOf p).length / c
theorem restOf_len (p : List Int) : (restOf p).length = (p.length - 18) - (p.length - 18) / 2 := by simp [restOf]; omega
theorem qmul_le (p : List Int) (c j : Nat) (hj : j ≤ c) : j * qOf p c ≤ (restOf p).length :=
  Nat.le_trans (Nat.mul_le_mul_right _ hj) (by rw [Nat.mul_comm]; exact Nat.div_mul_le_self _ _)
theorem piece_len (p : List Int) (c j : Nat) (hj : j < c) : (piece (restOf p) (qOf p c) j).length = qOf p c := by
  have := qmul_le p c (j + 1) hj
  unfold piece
  rw [List.length_drop, List.length_take, Nat.min_eq_left this, Nat.succ_mul]
  omega
theorem pieces_succ (l : List Int) (q c : Nat) : pieces l q (c + 1) = pieces l q c ++ [piece l q c] := by
  unfold pieces
  rw [List.range_succ, List.map_append]
  rfl
/-- What Split answers. -/
def splitS (p : List Int) (c : Int) : List Int × List Int × (List (List Int)) × Int :=
  if c < 1 ∨ c > 64 then ([], [], [], 2) else if p.length < 18 then ([], [], [], 3) else (noiseOf p, braidOf p, pieces (restOf p) (qOf p c.toNat) c.toNat, 0)
theorem clone_val (l : List Int) (h : l.length < 140737488355328) : slices_Clone_byte_byte.f l = some l := by
  unfold slices_Clone_byte_byte.f
  rw [if_pos h]
theorem split_ev (p : List Int) (c : Int) (hp : p.length ≤ 140737488351232) : Ev (fun k => tape_Split.f k p c) (splitS p c) := by
  unfold tape_Split.f splitS
  by_cases h1 : c < 1
  · rw [if_pos (by omega)]
    exact ev_pos h1 (Ev.step (f := fun _ => some ([], [], [], 2)) (fun k => by rw [tape_Split.j0, if_pos rfl]) (Ev.now _))
  · refine ev_neg h1 ?_
    by_cases h2 : c > 64
    · rw [if_pos (by omega)]
      exact Ev.step (f := fun _ => some ([], [], [], 2)) (fun k => by rw [tape_Split.j0, if_pos (by simpa using h2)]) (Ev.now _)
    · rw [if_neg (by omega)]
      by_cases h3 : p.length < 18
      · rw [if_pos h3]
        exact Ev.step (f := fun _ => some ([], [], [], 3)) (fun k => by rw [tape_Split.j0, if_neg (by simp; omega), if_pos (by omega)]) (Ev.now _)
      · rw [if_neg h3]
        obtain ⟨n, rfl⟩ := Int.eq_ofNat_of_zero_le (show 0 ≤ c by omega)
        simp only [Int.toNat_natCast]
        have hrl := restOf_len p
        have key : ∀ (d j : Nat), j + d = n → Ev (fun k => tape_Split.l0 k (restOf p) (qOf p n : Int) (n : Int) (j : Int) (noiseOf p) (braidOf p) (pieces (restOf p) (qOf p n) j)) (noiseOf p, braidOf p, pieces (restOf p) (qOf p n) n, 0) := by
          intro d
          induction d with
          | zero =>
            intro j hj
            have : j = n := by omega
            subst this
            exact Ev.step (f := fun _ => some (noiseOf p, braidOf p, pieces (restOf p) (qOf p j) j, 0)) (fun k => by rw [tape_Split.l0, if_neg (by omega)]) (Ev.now _)
          | succ d ih =>
            intro j hj
            have a1 := qmul_le p n (j + 1) (by omega)
            have a2 : j * qOf p n ≤ (j + 1) * qOf p n := Nat.mul_le_mul_right _ (by omega)
            have hpl := piece_len p n j (by omega)
            have hql : qOf p n ≤ (restOf p).length := Nat.div_le_self _ _
            have hcl := clone_val (piece (restOf p) (qOf p n) j) (by omega)
            have b1 : (j : Int) < (n : Int) := by omega
            have b2 : (0 : Int) ≤ ((j * qOf p n : Nat) : Int) := by omega
            have b3 : ((j * qOf p n : Nat) : Int) ≤ (((j + 1) * qOf p n : Nat) : Int) := by omega
            have b4 : (((j + 1) * qOf p n : Nat) : Int) ≤ ((restOf p).length : Int) := by omega
            have b5 : j * qOf p n ≤ 9223372036854775807 := by omega
            have b6 : (j + 1) * qOf p n ≤ 9223372036854775807 := by omega
            have b8 : (pieces (restOf p) (qOf p n) j).length < 5864062014805 := by simp [pieces]; omega
            have b10 : j + 1 ≤ 9223372036854775807 := by omega
            have b9 : j + 1 + d = n := by omega
            have b7 : wrap64 ((j : Int) + 1) = ((j + 1 : Nat) : Int) := w64n (x := j + 1) b10
            have e1 : wrap64 ((j : Int) * (qOf p n : Int)) = ((j * qOf p n : Nat) : Int) := by rw [← Int.natCast_mul]; exact w64n b5
            have e2 : wrap64 (wrap64 ((j : Int) + 1) * (qOf p n : Int)) = (((j + 1) * qOf p n : Nat) : Int) := by
              rw [b7, ← Int.natCast_mul]
              exact w64n b6
            refine Ev.step (fun k => ?_) (ih (j + 1) b9)
            rw [tape_Split.l0, if_pos b1, e1, e2, if_pos b2, if_pos b3, if_pos b4, Int.toNat_natCast, Int.toNat_natCast, show ((restOf p).take ((j + 1) * qOf p n)).drop (j * qOf p n) = piece (restOf p) (qOf p n) j from rfl, hcl, Option.bind_some,
              if_pos b8, b7, pieces_succ]
        have h0 := key n 0 (by omega)
        have hd : (p.drop 18).length = p.length - 18 := by simp
        have g1 : ¬ ((p.length : Int) < 18) := by omega
        have g2 : (18 : Int) ≤ (p.length : Int) := by omega
        have g3 : (0 : Int) ≤ (((p.length - 18) / 2 : Nat) : Int) := by omega
        have g4 : (((p.length - 18) / 2 : Nat) : Int) ≤ ((p.drop 18).length : Int) := by rw [hd]; omega
        have g5 : (p.take 18).length < 140737488355328 := by simp; omega
        have g6 : ((p.drop 18).take ((p.length - 18) / 2)).length < 140737488355328 := by simp; omega
        have g7 : ¬ ((n : Int) = 0) := by omega
        have g8 : ¬ (decide ((n : Int) > 64) = true) := by simpa using h2
        have g9 : (restOf p).length ≤ 9223372036854775807 := by omega
        have hw : wrap64 (((p.drop 18).length : Int) / 2) = (((p.length - 18) / 2 : Nat) : Int) := by rw [hd, w64 (by omega) (by omega)]; omega
        refine Ev.step (fun k => ?_) h0
        have hq : wrap64 (((restOf p).length : Int) / (n : Int)) = (qOf p n : Int) := by
          rw [← Int.natCast_ediv]
          exact w64n (Nat.le_trans (Nat.div_le_self _ _) g9)
        rw [tape_Split.j0, if_neg g8, if_neg g1, if_pos g2, Option.bind_some, hw, clone_val _ g5, Option.bind_some, if_pos g3, if_pos g4, Int.toNat_natCast, clone_val _ g6, Option.bind_some, Option.bind_some, if_neg g7]
        show tape_Split.l0 k (restOf p) (wrap64 (((restOf p).length : Int) / (n : Int))) _ _ _ _ _ = _
        rw [hq]
        rfl
end Go.Proofs.Ytangepklgeikkaa.Pl
