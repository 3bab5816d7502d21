/- Below, by the reference and by the program: what they come to. -/
import Derived.Test.YtijnmfdpdjblbaaPlain
import Derived.Test.YtijnmfdpdjblbaaQx3
import Derived.Test.YtijnmfdpdjblbaaQx9
import Derived.Test.YtijnmfdpdjblbaaQx5
set_option linter.unusedVariables false
set_option linter.unusedSimpArgs false
namespace Go.Proofs.Ytijnmfdpdjblbaa.Pl
open Go.RowKit Go.Proofs.Ytijnmfdpdjblbaa.Q Go.Proofs.YtijnmfdpdjblbaaW.PrintWords Go.Proofs.YtijnmfdpdjblbaaW.PrintLast
/-- The byte at u is taken for the bound b. -/
def taken (p : List Int) (b : Int) (u : Nat) : Prop := rd p (u : Int) < 256 - 256 % b
instance (p : List Int) (b : Int) (u : Nat) : Decidable (taken p b u) := inferInstanceAs (Decidable (_ < _))
def below (p : List Int) (b : Int) : Nat → Nat → Int × Int × Int
  | 0, _ => (0, 0, 3)
  | d + 1, u => if taken p b u then (Int.tmod (rd p (u : Int)) b, ((u + 1 : Nat) : Int), 0) else below p b d (u + 1)
theorem quot_lt (v b : Int) (hv : 0 ≤ v) (h1 : 1 ≤ b) (h2 : b ≤ 256) : Int.tdiv v b < Int.tdiv 256 b ↔ v < 256 - 256 % b := by
  rw [Int.tdiv_eq_ediv_of_nonneg hv, Int.tdiv_eq_ediv_of_nonneg (by omega)]
  have h3 := Int.mul_ediv_add_emod 256 b
  have e : 256 - 256 % b = 256 / b * b := by rw [Int.mul_comm]; omega
  rw [e]
  exact Int.ediv_lt_iff_lt_mul (by omega)
theorem ref_below (p : List Int) (b : Int) (h1 : 1 ≤ b) (h2 : b ≤ 256) (hp : ∀ x ∈ p, 0 ≤ x ∧ x ≤ 255) (hl : p.length ≤ 9223372036854775000) : ∀ (d u k : Nat), u + d = p.length → d + 1 ≤ k → churnref10_Below.l0 k p (u : Int) b = some (below p b d u) := by
  intro d
  induction d with
  | zero =>
    intro u k hu hk
    obtain ⟨k, rfl⟩ : ∃ m, k = m + 1 := ⟨k - 1, by omega⟩
    rw [churnref10_Below.l0, if_neg (by omega)]
    rfl
  | succ d ih =>
    intro u k hu hk
    obtain ⟨k, rfl⟩ : ∃ m, k = m + 1 := ⟨k - 1, by omega⟩
    have hb := hp _ (rd_mem p (u : Int) (by simp; omega))
    have q1 : Int.tdiv (rd p (u : Int)) b = rd p (u : Int) / b := Int.tdiv_eq_ediv_of_nonneg hb.1
    have q2 : Int.tdiv 256 b = 256 / b := Int.tdiv_eq_ediv_of_nonneg (by omega)
    have q3 := quot_lt (rd p (u : Int)) b hb.1 h1 h2
    have q4 : 0 ≤ rd p (u : Int) / b := Int.ediv_nonneg hb.1 (by omega)
    have q5 : rd p (u : Int) / b ≤ rd p (u : Int) := Int.ediv_le_self _ hb.1
    have q6 : 0 ≤ (256 : Int) / b := Int.ediv_nonneg (by omega) (by omega)
    have q7 : (256 : Int) / b ≤ 256 := Int.ediv_le_self _ (by omega)
    rw [q1, q2] at q3
    rw [churnref10_Below.l0, if_pos (by omega), if_pos (by omega), if_neg (by omega), w64 (x := rd p (u : Int)) (by omega) (by omega), q1, q2, w64 (x := rd p (u : Int) / b) (by omega) (by omega), w64 (x := (256 : Int) / b) (by omega) (by omega), w64 (x := (u : Int) + 1) (by omega) (by omega)]
    unfold below
    by_cases ht : taken p b u
    · rw [if_pos (q3.2 ht), if_pos ht]
      rfl
    · rw [if_neg (fun h => ht (q3.1 h)), if_neg ht]
      exact ih (u + 1) k (by omega) (by omega)
theorem bt_nums (p : List Int) (hp : ∀ x ∈ p, 0 ≤ x ∧ x ≤ 255) (u : Nat) (hu : u < p.length) : bt (strOfNums p) (u : Int) = rd p (u : Int) := by
  have hb := hp _ (rd_mem p (u : Int) (by simpa using hu))
  have hr : rd p (u : Int) = p[u] := rd_lt p u hu
  rw [hr] at hb ⊢
  have hs : (u : Int).toNat < (strOfNums p).size := by rw [strOfNums_size]; simpa using hu
  rw [← bt_at (strOfNums p) (u : Int) hs]
  show (((strOfNums p).data[(u : Int).toNat]'hs).toNat : Int) = p[u]
  simp [strOfNums, UInt8.toNat_ofNat]
  omega
def lift (p : List Int) (q : Int × Int × Int) : Int × ByteArray × Int × Int := if q.2.2 = 0 then (q.1, strOfNums p, q.2.1, 0) else (0, ⟨#[]⟩, 0, q.2.2)
theorem draw_below (p : List Int) (b : Int) (h1 : 1 ≤ b) (h2 : b ≤ 256) (hp : ∀ x ∈ p, 0 ≤ x ∧ x ≤ 255) (hl : p.length ≤ 9223372036854775000) : ∀ (d u k : Nat), u + d = p.length → d + 1 ≤ k → draw_Below.l0 k b (strOfNums p) (u : Int) = some (lift p (below p b d u)) := by
  intro d
  induction d with
  | zero =>
    intro u k hu hk
    obtain ⟨k, rfl⟩ : ∃ m, k = m + 1 := ⟨k - 1, by omega⟩
    have hw : wrap64 (((strOfNums p).size : Int) - (u : Int)) = 0 := by rw [strOfNums_size, w64 (by omega) (by omega)]; omega
    have hB : tape_Tape_Byte.f (strOfNums p) (u : Int) = some (0, ⟨#[]⟩, 0, 3) := by
      unfold tape_Tape_Byte.f tape_Tape_Left.f
      rw [Option.bind_some, if_pos hw]
    rw [draw_Below.l0, hB, Option.bind_some, if_neg (by decide)]
    rfl
  | succ d ih =>
    intro u k hu hk
    obtain ⟨k, rfl⟩ : ∃ m, k = m + 1 := ⟨k - 1, by omega⟩
    have hb := hp _ (rd_mem p (u : Int) (by simp; omega))
    have hw : ¬ wrap64 (((strOfNums p).size : Int) - (u : Int)) = 0 := by rw [strOfNums_size, w64 (by omega) (by omega)]; omega
    have hB : tape_Tape_Byte.f (strOfNums p) (u : Int) = some (rd p (u : Int), strOfNums p, ((u + 1 : Nat) : Int), 0) := by
      unfold tape_Tape_Byte.f tape_Tape_Left.f
      rw [Option.bind_some, if_neg hw, if_pos (by omega), if_pos (by rw [strOfNums_size]; omega), bt_nums p hp u (by omega), w64 (by omega) (by omega)]
      rfl
    have q0 : 0 ≤ (256 : Int) % b := Int.emod_nonneg _ (by omega)
    have q1 : (256 : Int) % b < b := Int.emod_lt_of_pos _ (by omega)
    rw [draw_Below.l0, hB, Option.bind_some, if_pos rfl, if_neg (by omega)]
    simp only
    rw [w64 (x := rd p (u : Int)) (by omega) (by omega), w64 (x := 256 - (256 : Int) % b) (by omega) (by omega)]
    unfold below
    by_cases ht : taken p b u
    · rw [if_pos ht, if_pos (show rd p (u : Int) < 256 - 256 % b from ht)]
      rfl
    · rw [if_neg ht, if_neg (show ¬ rd p (u : Int) < 256 - 256 % b from ht)]
      exact ih (u + 1) k (by omega) (by omega)
end Go.Proofs.Ytijnmfdpdjblbaa.Pl
