/- A batch's bytes in closed form: the program's Pack and the document's come to it. -/
import Derived.Test.YthkcadmjfkcbgaaQx8
import Derived.Test.YthkcadmjfkcbgaaQx5
import Derived.Test.YthkcadmjfkcbgaaQx14
set_option linter.unusedVariables false
set_option linter.unusedSimpArgs false
namespace Go.Proofs.Ythkcadmjfkcbgaa.Q
open Go.RowKit Go.Proofs.YthkcadmjfkcbgaaW.PrintWords Go.Proofs.YthkcadmjfkcbgaaW.PrintLast Go.Proofs.YthkcadmjfkcbgaaW.PrintMore Go.Proofs.Ythkcadmjfkcbgaa.Pl

def be (v : Int) : Nat → List Int
  | 0 => []
  | n + 1 => (v / 256 ^ n) % 256 :: be v n
theorem be_len (v : Int) : ∀ n, (be v n).length = n
  | 0 => rfl
  | n + 1 => by simp [be, be_len v n]
theorem be_bys (v : Int) : ∀ n, Bys (be v n)
  | 0 => fun x hx => by simp [be] at hx
  | n + 1 => fun x hx => by
    simp only [be, List.mem_cons] at hx
    rcases hx with rfl | hx
    · omega
    · exact be_bys v n x hx
theorem shr_pow (v : Int) (n : Nat) (h : n ≤ 7) : shr .u64 v (8 * (n : Int)) = v / 256 ^ n ∧ shr .i64 v (8 * (n : Int)) = v / 256 ^ n := by
  rcases (by omega : n = 0 ∨ n = 1 ∨ n = 2 ∨ n = 3 ∨ n = 4 ∨ n = 5 ∨ n = 6 ∨ n = 7) with rfl | rfl | rfl | rfl | rfl | rfl | rfl | rfl <;> exact ⟨rfl, rfl⟩
theorem number_l0 (v : Int) : ∀ (n k : Nat) (p : List Int), n ≤ 8 → n < k → p.length + n ≤ 140737488355320 → frame_number.l0 k p v ((n : Int) - 1) = some (p ++ be v n)
  | 0, k, p, _, hk, _ => by
    obtain ⟨k, rfl⟩ : ∃ m, k = m + 1 := ⟨k - 1, by omega⟩
    simp only [frame_number.l0]
    rw [if_neg (by omega)]
    simp [be]
  | n + 1, k, p, hn, hk, hl => by
    obtain ⟨k, rfl⟩ : ∃ m, k = m + 1 := ⟨k - 1, by omega⟩
    have e : ((n + 1 : Nat) : Int) - 1 = (n : Int) := by omega
    have w8 : wrap64 (8 * (n : Int)) = 8 * (n : Int) := w64 (by omega) (by omega)
    simp only [frame_number.l0]
    rw [e, if_pos (by omega), w8, if_pos (by omega), if_pos (by omega), (shr_pow v n (by omega)).1, show wrap64 ((n : Int) - 1) = (n : Int) - 1 from w64 (by omega) (by omega), number_l0 v n k _ (by omega) (by omega) (by simp; omega)]
    simp [be]
theorem number_ev (p : List Int) (v : Int) (n : Nat) (h : n ≤ 8) (hl : p.length ≤ 140737488355000) : Ev (fun k => frame_number.f k p v (n : Int)) (p ++ be v n) :=
  ⟨n + 1, fun k hk => by unfold frame_number.f; rw [show wrap64 ((n : Int) - 1) = (n : Int) - 1 from w64 (by omega) (by omega)]; exact number_l0 v n k p h (by omega) (by omega)⟩
theorem rnumber_l0 (v : Int) : ∀ (n k : Nat) (p : List Int), n ≤ 8 → n < k → p.length + n ≤ 140737488355320 → churnref06_number.l0 k v p ((n : Int) - 1) = some (p ++ be v n)
  | 0, k, p, _, hk, _ => by
    obtain ⟨k, rfl⟩ : ∃ m, k = m + 1 := ⟨k - 1, by omega⟩
    simp only [churnref06_number.l0]
    rw [if_neg (by omega)]
    simp [be]
  | n + 1, k, p, hn, hk, hl => by
    obtain ⟨k, rfl⟩ : ∃ m, k = m + 1 := ⟨k - 1, by omega⟩
    have e : ((n + 1 : Nat) : Int) - 1 = (n : Int) := by omega
    have w8 : wrap64 (8 * (n : Int)) = 8 * (n : Int) := w64 (by omega) (by omega)
    simp only [churnref06_number.l0]
    rw [e, if_pos (by omega), w8, if_pos (by omega), if_pos (by omega), (shr_pow v n (by omega)).2, show wrap64 ((n : Int) - 1) = (n : Int) - 1 from w64 (by omega) (by omega), rnumber_l0 v n k _ (by omega) (by omega) (by simp; omega)]
    simp [be]
theorem rnumber_ev (v : Int) (n : Nat) (h : n ≤ 8) : Ev (fun k => churnref06_number.f k v (n : Int)) (be v n) :=
  ⟨n + 1, fun k hk => by unfold churnref06_number.f; rw [show wrap64 ((n : Int) - 1) = (n : Int) - 1 from w64 (by omega) (by omega)]; simpa using rnumber_l0 v n k [] h (by omega) (by simp; omega)⟩
/-- The foot of bytes. -/
def footV (p : List Int) : Int := (sumL 1 0 p).2 * 65536 + (sumL 1 0 p).1
theorem footV_range (p : List Int) : 0 ≤ footV p ∧ footV p < 4294967296 := by
  obtain ⟨a, b, c, d⟩ := sumL_range p 1 0 (by omega) (by omega) (by omega) (by omega)
  unfold footV
  omega
theorem sum_ev (p : List Int) (hp : Bys p) (hl : p.length ≤ 140737488355000) : Ev (fun k => frame_sum_add.f k 1 0 p) ((sumL 1 0 p).1, (sumL 1 0 p).2) :=
  ⟨p.length + 1, fun k hk => sum_eq p (by omega) hp 1 0 (by omega) (by omega) (by omega) (by omega) k (by omega)⟩
theorem tmod_nn {x : Int} (h : 0 ≤ x) : Int.tmod x 65521 = x % 65521 := Int.tmod_eq_emod_of_nonneg h
theorem rfoot_l0 (p : List Int) (hp : Bys p) (hl : p.length ≤ 140737488355000) : ∀ (d i : Nat) (a b : Int), i + d = p.length → 0 ≤ a → a < 65521 → 0 ≤ b → b < 65521 →
    Ev (fun k => churnref06_foot.l0 k p a b (i : Int)) (be ((sumL a b (p.drop i)).2 * 65536 + (sumL a b (p.drop i)).1) 4)
  | 0, i, a, b, hi, a0, a1, b0, b1 => by
    refine Ev.step (f := fun k => (churnref06_number.f k (wrap64 ((wrap64 (b * 65536)) + a)) 4).bind fun t186 => some t186) (fun k => by simp only [churnref06_foot.l0]; rw [if_neg (by omega)]) ?_
    rw [List.drop_of_length_le (by omega), show wrap64 (b * 65536) = b * 65536 from w64 (by omega) (by omega), show wrap64 (b * 65536 + a) = b * 65536 + a from w64 (by omega) (by omega)]
    exact ev_bind (rnumber_ev _ 4 (by omega)) (Ev.now _)
  | d + 1, i, a, b, hi, a0, a1, b0, b1 => by
    have hr := hp.rd (i : Int)
    have e1 : Int.tmod (wrap64 (a + (wrap64 (rd p i)))) 65521 = (a + rd p i) % 65521 := by
      rw [show wrap64 (rd p (i : Int)) = rd p i from w64 (by omega) (by omega), show wrap64 (a + rd p (i : Int)) = a + rd p i from w64 (by omega) (by omega), tmod_nn (by omega)]
    have e2 : Int.tmod (wrap64 (b + (a + rd p i) % 65521)) 65521 = (b + (a + rd p i) % 65521) % 65521 := by
      rw [show wrap64 (b + (a + rd p (i : Int)) % 65521) = b + (a + rd p i) % 65521 from w64 (by omega) (by omega), tmod_nn (by omega)]
    refine Ev.step (f := fun k => churnref06_foot.l0 k p ((a + rd p i) % 65521) ((b + (a + rd p i) % 65521) % 65521) ((i + 1 : Nat) : Int)) (fun k => ?_) ?_
    · simp only [churnref06_foot.l0]
      rw [if_pos (by omega), if_pos (by omega), e1, e2, show wrap64 ((i : Int) + 1) = ((i + 1 : Nat) : Int) from by rw [w64 (by omega) (by omega)]; rfl]
    · have := rfoot_l0 p hp hl d (i + 1) _ _ (by omega) (show 0 ≤ (a + rd p i) % 65521 by omega) (by omega) (show 0 ≤ (b + (a + rd p i) % 65521) % 65521 by omega) (by omega)
      rw [drop_rd p i (by omega)]
      exact this
theorem rfoot_ev (p : List Int) (hp : Bys p) (hl : p.length ≤ 140737488355000) : Ev (fun k => churnref06_foot.f k p) (be (footV p) 4) := by
  unfold churnref06_foot.f
  have := rfoot_l0 p hp hl p.length 0 1 0 (by omega) (by omega) (by omega) (by omega) (by omega)
  simpa [footV] using this
def encC (cs : List (List Int)) : List Int := cs.flatMap fun c => be 320 2 ++ c
def packL (p : List Int) (cs : List (List Int)) : List Int × Int :=
  if (cs.all fun c => decide (c.length = 320)) = true then ((p ++ encC cs) ++ be (footV (p ++ encC cs)) 4, 0) else ([], 64)
theorem encC_cons (c : List Int) (cs : List (List Int)) : encC (c :: cs) = be 320 2 ++ c ++ encC cs := by simp [encC]
theorem packL_cons (p c : List Int) (cs : List (List Int)) (h : c.length = 320) : packL p (c :: cs) = packL (p ++ be 320 2 ++ c) cs := by
  simp only [packL, encC_cons, List.all_cons, h, decide_true, Bool.true_and, List.append_assoc]
theorem rdL_nat (xs : List (List Int)) (i : Nat) (h : i < xs.length) : rd_L1 xs (i : Int) = xs[i] := by simp [rd_L1, rdOf, h]
theorem drop_L (xs : List (List Int)) (i : Nat) (h : i < xs.length) : xs.drop i = xs[i] :: xs.drop (i + 1) := List.drop_eq_getElem_cons h
end Go.Proofs.Ythkcadmjfkcbgaa.Q
