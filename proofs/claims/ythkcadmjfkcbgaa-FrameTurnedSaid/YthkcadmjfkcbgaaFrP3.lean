/- The laws' small helpers: great, copied, same, alike. -/
import Derived.Test.YthkcadmjfkcbgaaFrP2
import Derived.Test.YthkcadmjfkcbgaaQx11
import Derived.Test.YthkcadmjfkcbgaaQx17
import Derived.Laws.BitsAllLaws
set_option linter.unusedVariables false
set_option linter.unusedSimpArgs false
namespace Go.Proofs.Ythkcadmjfkcbgaa.Q
open Go.RowKit Go.Proofs.YthkcadmjfkcbgaaW.PrintWords Go.Proofs.YthkcadmjfkcbgaaW.PrintLast Go.Proofs.YthkcadmjfkcbgaaW.PrintMore Go.Proofs.Ythkcadmjfkcbgaa.Pl

def totL (cs : List (List Int)) : Nat := (cs.map fun c => c.length + 1).sum
theorem totL_cons (c : List Int) (cs : List (List Int)) : totL (c :: cs) = c.length + 1 + totL cs := by simp [totL]
theorem totL_len (cs : List (List Int)) : cs.length ≤ totL cs := by
  induction cs with
  | nil => simp [totL]
  | cons c cs ih => rw [totL_cons]; simp only [List.length_cons]; omega
theorem totL_mem (cs : List (List Int)) (c : List Int) (h : c ∈ cs) : c.length ≤ totL cs := by
  induction cs with
  | nil => cases h
  | cons d cs ih =>
    rw [totL_cons]
    rcases List.mem_cons.1 h with rfl | h
    · omega
    · have := ih h; omega
theorem great_l0 (cs : List (List Int)) (hl : cs.length ≤ 140737488355328) (hc : ∀ c ∈ cs, c.length ≤ 140737488355328) : ∀ (d i n : Nat), i + d = cs.length → n ≤ 2097152 →
    ∃ b, Ev (fun k => churnlaw06_great.l0 k (n : Int) cs (cs.length : Int) (i : Int)) b ∧ (b = false → n + totL (cs.drop i) ≤ 2097152)
  | 0, i, n, hi, hn => by
    refine ⟨false, Ev.step (f := fun k => some false) (fun k => by simp only [churnlaw06_great.l0]; rw [if_neg (by omega)]) (Ev.now _), fun _ => ?_⟩
    rw [List.drop_of_length_le (by omega)]
    simp [totL]; omega
  | d + 1, i, n, hi, hn => by
    have hlt : i < cs.length := by omega
    have hcl := hc _ (List.getElem_mem hlt)
    have w1 : wrap64 ((n : Int) + (wrap64 (((cs[i]).length : Int) + 1))) = ((n + (cs[i].length + 1) : Nat) : Int) := by
      rw [show wrap64 (((cs[i]).length : Int) + 1) = ((cs[i]).length : Int) + 1 from w64 (by omega) (by omega), w64 (by omega) (by omega)]
      omega
    have e : ∀ k, churnlaw06_great.l0 (k + 1) (n : Int) cs (cs.length : Int) (i : Int) = if ((n + (cs[i].length + 1) : Nat) : Int) > 2097152 then some true else churnlaw06_great.l0 k ((n + (cs[i].length + 1) : Nat) : Int) cs (cs.length : Int) ((i + 1 : Nat) : Int) := fun k => by
      simp only [churnlaw06_great.l0]
      rw [if_pos (by omega), if_pos (by omega), if_pos (by omega), rdL_nat cs i hlt, w1, show wrap64 ((i : Int) + 1) = ((i + 1 : Nat) : Int) from by rw [w64 (by omega) (by omega)]; rfl]
    by_cases hg : n + (cs[i].length + 1) > 2097152
    · exact ⟨true, Ev.step (f := fun k => some true) (fun k => by rw [e, if_pos (by omega)]) (Ev.now _), fun h => by cases h⟩
    · obtain ⟨b, hb, hbf⟩ := great_l0 cs hl hc d (i + 1) (n + (cs[i].length + 1)) (by omega) (by omega)
      refine ⟨b, Ev.step (fun k => by rw [e, if_neg (by omega)]) hb, fun h => ?_⟩
      have := hbf h
      rw [drop_L cs i hlt, totL_cons]
      omega
theorem great_ev (cs : List (List Int)) (hl : cs.length ≤ 140737488355328) (hc : ∀ c ∈ cs, c.length ≤ 140737488355328) : ∃ b, Ev (fun k => churnlaw06_great.f k cs) b ∧ (b = false → totL cs ≤ 2097152) := by
  obtain ⟨b, h1, h2⟩ := great_l0 cs hl hc cs.length 0 0 (by omega) (by omega)
  refine ⟨b, ?_, fun h => by have := h2 h; simpa using this⟩
  unfold churnlaw06_great.f
  exact h1
theorem copied_l0 (cs : List (List Int)) (hl : cs.length ≤ 2097152) (hc : ∀ c ∈ cs, c.length ≤ 2097152) : ∀ (d i : Nat) (x : List (List Int)), i + d = cs.length → x.length = i →
    Ev (fun k => churnlaw06_copied.l0 k x cs (cs.length : Int) (i : Int)) (x ++ cs.drop i)
  | 0, i, x, hi, hx => by
    refine Ev.step (f := fun k => some x) (fun k => by simp only [churnlaw06_copied.l0]; rw [if_neg (by omega)]) (ev_some ?_)
    rw [List.drop_of_length_le (by omega)]; simp
  | d + 1, i, x, hi, hx => by
    have hlt : i < cs.length := by omega
    have hcl := hc _ (List.getElem_mem hlt)
    refine Ev.step (f := fun k => churnlaw06_copied.l0 k (x ++ [cs[i]]) cs (cs.length : Int) ((i + 1 : Nat) : Int)) (fun k => ?_) ?_
    · simp only [churnlaw06_copied.l0]
      rw [if_pos (by omega), if_pos (by omega), if_pos (by omega), rdL_nat cs i hlt, Option.bind_some, if_pos (by simp; omega), if_pos (by omega), show wrap64 ((i : Int) + 1) = ((i + 1 : Nat) : Int) from by rw [w64 (by omega) (by omega)]; rfl]
      simp
    · have := copied_l0 cs hl hc d (i + 1) (x ++ [cs[i]]) (by omega) (by simp; omega)
      rw [drop_L cs i hlt]
      simpa using this
theorem copied_ev (cs : List (List Int)) (hl : cs.length ≤ 2097152) (hc : ∀ c ∈ cs, c.length ≤ 2097152) : Ev (fun k => churnlaw06_copied.f k cs) cs := by
  unfold churnlaw06_copied.f
  have := copied_l0 cs hl hc cs.length 0 [] (by omega) rfl
  simpa using this
theorem same_refl (a : List Int) : churnlaw06_same.f a a = some true := by simp [churnlaw06_same.f]
theorem sameCells_l0 (cs : List (List Int)) (hl : cs.length ≤ 140737488355328) : ∀ (d i : Nat), i + d = cs.length → Ev (fun k => churnlaw06_sameCells.l0 k cs cs (cs.length : Int) (i : Int)) true
  | 0, i, hi => Ev.step (f := fun k => some true) (fun k => by simp only [churnlaw06_sameCells.l0]; rw [if_neg (by omega)]) (Ev.now _)
  | d + 1, i, hi => by
    refine Ev.step (f := fun k => churnlaw06_sameCells.l0 k cs cs (cs.length : Int) ((i + 1 : Nat) : Int)) (fun k => ?_) (sameCells_l0 cs hl d (i + 1) (by omega))
    simp only [churnlaw06_sameCells.l0]
    rw [if_pos (by omega), if_pos (by omega), if_pos (by omega), if_pos (by omega), same_refl, Option.bind_some, if_pos rfl, show wrap64 ((i : Int) + 1) = ((i + 1 : Nat) : Int) from by rw [w64 (by omega) (by omega)]; rfl]
theorem alike_ev (R E L : Int) (cs : List (List Int)) (hl : cs.length ≤ 140737488355328) : Ev (fun k => churnlaw06_alike.f k R E L cs R E L cs) true := by
  unfold churnlaw06_alike.f churnlaw06_sameCells.f
  refine ev_pos (by simp) (ev_bind (ev_pos rfl ?_) (Ev.now _))
  have := sameCells_l0 cs hl cs.length 0 (by omega)
  exact this
theorem xor_u8 (a b : Int) (ha : 0 ≤ a ∧ a ≤ 255) (hb : 0 ≤ b ∧ b ≤ 255) : 0 ≤ Go.bits .xor .u8 a b ∧ Go.bits .xor .u8 a b ≤ 255 := by
  rw [u8_xor a b ha.1 (by omega) hb.1 (by omega)]
  have := Nat.xor_lt_two_pow (n := 8) (x := a.toNat) (y := b.toNat) (by omega) (by omega)
  omega
end Go.Proofs.Ythkcadmjfkcbgaa.Q
