/- Pack, the program's and the document's, is packF; the laws' fixed question. -/
import Derived.Test.YthkcadmjfkcbgaaFrP1
import Derived.Test.YthkcadmjfkcbgaaQx9
import Derived.Test.YthkcadmjfkcbgaaQx10
import Derived.Test.YthkcadmjfkcbgaaQx15
set_option linter.unusedVariables false
set_option linter.unusedSimpArgs false
namespace Go.Proofs.Ythkcadmjfkcbgaa.Q
open Go.RowKit Go.Proofs.YthkcadmjfkcbgaaW.PrintWords Go.Proofs.YthkcadmjfkcbgaaW.PrintLast Go.Proofs.YthkcadmjfkcbgaaW.PrintMore Go.Proofs.Ythkcadmjfkcbgaa.Pl

def enc (R E L : Int) (cs : List (List Int)) : List Int := (((([67, 72, 82, 78, 1, L] ++ be cs.length 2) ++ be R 8) ++ be E 8))
def fitsF (R E L : Int) : Bool := decide (0 ≤ L ∧ L ≤ 8 ∧ 0 ≤ R ∧ R ≤ 4611686018427387903 ∧ 0 ≤ E ∧ E ≤ 4611686018427387904)
def packF (R E L : Int) (cs : List (List Int)) : List Int × Int :=
  if fitsF R E L = true then (if cs.length > 256 then ([], 63) else packL (enc R E L cs) cs) else ([], 62)
theorem enc_len (R E L : Int) (cs : List (List Int)) : (enc R E L cs).length = 24 := by simp [enc, be_len]
theorem u64nn (x : Int) (h0 : 0 ≤ x) (h1 : x < 9223372036854775808) : IntKind.u64.wrap x = x := by
  have h : (2 : Int) ^ 64 = 18446744073709551616 := by decide
  exact wru64' x h0 (by rw [h]; omega)
theorem enc_bys (R E L : Int) (cs : List (List Int)) (h0 : 0 ≤ L) (h1 : L ≤ 8) : Bys (enc R E L cs) := by
  refine (((Bys.append ?_ (be_bys _ _)).append (be_bys _ _)).append (be_bys _ _))
  intro x hx
  simp at hx
  omega
theorem pack_l0 (cs : List (List Int)) (hcs : ∀ c ∈ cs, Bys c) (hn : cs.length ≤ 256) : ∀ (d i : Nat) (p : List Int), i + d = cs.length → Bys p → p.length + 322 * d ≤ 1000000 →
    Ev (fun k => frame_Pack.l0 k p cs (cs.length : Int) (i : Int)) (packL p (cs.drop i))
  | 0, i, p, hi, hp, hl => by
    refine Ev.step (f := fun k => ((frame_sum_add.f k 1 0 p).bind fun bt139 => ((frame_sum_foot.f bt139.1 bt139.2).bind fun t141 => ((frame_number.f k p (IntKind.u64.wrap (t141)) 4).bind fun t142 => (some (t142, 0)))))) (fun k => by simp only [frame_Pack.l0]; rw [if_neg (by omega)]) ?_
    rw [List.drop_of_length_le (by omega)]
    obtain ⟨a, b, c, d⟩ := sumL_range p 1 0 (by omega) (by omega) (by omega) (by omega)
    have hf := footV_range p
    refine ev_bind (sum_ev p hp (by omega)) (ev_bind0 (foot_eq _ _ a b c d) (ev_bind (a := p ++ be (footV p) 4) ?_ (ev_some (by simp [packL, encC]))))
    have e : IntKind.u64.wrap ((sumL 1 0 p).2 * 65536 + (sumL 1 0 p).1) = footV p := u64nn _ hf.1 (by have := hf.2; unfold footV at this; omega)
    rw [e]
    exact number_ev p (footV p) 4 (by omega) (by omega)
  | d + 1, i, p, hi, hp, hl => by
    have hlt : i < cs.length := by omega
    rw [drop_L cs i hlt]
    by_cases h320 : cs[i].length = 320
    · rw [packL_cons _ _ _ h320]
      refine Ev.step (f := fun k => (frame_number.f k p 320 2).bind fun t133 => (if t133.length + (cs[i]).length < 140737488355328 then (frame_Pack.l0 k (t133 ++ cs[i]) cs (cs.length : Int) ((i + 1 : Nat) : Int)) else (none))) (fun k => ?_) ?_
      · simp only [frame_Pack.l0]
        rw [if_pos (by omega), if_pos (by omega), if_pos (by omega), rdL_nat cs i hlt, if_pos (by omega), show wrap64 ((i : Int) + 1) = ((i + 1 : Nat) : Int) from by rw [w64 (by omega) (by omega)]; rfl]
      · refine ev_bind (number_ev p 320 2 (by omega) (by omega)) (ev_pos (by simp [be_len]; omega) (pack_l0 cs hcs hn d (i + 1) _ (by omega) ((hp.append (be_bys _ _)).append (hcs _ (List.getElem_mem hlt))) ?_))
        simp only [List.length_append, be_len, h320]; omega
    · refine Ev.step (f := fun k => some ([], 64)) (fun k => ?_) (ev_some ?_)
      · simp only [frame_Pack.l0]
        rw [if_pos (by omega), if_pos (by omega), if_pos (by omega), rdL_nat cs i hlt, if_neg (by omega)]
      · unfold packL
        rw [if_neg (by rw [List.all_cons, decide_eq_false h320]; simp)]
theorem fits_eq (R E L : Int) : frame_fits.f R E L = some (fitsF R E L) := by
  unfold frame_fits.f fitsF
  by_cases h1 : L ≥ 0
  · rw [if_pos h1]
    by_cases h2 : L ≤ 8
    · rw [if_pos h2]
      by_cases h3 : R ≥ 0
      · rw [if_pos h3]
        by_cases h4 : R ≤ 4611686018427387903
        · rw [if_pos h4]
          by_cases h5 : E ≥ 0
          · rw [if_pos h5]
            congr 1
            by_cases h6 : E ≤ 4611686018427387904
            · rw [decide_eq_true h6, decide_eq_true ⟨h1, h2, h3, h4, h5, h6⟩]
            · rw [decide_eq_false h6, decide_eq_false (by omega)]
          · rw [if_neg h5, decide_eq_false (by omega)]
        · rw [if_neg h4, decide_eq_false (by omega)]
      · rw [if_neg h3, decide_eq_false (by omega)]
    · rw [if_neg h2, decide_eq_false (by omega)]
  · rw [if_neg h1, decide_eq_false (by omega)]
theorem pack_ev (R E L : Int) (cs : List (List Int)) (hcs : ∀ c ∈ cs, Bys c) (hR : -9223372036854775808 ≤ R ∧ R ≤ 9223372036854775807) (hc : cs.length ≤ 9223372036854775807) : Ev (fun k => frame_Pack.f k R E L cs) (packF R E L cs) := by
  unfold frame_Pack.f packF
  refine ev_bind0 (fits_eq R E L) ?_
  cases hf : fitsF R E L with
  | false =>
    simp only [Bool.false_eq_true, if_false]
    exact Ev.now _
  | true =>
    have hfi : 0 ≤ L ∧ L ≤ 8 ∧ 0 ≤ R ∧ R ≤ 4611686018427387903 ∧ 0 ≤ E ∧ E ≤ 4611686018427387904 := by unfold fitsF at hf; exact of_decide_eq_true hf
    refine ev_pos rfl ?_
    rw [if_pos rfl]
    by_cases h256 : cs.length > 256
    · rw [if_pos h256]
      exact ev_pos (by omega) (Ev.now _)
    · rw [if_neg h256]
      have w1 : wrap64 ((wrap64 (24 + (wrap64 ((cs.length : Int) * 322)))) + 4) = 28 + (cs.length : Int) * 322 := by
        rw [show wrap64 ((cs.length : Int) * 322) = (cs.length : Int) * 322 from w64 (by omega) (by omega), show wrap64 (24 + (cs.length : Int) * 322) = 24 + (cs.length : Int) * 322 from w64 (by omega) (by omega), w64 (by omega) (by omega)]
        omega
      rw [w1]
      refine ev_neg (by omega) (ev_pos (by omega) (ev_pos (by omega) (ev_bind0 rfl (ev_pos (by simp) (ev_bind0 rfl (ev_bind0 rfl (ev_pos (by simp [bytesOf]) ?_)))))))
      have e0 : ([] : List Int) ++ bytesOf (⟨#[67, 72, 82, 78]⟩ : ByteArray) ++ [1, L % 256] = [67, 72, 82, 78, 1, L] := by
        rw [show L % 256 = L from by omega]; rfl
      rw [e0, u64nn (cs.length : Int) (by omega) (by omega), u64nn R (by omega) (by omega), u64nn E (by omega) (by omega)]
      have b0 : Bys ([67, 72, 82, 78, 1, L] : List Int) := by intro x hx; simp at hx; omega
      refine ev_bind (number_ev _ _ 2 (by omega) (by simp)) (ev_bind (number_ev _ _ 8 (by omega) (by simp [be_len])) (ev_bind (number_ev _ _ 8 (by omega) (by simp [be_len])) ?_))
      have := pack_l0 cs hcs (by omega) cs.length 0 (enc R E L cs) (by omega) (enc_bys R E L cs (by omega) (by omega)) (by rw [enc_len]; omega)
      rw [List.drop_zero] at this
      exact this
theorem rpack_l0 (R E L : Int) (cs : List (List Int)) (hcs : ∀ c ∈ cs, Bys c) (hn : cs.length ≤ 256) : ∀ (d i : Nat) (p : List Int), i + d = cs.length → Bys p → p.length + 322 * d ≤ 1000000 →
    Ev (fun k => churnref06_Pack.l0 k p (i : Int) R E L cs) (packL p (cs.drop i))
  | 0, i, p, hi, hp, hl => by
    refine Ev.step (f := fun k => ((churnref06_foot.f k p).bind fun t223 => (if p.length + t223.length < 140737488355328 then (some ((p ++ t223), 0)) else (none)))) (fun k => by simp only [churnref06_Pack.l0]; rw [if_neg (by omega)]) ?_
    rw [List.drop_of_length_le (by omega)]
    exact ev_bind (rfoot_ev p hp (by omega)) (ev_pos (by rw [be_len]; omega) (ev_some (by simp [packL, encC])))
  | d + 1, i, p, hi, hp, hl => by
    have hlt : i < cs.length := by omega
    rw [drop_L cs i hlt]
    by_cases h320 : cs[i].length = 320
    · rw [packL_cons _ _ _ h320]
      refine Ev.step (f := fun k => (churnref06_number.f k 320 2).bind fun t213 => (if p.length + t213.length < 140737488355328 then ((some (p ++ t213 : List Int)).bind fun y216 => (if y216.length + cs[i].length < 140737488355328 then (churnref06_Pack.l0 k (y216 ++ cs[i]) ((i + 1 : Nat) : Int) R E L cs) else (none))) else (none))) (fun k => ?_) ?_
      · simp only [churnref06_Pack.l0]
        rw [if_pos (by omega), if_pos (by omega), rdL_nat cs i hlt, if_pos (by omega), show wrap64 ((i : Int) + 1) = ((i + 1 : Nat) : Int) from by rw [w64 (by omega) (by omega)]; rfl]
      · refine ev_bind (rnumber_ev 320 2 (by omega)) (ev_pos (by rw [be_len]; omega) (ev_bind0 rfl (ev_pos (by simp [be_len]; omega) (rpack_l0 R E L cs hcs hn d (i + 1) _ (by omega) ((hp.append (be_bys _ _)).append (hcs _ (List.getElem_mem hlt))) ?_))))
        simp only [List.length_append, be_len, h320]; omega
    · refine Ev.step (f := fun k => some ([], 64)) (fun k => ?_) (ev_some ?_)
      · simp only [churnref06_Pack.l0]
        rw [if_pos (by omega), if_pos (by omega), rdL_nat cs i hlt, if_neg (by omega)]
      · unfold packL
        rw [if_neg (by rw [List.all_cons, decide_eq_false h320]; simp)]
theorem rpack_ev (R E L : Int) (cs : List (List Int)) (hcs : ∀ c ∈ cs, Bys c) (hc : cs.length ≤ 9223372036854775807) : Ev (fun k => churnref06_Pack.f k R E L cs) (packF R E L cs) := by
  have bad : fitsF R E L = false → Ev (fun k => churnref06_Pack.j0 k true R E L cs R E L) (packF R E L cs) := fun h => by
    unfold packF
    rw [if_neg (by rw [h]; simp)]
    exact Ev.step (f := fun k => some ([], 62)) (fun k => by simp only [churnref06_Pack.j0]; exact if_pos trivial) (Ev.now _)
  have dec : ∀ {q : Prop} [Decidable q], ¬ q → decide q = false := fun h => decide_eq_false h
  unfold churnref06_Pack.f
  by_cases h1 : L < 0
  · exact ev_pos h1 (bad (dec (by omega)))
  refine ev_neg h1 ?_
  by_cases h2 : L > 8
  · exact ev_pos h2 (bad (dec (by omega)))
  refine ev_neg h2 ?_
  by_cases h3 : R < 0
  · exact ev_pos h3 (bad (dec (by omega)))
  refine ev_neg h3 ?_
  by_cases h4 : R ≥ 4611686018427387904
  · exact ev_pos h4 (bad (dec (by omega)))
  refine ev_neg h4 ?_
  by_cases h5 : E < 0
  · exact ev_pos h5 (bad (dec (by omega)))
  refine ev_neg h5 ?_
  by_cases h6 : E > 4611686018427387904
  · rw [decide_eq_true h6]
    exact bad (dec (by omega))
  rw [decide_eq_false h6]
  have hfit : fitsF R E L = true := decide_eq_true (by omega)
  unfold packF
  rw [if_pos hfit]
  refine Ev.step (f := fun k => if (cs.length : Int) > 256 then (some (([] : List Int), 63)) else ((some (([67, 72, 82, 78, 1, L % 256] : List Int) : List Int)).bind fun y191 => ((churnref06_number.f k (cs.length : Int) 2).bind fun t194 => (if y191.length + t194.length < 140737488355328 then ((some (y191 ++ t194 : List Int)).bind fun y197 => ((churnref06_number.f k R 8).bind fun t200 => (if y197.length + t200.length < 140737488355328 then ((some (y197 ++ t200 : List Int)).bind fun y203 => ((churnref06_number.f k E 8).bind fun t206 => (if y203.length + t206.length < 140737488355328 then (churnref06_Pack.l0 k (y203 ++ t206) 0 R E L cs) else (none)))) else (none)))) else (none))))) (fun k => by simp only [churnref06_Pack.j0, Bool.false_eq_true, if_false]) ?_
  by_cases h256 : cs.length > 256
  · rw [if_pos h256]
    exact ev_pos (by omega) (Ev.now _)
  rw [if_neg h256]
  have b0 : Bys ([67, 72, 82, 78, 1, L] : List Int) := by intro x hx; simp at hx; omega
  rw [show L % 256 = L from by omega]
  refine ev_neg (by omega) (ev_bind0 rfl (ev_bind (rnumber_ev _ 2 (by omega)) (ev_pos (by simp [be_len]) (ev_bind0 rfl (ev_bind (rnumber_ev _ 8 (by omega)) (ev_pos (by simp [be_len]) (ev_bind0 rfl (ev_bind (rnumber_ev _ 8 (by omega)) (ev_pos (by simp [be_len]) ?_)))))))))
  have := rpack_l0 R E L cs hcs (by omega) cs.length 0 (enc R E L cs) (by omega) (enc_bys R E L cs (by omega) (by omega)) (by rw [enc_len]; omega)
  rw [List.drop_zero] at this
  exact this
theorem bys_all {l : List Int} (h : Bys l) : (l.all fun x => decide (0 ≤ x ∧ x ≤ 255)) = true := List.all_eq_true.2 fun x hx => decide_eq_true (h x hx)
theorem Read_eq (l : List Int) (h : Bys l) (hl : l.length ≤ 140737488355328) : frame_Read.f l = some (rdF l) := by
  unfold frame_Read.f
  rw [if_pos ⟨bys_all h, hl⟩]
theorem awake_ev : Ev (fun k => churnlaw06_awake.f k) true := by
  unfold churnlaw06_awake.f
  have hp : packF 7 1 2 [] = ([67, 72, 82, 78, 1, 2, 0, 0, 0, 0, 0, 0, 0, 0, 0, 7, 0, 0, 0, 0, 0, 0, 0, 1, 26, 196, 1, 55], 0) := by decide +kernel
  have hr : rdF [67, 72, 82, 78, 1, 2, 0, 0, 0, 0, 0, 0, 0, 0, 0, 7, 0, 0, 0, 0, 0, 0, 0, 1, 26, 196, 1, 55] = (7, 1, 2, [], 0, 0) := by decide +kernel
  have h := pack_ev 7 1 2 [] (by simp) (by omega) (by simp)
  rw [hp] at h
  refine ev_bind h (ev_bind0 (Read_eq _ (by intro x hx; simp at hx; omega) (by simp)) ?_)
  rw [hr]
  exact ev_pos rfl (ev_pos rfl (ev_pos rfl (ev_pos (by decide) (ev_pos rfl (ev_pos rfl (Ev.now _))))))
end Go.Proofs.Ythkcadmjfkcbgaa.Q
