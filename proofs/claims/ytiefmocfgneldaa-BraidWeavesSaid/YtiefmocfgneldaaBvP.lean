/- BraidWeaves: weaving by a pattern; the check step by step and the check by counting come to the same; plain lemmas. -/
import Derived.Test.YtiefmocfgneldaaMany
set_option linter.unusedVariables false
set_option linter.unusedSimpArgs false
namespace Go.Proofs.Ytiefmocfgneldaa.Pl
open Go.RowKit Go.Proofs.Ytiefmocfgneldaa.Q Go.Proofs.YtiefmocfgneldaaW.PrintWords Go.Proofs.YtiefmocfgneldaaW.PrintLast
/-- A chunk's number that is one of n. -/
def Rng (n : Nat) (js : List Int) : Prop := ∀ j ∈ js, 0 ≤ j ∧ j < (n : Int)
/-- The next number of each chunk, behind these. -/
def cntN : List Int → List Int → List Int
  | next, [] => next
  | next, j :: js => cntN (next.set j.toNat (rd next j + 1)) js
/-- The places of the things. -/
def prs : List Int → List Int → List (Int × Int)
  | _, [] => []
  | next, j :: js => (j, rd next j) :: prs (next.set j.toNat (rd next j + 1)) js
theorem prs_len : ∀ (js next : List Int), (prs next js).length = js.length
  | [], _ => rfl
  | j :: js, next => by simp [prs, prs_len js]
theorem cntN_len : ∀ (js next : List Int), (cntN next js).length = next.length
  | [], _ => rfl
  | j :: js, next => by rw [cntN, cntN_len js, List.length_set]
theorem prs_snoc : ∀ (js next : List Int) (j : Int), prs next (js ++ [j]) = prs next js ++ [(j, rd (cntN next js) j)]
  | [], _, _ => rfl
  | i :: js, next, j => by simp only [List.cons_append, prs, cntN, prs_snoc js]
theorem cntN_snoc : ∀ (js next : List Int) (j : Int), cntN next (js ++ [j]) = (cntN next js).set j.toNat (rd (cntN next js) j + 1)
  | [], _, _ => rfl
  | i :: js, next, j => by simp only [List.cons_append, cntN, cntN_snoc js]
theorem bv_rd_set (l : List Int) (i k : Nat) (z : Int) (hi : i < l.length) : rd (l.set i z) (k : Int) = if k = i then z else rd l (k : Int) := by
  unfold rd
  simp only [Int.toNat_natCast, List.getD_eq_getElem?_getD]
  by_cases e : k = i
  · subst e
    rw [if_pos rfl, List.getElem?_set_self hi]
    rfl
  · rw [if_neg e, List.getElem?_set_ne (fun e2 => e e2.symm)]
/-- Numbers only rise. -/
theorem cntN_ge : ∀ (js next : List Int) (k : Nat), Rng next.length js → rd next (k : Int) ≤ rd (cntN next js) (k : Int)
  | [], _, _, _ => Int.le_refl _
  | j :: js, next, k, h => by
    obtain ⟨h0, h1⟩ := h j (List.mem_cons_self ..)
    have ih := cntN_ge js (next.set j.toNat (rd next j + 1)) k (by rw [List.length_set]; exact fun x hx => h x (List.mem_cons_of_mem _ hx))
    rw [cntN]
    refine Int.le_trans ?_ ih
    obtain ⟨m, rfl⟩ := Int.eq_ofNat_of_zero_le h0
    rw [Int.toNat_natCast, bv_rd_set next m k _ (by omega)]
    split
    · rename_i e; subst e; omega
    · exact Int.le_refl _
/-- The check at each step, as the document has it. -/
def okAll (lens : List Int) : List Int → List Int → Prop
  | _, [] => True
  | next, j :: js => (0 ≤ j ∧ j < (lens.length : Int) ∧ rd next j < rd lens j) ∧ okAll lens (next.set j.toNat (rd next j + 1)) js
theorem okAll_rng {lens : List Int} : ∀ (js next : List Int), okAll lens next js → Rng lens.length js
  | [], _, _ => fun j hj => by simp at hj
  | i :: js, next, h => fun j hj => by
    rcases List.mem_cons.1 hj with rfl | hj
    · exact ⟨h.1.1, h.1.2.1⟩
    · exact okAll_rng js _ h.2 j hj
/-- Where the numbers come out as the lengths, no step was refused. -/
theorem okAll_of {lens : List Int} : ∀ (js next : List Int), next.length = lens.length → Rng lens.length js → cntN next js = lens → okAll lens next js
  | [], _, _, _, _ => trivial
  | j :: js, next, hl, hr, he => by
    obtain ⟨h0, h1⟩ := hr j (List.mem_cons_self ..)
    obtain ⟨m, rfl⟩ := Int.eq_ofNat_of_zero_le h0
    have hr2 : Rng lens.length js := fun x hx => hr x (List.mem_cons_of_mem _ hx)
    refine ⟨⟨h0, h1, ?_⟩, okAll_of js _ (by rw [List.length_set]; exact hl) hr2 he⟩
    have := cntN_ge js (next.set ((m : Int)).toNat (rd next (m : Int) + 1)) m (by rw [List.length_set, hl]; exact hr2)
    rw [cntN] at he
    rw [he, Int.toNat_natCast, bv_rd_set next m m _ (by omega), if_pos rfl] at this
    omega
/-- What weaving comes to. -/
noncomputable def wvA (chunk lens : List Int) : List (Int × Int) × Int :=
  open Classical in if Rng lens.length chunk ∧ cntN (List.replicate lens.length 0) chunk = lens then (prs (List.replicate lens.length 0) chunk, 0) else ([], 2)
theorem okAll_snoc {lens : List Int} : ∀ (js next : List Int) (j : Int), okAll lens next (js ++ [j]) ↔ okAll lens next js ∧ (0 ≤ j ∧ j < (lens.length : Int) ∧ rd (cntN next js) j < rd lens j)
  | [], next, j => by simp [okAll, cntN]
  | i :: js, next, j => by simp only [List.cons_append, okAll, cntN, okAll_snoc js, and_assoc]
theorem okAll_app {lens : List Int} (js ks next : List Int) (h : okAll lens next (js ++ ks)) : okAll lens next js := by
  induction js generalizing next with
  | nil => trivial
  | cons i js ih => exact ⟨h.1, ih _ h.2⟩
theorem wvA_no {chunk lens : List Int} {i : Nat} (hi : i < chunk.length) (hb : ¬ (0 ≤ rd chunk (i : Int) ∧ rd chunk (i : Int) < (lens.length : Int) ∧ rd (cntN (List.replicate lens.length 0) (chunk.take i)) (rd chunk (i : Int)) < rd lens (rd chunk (i : Int)))) : wvA chunk lens = ([], 2) := by
  unfold wvA
  refine if_neg (fun h => hb ?_)
  have h1 := okAll_of chunk (List.replicate lens.length 0) (by simp) h.1 h.2
  have h2 : okAll lens (List.replicate lens.length 0) (chunk.take (i + 1)) := okAll_app _ (chunk.drop (i + 1)) _ (by rw [List.take_append_drop]; exact h1)
  rw [take_rd chunk i hi] at h2
  exact ((okAll_snoc _ _ _).1 h2).2
theorem wvA_yes {chunk lens : List Int} (h : okAll lens (List.replicate lens.length 0) chunk) (he : cntN (List.replicate lens.length 0) chunk = lens) : wvA chunk lens = (prs (List.replicate lens.length 0) chunk, 0) := by
  unfold wvA
  exact if_pos ⟨okAll_rng chunk _ h, he⟩
theorem wvA_ne {chunk lens : List Int} (he : cntN (List.replicate lens.length 0) chunk ≠ lens) : wvA chunk lens = ([], 2) := by
  unfold wvA
  exact if_neg (fun h => he h.2)
end Go.Proofs.Ytiefmocfgneldaa.Pl
