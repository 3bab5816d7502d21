/- From, Unrank, Identity and Bounds, by the program and by the reference: what they come to. -/
import Derived.Test.YtmbkgepfpfeahaaPerm3
import Derived.Test.YtmbkgepfpfeahaaQx2
import Derived.Test.YtmbkgepfpfeahaaQx11
set_option linter.unusedVariables false
set_option linter.unusedSimpArgs false
namespace Go.Proofs.Ytmbkgepfpfeahaa.Pl
open Go.RowKit Go.Proofs.Ytmbkgepfpfeahaa.Q Go.Proofs.YtmbkgepfpfeahaaW.PrintWords Go.Proofs.YtmbkgepfpfeahaaW.PrintLast
/-- n, n - 1, .., 2. -/
def boundsL : Nat → List Int
  | 0 => []
  | 1 => []
  | n + 2 => ((n + 2 : Nat) : Int) :: boundsL (n + 1)
theorem boundsL_len : ∀ n, (boundsL n).length = n - 1
  | 0 => rfl
  | 1 => rfl
  | n + 2 => by rw [boundsL, List.length_cons, boundsL_len (n + 1)]; omega
theorem boundsL_at : ∀ (n k : Nat), k + 1 < n → rd (boundsL n) (k : Int) = (n : Int) - (k : Int)
  | 0, k, h => by omega
  | 1, k, h => by omega
  | n + 2, 0, h => by rw [boundsL]; simp [rd]
  | n + 2, k + 1, h => by
    have := boundsL_at (n + 1) k (by omega)
    rw [boundsL]
    have e : rd (((n + 2 : Nat) : Int) :: boundsL (n + 1)) ((k + 1 : Nat) : Int) = rd (boundsL (n + 1)) (k : Int) := by rw [rd_nat, rd_nat]; rfl
    rw [e, this]
    omega
theorem bounds_ev (n : Int) (hn : n ≤ 17592186044415) : Ev (fun k => perm_Bounds.f k n) (boundsL n.toNat) := by
  unfold perm_Bounds.f
  by_cases h0 : n ≤ 1
  · have : boundsL n.toNat = [] := List.eq_nil_of_length_eq_zero (by rw [boundsL_len]; omega)
    rw [this]
    exact Ev.step (f := fun _ => some []) (fun k => by rw [perm_Bounds.l0, if_neg (by omega)]) (Ev.now _)
  · obtain ⟨m, rfl⟩ : ∃ m : Nat, n = (m : Int) := ⟨n.toNat, by omega⟩
    have key : ∀ (j : Nat) (acc : List Int), acc.length + j ≤ 17592186044415 → Ev (fun k => perm_Bounds.l0 k acc (j : Int)) (acc ++ boundsL j) := by
      intro j
      induction j with
      | zero => intro acc h; exact Ev.step (f := fun _ => some acc) (fun k => by rw [perm_Bounds.l0, if_neg (by omega)]) (ev_some (by simp [boundsL]))
      | succ j ih =>
        intro acc h
        by_cases hj : j = 0
        · subst hj
          exact Ev.step (f := fun _ => some acc) (fun k => by rw [perm_Bounds.l0, if_neg (by omega)]) (ev_some (by simp [boundsL]))
        · obtain ⟨j, rfl⟩ : ∃ i, j = i + 1 := ⟨j - 1, by omega⟩
          refine Ev.step (f := fun k => perm_Bounds.l0 k (acc ++ [((j + 1 + 1 : Nat) : Int)]) ((j + 1 : Nat) : Int)) (fun k => ?_) (ev_to (ih _ (by simp; omega)) (by simp [boundsL]; omega))
          rw [perm_Bounds.l0, if_pos (by omega), if_pos (by omega), w64 (by omega) (by omega), show ((j + 1 + 1 : Nat) : Int) - 1 = ((j + 1 : Nat) : Int) by omega]
    exact key m [] (by simp; omega)
/-- Are these draws for n things? -/
def FitD (n : Int) (l : List Int) : Prop := ∀ k : Nat, k < l.length → 0 ≤ rd l (k : Int) ∧ rd l (k : Int) < n - (k : Int)
instance (n : Int) (l : List Int) : Decidable (FitD n l) := by unfold FitD; infer_instance
def swp (a : List Int) (i j : Nat) : List Int := (a.set i (rd a (j : Int))).set j (rd a (i : Int))
theorem swp_len (a : List Int) (i j : Nat) : (swp a i j).length = a.length := by simp [swp]
def fromL : List Int → Nat → List Int → List Int
  | a, _, [] => a
  | a, i, d :: ds => fromL (swp a i d.toNat) (i - 1) ds
theorem fromL_len : ∀ (l a : List Int) (i : Nat), (fromL a i l).length = a.length
  | [], _, _ => rfl
  | d :: ds, a, i => by rw [fromL, fromL_len ds, swp_len]
theorem from_walk (n : Nat) (l : List Int) (hn : l.length + 1 = n ∨ l = []) (hl : n ≤ 17592186044000) (hf : FitD (n : Int) l) :
    ∀ (d i : Nat) (a : List Int), i + d = l.length → a.length = n → Ev (fun k => perm_From.l1 k (n : Int) a l (l.length : Int) (i : Int)) (fromL a (n - 1 - i) (l.drop i), 0) := by
  intro d
  induction d with
  | zero =>
    intro i a hi ha
    rw [List.drop_eq_nil_of_le (by omega)]
    exact Ev.step (f := fun _ => some (a, 0)) (fun k => by rw [perm_From.l1, if_neg (by omega)]) (Ev.now _)
  | succ d ih =>
    intro i a hi ha
    have hn' : l.length + 1 = n := by rcases hn with h | h; · exact h
                                      · subst h; simp at hi
    obtain ⟨f1, f2⟩ := hf i (by omega)
    rw [drop_rd l i (by omega), fromL, show n - 1 - i - 1 = n - 1 - (i + 1) by omega]
    refine Ev.step (f := fun k => perm_From.l1 k (n : Int) (swp a (n - 1 - i) (rd l (i : Int)).toNat) l (l.length : Int) ((i + 1 : Nat) : Int)) (fun k => ?_) (ih (i + 1) _ (by omega) (by rw [swp_len, ha]))
    have e : wrap64 (wrap64 ((n : Int) - 1) - (i : Int)) = ((n - 1 - i : Nat) : Int) := by rw [w64 (x := (n : Int) - 1) (by omega) (by omega), w64 (by omega) (by omega)]; omega
    rw [perm_From.l1, if_pos (by omega), if_pos (by omega), if_pos (by omega), if_pos (by omega), if_pos (by omega), e, if_pos (by omega), if_pos (by omega), w64 (by omega) (by omega)]
    unfold swp
    rw [Int.toNat_of_nonneg f1]
    rfl
theorem from_chk (n : Nat) (l : List Int) (hl : l.length ≤ 17592186044000) (hl2 : n ≤ 17592186044000) {R : List Int × Int} (hR : FitD (n : Int) l → Ev (fun k => (perm_Identity.f k (n : Int)).bind fun t107 => (perm_From.l1 k (n : Int) t107 l (l.length : Int) 0)) R) :
    ∀ (d i : Nat), i + d = l.length → (∀ k : Nat, k < i → 0 ≤ rd l (k : Int) ∧ rd l (k : Int) < (n : Int) - (k : Int)) → Ev (fun k => perm_From.l0 k (n : Int) l l (l.length : Int) (i : Int)) (if FitD (n : Int) l then R else ([], 110)) := by
  intro d
  induction d with
  | zero =>
    intro i hi hk
    have hf : FitD (n : Int) l := fun k h => hk k (by omega)
    rw [if_pos hf]
    refine Ev.step (fun k => ?_) (hR hf)
    rw [perm_From.l0, if_neg (by omega)]
  | succ d ih =>
    intro i hi hk
    by_cases h1 : rd l (i : Int) < 0
    · rw [if_neg (fun hf : FitD _ l => by have := (hf i (by omega)).1; omega)]
      exact Ev.step (f := fun _ => some ([], 110)) (fun k => by rw [perm_From.l0, if_pos (by omega), if_pos (by omega), if_pos (by omega), if_pos h1]) (Ev.now _)
    · by_cases h2 : rd l (i : Int) ≥ (n : Int) - (i : Int)
      · rw [if_neg (fun hf : FitD _ l => by have := (hf i (by omega)).2; omega)]
        exact Ev.step (f := fun _ => some ([], 110)) (fun k => by rw [perm_From.l0, if_pos (by omega), if_pos (by omega), if_pos (by omega), if_neg h1, w64 (x := (n : Int) - (i : Int)) (by omega) (by omega), if_pos h2]) (Ev.now _)
      · refine Ev.step (fun k => ?_) (ih (i + 1) (by omega) (fun k h => ?_))
        · rw [perm_From.l0, if_pos (by omega), if_pos (by omega), if_pos (by omega), if_neg h1, w64 (x := (n : Int) - (i : Int)) (by omega) (by omega), if_neg h2, w64 (by omega) (by omega)]
          rfl
        · by_cases hki : k = i
          · subst hki; exact ⟨by omega, by omega⟩
          · exact hk k (by omega)
def fromA (n : Int) (l : List Int) : List Int × Int := if n < 0 then ([], 2) else if (l.length : Int) = mx (n - 1) 0 ∧ FitD n l then (fromL (iota n.toNat) (n.toNat - 1) l, 0) else ([], 110)
theorem mx_pos (x : Int) (h : 0 ≤ x) : mx x 0 = x := by
  obtain ⟨n, rfl⟩ : ∃ n : Nat, x = (n : Int) := ⟨x.toNat, by omega⟩
  exact mx_nat n
theorem from_ev (n : Int) (l : List Int) (hn : -9223372036854775808 ≤ n ∧ n ≤ 9223372036854775807) (hl : l.length ≤ 17592186043904) : Ev (fun k => perm_From.f k n l) (fromA n l) := by
  unfold perm_From.f fromA
  by_cases h0 : n < 0
  · rw [if_pos h0]; exact ev_pos h0 (Ev.now _)
  · rw [if_neg h0]
    refine ev_neg h0 ?_
    rw [w64 (by omega) (by omega)]
    by_cases hm : (l.length : Int) = mx (n - 1) 0
    · refine ev_pos hm ?_
      have hb : n ≤ 17592186043905 := by
        by_cases h1 : n ≤ 1
        · omega
        · rw [mx_pos _ (by omega)] at hm; omega
      have hn' : l.length + 1 = n.toNat ∨ l = [] := by
        by_cases h1 : n ≤ 1
        · rw [mx_neg _ (by omega)] at hm
          exact Or.inr (List.eq_nil_of_length_eq_zero (by omega))
        · rw [mx_pos _ (by omega)] at hm; omega
      obtain ⟨m, rfl⟩ : ∃ m : Nat, n = (m : Int) := ⟨n.toNat, by omega⟩
      refine ev_to (from_chk m l (by omega) (by omega) (R := (fromL (iota m) (m - 1) l, 0)) (fun hf => ?_) l.length 0 (by omega) (fun k h => by omega)) ?_
      · refine ev_bind (identity_ev m (by omega)) ?_
        exact from_walk m l (by simpa using hn') (by omega) hf l.length 0 _ (by omega) (iota_len m)
      · by_cases hf : FitD (m : Int) l
        · rw [if_pos hf, if_pos ⟨hm, hf⟩]
          rfl
        · rw [if_neg hf, if_neg (fun h => hf h.2)]
    · rw [if_neg (fun h => hm h.1)]
      exact ev_neg hm (Ev.now _)
/-- The permutation with these digits, of the numbers of L. -/
def unr : List Int → List Int → List Int
  | _, [] => []
  | L, d :: ds => rd L d :: unr (L.eraseIdx d.toNat) ds
theorem unr_len : ∀ (ds L : List Int), (unr L ds).length = ds.length
  | [], _ => rfl
  | d :: ds, L => by rw [unr, List.length_cons, unr_len ds, List.length_cons]
def unrA (l : List Int) : List Int × Int := if FitD (l.length : Int) l then (unr (iota l.length) l, 0) else ([], 110)
theorem unrank_walk (l : List Int) (hl : l.length ≤ 17592186043904) (hf : FitD (l.length : Int) l) : ∀ (d i : Nat) (L P : List Int), i + d = l.length → L.length = d → P.length = i →
    Ev (fun k => perm_Unrank.l1 k L P l (l.length : Int) (i : Int)) (P ++ unr L (l.drop i), 0) := by
  intro d
  induction d with
  | zero =>
    intro i L P hi hL hP
    rw [List.drop_eq_nil_of_le (by omega)]
    exact Ev.step (f := fun _ => some (P, 0)) (fun k => by rw [perm_Unrank.l1, if_neg (by omega)]) (ev_some (by simp [unr]))
  | succ d ih =>
    intro i L P hi hL hP
    obtain ⟨f1, f2⟩ := hf i (by omega)
    rw [drop_rd l i (by omega), unr]
    have hd := del_f L (rd l (i : Int)).toNat (by omega) (by omega)
    rw [Int.toNat_of_nonneg f1] at hd
    refine Ev.step (fun k => by rw [perm_Unrank.l1, if_pos (by omega), if_pos (by omega), if_pos (by omega), if_pos (by omega), if_pos (by omega), if_pos (by omega)]) (ev_bind0 hd ?_)
    have := ih (i + 1) (L.eraseIdx (rd l (i : Int)).toNat) (P ++ [rd L (rd l (i : Int))]) (by omega) (by rw [List.length_eraseIdx, if_pos (by omega)]; omega) (by simp; omega)
    rw [List.append_assoc] at this
    rw [w64 (by omega) (by omega)]
    exact this
theorem unrank_ev (l : List Int) (hl : l.length ≤ 17592186043904) : Ev (fun k => perm_Unrank.f k l) (unrA l) := by
  unfold perm_Unrank.f unrA
  have key : ∀ (d i : Nat), i + d = l.length → (∀ k : Nat, k < i → 0 ≤ rd l (k : Int) ∧ rd l (k : Int) < (l.length : Int) - (k : Int)) → Ev (fun k => perm_Unrank.l0 k l (l.length : Int) l (l.length : Int) (i : Int)) (if FitD (l.length : Int) l then (unr (iota l.length) l, 0) else ([], 110)) := by
    intro d
    induction d with
    | zero =>
      intro i hi hk
      have hf : FitD (l.length : Int) l := fun k h => hk k (by omega)
      rw [if_pos hf]
      refine Ev.step (fun k => by rw [perm_Unrank.l0, if_neg (by omega)]) (ev_bind (identity_ev l.length (by omega)) (ev_pos (show 0 ≤ (l.length : Int) by omega) (ev_pos (show (l.length : Int).toNat ≤ 35184372088832 by omega) ?_)))
      exact unrank_walk l hl hf l.length 0 _ [] (by omega) (iota_len _) rfl
    | succ d ih =>
      intro i hi hk
      have e : wrap64 (wrap64 ((l.length : Int) - 1) - (i : Int)) = (l.length : Int) - 1 - (i : Int) := by rw [w64 (x := (l.length : Int) - 1) (by omega) (by omega), w64 (by omega) (by omega)]
      by_cases h1 : rd l (i : Int) < 0
      · rw [if_neg (fun hf : FitD _ l => by have := (hf i (by omega)).1; omega)]
        exact Ev.step (f := fun _ => some ([], 110)) (fun k => by rw [perm_Unrank.l0, if_pos (by omega), if_pos (by omega), if_pos (by omega), if_pos h1]) (Ev.now _)
      · by_cases h2 : rd l (i : Int) > (l.length : Int) - 1 - (i : Int)
        · rw [if_neg (fun hf : FitD _ l => by have := (hf i (by omega)).2; omega)]
          exact Ev.step (f := fun _ => some ([], 110)) (fun k => by rw [perm_Unrank.l0, if_pos (by omega), if_pos (by omega), if_pos (by omega), if_neg h1, e, if_pos h2]) (Ev.now _)
        · refine Ev.step (fun k => ?_) (ih (i + 1) (by omega) (fun k h => ?_))
          · rw [perm_Unrank.l0, if_pos (by omega), if_pos (by omega), if_pos (by omega), if_neg h1, e, if_neg h2, w64 (by omega) (by omega)]
            rfl
          · by_cases hki : k = i
            · subst hki; exact ⟨by omega, by omega⟩
            · exact hk k (by omega)
  exact key l.length 0 (by omega) (fun k h => by omega)
theorem take_drop_erase (L : List Int) (i : Nat) : L.take i ++ L.drop (i + 1) = L.eraseIdx i := (List.eraseIdx_eq_take_drop_succ L i).symm
end Go.Proofs.Ytmbkgepfpfeahaa.Pl
