/- From, Unrank, Identity and Bounds by the reference: what they come to. -/
import Derived.Test.YtmbkgepfpfeahaaPerm4
import Derived.Test.YtmbkgepfpfeahaaQx8
import Derived.Test.YtmbkgepfpfeahaaQx9
import Derived.Test.YtmbkgepfpfeahaaQx7
set_option linter.unusedVariables false
set_option linter.unusedSimpArgs false
namespace Go.Proofs.Ytmbkgepfpfeahaa.Pl
open Go.RowKit Go.Proofs.Ytmbkgepfpfeahaa.Q Go.Proofs.YtmbkgepfpfeahaaW.PrintWords Go.Proofs.YtmbkgepfpfeahaaW.PrintLast
theorem ref_identity_ev (n : Nat) (hn : n ≤ 17592186044415) : Ev (fun k => churnref11_Identity.f k (n : Int)) (iota n) := by
  unfold churnref11_Identity.f
  have key : ∀ (d i : Nat), i + d = n → Ev (fun k => churnref11_Identity.l0 k (n : Int) (iota i) (i : Int)) (iota n) := by
    intro d
    induction d with
    | zero =>
      intro i hi
      obtain rfl : i = n := by omega
      exact Ev.step (f := fun _ => some (iota i)) (fun k => by rw [churnref11_Identity.l0, if_neg (by omega)]) (Ev.now _)
    | succ d ih =>
      intro i hi
      refine Ev.step (fun k => by rw [churnref11_Identity.l0, if_pos (by omega), if_pos (by rw [iota_len]; omega), w64 (by omega) (by omega), ← iota_succ]; rfl) (ih (i + 1) (by omega))
  exact key n 0 (by omega)
theorem ref_identity_none (n : Int) (h : n ≤ 0) : Ev (fun k => churnref11_Identity.f k n) [] := by
  unfold churnref11_Identity.f
  exact Ev.step (f := fun _ => some []) (fun k => by rw [churnref11_Identity.l0, if_neg (by omega)]) (Ev.now _)
theorem ref_bounds_ev (n : Int) (hn : n ≤ 17592186044415) : Ev (fun k => churnref11_Bounds.f k n) (boundsL n.toNat) := by
  unfold churnref11_Bounds.f
  by_cases h0 : n ≤ 1
  · have : boundsL n.toNat = [] := List.eq_nil_of_length_eq_zero (by rw [boundsL_len]; omega)
    rw [this]
    exact Ev.step (f := fun _ => some []) (fun k => by rw [churnref11_Bounds.l0, if_neg (by omega)]) (Ev.now _)
  · obtain ⟨m, rfl⟩ : ∃ m : Nat, n = (m : Int) := ⟨n.toNat, by omega⟩
    have key : ∀ (j : Nat) (acc : List Int), acc.length + j ≤ 17592186044415 → Ev (fun k => churnref11_Bounds.l0 k acc (j : Int)) (acc ++ boundsL j) := by
      intro j
      induction j with
      | zero => intro acc h; exact Ev.step (f := fun _ => some acc) (fun k => by rw [churnref11_Bounds.l0, if_neg (by omega)]) (ev_some (by simp [boundsL]))
      | succ j ih =>
        intro acc h
        by_cases hj : j = 0
        · subst hj
          exact Ev.step (f := fun _ => some acc) (fun k => by rw [churnref11_Bounds.l0, if_neg (by omega)]) (ev_some (by simp [boundsL]))
        · obtain ⟨j, rfl⟩ : ∃ i, j = i + 1 := ⟨j - 1, by omega⟩
          refine Ev.step (f := fun k => churnref11_Bounds.l0 k (acc ++ [((j + 1 + 1 : Nat) : Int)]) ((j + 1 : Nat) : Int)) (fun k => ?_) (ev_to (ih _ (by simp; omega)) (by simp [boundsL]; omega))
          rw [churnref11_Bounds.l0, if_pos (by omega), if_pos (by omega), w64 (by omega) (by omega), show ((j + 1 + 1 : Nat) : Int) - 1 = ((j + 1 : Nat) : Int) by omega]
    exact key m [] (by simp; omega)
theorem ref_from_walk (n : Nat) (l : List Int) (hn : l.length + 1 = n ∨ l = []) (hl : n ≤ 17592186044000) (hf : FitD (n : Int) l) :
    ∀ (d i : Nat) (a : List Int), i + d = l.length → a.length = n → Ev (fun k => churnref11_From.l0 k (n : Int) l a (i : Int)) (fromL a (n - 1 - i) (l.drop i), 0) := by
  intro d
  induction d with
  | zero =>
    intro i a hi ha
    rw [List.drop_eq_nil_of_le (by omega)]
    exact Ev.step (f := fun _ => some (a, 0)) (fun k => by rw [churnref11_From.l0, if_neg (by omega)]) (Ev.now _)
  | succ d ih =>
    intro i a hi ha
    have hn' : l.length + 1 = n := by rcases hn with h | h; · exact h
                                      · subst h; simp at hi
    obtain ⟨f1, f2⟩ := hf i (by omega)
    rw [drop_rd l i (by omega), fromL, show n - 1 - i - 1 = n - 1 - (i + 1) by omega]
    refine Ev.step (f := fun k => churnref11_From.l0 k (n : Int) l (swp a (n - 1 - i) (rd l (i : Int)).toNat) ((i + 1 : Nat) : Int)) (fun k => ?_) (ih (i + 1) _ (by omega) (by rw [swp_len, ha]))
    have e : wrap64 (wrap64 ((n : Int) - 1) - (i : Int)) = ((n - 1 - i : Nat) : Int) := by rw [w64 (x := (n : Int) - 1) (by omega) (by omega), w64 (by omega) (by omega)]; omega
    rw [churnref11_From.l0, if_pos (by omega), if_pos (by omega), e, if_pos (by omega), if_pos (by omega), if_pos (by omega), if_pos (by omega), w64 (by omega) (by omega)]
    unfold swp
    rw [Int.toNat_of_nonneg f1]
    rfl
theorem ref_fit (n : Nat) (l : List Int) (hl : l.length ≤ 17592186044000) (hl2 : n ≤ 17592186044000) :
    ∀ (d i : Nat), i + d = l.length → (∀ k : Nat, k < i → 0 ≤ rd l (k : Int) ∧ rd l (k : Int) < (n : Int) - (k : Int)) → Ev (fun k => churnref11_Fit.l0 k (n : Int) l (i : Int)) (decide (FitD (n : Int) l)) := by
  intro d
  induction d with
  | zero =>
    intro i hi hk
    have hf : FitD (n : Int) l := fun k h => hk k (by omega)
    rw [decide_eq_true hf]
    exact Ev.step (f := fun _ => some true) (fun k => by rw [churnref11_Fit.l0, if_neg (by omega)]) (Ev.now _)
  | succ d ih =>
    intro i hi hk
    by_cases h1 : rd l (i : Int) < 0
    · rw [decide_eq_false (fun hf : FitD _ l => by have := (hf i (by omega)).1; omega)]
      exact Ev.step (f := fun _ => some false) (fun k => by rw [churnref11_Fit.l0, if_pos (by omega), if_pos (by omega), if_pos h1]) (Ev.now _)
    · by_cases h2 : rd l (i : Int) ≥ (n : Int) - (i : Int)
      · rw [decide_eq_false (fun hf : FitD _ l => by have := (hf i (by omega)).2; omega)]
        exact Ev.step (f := fun _ => some false) (fun k => by rw [churnref11_Fit.l0, if_pos (by omega), if_pos (by omega), if_neg h1, w64 (x := (n : Int) - (i : Int)) (by omega) (by omega), if_pos h2]) (Ev.now _)
      · refine Ev.step (fun k => ?_) (ih (i + 1) (by omega) (fun k h => ?_))
        · rw [churnref11_Fit.l0, if_pos (by omega), if_pos (by omega), if_neg h1, w64 (x := (n : Int) - (i : Int)) (by omega) (by omega), if_neg h2, w64 (by omega) (by omega)]
          rfl
        · by_cases hki : k = i
          · subst hki; exact ⟨by omega, by omega⟩
          · exact hk k (by omega)
theorem ref_fit_ev (n : Nat) (l : List Int) (hl : l.length ≤ 17592186044000) (hl2 : n ≤ 17592186044000) (hm : l.length = n - 1) : Ev (fun k => churnref11_Fit.f k (n : Int) l) (decide (FitD (n : Int) l)) := by
  unfold churnref11_Fit.f
  refine ev_bind (ref_bounds_ev (n : Int) (by omega)) (ev_pos (by rw [boundsL_len]; omega) ?_)
  exact ref_fit n l hl hl2 l.length 0 (by omega) (fun k h => by omega)
theorem ref_from_j0 (m : Nat) (l : List Int) (hn : l.length + 1 = m ∨ l = []) (hl : m ≤ 17592186044000) : Ev (fun k => churnref11_From.j0 k (m : Int) l (!(decide (FitD (m : Int) l)))) (if FitD (m : Int) l then (fromL (iota m) (m - 1) l, 0) else ([], 110)) := by
  by_cases hf : FitD (m : Int) l
  · rw [decide_eq_true hf, if_pos hf]
    refine Ev.step (fun k => by rw [churnref11_From.j0, if_neg (by decide)]) (ev_bind (ref_identity_ev m (by omega)) ?_)
    exact ref_from_walk m l hn hl hf l.length 0 _ (by omega) (iota_len m)
  · rw [decide_eq_false hf, if_neg hf]
    exact Ev.step (f := fun _ => some ([], 110)) (fun k => by rw [churnref11_From.j0, if_pos (by decide)]) (Ev.now _)
theorem ref_from_ev (n : Int) (l : List Int) (hn : -9223372036854775808 ≤ n ∧ n ≤ 9223372036854775807) (hl : l.length ≤ 17592186043904) : Ev (fun k => churnref11_From.f k n l) (fromA n l) := by
  unfold churnref11_From.f fromA
  have out : Ev (fun k => churnref11_From.j0 k n l true) ([], 110) := Ev.step (f := fun _ => some ([], 110)) (fun k => by rw [churnref11_From.j0, if_pos rfl]) (Ev.now _)
  by_cases h0 : n < 0
  · rw [if_pos h0]; exact ev_pos h0 (Ev.now _)
  · rw [if_neg h0]
    refine ev_neg h0 ?_
    rw [w64 (by omega) (by omega)]
    by_cases h1 : n = (l.length : Int) + 1
    · have hm : (l.length : Int) = mx (n - 1) 0 := by rw [mx_pos _ (by omega)]; omega
      obtain ⟨m, rfl⟩ : ∃ m : Nat, n = (m : Int) := ⟨n.toNat, by omega⟩
      refine ev_pos h1 (ev_bind (ref_fit_ev m l (by omega) (by omega) (by omega)) (ev_to (ref_from_j0 m l (Or.inl (by omega)) (by omega)) ?_))
      by_cases hf : FitD (m : Int) l
      · rw [if_pos hf, if_pos ⟨hm, hf⟩]
        rfl
      · rw [if_neg hf, if_neg (fun h => hf h.2)]
    · refine ev_neg h1 ?_
      by_cases h2 : n = 0
      · refine ev_pos h2 ?_
        by_cases h3 : (l.length : Int) = 0
        · have hm : (l.length : Int) = mx (n - 1) 0 := by rw [mx_neg _ (by omega)]; omega
          obtain ⟨m, rfl⟩ : ∃ m : Nat, n = (m : Int) := ⟨n.toNat, by omega⟩
          refine ev_pos h3 (ev_bind (ref_fit_ev m l (by omega) (by omega) (by omega)) (ev_to (ref_from_j0 m l (Or.inr (List.eq_nil_of_length_eq_zero (by omega))) (by omega)) ?_))
          by_cases hf : FitD (m : Int) l
          · rw [if_pos hf, if_pos ⟨hm, hf⟩]
            rfl
          · rw [if_neg hf, if_neg (fun h => hf h.2)]
        · have hm : ¬ (l.length : Int) = mx (n - 1) 0 := by rw [mx_neg _ (by omega)]; omega
          rw [if_neg (fun h => hm h.1)]
          exact ev_neg h3 out
      · have hm : ¬ (l.length : Int) = mx (n - 1) 0 := by rw [mx_pos _ (by omega)]; omega
        rw [if_neg (fun h => hm h.1)]
        exact ev_neg h2 out
theorem ref_unrank_walk (l : List Int) (hl : l.length ≤ 17592186043904) (hf : FitD (l.length : Int) l) : ∀ (d i : Nat) (L P : List Int), i + d = l.length → L.length = d → P.length = i →
    Ev (fun k => churnref11_Unrank.l1 k l (l.length : Int) L P (i : Int)) (P ++ unr L (l.drop i), 0) := by
  intro d
  induction d with
  | zero =>
    intro i L P hi hL hP
    rw [List.drop_eq_nil_of_le (by omega)]
    exact Ev.step (f := fun _ => some (P, 0)) (fun k => by rw [churnref11_Unrank.l1, if_neg (by omega)]) (ev_some (by simp [unr]))
  | succ d ih =>
    intro i L P hi hL hP
    obtain ⟨f1, f2⟩ := hf i (by omega)
    rw [drop_rd l i (by omega), unr]
    have := ih (i + 1) (L.eraseIdx (rd l (i : Int)).toNat) (P ++ [rd L (rd l (i : Int))]) (by omega) (by rw [List.length_eraseIdx, if_pos (by omega)]; omega) (by simp; omega)
    rw [List.append_assoc] at this
    refine Ev.step (fun k => ?_) this
    have ew : wrap64 (rd l (i : Int) + 1) = rd l (i : Int) + 1 := w64 (by omega) (by omega)
    rw [churnref11_Unrank.l1, if_pos (by omega), if_pos (by omega), if_pos (by omega), if_pos (by omega), if_pos (by omega), if_pos (by omega), Option.bind_some, if_pos (by omega), Option.bind_some, if_pos (by simp; omega), Option.bind_some, ew, if_pos (by omega), if_pos (by omega), Option.bind_some, if_pos (by simp; omega), List.nil_append, show (rd l (i : Int) + 1).toNat = (rd l (i : Int)).toNat + 1 by omega, take_drop_erase, w64 (by omega) (by omega)]
    rfl
theorem ref_unrank_ev (l : List Int) (hl : l.length ≤ 17592186043904) : Ev (fun k => churnref11_Unrank.f k l) (unrA l) := by
  unfold churnref11_Unrank.f unrA
  have key : ∀ (d i : Nat), i + d = l.length → (∀ k : Nat, k < i → 0 ≤ rd l (k : Int) ∧ rd l (k : Int) < (l.length : Int) - (k : Int)) → Ev (fun k => churnref11_Unrank.l0 k l (l.length : Int) (i : Int)) (if FitD (l.length : Int) l then (unr (iota l.length) l, 0) else ([], 110)) := by
    intro d
    induction d with
    | zero =>
      intro i hi hk
      have hf : FitD (l.length : Int) l := fun k h => hk k (by omega)
      rw [if_pos hf]
      refine Ev.step (fun k => by rw [churnref11_Unrank.l0, if_neg (by omega)]) (ev_bind (ref_identity_ev l.length (by omega)) ?_)
      exact ref_unrank_walk l hl hf l.length 0 _ [] (by omega) (iota_len _) rfl
    | succ d ih =>
      intro i hi hk
      have e : wrap64 (wrap64 ((l.length : Int) - 1) - (i : Int)) = (l.length : Int) - 1 - (i : Int) := by rw [w64 (x := (l.length : Int) - 1) (by omega) (by omega), w64 (by omega) (by omega)]
      by_cases h1 : rd l (i : Int) < 0
      · rw [if_neg (fun hf : FitD _ l => by have := (hf i (by omega)).1; omega)]
        exact Ev.step (f := fun _ => some ([], 110)) (fun k => by rw [churnref11_Unrank.l0, if_pos (by omega), if_pos (by omega), if_pos (by omega), if_pos h1]) (Ev.now _)
      · by_cases h2 : rd l (i : Int) > (l.length : Int) - 1 - (i : Int)
        · rw [if_neg (fun hf : FitD _ l => by have := (hf i (by omega)).2; omega)]
          exact Ev.step (f := fun _ => some ([], 110)) (fun k => by rw [churnref11_Unrank.l0, if_pos (by omega), if_pos (by omega), if_pos (by omega), if_neg h1, e, if_pos h2]) (Ev.now _)
        · refine Ev.step (fun k => ?_) (ih (i + 1) (by omega) (fun k h => ?_))
          · rw [churnref11_Unrank.l0, if_pos (by omega), if_pos (by omega), if_pos (by omega), if_neg h1, e, if_neg h2, w64 (by omega) (by omega)]
            rfl
          · by_cases hki : k = i
            · subst hki; exact ⟨by omega, by omega⟩
            · exact hk k (by omega)
  exact key l.length 0 (by omega) (fun k h => by omega)
end Go.Proofs.Ytmbkgepfpfeahaa.Pl
