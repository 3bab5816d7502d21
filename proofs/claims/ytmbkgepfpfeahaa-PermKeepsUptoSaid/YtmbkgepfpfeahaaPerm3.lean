/- Rank: the digits of a permutation, as the program reckons them: by halving in the sorted rest. -/
import Derived.Test.YtmbkgepfpfeahaaPerm2
import Derived.Test.YtmbkgepfpfeahaaQx17
set_option linter.unusedVariables false
set_option linter.unusedSimpArgs false
namespace Go.Proofs.Ytmbkgepfpfeahaa.Pl
open Go.RowKit Go.Proofs.Ytmbkgepfpfeahaa.Q Go.Proofs.YtmbkgepfpfeahaaW.PrintWords Go.Proofs.YtmbkgepfpfeahaaW.PrintLast
/-- How many of the list are below x. -/
def idx (L : List Int) (x : Int) : Nat := L.countP fun y => decide (y < x)
theorem idx_le (L : List Int) (x : Int) : idx L x ≤ L.length := List.countP_le_length
theorem idx_zero (L : List Int) (x : Int) (h : ∀ y ∈ L, x ≤ y) : idx L x = 0 := by
  unfold idx
  rw [List.countP_eq_zero]
  intro y hy
  have := h y hy
  simp
  omega
theorem idx_lt_iff : ∀ (L : List Int) (x : Int), L.Pairwise (· < ·) → ∀ (i : Nat) (h : i < L.length), L[i] < x ↔ i < idx L x
  | [], _, _, i, h => by simp at h
  | y :: ys, x, hs, i, h => by
    obtain ⟨h1, h2⟩ := List.pairwise_cons.1 hs
    by_cases hy : y < x
    · have e : idx (y :: ys) x = idx ys x + 1 := by unfold idx; rw [List.countP_cons_of_pos (by simpa using hy)]
      rw [e]
      cases i with
      | zero => simp; omega
      | succ i =>
        have := idx_lt_iff ys x h2 i (by simpa using h)
        simp only [List.getElem_cons_succ]
        omega
    · have e : idx (y :: ys) x = 0 := idx_zero _ _ (by
        intro z hz
        rcases List.mem_cons.1 hz with rfl | hz
        · omega
        · have := h1 z hz; omega)
      rw [e]
      cases i with
      | zero => simp; omega
      | succ i =>
        have := h1 (ys[i]'(by simpa using h)) (List.getElem_mem _)
        simp only [List.getElem_cons_succ]
        omega
theorem idx_at (L : List Int) (hs : L.Pairwise (· < ·)) (i : Nat) (h : i < L.length) : idx L L[i] = i := by
  have h1 := (idx_lt_iff L L[i] hs i h)
  by_cases h2 : idx L L[i] < i
  · have h3 := (idx_lt_iff L L[i] hs (idx L L[i]) (by omega))
    have := List.pairwise_iff_getElem.1 hs (idx L L[i]) i (by omega) h h2
    omega
  · omega
theorem idx_mem (L : List Int) (hs : L.Pairwise (· < ·)) (x : Int) (hx : x ∈ L) : ∃ h : idx L x < L.length, L[idx L x] = x := by
  obtain ⟨i, hi, rfl⟩ := List.getElem_of_mem hx
  have := idx_at L hs i hi
  exact ⟨by omega, by simp only [this]⟩
theorem idx_rises (L : List Int) (hs : L.Pairwise (· < ·)) (x y : Int) (hx : x ∈ L) (hy : y ∈ L) : (x < y ↔ idx L x < idx L y) := by
  obtain ⟨h1, e1⟩ := idx_mem L hs x hx
  have := idx_lt_iff L y hs (idx L x) h1
  rw [e1] at this
  exact this
theorem u64half (z : Int) (h0 : 0 ≤ z) (h1 : z ≤ 9223372036854775807) : wrap64 ((IntKind.u64.wrap (wrap64 z)) / 2) = z / 2 := by
  have e : IntKind.u64.wrap (wrap64 z) = z := by
    rw [w64 (by omega) h1]
    show z % 18446744073709551616 = z
    omega
  rw [e]
  exact w64 (by omega) (by omega)
theorem less_f (a b : Int) : cmp_Less_int.f a b = some (decide (a < b)) := by
  unfold cmp_Less_int.f cmp_isNaN_int.f
  rw [Option.bind_some, if_neg (by simp)]
theorem search_ev (L : List Int) (x : Int) (hs : L.Pairwise (· < ·)) (hl : L.length ≤ 17592186044416) : ∃ b, Ev (fun k => slices_BinarySearch_int_int.f k L x) ((idx L x : Int), b) := by
  unfold slices_BinarySearch_int_int.f
  have key : ∀ (d i j : Nat), j - i = d → i ≤ idx L x → idx L x ≤ j → j ≤ L.length → ∃ b, Ev (fun k => slices_BinarySearch_int_int.l0 k L x (L.length : Int) (i : Int) (j : Int)) ((idx L x : Int), b) := by
    intro d
    induction d using Nat.strongRecOn with
    | ind d ih =>
      intro i j hd hi hj hn
      by_cases hij : i < j
      · have hz := u64half ((i : Int) + (j : Int)) (by omega) (by omega)
        have hh : ((i : Int) + (j : Int)) / 2 = (((i + j) / 2 : Nat) : Int) := by omega
        rw [hh] at hz
        have hlt := idx_lt_iff L x hs ((i + j) / 2) (by omega)
        have hrd : rd L (((i + j) / 2 : Nat) : Int) = L[(i + j) / 2]'(by omega) := rd_lt L _ (by omega)
        by_cases hc : (i + j) / 2 < idx L x
        · obtain ⟨b, H⟩ := ih (j - ((i + j) / 2 + 1)) (by omega) ((i + j) / 2 + 1) j rfl (by omega) hj hn
          refine ⟨b, Ev.step (fun k => ?_) H⟩
          rw [slices_BinarySearch_int_int.l0, if_pos (by omega), hz, if_pos (by omega), if_pos (by omega), less_f, Option.bind_some, hrd, if_pos (decide_eq_true (hlt.2 hc)), w64 (by omega) (by omega)]
          rfl
        · obtain ⟨b, H⟩ := ih ((i + j) / 2 - i) (by omega) i ((i + j) / 2) rfl hi (by omega) (by omega)
          refine ⟨b, Ev.step (fun k => ?_) H⟩
          rw [slices_BinarySearch_int_int.l0, if_pos (by omega), hz, if_pos (by omega), if_pos (by omega), less_f, Option.bind_some, hrd, if_neg (by simpa using fun h => hc (hlt.1 h))]
      · have e : i = idx L x := by omega
        rw [← e]
        by_cases hin : i < L.length
        · by_cases hx : rd L (i : Int) = x
          · exact ⟨true, Ev.step (f := fun _ => some ((i : Int), true)) (fun k => by rw [slices_BinarySearch_int_int.l0, if_neg (by omega), if_pos (by omega), if_pos (by omega), if_pos (by omega), if_pos hx]) (Ev.now _)⟩
          · refine ⟨false, Ev.step (f := fun _ => some ((i : Int), false)) (fun k => ?_) (Ev.now _)⟩
            rw [slices_BinarySearch_int_int.l0, if_neg (by omega), if_pos (by omega), if_pos (by omega), if_pos (by omega), if_neg hx]
            unfold slices_isNaN_int.f
            rw [Option.bind_some, if_neg (by simp)]
        · exact ⟨false, Ev.step (f := fun _ => some ((i : Int), false)) (fun k => by rw [slices_BinarySearch_int_int.l0, if_neg (by omega), if_neg (by omega)]) (Ev.now _)⟩
  exact key L.length 0 L.length (by omega) (by omega) (idx_le L x) (by omega)
theorem del_f (L : List Int) (i : Nat) (h : i < L.length) (hl : L.length ≤ 17592186044416) : slices_Delete_int_int.f L (i : Int) (wrap64 ((i : Int) + 1)) = some (L.eraseIdx i) := by
  unfold slices_Delete_int_int.f
  rw [w64 (by omega) (by omega), if_pos (by omega), List.eraseIdx_eq_take_drop_succ]
  rfl
/-- The digits of a list of numbers of L: how many of what is left are below. -/
def digits : List Int → List Int → List Int
  | _, [] => []
  | L, x :: xs => (idx L x : Int) :: digits (L.eraseIdx (idx L x)) xs
theorem digits_len : ∀ (p L : List Int), (digits L p).length = p.length
  | [], _ => rfl
  | x :: xs, L => by simp [digits, digits_len xs]
/-- What is left when x is taken out. -/
theorem left_next (L : List Int) (hs : L.Pairwise (· < ·)) (x : Int) (xs : List Int) (hn : (x :: xs).Nodup) (hm : ∀ y ∈ x :: xs, y ∈ L) :
    (L.eraseIdx (idx L x)).Pairwise (· < ·) ∧ xs.Nodup ∧ (∀ y ∈ xs, y ∈ L.eraseIdx (idx L x)) ∧ (L.eraseIdx (idx L x)).length + 1 = L.length := by
  obtain ⟨h1, e1⟩ := idx_mem L hs x (hm x (List.mem_cons_self))
  obtain ⟨n1, n2⟩ := List.nodup_cons.1 hn
  refine ⟨hs.sublist (List.eraseIdx_sublist _ _), n2, fun y hy => ?_, by rw [List.length_eraseIdx, if_pos h1]; omega⟩
  obtain ⟨j, hj, e⟩ := List.getElem_of_mem (hm y (List.mem_cons_of_mem _ hy))
  rw [List.mem_eraseIdx_iff_getElem]
  refine ⟨j, hj, fun hji => ?_, e⟩
  subst hji
  rw [e1] at e
  exact n1 (e ▸ hy)
theorem rank_good (p : List Int) (hl : p.length ≤ 17592186044415) (fp : Fits p) : Ev (fun k => perm_Rank.f k p) (digits (iota p.length) p, 0) := by
  unfold perm_Rank.f
  refine ev_bind (fits_ev p (by omega)) (ev_pos (by simp [fp]) (ev_bind (identity_ev p.length hl) (ev_pos (by omega) (ev_pos (by omega) ?_))))
  have key : ∀ (d i : Nat) (L D : List Int), i + d = p.length → D.length = i → L.length = d → L.Pairwise (· < ·) → (p.drop i).Nodup → (∀ y ∈ p.drop i, y ∈ L) →
      Ev (fun k => perm_Rank.l0 k L D p (p.length : Int) (i : Int)) (D ++ digits L (p.drop i), 0) := by
    intro d
    induction d with
    | zero =>
      intro i L D hi hD hL hs hn hm
      refine Ev.step (f := fun _ => some (D, 0)) (fun k => by rw [perm_Rank.l0, if_neg (by omega)]) (ev_some ?_)
      rw [List.drop_eq_nil_of_le (by omega)]
      simp [digits]
    | succ d ih =>
      intro i L D hi hD hL hs hn hm
      rw [drop_rd p i (by omega)] at hn hm ⊢
      obtain ⟨a1, a2, a3, a4⟩ := left_next L hs _ _ hn hm
      obtain ⟨b, H⟩ := search_ev L (rd p (i : Int)) hs (by omega)
      obtain ⟨h1, e1⟩ := idx_mem L hs _ (hm _ (List.mem_cons_self))
      refine Ev.step (fun k => by rw [perm_Rank.l0, if_pos (by omega), if_pos (by omega), if_pos (by omega)]) ?_
      refine ev_bind H (ev_pos (by omega) (ev_bind0 (del_f L _ h1 (by omega)) ?_))
      have := ih (i + 1) (L.eraseIdx (idx L (rd p (i : Int)))) (D ++ [(idx L (rd p (i : Int)) : Int)]) (by omega) (by simp; omega) (by omega) a1 a2 a3
      rw [w64 (by omega) (by omega), digits]
      rw [List.append_assoc] at this
      exact this
  have := key p.length 0 (iota p.length) [] (by omega) rfl (iota_len _) ?_ (by rw [List.drop_zero]; exact fp.2) ?_
  · simpa using this
  · rw [List.pairwise_iff_getElem]
    intro i j hi hj hij
    rw [iota_get, iota_get]
    omega
  · rw [List.drop_zero]
    intro y hy
    have := fp.1 y hy
    unfold iota
    exact List.mem_map.2 ⟨y.toNat, by simp; omega, by omega⟩
theorem rank_bad (p : List Int) (hl : p.length ≤ 17592186044415) (fp : ¬ Fits p) : Ev (fun k => perm_Rank.f k p) ([], 110) := by
  unfold perm_Rank.f
  exact ev_bind (fits_ev p (by omega)) (ev_neg (by simp [fp]) (Ev.now _))
end Go.Proofs.Ytmbkgepfpfeahaa.Pl
