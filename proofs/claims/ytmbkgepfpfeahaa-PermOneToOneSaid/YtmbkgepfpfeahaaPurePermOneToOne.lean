/- Draws and permutations are one another's, and so are digits and permutations, both ways; their sizes are what the bounds say (P11.3): the printed statement, proved over lists. -/
import Derived.Test.YtmbkgepfpfeahaaPerm5
import Derived.Test.YtmbkgepfpfeahaaQx23
set_option linter.unusedVariables false
set_option linter.unusedSimpArgs false
namespace Go.Proofs.Ytmbkgepfpfeahaa.Pure
open Go.RowKit Go.Proofs.Ytmbkgepfpfeahaa.Q Go.Proofs.YtmbkgepfpfeahaaW.PrintWords Go.Proofs.YtmbkgepfpfeahaaW.PrintLast Go.Proofs.Ytmbkgepfpfeahaa.Pl

/-- From the draws the permutation comes back. -/
theorem from_draws (p : List Int) (fp : Fits p) : ∀ (i : Nat) (a : List Int), (i < p.length ∨ i = 0) → Fits a → a.length = p.length → (∀ m : Nat, i < m → m < p.length → rd a (m : Int) = rd p (m : Int)) →
    FitD ((i : Int) + 1) (drawsL p a i) ∧ fromL a i (drawsL p a i) = p := by
  intro i
  induction i with
  | zero =>
    intro a hi fa ha hm
    refine ⟨fun k hk => by simp [drawsL] at hk, ?_⟩
    rw [drawsL, fromL]
    apply List.ext_getElem ha
    intro m h1 h2
    rw [← rd_lt a m h1, ← rd_lt p m h2]
    by_cases h0 : m = 0
    · subst h0
      have b := fits_rd fp 0 h2
      obtain ⟨p1, p2⟩ := pos_spec fa (rd p ((0 : Nat) : Int)) b.1 (by omega)
      by_cases e : pos a (rd p ((0 : Nat) : Int)) = 0
      · rw [e] at p2
        exact p2
      · have := hm (pos a (rd p ((0 : Nat) : Int))) (by omega) (by omega)
        rw [p2] at this
        have := fits_rd_inj fp 0 _ h2 (by omega) this
        omega
    · exact hm m (by omega) h2
  | succ i ih =>
    intro a hi fa ha hm
    have hip : i + 1 < p.length := by omega
    have bp := fits_rd fp (i + 1) hip
    obtain ⟨p1, p2⟩ := pos_spec fa (rd p ((i + 1 : Nat) : Int)) bp.1 (by omega)
    have hle : pos a (rd p ((i + 1 : Nat) : Int)) ≤ i + 1 := by
      rcases Nat.lt_or_ge (i + 1) (pos a (rd p ((i + 1 : Nat) : Int))) with h | h
      · have := hm _ h (by omega)
        rw [p2] at this
        have := fits_rd_inj fp _ _ hip (by omega) this
        omega
      · exact h
    have := ih (swp a (i + 1) (pos a (rd p ((i + 1 : Nat) : Int)))) (by omega) (fits_swp fa _ _ (by omega) p1) (by rw [swp_len, ha]) (fun m h1 h2 => by
      rw [swp_get a _ _ m (by omega) p1 (by omega)]
      by_cases e1 : m = pos a (rd p ((i + 1 : Nat) : Int))
      · have e2 : m = i + 1 := by omega
        have e3 : pos a (rd p ((i + 1 : Nat) : Int)) = i + 1 := by omega
        rw [if_pos e1]
        rw [e3] at p2
        rw [e2, p2]
      · rw [if_neg e1]
        by_cases e2 : m = i + 1
        · rw [if_pos e2, p2, e2]
        · rw [if_neg e2]
          exact hm m (by omega) h2)
    rw [drawsL]
    refine ⟨fun k hk => ?_, ?_⟩
    · cases k with
      | zero =>
        rw [rd_nat]
        simp only [List.getD_cons_zero]
        omega
      | succ k =>
        have := this.1 k (by simpa using hk)
        rw [rd_nat] at this ⊢
        simp only [List.getD_cons_succ]
        omega
    · rw [fromL, Int.toNat_natCast, Nat.add_sub_cancel]
      exact this.2
/-- From the permutation the draws come back. -/
theorem draws_from : ∀ (i : Nat) (l a : List Int), l.length = i → FitD ((i : Int) + 1) l → Fits a → (i < a.length ∨ i = 0) →
    Fits (fromL a i l) ∧ (∀ m : Nat, i < m → m < a.length → rd (fromL a i l) (m : Int) = rd a (m : Int)) ∧ drawsL (fromL a i l) a i = l := by
  intro i
  induction i with
  | zero =>
    intro l a hl hf fa hi
    obtain rfl := List.eq_nil_of_length_eq_zero hl
    exact ⟨fa, fun m _ _ => rfl, rfl⟩
  | succ i ih =>
    intro l a hl hf fa hi
    cases l with
    | nil => simp at hl
    | cons d ds =>
      have h0 := hf 0 (by simp)
      rw [rd_nat] at h0
      simp only [List.getD_cons_zero] at h0
      have hd : d.toNat < a.length := by omega
      have hf' : FitD ((i : Int) + 1) ds := fun k hk => by
        have := hf (k + 1) (by simpa using hk)
        rw [rd_nat] at this ⊢
        simp only [List.getD_cons_succ] at this
        omega
      have ia : i + 1 < a.length := by omega
      obtain ⟨r1, r2, r3⟩ := ih ds (swp a (i + 1) d.toNat) (by simpa using hl) hf' (fits_swp fa _ _ ia hd) (by rw [swp_len]; omega)
      rw [fromL, Nat.add_sub_cancel]
      rw [swp_len] at r2
      have top : rd (fromL (swp a (i + 1) d.toNat) i ds) ((i + 1 : Nat) : Int) = rd a (d.toNat : Int) := by
        rw [r2 (i + 1) (by omega) ia, swp_get a _ _ (i + 1) ia hd ia]
        by_cases e : i + 1 = d.toNat
        · rw [if_pos e, ← e]
        · rw [if_neg e, if_pos rfl]
      refine ⟨r1, fun m h1 h2 => ?_, ?_⟩
      · rw [r2 m (by omega) h2, swp_get a _ _ m ia hd h2, if_neg (by omega), if_neg (by omega)]
      · rw [drawsL, top, pos_rd fa _ hd, r3, Int.toNat_of_nonneg h0.1]
/-- From the digits the numbers come back. -/
theorem unr_digits : ∀ (p L : List Int), L.Pairwise (· < ·) → p.Nodup → (∀ y ∈ p, y ∈ L) → unr L (digits L p) = p ∧ FitD (L.length : Int) (digits L p)
  | [], _, _, _, _ => ⟨rfl, fun k hk => by simp [digits] at hk⟩
  | x :: xs, L, hs, hn, hm => by
    obtain ⟨a1, a2, a3, a4⟩ := left_next L hs x xs hn hm
    obtain ⟨h1, e1⟩ := idx_mem L hs x (hm x List.mem_cons_self)
    obtain ⟨r1, r2⟩ := unr_digits xs _ a1 a2 a3
    refine ⟨?_, fun k hk => ?_⟩
    · rw [digits, unr, Int.toNat_natCast, r1, rd_lt L _ h1, e1]
    · rw [digits] at hk ⊢
      cases k with
      | zero =>
        rw [rd_nat]
        simp only [List.getD_cons_zero]
        omega
      | succ k =>
        have := r2 k (by simpa using hk)
        rw [rd_nat] at this ⊢
        simp only [List.getD_cons_succ]
        omega
/-- From the numbers the digits come back. -/
theorem digits_unr : ∀ (l L : List Int), L.Pairwise (· < ·) → FitD (L.length : Int) l → l.length ≤ L.length → digits L (unr L l) = l ∧ (unr L l).Nodup ∧ (∀ y ∈ unr L l, y ∈ L)
  | [], _, _, _, _ => ⟨rfl, List.nodup_nil, fun y hy => by simp [unr] at hy⟩
  | d :: ds, L, hs, hf, hl => by
    have h0 := hf 0 (by simp)
    rw [rd_nat] at h0
    simp only [List.getD_cons_zero] at h0
    have hd : d.toNat < L.length := by omega
    have e : idx L (rd L d) = d.toNat := by
      rw [rd_get L d h0.1 (by omega)]
      exact idx_at L hs _ hd
    have hle : (L.eraseIdx d.toNat).length + 1 = L.length := by rw [List.length_eraseIdx, if_pos hd]; omega
    obtain ⟨r1, r2, r3⟩ := digits_unr ds (L.eraseIdx d.toNat) (hs.sublist (List.eraseIdx_sublist _ _)) (fun k hk => by
      have := hf (k + 1) (by simpa using hk)
      rw [rd_nat] at this ⊢
      simp only [List.getD_cons_succ] at this
      omega) (by simp at hl; omega)
    rw [unr]
    refine ⟨?_, ?_, fun y hy => ?_⟩
    · rw [digits, e, r1, Int.toNat_of_nonneg h0.1]
    · rw [List.nodup_cons]
      refine ⟨fun hc => ?_, r2⟩
      have := r3 _ hc
      rw [List.mem_eraseIdx_iff_getElem] at this
      obtain ⟨j, hj, hne, he⟩ := this
      have := idx_at L hs j hj
      rw [he, e] at this
      exact hne this.symm
    · rcases List.mem_cons.1 hy with rfl | hy
      · rw [rd_get L d h0.1 (by omega)]
        exact List.getElem_mem _
      · exact List.mem_of_mem_eraseIdx (r3 y hy)
theorem fits_unr (l : List Int) (hf : FitD (l.length : Int) l) : Fits (unr (iota l.length) l) := by
  obtain ⟨r1, r2, r3⟩ := digits_unr l (iota l.length) (iota_rises _) (by rw [iota_len]; exact hf) (by rw [iota_len]; omega)
  refine ⟨fun x hx => ?_, r2⟩
  have := r3 x hx
  rw [unr_len]
  unfold iota at this
  obtain ⟨m, hm, rfl⟩ := List.mem_map.1 this
  have := List.mem_range.1 hm
  omega

theorem one_j3 (l : List Int) (hl : l.length ≤ 17592186043904) : Ev (fun k => churnlaw11_PermOneToOne.j3 k l) true := by
  refine Ev.step (fun k => by rw [churnlaw11_PermOneToOne.j3]) (ev_bind (unrank_ev l (by omega)) ?_)
  unfold unrA
  by_cases hf : FitD (l.length : Int) l
  · rw [if_pos hf]
    have fs := fits_unr l hf
    have r1 := (digits_unr l (iota l.length) (iota_rises _) (by rw [iota_len]; exact hf) (by rw [iota_len]; omega)).1
    refine ev_pos rfl (ev_bind (rank_good _ (by rw [unr_len]; omega) fs) (ev_pos rfl ?_))
    rw [unr_len, r1]
    refine ev_bind (same_ev _ _ (show l.length ≤ 9223372036854775000 by omega)) (ev_pos (by simp) (ev_bind (perm_check_ev _ (by rw [unr_len]; omega)) (ev_some ?_)))
    rw [if_pos fs]
    rfl
  · rw [if_neg hf]
    exact ev_neg (by decide) (ev_some rfl)
theorem one_j2 (l : List Int) (hl : l.length ≤ 17592186043904) : Ev (fun k => churnlaw11_PermOneToOne.j2 k l) true := by
  refine Ev.step (fun k => by rw [churnlaw11_PermOneToOne.j2, w64 (by omega) (by omega)]) (ev_bind (from_ev ((l.length : Int) + 1) l (by omega) (by omega)) ?_)
  unfold fromA
  rw [if_neg (show ¬ (l.length : Int) + 1 < 0 by omega)]
  by_cases hc : (l.length : Int) = mx ((l.length : Int) + 1 - 1) 0 ∧ FitD ((l.length : Int) + 1) l
  · rw [if_pos hc, show ((l.length : Int) + 1).toNat = l.length + 1 by omega, Nat.add_sub_cancel]
    obtain ⟨r1, r2, r3⟩ := draws_from l.length l (iota (l.length + 1)) rfl hc.2 (fits_iota _) (by rw [iota_len]; omega)
    have hlen : (fromL (iota (l.length + 1)) l.length l).length = l.length + 1 := by rw [fromL_len, iota_len]
    have hd := draws_all (fromL (iota (l.length + 1)) l.length l) (by rw [hlen]; omega)
    unfold drawsA at hd
    rw [if_pos r1, hlen, Nat.add_sub_cancel, r3] at hd
    refine ev_pos rfl (ev_bind hd (ev_pos rfl (ev_bind (same_ev _ _ (show l.length ≤ 9223372036854775000 by omega)) (ev_pos (by simp) (ev_bind (perm_check_ev _ (by rw [hlen]; omega)) ?_)))))
    rw [if_pos r1]
    exact ev_pos rfl (one_j3 l hl)
  · rw [if_neg hc]
    exact ev_neg (by decide) (one_j3 l hl)
theorem one_l0 (l d r b : List Int) (n : Nat) (hl : l.length ≤ 17592186043904) (hn : n ≤ 17592186043904) (hd : FitD (n : Int) d) (hr : FitD (n : Int) r) (ld : d.length = n - 1) (lr : r.length = n) (hb : b = boundsL n) :
    ∀ (m i : Nat), i + m = d.length → Ev (fun k => churnlaw11_PermOneToOne.l0 k l d r b (i : Int)) true := by
  intro m
  induction m with
  | zero => intro i hi; exact Ev.step (fun k => by rw [churnlaw11_PermOneToOne.l0, if_neg (by omega)]) (one_j2 l hl)
  | succ m ih =>
    intro i hi
    have d1 := hd i (by omega)
    have r1 := hr i (by omega)
    have b1 : rd b (i : Int) = (n : Int) - (i : Int) := by rw [hb]; exact boundsL_at n i (by omega)
    have lb : b.length = n - 1 := by rw [hb, boundsL_len]
    refine Ev.step (fun k => ?_) (ih (i + 1) (by omega))
    rw [churnlaw11_PermOneToOne.l0, if_pos (by omega), if_pos (by omega), if_neg (by omega), if_pos (by omega), if_neg (by omega), if_pos (by omega), if_neg (by omega), if_neg (by omega), w64 (by omega) (by omega)]
    rfl
theorem PermOneToOne : churnlaw11_PermOneToOne.Pure := by
  intro p l h1 h2 h3 h4 h5 h6
  refine Ev.rounds (g := fun k => churnlaw11_PermOneToOne.f k p l) (r := true) ?_
  unfold churnlaw11_PermOneToOne.f
  refine ev_bind awake11 (ev_pos rfl (ev_bind (perm_check_ev p (by omega)) ?_))
  by_cases fp : Fits p
  · rw [if_pos fp]
    have hdr : drawsA p = (drawsL p (iota p.length) (p.length - 1), 0) := by unfold drawsA; rw [if_pos fp]
    have hlen : (drawsL p (iota p.length) (p.length - 1)).length = p.length - 1 := drawsL_len _ _ _
    have hfd := from_draws p fp (p.length - 1) (iota p.length) (by omega) (fits_iota _) (iota_len _) (fun m h1 h2 => by omega)
    have hfit : FitD (p.length : Int) (drawsL p (iota p.length) (p.length - 1)) := fun k hk => by
      have := hfd.1 k hk
      rw [hlen] at hk
      omega
    have hfr : fromA (p.length : Int) (drawsL p (iota p.length) (p.length - 1)) = (p, 0) := by
      unfold fromA
      have hm : ((drawsL p (iota p.length) (p.length - 1)).length : Int) = mx ((p.length : Int) - 1) 0 := by
        rw [hlen]
        by_cases h0 : p.length = 0
        · rw [mx_neg _ (by omega)]; omega
        · rw [mx_pos _ (by omega)]; omega
      rw [if_neg (by omega), if_pos ⟨hm, hfit⟩, Int.toNat_natCast, hfd.2]
    obtain ⟨u1, u2⟩ := unr_digits p (iota p.length) (iota_rises _) fp.2 (fits_mem_iota p fp)
    rw [iota_len] at u2
    have hun : unrA (digits (iota p.length) p) = (p, 0) := by
      unfold unrA
      rw [digits_len, if_pos u2, u1]
    have e1 := draws_all p (by omega)
    rw [hdr] at e1
    have e2 := from_ev (p.length : Int) (drawsL p (iota p.length) (p.length - 1)) (by omega) (by omega)
    rw [hfr] at e2
    have e3 := unrank_ev (digits (iota p.length) p) (by rw [digits_len]; omega)
    rw [hun] at e3
    refine ev_pos rfl (ev_bind e1 (ev_bind e2 (ev_bind (rank_good p (by omega) fp) (ev_bind e3 (ev_bind (bounds_ev (p.length : Int) (by omega)) ?_)))))
    refine ev_pos rfl (ev_pos rfl (ev_pos rfl (ev_pos rfl (ev_bind (same_ev p p (by omega)) (ev_pos (by simp) (ev_bind (same_ev p p (by omega)) (ev_pos (by simp) ?_)))))))
    refine ev_pos (by rw [hlen, boundsL_len]; omega) ?_
    have e : (((digits (iota p.length) p).length : Int) != (p.length : Int)) = false := by rw [digits_len]; simp
    rw [e]
    refine Ev.step (f := fun k => churnlaw11_PermOneToOne.l0 k l (drawsL p (iota p.length) (p.length - 1)) (digits (iota p.length) p) (boundsL (p.length : Int).toNat) 0) (fun k => by rw [churnlaw11_PermOneToOne.j0, if_neg (by decide)]) ?_
    exact one_l0 l _ _ _ p.length (by omega) (by omega) hfit u2 hlen (digits_len _ _) (by rw [Int.toNat_natCast]) _ 0 (Nat.zero_add _)
  · rw [if_neg fp]
    exact ev_neg (by decide) (one_j2 l (by omega))

end Go.Proofs.Ytmbkgepfpfeahaa.Pure
