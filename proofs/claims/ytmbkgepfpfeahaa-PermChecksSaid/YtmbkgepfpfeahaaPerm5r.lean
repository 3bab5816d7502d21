/- Draws, Rank and Inverse by the reference: what they come to. -/
import Derived.Test.YtmbkgepfpfeahaaPerm5
import Derived.Test.YtmbkgepfpfeahaaPerm4r
import Derived.Test.YtmbkgepfpfeahaaQx18
import Derived.Test.YtmbkgepfpfeahaaQx20
set_option linter.unusedVariables false
set_option linter.unusedSimpArgs false
namespace Go.Proofs.Ytmbkgepfpfeahaa.Pl
open Go.RowKit Go.Proofs.Ytmbkgepfpfeahaa.Q Go.Proofs.YtmbkgepfpfeahaaW.PrintWords Go.Proofs.YtmbkgepfpfeahaaW.PrintLast
theorem ref_inv_walk (p : List Int) (hl : p.length ≤ 17592186043904) (fp : Fits p) : ∀ (d i : Nat) (r : List Int), i + d = p.length → r.length = p.length → Ev (fun k => churnref11_Inverse.l0 k p r (i : Int)) (invL r i (p.drop i), 0) := by
  intro d
  induction d with
  | zero =>
    intro i r hi hr
    rw [List.drop_eq_nil_of_le (by omega)]
    exact Ev.step (f := fun _ => some (r, 0)) (fun k => by rw [churnref11_Inverse.l0, if_neg (by omega)]) (Ev.now _)
  | succ d ih =>
    intro i r hi hr
    have hb := fp.1 _ (rd_mem p (i : Int) (by simp; omega))
    rw [drop_rd p i (by omega), invL]
    refine Ev.step (fun k => ?_) (ih (i + 1) (r.set (rd p (i : Int)).toNat (i : Int)) (by omega) (by rw [List.length_set, hr]))
    rw [churnref11_Inverse.l0, if_pos (by omega), if_pos (by omega), if_pos (by omega), if_pos (by omega), w64 (by omega) (by omega)]
    rfl
theorem ref_inverse_all (p : List Int) (hl : p.length ≤ 17592186043904) : Ev (fun k => churnref11_Inverse.f k p) (invA p) := by
  unfold churnref11_Inverse.f invA
  refine ev_bind (check_ev p (by omega)) ?_
  by_cases fp : Fits p
  · rw [if_pos fp, if_pos fp]
    refine ev_pos rfl (ev_pos (show 0 ≤ (p.length : Int) by omega) (ev_pos (show (p.length : Int).toNat ≤ 35184372088832 by omega) ?_))
    exact ref_inv_walk p hl fp p.length 0 _ (by omega) (by simp)
  · rw [if_neg fp, if_neg fp]
    exact ev_neg (by decide) (Ev.now _)
theorem find_ev (L : List Int) (x : Int) (hs : L.Pairwise (· < ·)) (hx : x ∈ L) (hl : L.length ≤ 17592186044416) : Ev (fun k => churnref11_find.f k L x) (idx L x : Int) := by
  unfold churnref11_find.f
  obtain ⟨h1, e1⟩ := idx_mem L hs x hx
  have key : ∀ (d i : Nat), i + d = idx L x → Ev (fun k => churnref11_find.l0 k L x (i : Int)) (idx L x : Int) := by
    intro d
    induction d with
    | zero =>
      intro i hi
      obtain rfl : i = idx L x := by omega
      exact Ev.step (f := fun _ => some (idx L x : Int)) (fun k => by rw [churnref11_find.l0, if_pos (by omega), if_pos (by omega), if_pos (by rw [rd_lt L _ h1]; exact e1)]) (Ev.now _)
    | succ d ih =>
      intro i hi
      have hne : ¬ rd L (i : Int) = x := by
        rw [rd_lt L i (by omega)]
        have := (idx_lt_iff L x hs i (by omega)).2 (by omega)
        omega
      refine Ev.step (fun k => ?_) (ih (i + 1) (by omega))
      rw [churnref11_find.l0, if_pos (by omega), if_pos (by omega), if_neg hne, w64 (by omega) (by omega)]
      rfl
  exact key (idx L x) 0 (by omega)
theorem ref_rank_all (p : List Int) (hl : p.length ≤ 17592186043904) : Ev (fun k => churnref11_Rank.f k p) (rankA p) := by
  unfold rankA churnref11_Rank.f
  refine ev_bind (check_ev p (by omega)) ?_
  by_cases fp : Fits p
  · rw [if_pos fp, if_pos fp]
    refine ev_pos rfl (ev_bind (ref_identity_ev p.length (by omega)) ?_)
    have key : ∀ (d i : Nat) (L D : List Int), i + d = p.length → D.length = i → L.length = d → L.Pairwise (· < ·) → (p.drop i).Nodup → (∀ y ∈ p.drop i, y ∈ L) →
        Ev (fun k => churnref11_Rank.l0 k p L D (i : Int)) (D ++ digits L (p.drop i), 0) := by
      intro d
      induction d with
      | zero =>
        intro i L D hi hD hL hs hn hm
        refine Ev.step (f := fun _ => some (D, 0)) (fun k => by rw [churnref11_Rank.l0, if_neg (by omega)]) (ev_some ?_)
        rw [List.drop_eq_nil_of_le (by omega)]
        simp [digits]
      | succ d ih =>
        intro i L D hi hD hL hs hn hm
        rw [drop_rd p i (by omega)] at hn hm ⊢
        obtain ⟨a1, a2, a3, a4⟩ := left_next L hs _ _ hn hm
        obtain ⟨h1, e1⟩ := idx_mem L hs _ (hm _ (List.mem_cons_self))
        have := ih (i + 1) (L.eraseIdx (idx L (rd p (i : Int)))) (D ++ [(idx L (rd p (i : Int)) : Int)]) (by omega) (by simp; omega) (by omega) a1 a2 a3
        rw [digits]
        rw [List.append_assoc] at this
        refine Ev.step (fun k => by rw [churnref11_Rank.l0, if_pos (by omega), if_pos (by omega)]) (ev_bind (find_ev L _ hs (hm _ List.mem_cons_self) (by omega)) ?_)
        have ew : wrap64 ((idx L (rd p (i : Int)) : Int) + 1) = (idx L (rd p (i : Int)) : Int) + 1 := w64 (by omega) (by omega)
        rw [ew, w64 (x := (i : Int) + 1) (by omega) (by omega)]
        refine ev_pos (by omega) (ev_bind0 rfl (ev_pos (by omega) (ev_pos (by omega) (ev_bind0 rfl (ev_pos (by simp; omega) (ev_bind0 rfl (ev_pos (by omega) (ev_pos (by omega) (ev_bind0 rfl (ev_pos (by simp; omega) ?_))))))))))
        rw [List.nil_append, show ((idx L (rd p (i : Int)) : Int) + 1).toNat = idx L (rd p (i : Int)) + 1 by omega, show ((idx L (rd p (i : Int)) : Int)).toNat = idx L (rd p (i : Int)) by omega, take_drop_erase]
        exact this
    have := key p.length 0 (iota p.length) [] (by omega) rfl (iota_len _) (iota_rises _) (by rw [List.drop_zero]; exact fp.2) (by rw [List.drop_zero]; exact fits_mem_iota p fp)
    simpa using this
  · rw [if_neg fp, if_neg fp]
    exact ev_neg (by decide) (Ev.now _)
theorem at_swp_ref {a r : List Int} (fa : Fits a) (h : At a r) (i j : Nat) (hi : i < a.length) (hj : j < a.length) : At (swp a i j) ((r.set (rd a (i : Int)).toNat (j : Int)).set (rd a (j : Int)).toNat (i : Int)) := by
  have bi := fits_rd fa i hi
  have bj := fits_rd fa j hj
  refine ⟨by rw [swp_len]; simp [h.1], fun m hm => ?_⟩
  rw [swp_len] at hm
  have bm := fits_rd fa m hm
  have hl := h.1
  rw [swp_get a i j m hi hj hm]
  by_cases h1 : m = j
  · rw [if_pos h1]
    by_cases e : rd a (i : Int) = rd a (j : Int)
    · have := fits_rd_inj fa i j hi hj e
      rw [e, rd_set_same _ _ _ bj.1 (by rw [List.length_set]; omega)]
      omega
    · rw [rd_set_ne _ _ _ _ bi.1 (by rw [List.length_set]; omega) bj.1 e, rd_set_same _ _ _ bi.1 (by omega)]
      omega
  · rw [if_neg h1]
    by_cases h2 : m = i
    · rw [if_pos h2, rd_set_same _ _ _ bj.1 (by rw [List.length_set]; omega)]
      omega
    · rw [if_neg h2, rd_set_ne _ _ _ _ bm.1 (by rw [List.length_set]; omega) bj.1 (fun e => h1 (fits_rd_inj fa m j hm hj e)), rd_set_ne _ _ _ _ bm.1 (by omega) bi.1 (fun e => h2 (fits_rd_inj fa m i hm hi e))]
      exact h.2 m hm
theorem ref_draws_walk (p : List Int) (hl : p.length ≤ 17592186043904) (fp : Fits p) : ∀ (i : Nat) (a r D : List Int), (i < p.length ∨ i = 0) → Fits a → a.length = p.length → At a r → D.length + i ≤ p.length →
    Ev (fun k => churnref11_Draws.l0 k p a r D (i : Int)) (D ++ drawsL p a i, 0) := by
  intro i
  induction i with
  | zero =>
    intro a r D hi fa ha hr hD
    exact Ev.step (f := fun _ => some (D, 0)) (fun k => by rw [churnref11_Draws.l0, if_neg (by omega)]) (ev_some (by simp [drawsL]))
  | succ i ih =>
    intro a r D hi fa ha hr hD
    have hip : i + 1 < p.length := by omega
    have bp := fits_rd fp (i + 1) hip
    obtain ⟨p1, p2⟩ := pos_spec fa (rd p ((i + 1 : Nat) : Int)) bp.1 (by omega)
    have hpos := pos_at fa hr (rd p ((i + 1 : Nat) : Int)) bp.1 (by omega)
    have hrl := hr.1
    have f2 := fits_swp fa (i + 1) _ (by omega) p1
    have h2 := at_swp_ref fa hr (i + 1) (pos a (rd p ((i + 1 : Nat) : Int))) (by omega) p1
    have := ih (swp a (i + 1) (pos a (rd p ((i + 1 : Nat) : Int)))) _ (D ++ [(pos a (rd p ((i + 1 : Nat) : Int)) : Int)]) (by omega) f2 (by rw [swp_len, ha]) h2 (by simp; omega)
    rw [List.append_assoc] at this
    rw [drawsL]
    refine Ev.step (fun k => ?_) this
    have b1 := fits_rd fa (i + 1) (by omega)
    have b2 := fits_rd fa _ p1
    have esw : ((a.set ((i + 1 : Nat) : Int).toNat (rd a (pos a (rd p ((i + 1 : Nat) : Int)) : Int))).set ((pos a (rd p ((i + 1 : Nat) : Int)) : Int)).toNat (rd a ((i + 1 : Nat) : Int)) : List Int) = swp a (i + 1) (pos a (rd p ((i + 1 : Nat) : Int))) := by unfold swp; simp
    rw [churnref11_Draws.l0, if_pos (by omega), if_pos (by omega), if_pos (by omega), if_pos (by omega), if_pos (by omega), if_pos (by omega), if_pos (by omega), hpos, if_pos (by omega), if_pos (by omega), if_pos (by omega), if_pos (by omega), if_pos (by omega), if_pos (by omega), esw, w64 (by omega) (by omega), show ((i + 1 : Nat) : Int) - 1 = (i : Int) by omega]
theorem ref_draws_all (p : List Int) (hl : p.length ≤ 17592186043904) : Ev (fun k => churnref11_Draws.f k p) (drawsA p) := by
  unfold churnref11_Draws.f drawsA
  refine ev_bind (check_ev p (by omega)) ?_
  by_cases fp : Fits p
  · rw [if_pos fp, if_pos fp]
    refine ev_pos rfl (ev_bind (ref_identity_ev p.length (by omega)) (ev_bind (ref_identity_ev p.length (by omega)) ?_))
    rw [w64 (by omega) (by omega)]
    by_cases h0 : p.length = 0
    · rw [h0]
      exact Ev.step (f := fun _ => some ([], 0)) (fun k => by rw [churnref11_Draws.l0, if_neg (by omega)]) (Ev.now _)
    · have := ref_draws_walk p hl fp (p.length - 1) (iota p.length) (iota p.length) [] (by omega) (fits_iota _) (iota_len _) (at_iota _) (by simp)
      rw [show ((p.length - 1 : Nat) : Int) = (p.length : Int) - 1 by omega] at this
      exact this
  · rw [if_neg fp, if_neg fp]
    exact ev_neg (by decide) (Ev.now _)
end Go.Proofs.Ytmbkgepfpfeahaa.Pl
