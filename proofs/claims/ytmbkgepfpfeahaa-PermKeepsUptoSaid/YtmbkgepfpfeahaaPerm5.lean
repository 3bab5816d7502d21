/- Draws, Rank and Inverse, by the program and by the reference: what they come to; and that draws, digits and permutations are one another's. -/
import Derived.Test.YtmbkgepfpfeahaaPerm4
import Derived.Test.YtmbkgepfpfeahaaQx22
set_option linter.unusedVariables false
set_option linter.unusedSimpArgs false
namespace Go.Proofs.Ytmbkgepfpfeahaa.Pl
open Go.RowKit Go.Proofs.Ytmbkgepfpfeahaa.Q Go.Proofs.YtmbkgepfpfeahaaW.PrintWords Go.Proofs.YtmbkgepfpfeahaaW.PrintLast
/-- The place of each number, laid down one after another. -/
def invL : List Int → Nat → List Int → List Int
  | r, _, [] => r
  | r, i, x :: xs => invL (r.set x.toNat (i : Int)) (i + 1) xs
theorem invL_len : ∀ (xs r : List Int) (i : Nat), (invL r i xs).length = r.length
  | [], _, _ => rfl
  | x :: xs, r, i => by rw [invL, invL_len xs, List.length_set]
def invA (p : List Int) : List Int × Int := if Fits p then (invL (List.replicate p.length 0) 0 p, 0) else ([], 110)
theorem inv_walk (p : List Int) (hl : p.length ≤ 17592186044000) (fp : Fits p) : ∀ (d i : Nat) (r : List Int), i + d = p.length → r.length = p.length → Ev (fun k => perm_Inverse.l0 k r p (p.length : Int) (i : Int)) (invL r i (p.drop i), 0) := by
  intro d
  induction d with
  | zero =>
    intro i r hi hr
    rw [List.drop_eq_nil_of_le (by omega)]
    exact Ev.step (f := fun _ => some (r, 0)) (fun k => by rw [perm_Inverse.l0, if_neg (by omega)]) (Ev.now _)
  | succ d ih =>
    intro i r hi hr
    have hb := fp.1 _ (rd_mem p (i : Int) (by simp; omega))
    rw [drop_rd p i (by omega), invL]
    refine Ev.step (fun k => ?_) (ih (i + 1) (r.set (rd p (i : Int)).toNat (i : Int)) (by omega) (by rw [List.length_set, hr]))
    rw [perm_Inverse.l0, if_pos (by omega), if_pos (by omega), if_pos (by omega), if_pos (by omega), if_pos (by omega), w64 (by omega) (by omega)]
    rfl
theorem inverse_all (p : List Int) (hl : p.length ≤ 17592186044000) : Ev (fun k => perm_Inverse.f k p) (invA p) := by
  unfold perm_Inverse.f invA
  refine ev_bind (fits_ev p (by omega)) ?_
  by_cases fp : Fits p
  · rw [if_pos fp]
    refine ev_pos (by simp [fp]) (ev_pos (show 0 ≤ (p.length : Int) by omega) (ev_pos (show (p.length : Int).toNat ≤ 35184372088832 by omega) ?_))
    exact inv_walk p hl fp p.length 0 _ (by omega) (by simp)
  · rw [if_neg fp]
    exact ev_neg (by simp [fp]) (Ev.now _)
theorem fits_mem_iota (p : List Int) (fp : Fits p) : ∀ y ∈ p, y ∈ iota p.length := by
  intro y hy
  have := fp.1 y hy
  unfold iota
  exact List.mem_map.2 ⟨y.toNat, by simp; omega, by omega⟩
theorem iota_rises (n : Nat) : (iota n).Pairwise (· < ·) := by
  rw [List.pairwise_iff_getElem]
  intro i j hi hj hij
  rw [iota_get, iota_get]
  omega
def rankA (p : List Int) : List Int × Int := if Fits p then (digits (iota p.length) p, 0) else ([], 110)
theorem rank_all (p : List Int) (hl : p.length ≤ 17592186044000) : Ev (fun k => perm_Rank.f k p) (rankA p) := by
  unfold rankA
  by_cases fp : Fits p
  · rw [if_pos fp]; exact rank_good p (by omega) fp
  · rw [if_neg fp]; exact rank_bad p (by omega) fp
/-! Exchanges -/
theorem swp_get (a : List Int) (i j m : Nat) (hi : i < a.length) (hj : j < a.length) (hm : m < a.length) : rd (swp a i j) (m : Int) = if m = j then rd a (i : Int) else if m = i then rd a (j : Int) else rd a (m : Int) := by
  rw [rd_lt _ m (by rw [swp_len]; exact hm)]
  unfold swp
  rw [List.getElem_set]
  by_cases h1 : m = j
  · subst h1; rw [if_pos rfl, if_pos rfl]
  · rw [if_neg (fun h => h1 h.symm), if_neg h1, List.getElem_set]
    by_cases h2 : m = i
    · subst h2; rw [if_pos rfl, if_pos rfl]
    · rw [if_neg (fun h => h2 h.symm), if_neg h2, rd_lt _ m hm]
theorem fits_rd {a : List Int} (fa : Fits a) (m : Nat) (hm : m < a.length) : 0 ≤ rd a (m : Int) ∧ rd a (m : Int) < (a.length : Int) := fa.1 _ (rd_mem a (m : Int) (by simpa using hm))
theorem fits_rd_inj {a : List Int} (fa : Fits a) (i j : Nat) (hi : i < a.length) (hj : j < a.length) (e : rd a (i : Int) = rd a (j : Int)) : i = j := by
  rw [rd_lt a i hi, rd_lt a j hj] at e
  exact fits_inj fa hi hj e
theorem fits_of_rd {a : List Int} (h1 : ∀ m : Nat, m < a.length → 0 ≤ rd a (m : Int) ∧ rd a (m : Int) < (a.length : Int)) (h2 : ∀ i j : Nat, i < a.length → j < a.length → rd a (i : Int) = rd a (j : Int) → i = j) : Fits a := by
  refine ⟨fun x hx => ?_, nodup_get fun i j hi hj hij e => ?_⟩
  · obtain ⟨m, hm, rfl⟩ := List.getElem_of_mem hx
    have := h1 m hm
    rw [rd_lt a m hm] at this
    exact this
  · have := h2 i j hi hj (by rw [rd_lt a i hi, rd_lt a j hj]; exact e)
    omega
theorem fits_swp {a : List Int} (fa : Fits a) (i j : Nat) (hi : i < a.length) (hj : j < a.length) : Fits (swp a i j) := by
  refine fits_of_rd (fun m hm => ?_) (fun x y hx hy e => ?_)
  · rw [swp_len] at hm ⊢
    rw [swp_get a i j m hi hj hm]
    split
    · exact fits_rd fa i hi
    · split
      · exact fits_rd fa j hj
      · exact fits_rd fa m hm
  · rw [swp_len] at hx hy
    rw [swp_get a i j x hi hj hx, swp_get a i j y hi hj hy] at e
    by_cases x1 : x = j
    · by_cases y1 : y = j
      · omega
      · rw [if_pos x1, if_neg y1] at e
        by_cases y2 : y = i
        · rw [if_pos y2] at e
          have := fits_rd_inj fa i j hi hj e
          omega
        · rw [if_neg y2] at e
          have := fits_rd_inj fa i y hi hy e
          omega
    · rw [if_neg x1] at e
      by_cases y1 : y = j
      · rw [if_pos y1] at e
        by_cases x2 : x = i
        · rw [if_pos x2] at e
          have := fits_rd_inj fa j i hj hi e
          omega
        · rw [if_neg x2] at e
          have := fits_rd_inj fa x i hx hi e
          omega
      · rw [if_neg y1] at e
        by_cases x2 : x = i
        · rw [if_pos x2] at e
          by_cases y2 : y = i
          · omega
          · rw [if_neg y2] at e
            have := fits_rd_inj fa j y hj hy e
            omega
        · rw [if_neg x2] at e
          by_cases y2 : y = i
          · rw [if_pos y2] at e
            have := fits_rd_inj fa x j hx hj e
            omega
          · rw [if_neg y2] at e
            exact fits_rd_inj fa x y hx hy e
/-- At the place of each number of a its place. -/
def At (a r : List Int) : Prop := r.length = a.length ∧ ∀ m : Nat, m < a.length → rd r (rd a (m : Int)) = (m : Int)
theorem rd_set_same (r : List Int) (x v : Int) (h0 : 0 ≤ x) (h1 : x < (r.length : Int)) : rd (r.set x.toNat v) x = v := by
  rw [rd_get _ _ h0 (by rw [List.length_set]; exact h1), List.getElem_set, if_pos rfl]
theorem rd_set_ne (r : List Int) (x y v : Int) (h0 : 0 ≤ x) (h1 : x < (r.length : Int)) (hy : 0 ≤ y) (h : x ≠ y) : rd (r.set y.toNat v) x = rd r x := by
  rw [rd_get _ _ h0 (by rw [List.length_set]; exact h1), List.getElem_set, if_neg (by omega), ← rd_get r x h0 h1]
theorem at_swp_prog {a r : List Int} (fa : Fits a) (h : At a r) (i j : Nat) (hi : i < a.length) (hj : j < a.length) : At (swp a i j) ((r.set (rd a (j : Int)).toNat (i : Int)).set (rd a (i : Int)).toNat (j : Int)) := by
  have bi := fits_rd fa i hi
  have bj := fits_rd fa j hj
  refine ⟨by rw [swp_len]; simp [h.1], fun m hm => ?_⟩
  rw [swp_len] at hm
  have bm := fits_rd fa m hm
  have hl := h.1
  rw [swp_get a i j m hi hj hm]
  by_cases h1 : m = j
  · rw [if_pos h1, rd_set_same _ _ _ bi.1 (by rw [List.length_set]; omega)]
    omega
  · rw [if_neg h1]
    by_cases h2 : m = i
    · rw [if_pos h2, rd_set_ne _ _ _ _ bj.1 (by rw [List.length_set]; omega) bi.1 (fun e => h1 (by have := fits_rd_inj fa j i hj hi e; omega)), rd_set_same _ _ _ bj.1 (by omega)]
      omega
    · rw [if_neg h2, rd_set_ne _ _ _ _ bm.1 (by rw [List.length_set]; omega) bi.1 (fun e => h2 (fits_rd_inj fa m i hm hi e)), rd_set_ne _ _ _ _ bm.1 (by omega) bj.1 (fun e => h1 (fits_rd_inj fa m j hm hj e))]
      exact h.2 m hm
theorem rd_iota (n m : Nat) (h : m < n) : rd (iota n) (m : Int) = (m : Int) := by rw [rd_lt _ m (by rw [iota_len]; exact h), iota_get]
theorem at_iota (n : Nat) : At (iota n) (iota n) := ⟨rfl, fun m hm => by rw [iota_len] at hm; rw [rd_iota n m hm, rd_iota n m hm]⟩
/-- The place of x in a. -/
def pos (a : List Int) (x : Int) : Nat := a.idxOf x
theorem pos_spec {a : List Int} (fa : Fits a) (x : Int) (h0 : 0 ≤ x) (h1 : x < (a.length : Int)) : pos a x < a.length ∧ rd a (pos a x : Int) = x := by
  obtain ⟨i, hi, e⟩ := fits_all fa x.toNat (by omega)
  have hx : x ∈ a := by
    have : a[i] = x := by rw [e]; omega
    exact this ▸ List.getElem_mem hi
  have hlt : a.idxOf x < a.length := List.idxOf_lt_length_of_mem hx
  exact ⟨hlt, by unfold pos; rw [rd_lt _ _ hlt]; exact List.getElem_idxOf hlt⟩
theorem pos_at {a r : List Int} (fa : Fits a) (h : At a r) (x : Int) (h0 : 0 ≤ x) (h1 : x < (a.length : Int)) : rd r x = (pos a x : Int) := by
  obtain ⟨p1, p2⟩ := pos_spec fa x h0 h1
  have := h.2 _ p1
  rw [p2] at this
  exact this
theorem pos_rd {a : List Int} (fa : Fits a) (m : Nat) (hm : m < a.length) : pos a (rd a (m : Int)) = m := by
  have b := fits_rd fa m hm
  obtain ⟨p1, p2⟩ := pos_spec fa _ b.1 b.2
  exact fits_rd_inj fa _ _ p1 hm p2
/-- The draws that give p, when a stands at the step of place i. -/
def drawsL (p : List Int) : List Int → Nat → List Int
  | _, 0 => []
  | a, i + 1 => (pos a (rd p ((i + 1 : Nat) : Int)) : Int) :: drawsL p (swp a (i + 1) (pos a (rd p ((i + 1 : Nat) : Int)))) i
theorem drawsL_len (p : List Int) : ∀ (i : Nat) (a : List Int), (drawsL p a i).length = i
  | 0, _ => rfl
  | i + 1, a => by rw [drawsL, List.length_cons, drawsL_len p i]
def drawsA (p : List Int) : List Int × Int := if Fits p then (drawsL p (iota p.length) (p.length - 1), 0) else ([], 110)
theorem draws_walk (p : List Int) (hl : p.length ≤ 17592186044000) (fp : Fits p) : ∀ (i : Nat) (a r D : List Int), (i < p.length ∨ i = 0) → Fits a → a.length = p.length → At a r → D.length + i ≤ p.length →
    Ev (fun k => perm_Draws.l0 k p a r D (i : Int)) (D ++ drawsL p a i, 0) := by
  intro i
  induction i with
  | zero =>
    intro a r D hi fa ha hr hD
    exact Ev.step (f := fun _ => some (D, 0)) (fun k => by rw [perm_Draws.l0, if_neg (by omega)]) (ev_some (by simp [drawsL]))
  | succ i ih =>
    intro a r D hi fa ha hr hD
    have hip : i + 1 < p.length := by omega
    have bp := fits_rd fp (i + 1) hip
    obtain ⟨p1, p2⟩ := pos_spec fa (rd p ((i + 1 : Nat) : Int)) bp.1 (by omega)
    have hpos := pos_at fa hr (rd p ((i + 1 : Nat) : Int)) bp.1 (by omega)
    have hrl := hr.1
    have f2 := fits_swp fa (i + 1) _ (by omega) p1
    have h2 := at_swp_prog fa hr (i + 1) (pos a (rd p ((i + 1 : Nat) : Int))) (by omega) p1
    have := ih (swp a (i + 1) (pos a (rd p ((i + 1 : Nat) : Int)))) _ (D ++ [(pos a (rd p ((i + 1 : Nat) : Int)) : Int)]) (by omega) f2 (by rw [swp_len, ha]) h2 (by simp; omega)
    rw [List.append_assoc] at this
    rw [drawsL]
    refine Ev.step (fun k => ?_) this
    have s1 := swp_get a (i + 1) (pos a (rd p ((i + 1 : Nat) : Int))) (i + 1) (by omega) p1 (by omega)
    have s2 := swp_get a (i + 1) (pos a (rd p ((i + 1 : Nat) : Int))) (pos a (rd p ((i + 1 : Nat) : Int))) (by omega) p1 p1
    rw [if_pos rfl] at s2
    have s1' : rd (swp a (i + 1) (pos a (rd p ((i + 1 : Nat) : Int)))) ((i + 1 : Nat) : Int) = rd a (pos a (rd p ((i + 1 : Nat) : Int)) : Int) := by
      rw [s1]
      by_cases e : i + 1 = pos a (rd p ((i + 1 : Nat) : Int))
      · rw [if_pos e, ← e]
      · rw [if_neg e, if_pos rfl]
    have b1 := fits_rd fa (i + 1) (by omega)
    have b2 := fits_rd fa _ p1
    have esw : ((a.set ((i + 1 : Nat) : Int).toNat (rd a (pos a (rd p ((i + 1 : Nat) : Int)) : Int))).set ((pos a (rd p ((i + 1 : Nat) : Int)) : Int)).toNat (rd a ((i + 1 : Nat) : Int)) : List Int) = swp a (i + 1) (pos a (rd p ((i + 1 : Nat) : Int))) := by unfold swp; simp
    rw [perm_Draws.l0, if_pos (by omega), if_pos (by omega), if_pos (by omega), if_pos (by omega), if_pos (by omega), hpos, if_pos (by omega), if_pos (by omega), if_pos (by omega), if_pos (by omega), Option.bind_some, esw, s1', s2, if_pos (by omega), if_pos (by omega), if_pos (by omega), if_pos (by omega), w64 (by omega) (by omega), show ((i + 1 : Nat) : Int) - 1 = (i : Int) by omega]
theorem draws_all (p : List Int) (hl : p.length ≤ 17592186044000) : Ev (fun k => perm_Draws.f k p) (drawsA p) := by
  unfold perm_Draws.f drawsA
  refine ev_bind (fits_ev p (by omega)) ?_
  by_cases fp : Fits p
  · rw [if_pos fp]
    refine ev_pos (by simp [fp]) (ev_bind (identity_ev p.length (by omega)) (ev_bind (identity_ev p.length (by omega)) ?_))
    rw [w64 (by omega) (by omega)]
    by_cases h0 : p.length = 0
    · rw [h0]
      exact Ev.step (f := fun _ => some ([], 0)) (fun k => by rw [perm_Draws.l0, if_neg (by omega)]) (Ev.now _)
    · have := draws_walk p hl fp (p.length - 1) (iota p.length) (iota p.length) [] (by omega) (fits_iota _) (iota_len _) (at_iota _) (by simp)
      rw [show ((p.length - 1 : Nat) : Int) = (p.length : Int) - 1 by omega] at this
      exact this
  · rw [if_neg fp]
    exact ev_neg (by simp [fp]) (Ev.now _)
end Go.Proofs.Ytmbkgepfpfeahaa.Pl
