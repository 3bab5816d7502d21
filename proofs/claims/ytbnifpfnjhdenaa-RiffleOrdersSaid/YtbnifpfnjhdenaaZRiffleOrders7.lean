/- Functions of the program as plain Lean functions, each with a proof that its call comes to just these answers, and the row that joins them to the given statement; no condition beside the statement's own. Written for this claim by this session's programs (pf.py, pack.py) over the kit's print. -/
import Derived.Test.YtbnifpfnjhdenaaZRiffleOrders0
import Derived.Test.YtbnifpfnjhdenaaZRiffleOrders1
import Derived.Test.YtbnifpfnjhdenaaZRiffleOrders2
import Derived.Test.YtbnifpfnjhdenaaZRiffleOrders3
import Derived.Test.YtbnifpfnjhdenaaZRiffleOrders4
import Derived.Test.YtbnifpfnjhdenaaZRiffleOrders5
import Derived.Test.YtbnifpfnjhdenaaZRiffleOrders6
section
set_option linter.unusedVariables false
set_option linter.unusedSimpArgs false
namespace Go.Proofs.Ytbnifpfnjhdenaa.Pl
open Go.RowKit Go.Proofs.Ytbnifpfnjhdenaa.Q Go.Proofs.YtbnifpfnjhdenaaW.PrintWords Go.Proofs.YtbnifpfnjhdenaaW.PrintLast
def iota (n : Nat) : List Int := (List.range n).map fun i : Nat => (i : Int)
theorem iota_len (n : Nat) : (iota n).length = n := by simp [iota]
theorem iota_get (n i : Nat) (h : i < (iota n).length) : (iota n)[i] = (i : Int) := by simp [iota]
theorem iota_succ (n : Nat) : iota (n + 1) = iota n ++ [(n : Int)] := by simp [iota, List.range_succ]
theorem mx_nat (n : Nat) : mx (n : Int) 0 = (n : Int) := by unfold mx; split <;> omega
theorem mx_neg (n : Int) (h : n ≤ 0) : mx n 0 = 0 := by unfold mx; split <;> omega
theorem identity_ev (n : Nat) (hn : n ≤ 17592186044415) : Ev (fun k => perm_Identity.f k (n : Int)) (iota n) := by
 unfold perm_Identity.f
 rw [mx_nat]
 have key : ∀ (d i : Nat), i + d = n → Ev (fun k => perm_Identity.l0 k (iota i) (n : Int) (i : Int)) (iota n) := by
  intro d
  induction d with
  | zero =>
   intro i hi
   have : i = n := by omega
   subst this
   exact Ev.step (f := fun _ => some (iota i)) (fun k => by rw [perm_Identity.l0, if_neg (by omega)]) (Ev.now _)
  | succ d ih =>
   intro i hi
   have hl := iota_len i
   refine Ev.step (fun k => ?_) (ih (i + 1) (by omega))
   rw [perm_Identity.l0, if_pos (by omega), if_pos (by omega), w64 (by omega) (by omega), iota_succ]
   rfl
 have := key n 0 (by omega)
 simpa [iota] using this
theorem fits_inj {p : List Int} (h : Fits p) {i j : Nat} (hi : i < p.length) (hj : j < p.length) (e : p[i] = p[j]) : i = j :=
 (List.getElem_inj h.2).1 e
theorem nodup_bound : ∀ (n : Nat) (l : List Int), l.Nodup → (∀ x ∈ l, 0 ≤ x ∧ x < (n : Int)) → l.length ≤ n
 | 0, l, _, h => by
  cases l with
  | nil => simp
  | cons x l => have := h x (by simp); omega
 | n + 1, l, hn, h => by
  by_cases hm : (n : Int) ∈ l
  ·have h1 := nodup_bound n (l.erase (n : Int)) (hn.erase _) (fun x hx => by
    have := (hn.mem_erase_iff).1 hx
    have := h x this.2
    omega)
   rw [List.length_erase_of_mem hm] at h1
   omega
  ·have h1 := nodup_bound n l hn (fun x hx => by
    have := h x hx
    have : x ≠ (n : Int) := fun e => hm (e ▸ hx)
    omega)
   omega
theorem fits_all {p : List Int} (h : Fits p) (v : Nat) (hv : v < p.length) : ∃ (i : Nat) (hi : i < p.length), p[i] = (v : Int) := by
 by_cases hm : (v : Int) ∈ p
 ·obtain ⟨i, hi, e⟩ := List.getElem_of_mem hm
  exact ⟨i, hi, e⟩
 ·have := nodup_bound p.length ((v : Int) :: p) (List.nodup_cons.2 ⟨hm, h.2⟩) (fun x hx => by
   rcases List.mem_cons.1 hx with rfl | hx
   ·omega
   ·exact h.1 x hx)
  simp only [List.length_cons] at this
  omega
theorem nodup_get {l : List Int} (h : ∀ (i j : Nat) (hi : i < l.length) (hj : j < l.length), i < j → l[i] ≠ l[j]) : l.Nodup := by
 unfold List.Nodup
 rw [List.pairwise_iff_getElem]
 exact h
theorem fits_iota (n : Nat) : Fits (iota n) := by
 refine ⟨fun x hx => ?_, ?_⟩
 ·simp only [iota, List.mem_map, List.mem_range] at hx
  obtain ⟨i, hi, rfl⟩ := hx
  rw [iota_len]
  omega
 ·refine nodup_get fun i j hi hj hij => ?_
  rw [iota_get, iota_get]
  omega
theorem pick_len (p q : List Int) : (pick p q).length = p.length := by simp [pick]
theorem pick_get (p q : List Int) (i : Nat) (hi : i < p.length) : (pick p q)[i]'(by rw [pick_len]; exact hi) = rd q p[i] := by simp [pick]
def IsInv (p r : List Int) : Prop := r.length = p.length ∧ ∀ (i : Nat) (hi : i < p.length), rd r p[i] = (i : Int)
theorem IsInv.range {p r : List Int} (fp : Fits p) (h : IsInv p r) (v : Nat) (hv : v < r.length) : ∃ (i : Nat) (hi : i < p.length), p[i] = (v : Int) ∧ r[v] = (i : Int) := by
 obtain ⟨i, hi, e⟩ := fits_all fp v (by rw [← h.1]; exact hv)
 refine ⟨i, hi, e, ?_⟩
 have := h.2 i hi
 rw [e, rd_lt r v hv] at this
 exact this
theorem IsInv.right {p r : List Int} (fp : Fits p) (h : IsInv p r) : pick p r = iota p.length := by
 apply List.ext_getElem
 ·simp [pick, iota]
 ·intro i h1 h2
  have hi : i < p.length := by simpa [pick] using h1
  rw [pick_get p r i hi, h.2 i hi, iota_get]
theorem IsInv.left {p r : List Int} (fp : Fits p) (h : IsInv p r) : pick r p = iota p.length := by
 apply List.ext_getElem
 ·simp [pick, iota, h.1]
 ·intro v h1 h2
  have hv : v < r.length := by simpa [pick] using h1
  obtain ⟨i, hi, e1, e2⟩ := h.range fp v hv
  rw [pick_get r p v hv, e2, rd_lt p i hi, e1, iota_get]
end Go.Proofs.Ytbnifpfnjhdenaa.Pl
end
section
set_option linter.unusedVariables false
set_option linter.unusedSimpArgs false
namespace Go.Proofs.Ytbnifpfnjhdenaa.Pl
open Go.RowKit Go.Proofs.Ytbnifpfnjhdenaa.Q Go.Proofs.YtbnifpfnjhdenaaW.PrintWords Go.Proofs.YtbnifpfnjhdenaaW.PrintLast
def boundsL : Nat → List Int
  | 0 => []
  | 1 => []
  | n + 2 => ((n + 2 : Nat) : Int) :: boundsL (n + 1)
theorem boundsL_len : ∀ n, (boundsL n).length = n - 1
  | 0 => rfl
  | 1 => rfl
  | n + 2 => by rw [boundsL, List.length_cons, boundsL_len (n + 1)]; omega
theorem boundsL_at : ∀ (n k : Nat), k + 1 < n → rd (boundsL n) (k : Int) = (n : Int) - (k : Int)
  | 0, k, h => by omega
  | 1, k, h => by omega
  | n + 2, 0, h => by rw [boundsL]; simp [rd]
  | n + 2, k + 1, h => by
    have := boundsL_at (n + 1) k (by omega)
    rw [boundsL]
    have e : rd (((n + 2 : Nat) : Int) :: boundsL (n + 1)) ((k + 1 : Nat) : Int) = rd (boundsL (n + 1)) (k : Int) := by rw [rd_nat, rd_nat]; rfl
    rw [e, this]
    omega
theorem bounds_ev (n : Int) (hn : n ≤ 17592186044415) : Ev (fun k => perm_Bounds.f k n) (boundsL n.toNat) := by
  unfold perm_Bounds.f
  by_cases h0 : n ≤ 1
  · have : boundsL n.toNat = [] := List.eq_nil_of_length_eq_zero (by rw [boundsL_len]; omega)
    rw [this]
    exact Ev.step (f := fun _ => some []) (fun k => by rw [perm_Bounds.l0, if_neg (by omega)]) (Ev.now _)
  · obtain ⟨m, rfl⟩ : ∃ m : Nat, n = (m : Int) := ⟨n.toNat, by omega⟩
    have key : ∀ (j : Nat) (acc : List Int), acc.length + j ≤ 17592186044415 → Ev (fun k => perm_Bounds.l0 k acc (j : Int)) (acc ++ boundsL j) := by
      intro j
      induction j with
      | zero => intro acc h; exact Ev.step (f := fun _ => some acc) (fun k => by rw [perm_Bounds.l0, if_neg (by omega)]) (ev_some (by simp [boundsL]))
      | succ j ih =>
        intro acc h
        by_cases hj : j = 0
        · subst hj
          exact Ev.step (f := fun _ => some acc) (fun k => by rw [perm_Bounds.l0, if_neg (by omega)]) (ev_some (by simp [boundsL]))
        · obtain ⟨j, rfl⟩ : ∃ i, j = i + 1 := ⟨j - 1, by omega⟩
          refine Ev.step (f := fun k => perm_Bounds.l0 k (acc ++ [((j + 1 + 1 : Nat) : Int)]) ((j + 1 : Nat) : Int)) (fun k => ?_) (ev_to (ih _ (by simp; omega)) (by simp [boundsL]; omega))
          rw [perm_Bounds.l0, if_pos (by omega), if_pos (by omega), w64 (by omega) (by omega), show ((j + 1 + 1 : Nat) : Int) - 1 = ((j + 1 : Nat) : Int) by omega]
    exact key m [] (by simp; omega)
def FitD (n : Int) (l : List Int) : Prop := ∀ k : Nat, k < l.length → 0 ≤ rd l (k : Int) ∧ rd l (k : Int) < n - (k : Int)
instance (n : Int) (l : List Int) : Decidable (FitD n l) := by unfold FitD; infer_instance
def swp (a : List Int) (i j : Nat) : List Int := (a.set i (rd a (j : Int))).set j (rd a (i : Int))
theorem swp_len (a : List Int) (i j : Nat) : (swp a i j).length = a.length := by simp [swp]
def fromL : List Int → Nat → List Int → List Int
  | a, _, [] => a
  | a, i, d :: ds => fromL (swp a i d.toNat) (i - 1) ds
theorem fromL_len : ∀ (l a : List Int) (i : Nat), (fromL a i l).length = a.length
  | [], _, _ => rfl
  | d :: ds, a, i => by rw [fromL, fromL_len ds, swp_len]
theorem from_walk (n : Nat) (l : List Int) (hn : l.length + 1 = n ∨ l = []) (hl : n ≤ 17592186044000) (hf : FitD (n : Int) l) :
    ∀ (d i : Nat) (a : List Int), i + d = l.length → a.length = n → Ev (fun k => perm_From.l1 k (n : Int) a l (l.length : Int) (i : Int)) (fromL a (n - 1 - i) (l.drop i), 0) := by
  intro d
  induction d with
  | zero =>
    intro i a hi ha
    rw [List.drop_eq_nil_of_le (by omega)]
    exact Ev.step (f := fun _ => some (a, 0)) (fun k => by rw [perm_From.l1, if_neg (by omega)]) (Ev.now _)
  | succ d ih =>
    intro i a hi ha
    have hn' : l.length + 1 = n := by rcases hn with h | h; · exact h
                                      · subst h; simp at hi
    obtain ⟨f1, f2⟩ := hf i (by omega)
    rw [drop_rd l i (by omega), fromL, show n - 1 - i - 1 = n - 1 - (i + 1) by omega]
    refine Ev.step (f := fun k => perm_From.l1 k (n : Int) (swp a (n - 1 - i) (rd l (i : Int)).toNat) l (l.length : Int) ((i + 1 : Nat) : Int)) (fun k => ?_) (ih (i + 1) _ (by omega) (by rw [swp_len, ha]))
    have e : wrap64 (wrap64 ((n : Int) - 1) - (i : Int)) = ((n - 1 - i : Nat) : Int) := by rw [w64 (x := (n : Int) - 1) (by omega) (by omega), w64 (by omega) (by omega)]; omega
    rw [perm_From.l1, if_pos (by omega), if_pos (by omega), if_pos (by omega), if_pos (by omega), if_pos (by omega), e, if_pos (by omega), if_pos (by omega), w64 (by omega) (by omega)]
    unfold swp
    rw [Int.toNat_of_nonneg f1]
    rfl
theorem from_chk (n : Nat) (l : List Int) (hl : l.length ≤ 17592186044000) (hl2 : n ≤ 17592186044000) {R : List Int × Int} (hR : FitD (n : Int) l → Ev (fun k => (perm_Identity.f k (n : Int)).bind fun t107 => (perm_From.l1 k (n : Int) t107 l (l.length : Int) 0)) R) :
    ∀ (d i : Nat), i + d = l.length → (∀ k : Nat, k < i → 0 ≤ rd l (k : Int) ∧ rd l (k : Int) < (n : Int) - (k : Int)) → Ev (fun k => perm_From.l0 k (n : Int) l l (l.length : Int) (i : Int)) (if FitD (n : Int) l then R else ([], 110)) := by
  intro d
  induction d with
  | zero =>
    intro i hi hk
    have hf : FitD (n : Int) l := fun k h => hk k (by omega)
    rw [if_pos hf]
    refine Ev.step (fun k => ?_) (hR hf)
    rw [perm_From.l0, if_neg (by omega)]
  | succ d ih =>
    intro i hi hk
    by_cases h1 : rd l (i : Int) < 0
    · rw [if_neg (fun hf : FitD _ l => by have := (hf i (by omega)).1; omega)]
      exact Ev.step (f := fun _ => some ([], 110)) (fun k => by rw [perm_From.l0, if_pos (by omega), if_pos (by omega), if_pos (by omega), if_pos h1]) (Ev.now _)
    · by_cases h2 : rd l (i : Int) ≥ (n : Int) - (i : Int)
      · rw [if_neg (fun hf : FitD _ l => by have := (hf i (by omega)).2; omega)]
        exact Ev.step (f := fun _ => some ([], 110)) (fun k => by rw [perm_From.l0, if_pos (by omega), if_pos (by omega), if_pos (by omega), if_neg h1, w64 (x := (n : Int) - (i : Int)) (by omega) (by omega), if_pos h2]) (Ev.now _)
      · refine Ev.step (fun k => ?_) (ih (i + 1) (by omega) (fun k h => ?_))
        · rw [perm_From.l0, if_pos (by omega), if_pos (by omega), if_pos (by omega), if_neg h1, w64 (x := (n : Int) - (i : Int)) (by omega) (by omega), if_neg h2, w64 (by omega) (by omega)]
          rfl
        · by_cases hki : k = i
          · subst hki; exact ⟨by omega, by omega⟩
          · exact hk k (by omega)
def fromA (n : Int) (l : List Int) : List Int × Int := if n < 0 then ([], 2) else if (l.length : Int) = mx (n - 1) 0 ∧ FitD n l then (fromL (iota n.toNat) (n.toNat - 1) l, 0) else ([], 110)
theorem mx_pos (x : Int) (h : 0 ≤ x) : mx x 0 = x := by
  obtain ⟨n, rfl⟩ : ∃ n : Nat, x = (n : Int) := ⟨x.toNat, by omega⟩
  exact mx_nat n
theorem from_ev (n : Int) (l : List Int) (hn : -9223372036854775808 ≤ n ∧ n ≤ 9223372036854775807) (hl : l.length ≤ 17592186043904) : Ev (fun k => perm_From.f k n l) (fromA n l) := by
  unfold perm_From.f fromA
  by_cases h0 : n < 0
  · rw [if_pos h0]; exact ev_pos h0 (Ev.now _)
  · rw [if_neg h0]
    refine ev_neg h0 ?_
    rw [w64 (by omega) (by omega)]
    by_cases hm : (l.length : Int) = mx (n - 1) 0
    · refine ev_pos hm ?_
      have hb : n ≤ 17592186043905 := by
        by_cases h1 : n ≤ 1
        · omega
        · rw [mx_pos _ (by omega)] at hm; omega
      have hn' : l.length + 1 = n.toNat ∨ l = [] := by
        by_cases h1 : n ≤ 1
        · rw [mx_neg _ (by omega)] at hm
          exact Or.inr (List.eq_nil_of_length_eq_zero (by omega))
        · rw [mx_pos _ (by omega)] at hm; omega
      obtain ⟨m, rfl⟩ : ∃ m : Nat, n = (m : Int) := ⟨n.toNat, by omega⟩
      refine ev_to (from_chk m l (by omega) (by omega) (R := (fromL (iota m) (m - 1) l, 0)) (fun hf => ?_) l.length 0 (by omega) (fun k h => by omega)) ?_
      · refine ev_bind (identity_ev m (by omega)) ?_
        exact from_walk m l (by simpa using hn') (by omega) hf l.length 0 _ (by omega) (iota_len m)
      · by_cases hf : FitD (m : Int) l
        · rw [if_pos hf, if_pos ⟨hm, hf⟩]
          rfl
        · rw [if_neg hf, if_neg (fun h => hf h.2)]
    · rw [if_neg (fun h => hm h.1)]
      exact ev_neg hm (Ev.now _)
end Go.Proofs.Ytbnifpfnjhdenaa.Pl
end
section
set_option linter.unusedVariables false
set_option linter.unusedSimpArgs false
namespace Go.Proofs.Ytbnifpfnjhdenaa.Pl
open Go.RowKit Go.Proofs.Ytbnifpfnjhdenaa.Q Go.Proofs.YtbnifpfnjhdenaaW.PrintWords Go.Proofs.YtbnifpfnjhdenaaW.PrintLast
theorem swp_get (a : List Int) (i j m : Nat) (hi : i < a.length) (hj : j < a.length) (hm : m < a.length) : rd (swp a i j) (m : Int) = if m = j then rd a (i : Int) else if m = i then rd a (j : Int) else rd a (m : Int) := by
 rw [rd_lt _ m (by rw [swp_len]; exact hm)]
 unfold swp
 rw [List.getElem_set]
 by_cases h1 : m = j
 ·subst h1; rw [if_pos rfl, if_pos rfl]
 ·rw [if_neg (fun h => h1 h.symm), if_neg h1, List.getElem_set]
  by_cases h2 : m = i
  ·subst h2; rw [if_pos rfl, if_pos rfl]
  ·rw [if_neg (fun h => h2 h.symm), if_neg h2, rd_lt _ m hm]
theorem fits_rd {a : List Int} (fa : Fits a) (m : Nat) (hm : m < a.length) : 0 ≤ rd a (m : Int) ∧ rd a (m : Int) < (a.length : Int) := fa.1 _ (rd_mem a (m : Int) (by simpa using hm))
theorem fits_rd_inj {a : List Int} (fa : Fits a) (i j : Nat) (hi : i < a.length) (hj : j < a.length) (e : rd a (i : Int) = rd a (j : Int)) : i = j := by
 rw [rd_lt a i hi, rd_lt a j hj] at e
 exact fits_inj fa hi hj e
theorem fits_of_rd {a : List Int} (h1 : ∀ m : Nat, m < a.length → 0 ≤ rd a (m : Int) ∧ rd a (m : Int) < (a.length : Int)) (h2 : ∀ i j : Nat, i < a.length → j < a.length → rd a (i : Int) = rd a (j : Int) → i = j) : Fits a := by
 refine ⟨fun x hx => ?_, nodup_get fun i j hi hj hij e => ?_⟩
 ·obtain ⟨m, hm, rfl⟩ := List.getElem_of_mem hx
  have := h1 m hm
  rw [rd_lt a m hm] at this
  exact this
 ·have := h2 i j hi hj (by rw [rd_lt a i hi, rd_lt a j hj]; exact e)
  omega
theorem fits_swp {a : List Int} (fa : Fits a) (i j : Nat) (hi : i < a.length) (hj : j < a.length) : Fits (swp a i j) := by
 refine fits_of_rd (fun m hm => ?_) (fun x y hx hy e => ?_)
 ·rw [swp_len] at hm ⊢
  rw [swp_get a i j m hi hj hm]
  split
  ·exact fits_rd fa i hi
  ·split
   ·exact fits_rd fa j hj
   ·exact fits_rd fa m hm
 ·rw [swp_len] at hx hy
  rw [swp_get a i j x hi hj hx, swp_get a i j y hi hj hy] at e
  by_cases x1 : x = j
  ·by_cases y1 : y = j
   ·omega
   ·rw [if_pos x1, if_neg y1] at e
    by_cases y2 : y = i
    ·rw [if_pos y2] at e
     have := fits_rd_inj fa i j hi hj e
     omega
    ·rw [if_neg y2] at e
     have := fits_rd_inj fa i y hi hy e
     omega
  ·rw [if_neg x1] at e
   by_cases y1 : y = j
   ·rw [if_pos y1] at e
    by_cases x2 : x = i
    ·rw [if_pos x2] at e
     have := fits_rd_inj fa j i hj hi e
     omega
    ·rw [if_neg x2] at e
     have := fits_rd_inj fa x i hx hi e
     omega
   ·rw [if_neg y1] at e
    by_cases x2 : x = i
    ·rw [if_pos x2] at e
     by_cases y2 : y = i
     ·omega
     ·rw [if_neg y2] at e
      have := fits_rd_inj fa j y hj hy e
      omega
    ·rw [if_neg x2] at e
     by_cases y2 : y = i
     ·rw [if_pos y2] at e
      have := fits_rd_inj fa x j hx hj e
      omega
     ·rw [if_neg y2] at e
      exact fits_rd_inj fa x y hx hy e
def pos (a : List Int) (x : Int) : Nat := a.idxOf x
theorem pos_spec {a : List Int} (fa : Fits a) (x : Int) (h0 : 0 ≤ x) (h1 : x < (a.length : Int)) : pos a x < a.length ∧ rd a (pos a x : Int) = x := by
 obtain ⟨i, hi, e⟩ := fits_all fa x.toNat (by omega)
 have hx : x ∈ a := by
  have : a[i] = x := by rw [e]; omega
  exact this ▸ List.getElem_mem hi
 have hlt : a.idxOf x < a.length := List.idxOf_lt_length_of_mem hx
 exact ⟨hlt, by unfold pos; rw [rd_lt _ _ hlt]; exact List.getElem_idxOf hlt⟩
theorem pos_rd {a : List Int} (fa : Fits a) (m : Nat) (hm : m < a.length) : pos a (rd a (m : Int)) = m := by
 have b := fits_rd fa m hm
 obtain ⟨p1, p2⟩ := pos_spec fa _ b.1 b.2
 exact fits_rd_inj fa _ _ p1 hm p2
def drawsL (p : List Int) : List Int → Nat → List Int
 | _, 0 => []
 | a, i + 1 => (pos a (rd p ((i + 1 : Nat) : Int)) : Int) :: drawsL p (swp a (i + 1) (pos a (rd p ((i + 1 : Nat) : Int)))) i
end Go.Proofs.Ytbnifpfnjhdenaa.Pl
end
section
set_option linter.unusedVariables false
set_option linter.unusedSimpArgs false
namespace Go.Proofs.Ytbnifpfnjhdenaa.Pure
open Go.RowKit Go.Proofs.Ytbnifpfnjhdenaa.Q Go.Proofs.YtbnifpfnjhdenaaW.PrintWords Go.Proofs.YtbnifpfnjhdenaaW.PrintLast Go.Proofs.Ytbnifpfnjhdenaa.Pl
theorem draws_from : ∀ (i : Nat) (l a : List Int), l.length = i → FitD ((i : Int) + 1) l → Fits a → (i < a.length ∨ i = 0) →
  Fits (fromL a i l) ∧ (∀ m : Nat, i < m → m < a.length → rd (fromL a i l) (m : Int) = rd a (m : Int)) ∧ drawsL (fromL a i l) a i = l := by
 intro i
 induction i with
 | zero =>
  intro l a hl hf fa hi
  obtain rfl := List.eq_nil_of_length_eq_zero hl
  exact ⟨fa, fun m _ _ => rfl, rfl⟩
 | succ i ih =>
  intro l a hl hf fa hi
  cases l with
  | nil => simp at hl
  | cons d ds =>
   have h0 := hf 0 (by simp)
   rw [rd_nat] at h0
   simp only [List.getD_cons_zero] at h0
   have hd : d.toNat < a.length := by omega
   have hf' : FitD ((i : Int) + 1) ds := fun k hk => by
    have := hf (k + 1) (by simpa using hk)
    rw [rd_nat] at this ⊢
    simp only [List.getD_cons_succ] at this
    omega
   have ia : i + 1 < a.length := by omega
   obtain ⟨r1, r2, r3⟩ := ih ds (swp a (i + 1) d.toNat) (by simpa using hl) hf' (fits_swp fa _ _ ia hd) (by rw [swp_len]; omega)
   rw [fromL, Nat.add_sub_cancel]
   rw [swp_len] at r2
   have top : rd (fromL (swp a (i + 1) d.toNat) i ds) ((i + 1 : Nat) : Int) = rd a (d.toNat : Int) := by
    rw [r2 (i + 1) (by omega) ia, swp_get a _ _ (i + 1) ia hd ia]
    by_cases e : i + 1 = d.toNat
    ·rw [if_pos e, ← e]
    ·rw [if_neg e, if_pos rfl]
   refine ⟨r1, fun m h1 h2 => ?_, ?_⟩
   ·rw [r2 m (by omega) h2, swp_get a _ _ m ia hd h2, if_neg (by omega), if_neg (by omega)]
   ·rw [drawsL, top, pos_rd fa _ hd, r3, Int.toNat_of_nonneg h0.1]
end Go.Proofs.Ytbnifpfnjhdenaa.Pure
end
section
set_option linter.unusedVariables false
set_option linter.unusedSimpArgs false
namespace Go.Proofs.Ytbnifpfnjhdenaa.Pl
open Go.RowKit Go.Proofs.YtbnifpfnjhdenaaW.PrintWords Go.Proofs.YtbnifpfnjhdenaaW.PrintLast
def total : List Int → Int
 | [] => 0
 | x :: l => x + total l
def psum (l : List Int) (j : Nat) : Int := total (l.take j)
theorem total_append (a b : List Int) : total (a ++ b) = total a + total b := by
 induction a with
 | nil => simp [total]
 | cons x a ih => simp [total, ih]; omega
theorem psum_succ (l : List Int) (j : Nat) (h : j < l.length) : psum l (j + 1) = psum l j + l[j] := by
 unfold psum
 rw [List.take_succ_eq_append_getElem h, total_append]
 simp [total]
theorem psum_zero (l : List Int) : psum l 0 = 0 := rfl
theorem psum_all (l : List Int) (j : Nat) (h : l.length ≤ j) : psum l j = total l := by
 unfold psum
 rw [List.take_of_length_le h]
def Nonneg (l : List Int) : Prop := ∀ x ∈ l, 0 ≤ x
theorem Nonneg.at_ {l : List Int} (h : Nonneg l) (j : Nat) (hj : j < l.length) : 0 ≤ l[j] := h _ (List.getElem_mem hj)
theorem psum_mono {l : List Int} (h : Nonneg l) (i : Nat) : ∀ d, psum l i ≤ psum l (i + d) := by
 intro d
 induction d with
 | zero => exact Int.le_refl _
 | succ d ih =>
  by_cases hl : i + d < l.length
  ·have := psum_succ l (i + d) hl
   have := h.at_ (i + d) hl
   rw [show i + (d + 1) = i + d + 1 from rfl]
   omega
  ·rw [psum_all l (i + d) (by omega)] at ih
   rw [psum_all l (i + (d + 1)) (by omega)]
   exact ih
theorem psum_le {l : List Int} (h : Nonneg l) (i j : Nat) (hij : i ≤ j) : psum l i ≤ psum l j := by
 have := psum_mono h i (j - i)
 rwa [show i + (j - i) = j from by omega] at this
theorem psum_nonneg {l : List Int} (h : Nonneg l) (j : Nat) : 0 ≤ psum l j := by
 have := psum_le h 0 j (Nat.zero_le _)
 rwa [psum_zero] at this
theorem psum_total {l : List Int} (h : Nonneg l) (j : Nat) : psum l j ≤ total l := by
 rcases Nat.lt_or_ge j l.length with hl | hl
 ·have := psum_le h j l.length (by omega)
  rwa [psum_all l l.length (Nat.le_refl _)] at this
 ·rw [psum_all l j hl]; exact Int.le_refl _
theorem total_nonneg {l : List Int} (h : Nonneg l) : 0 ≤ total l := by
 have := psum_nonneg h l.length
 rwa [psum_all l l.length (Nat.le_refl _)] at this
theorem place_unique {l : List Int} (h : Nonneg l) {i j : Nat} {o p : Int} (hi : i < l.length) (hj : j < l.length) (ho : 0 ≤ o) (ho' : o < l[i]) (hp : 0 ≤ p) (hp' : p < l[j]) (e : psum l i + o = psum l j + p) : i = j ∧ o = p := by
 rcases Nat.lt_trichotomy i j with hlt | rfl | hgt
 ·have := psum_le h (i + 1) j hlt
  rw [psum_succ l i hi] at this
  omega
 ·exact ⟨rfl, by omega⟩
 ·have := psum_le h (j + 1) i hgt
  rw [psum_succ l j hj] at this
  omega
theorem place_exists {l : List Int} (h : Nonneg l) (d : Int) (h0 : 0 ≤ d) (ht : d < total l) : ∃ (j : Nat) (hj : j < l.length) (o : Int), 0 ≤ o ∧ o < l[j] ∧ d = psum l j + o := by
 have key : ∀ n : Nat, n ≤ l.length → (∃ (j : Nat) (hj : j < l.length) (o : Int), 0 ≤ o ∧ o < l[j] ∧ d = psum l j + o) ∨ psum l n ≤ d := by
  intro n
  induction n with
  | zero => intro _; right; rw [psum_zero]; exact h0
  | succ n ih =>
   intro hn
   rcases ih (by omega) with h1 | h1
   ·exact .inl h1
   ·by_cases h2 : d < psum l (n + 1)
    ·left
     rw [psum_succ l n (by omega)] at h2
     exact ⟨n, by omega, d - psum l n, by omega, by omega, by omega⟩
    ·right; omega
 rcases key l.length (Nat.le_refl _) with h1 | h1
 ·exact h1
 ·rw [psum_all l l.length (Nat.le_refl _)] at h1; omega
def dec (l : List Int) (j : Nat) : List Int := l.set j (l.getD j 0 - 1)
theorem dec_length (l : List Int) (j : Nat) : (dec l j).length = l.length := by simp [dec]
theorem dec_get (l : List Int) (j i : Nat) (hi : i < l.length) : (dec l j)[i]'(by rw [dec_length]; exact hi) = if j = i then l[i] - 1 else l[i] := by
 unfold dec
 rw [List.getElem_set]
 by_cases e : j = i
 ·subst e; simp [hi]
 ·simp [e]
theorem dec_getD (l : List Int) (j i : Nat) (hi : i < l.length) : (dec l j).getD i 0 = if j = i then l.getD i 0 - 1 else l.getD i 0 := by
 rw [List.getD_eq_getElem?_getD, List.getElem?_eq_getElem (by rw [dec_length]; exact hi), Option.getD_some, dec_get l j i hi]
 simp [List.getD_eq_getElem?_getD, hi]
theorem total_set (l : List Int) (j : Nat) (v : Int) (hj : j < l.length) : total (l.set j v) = total l - l[j] + v := by
 induction l generalizing j with
 | nil => simp at hj
 | cons x l ih =>
  cases j with
  | zero => simp [total]; omega
  | succ j =>
   simp at hj
   simp [total, ih j hj]
   omega
theorem dec_total (l : List Int) (j : Nat) (hj : j < l.length) : total (dec l j) = total l - 1 := by
 unfold dec
 rw [total_set l j _ hj]
 simp [List.getD_eq_getElem?_getD, hj]
 omega
theorem dec_nonneg {l : List Int} (h : Nonneg l) (j : Nat) (hj : j < l.length) (hp : 0 < l[j]) : Nonneg (dec l j) := by
 intro x hx
 obtain ⟨i, hi, rfl⟩ := List.getElem_of_mem hx
 rw [dec_length] at hi
 rw [dec_get l j i hi]
 split
 ·rename_i e; subst e; omega
 ·exact h.at_ i hi
inductive Pat : List Int → List Int → List (Nat × Int) → Prop
 | nil (l : List Int) : Pat l [] []
 | cons {l ds : List Int} {P : List (Nat × Int)} {d o : Int} {j : Nat} (hj : j < l.length) (h0 : 0 ≤ o) (h1 : o < l[j]) (hd : d = psum l j + o) (t : Pat (dec l j) ds P) : Pat l (d :: ds) ((j, o) :: P)
def vis (j : Nat) (P : List (Nat × Int)) : List Int := (P.filter fun x => x.1 == j).map (·.2)
theorem vis_nil (j : Nat) : vis j [] = [] := rfl
theorem vis_cons (i j : Nat) (o : Int) (P : List (Nat × Int)) : vis i ((j, o) :: P) = if j = i then o :: vis i P else vis i P := by
 unfold vis
 by_cases e : j = i
 ·simp [e]
 ·simp [e]
theorem Pat.len {l ds : List Int} {P : List (Nat × Int)} (h : Pat l ds P) : P.length = ds.length := by
 induction h with
 | nil => rfl
 | cons => simp_all
theorem Pat.range {l ds : List Int} {P : List (Nat × Int)} (h : Pat l ds P) : ∀ x ∈ P, x.1 < l.length := by
 induction h with
 | nil => simp
 | cons hj h0 h1 hd t ih =>
  intro x hx
  rcases List.mem_cons.1 hx with rfl | hx
  ·exact hj
  ·have := ih x hx
   rwa [dec_length] at this
theorem Pat.unique {l ds : List Int} {P Q : List (Nat × Int)} (hn : Nonneg l) (h : Pat l ds P) (h' : Pat l ds Q) : P = Q := by
 induction h generalizing Q with
 | nil => cases h'; rfl
 | cons hj h0 h1 hd t ih =>
  cases h' with
  | cons hj' h0' h1' hd' t' =>
   obtain ⟨rfl, rfl⟩ := place_unique hn hj hj' h0 h1 h0' h1' (by omega)
   rw [ih (dec_nonneg hn _ hj (by omega)) t']
theorem Pat.draws {l ds es : List Int} {P : List (Nat × Int)} (h : Pat l ds P) (h' : Pat l es P) : ds = es := by
 induction h generalizing es with
 | nil => cases h'; rfl
 | cons hj h0 h1 hd t ih =>
  cases h' with
  | cons hj' h0' h1' hd' t' => rw [ih t', hd, hd']
theorem Pat.bound {l ds : List Int} {P : List (Nat × Int)} (hn : Nonneg l) (h : Pat l ds P) : ∀ (i : Nat) (hi : i < ds.length), 0 ≤ ds[i] ∧ ds[i] < total l - i := by
 induction h with
 | nil => intro i hi; simp at hi
 | @cons l ds P d o j hj h0 h1 hd t ih =>
  intro i hi
  have hnn := dec_nonneg hn j hj (by omega)
  cases i with
  | zero =>
   have a := psum_nonneg hn j
   have b := psum_total hn (j + 1)
   rw [psum_succ l j hj] at b
   simp only [List.getElem_cons_zero]
   omega
  | succ i =>
   have := ih hnn i (by simpa using hi)
   rw [dec_total l j hj] at this
   simp only [List.getElem_cons_succ]
   omega
theorem Pat.count {l ds : List Int} {P : List (Nat × Int)} (hn : Nonneg l) (h : Pat l ds P) (ht : total l = ds.length) : ∀ j : Nat, j < l.length → ((vis j P).length : Int) = l.getD j 0 := by
 induction h with
 | nil l =>
  intro j hj
  have a := psum_le hn (j + 1) l.length (by omega)
  rw [psum_succ l j hj, psum_all l l.length (Nat.le_refl _)] at a
  have b := psum_nonneg hn j
  have c := hn.at_ j hj
  simp at ht
  simp [vis_nil, List.getD_eq_getElem?_getD, hj]
  omega
 | @cons l ds P d o i hi h0 h1 hd t ih =>
  intro j hj
  have hnn := dec_nonneg hn i hi (by omega)
  have := ih hnn (by rw [dec_total l i hi, ht]; simp) j (by rw [dec_length]; exact hj)
  rw [dec_getD l i j hj] at this
  rw [vis_cons]
  by_cases e : i = j
  ·simp [e] at this ⊢
   omega
  ·simp [e] at this ⊢
   exact this
theorem Pat.count_le {l ds : List Int} {P : List (Nat × Int)} (hn : Nonneg l) (h : Pat l ds P) : ∀ j : Nat, j < l.length → ((vis j P).length : Int) ≤ l.getD j 0 := by
 induction h with
 | nil l =>
  intro j hj
  have c := hn.at_ j hj
  simp [vis_nil, List.getD_eq_getElem?_getD, hj]
  exact c
 | @cons l ds P d o i hi h0 h1 hd t ih =>
  intro j hj
  have hnn := dec_nonneg hn i hi (by omega)
  have := ih hnn j (by rw [dec_length]; exact hj)
  rw [dec_getD l i j hj] at this
  rw [vis_cons]
  by_cases e : i = j
  ·simp [e] at this ⊢
   omega
  ·simp [e] at this ⊢
   exact this
def Rdo (nx : Nat → Nat) (off : List Int) (P : List (Nat × Int)) : Prop := ∀ (j k : Nat), (hk : k < (vis j P).length) → (vis j P)[k] = off.getD (nx j + k) 0
theorem Rdo.cons {nx : Nat → Nat} {off : List Int} {P : List (Nat × Int)} {j : Nat} {o : Int} (ho : o = off.getD (nx j) 0) (h : Rdo (fun i => if i = j then nx j + 1 else nx i) off P) : Rdo nx off ((j, o) :: P) := by
 intro i k hk
 by_cases e : j = i
 ·subst e
  simp only [vis_cons, if_true] at hk ⊢
  cases k with
  | zero => simpa using ho
  | succ k =>
   have := h j k (by simpa using hk)
   simp only [if_true] at this
   simp only [List.getElem_cons_succ, this]
   congr 1
   omega
 ·simp only [vis_cons, if_neg e] at hk ⊢
  have := h i k hk
  simp only [if_neg (Ne.symm e)] at this
  exact this
theorem Rdo.uncons {nx : Nat → Nat} {off : List Int} {P : List (Nat × Int)} {j : Nat} {o : Int} (h : Rdo nx off ((j, o) :: P)) : o = off.getD (nx j) 0 ∧ Rdo (fun i => if i = j then nx j + 1 else nx i) off P := by
 constructor
 ·have := h j 0 (by simp [vis_cons])
  simpa [vis_cons] using this
 ·intro i k hk
  by_cases e : i = j
  ·subst e
   have := h i (k + 1) (by simp only [vis_cons, if_true, List.length_cons]; omega)
   simp only [vis_cons, if_true, List.getElem_cons_succ] at this
   simp only [if_true, this]
   congr 1
   omega
  ·have := h i k (by simpa [vis_cons, Ne.symm e] using hk)
   simp only [vis_cons, if_neg (Ne.symm e)] at this
   simp only [if_neg e]
   exact this
def allOff (m : Nat) (P : List (Nat × Int)) : List Int := (List.range m).flatMap fun j => vis j P
theorem allOff_succ (m : Nat) (P : List (Nat × Int)) : allOff (m + 1) P = allOff m P ++ vis m P := by
 unfold allOff
 rw [List.range_succ, List.flatMap_append]
 simp
theorem allOff_len (m : Nat) (P : List (Nat × Int)) (s : List Int) (hm : m ≤ s.length) (hc : ∀ j, j < s.length → ((vis j P).length : Int) = s.getD j 0) : ((allOff m P).length : Int) = psum s m := by
 induction m with
 | zero => simp [allOff, psum_zero]
 | succ m ih =>
  have h1 := ih (by omega)
  have h2 := hc m (by omega)
  have h3 := psum_succ s m (by omega)
  have h4 : s.getD m 0 = s[m] := by simp [List.getD_eq_getElem?_getD, show m < s.length by omega]
  rw [allOff_succ, List.length_append]
  omega
def start (s : List Int) (j : Nat) : Nat := (psum s j).toNat
theorem allOff_at (m : Nat) (P : List (Nat × Int)) (s : List Int) (hn : Nonneg s) (hm : m ≤ s.length) (hc : ∀ j, j < s.length → ((vis j P).length : Int) = s.getD j 0) (j k : Nat) (hj : j < m) (hk : k < (vis j P).length) :
  (allOff m P).getD (start s j + k) 0 = (vis j P)[k] := by
 induction m with
 | zero => omega
 | succ m ih =>
  have hl := allOff_len m P s (by omega) hc
  rw [allOff_succ, List.getD_eq_getElem?_getD]
  have h0 := psum_nonneg hn j
  by_cases e : j = m
  ·subst e
   have hs : start s j = (allOff j P).length := by unfold start; omega
   rw [hs, List.getElem?_append_right (by omega)]
   simp [hk]
  ·have hjm : j < m := by omega
   have h1 := psum_le hn (j + 1) m (by omega)
   rw [psum_succ s j (by omega)] at h1
   have h2 := hc j (by omega)
   have h3 : s.getD j 0 = s[j] := by simp [List.getD_eq_getElem?_getD, show j < s.length by omega]
   rw [List.getElem?_append_left (by unfold start; omega), ← List.getD_eq_getElem?_getD]
   exact ih (by omega) hjm
theorem vis_none {l ds : List Int} {P : List (Nat × Int)} (h : ∀ x ∈ P, x.1 < l.length) (j : Nat) (hj : l.length ≤ j) : vis j P = [] := by
 unfold vis
 simp only [List.map_eq_nil_iff, List.filter_eq_nil_iff]
 intro x hx
 have := h x hx
 simp
 omega
theorem rdo_all {s ds : List Int} {P : List (Nat × Int)} (hn : Nonneg s) (h : Pat s ds P) (ht : total s = ds.length) : Rdo (start s) (allOff s.length P) P := by
 intro j k hk
 have hj : j < s.length := by
  rcases Nat.lt_or_ge j s.length with h1 | h1
  ·exact h1
  ·rw [vis_none (l := s) (ds := ds) h.range j h1] at hk
   simp at hk
 exact (allOff_at s.length P s hn (Nat.le_refl _) (h.count hn ht) j k hj hk).symm
theorem pat_exists : ∀ (ds l : List Int), Nonneg l → (∀ (i : Nat) (hi : i < ds.length), 0 ≤ ds[i] ∧ ds[i] < total l - i) → ∃ P, Pat l ds P := by
 intro ds
 induction ds with
 | nil => intro l _ _; exact ⟨[], .nil l⟩
 | cons d ds ih =>
  intro l hn h
  have h0 := h 0 (by simp)
  simp only [List.getElem_cons_zero] at h0
  obtain ⟨j, hj, o, o0, o1, e⟩ := place_exists hn d h0.1 (by omega)
  obtain ⟨P, hP⟩ := ih (dec l j) (dec_nonneg hn j hj (by omega)) (fun i hi => by
   have := h (i + 1) (by simpa using hi)
   simp only [List.getElem_cons_succ] at this
   rw [dec_total l j hj]
   omega)
  exact ⟨_, .cons hj o0 o1 e hP⟩
end Go.Proofs.Ytbnifpfnjhdenaa.Pl
end
section
set_option linter.unusedVariables false
set_option linter.unusedSimpArgs false
namespace Go.Proofs.Ytbnifpfnjhdenaa.Pl
open Go.RowKit Go.Proofs.Ytbnifpfnjhdenaa.Q Go.Proofs.YtbnifpfnjhdenaaW.PrintWords Go.Proofs.YtbnifpfnjhdenaaW.PrintLast
structure OkS (s : List Int) : Prop where
 one : 1 ≤ s.length
 most : s.length ≤ 64
 each : ∀ x ∈ s, 0 ≤ x ∧ x ≤ 256
 all : Go.Proofs.Ytbnifpfnjhdenaa.Pl.total s ≤ 256
theorem OkS.nonneg {s : List Int} (h : OkS s) : Nonneg s := fun x hx => (h.each x hx).1
theorem psum_up (s : List Int) (hb : ∀ x ∈ s, 0 ≤ x ∧ x ≤ 256) : ∀ i : Nat, i ≤ s.length → 0 ≤ psum s i ∧ psum s i ≤ 256 * i := by
 intro i
 induction i with
 | zero => intro _; simp [psum_zero]
 | succ i ih =>
  intro hi
  have h1 := ih (by omega)
  have h2 := hb _ (List.getElem_mem (show i < s.length by omega))
  have h3 := psum_succ s i (by omega)
  omega
theorem total_ev (s : List Int) (hl : s.length ≤ 9223372036854775000) : ∃ (n : Int) (b : Bool), Ev (fun k => braid_total.f k s) (n, b) ∧ (b = true ↔ OkS s) ∧ (OkS s → n = total s) := by
 unfold braid_total.f
 by_cases h1 : s.length < 1
 ·exact ⟨0, false, ev_pos (by omega) (Ev.step (f := fun _ => some (0, false)) (fun k => by rw [braid_total.j0, if_pos rfl]) (Ev.now _)), by simp; intro h; have := h.one; omega, fun h => by have := h.one; omega⟩
 ·by_cases h2 : s.length > 64
  ·exact ⟨0, false, ev_neg (by omega) (Ev.step (f := fun _ => some (0, false)) (fun k => by rw [braid_total.j0, if_pos (by simp; omega)]) (Ev.now _)), by simp; intro h; have := h.most; omega, fun h => by have := h.most; omega⟩
  ·have key : ∀ (d i : Nat), i + d = s.length → (∀ x ∈ s.take i, 0 ≤ x ∧ x ≤ 256) → ∃ (n : Int) (b : Bool), Ev (fun k => braid_total.l0 k (psum s i) s (s.length : Int) (i : Int)) (n, b) ∧ (b = true ↔ OkS s) ∧ (OkS s → n = total s) := by
    intro d
    induction d with
    | zero =>
     intro i hi hb
     rw [List.take_of_length_le (by omega)] at hb
     refine ⟨psum s i, decide (psum s i ≤ 256), Ev.step (f := fun _ => some (psum s i, decide (psum s i ≤ 256))) (fun k => by rw [braid_total.l0, if_neg (by omega)]) (Ev.now _), ?_, fun _ => psum_all s i (by omega)⟩
     rw [psum_all s i (by omega)]
     exact ⟨fun h => ⟨by omega, by omega, hb, by simpa using h⟩, fun h => by simpa using h.all⟩
    | succ d ih =>
     intro i hi hb
     have hm := rd_mem s (i : Int) (by simp; omega)
     have hlt : i < s.length := by omega
     by_cases c1 : rd s (i : Int) < 0
     ·exact ⟨0, false, Ev.step (f := fun _ => some (0, false)) (fun k => by rw [braid_total.l0, if_pos (by omega), if_pos (by omega), if_pos (by omega), if_pos c1]) (Ev.now _), by simp; intro h; have := (h.each _ hm).1; omega, fun h => by have := (h.each _ hm).1; omega⟩
     ·by_cases c2 : rd s (i : Int) > 256
      ·exact ⟨0, false, Ev.step (f := fun _ => some (0, false)) (fun k => by rw [braid_total.l0, if_pos (by omega), if_pos (by omega), if_pos (by omega), if_neg c1, if_pos c2]) (Ev.now _), by simp; intro h; have := (h.each _ hm).2; omega, fun h => by have := (h.each _ hm).2; omega⟩
      ·have hb' : ∀ x ∈ s.take (i + 1), 0 ≤ x ∧ x ≤ 256 := by
        rw [take_rd s i hlt]
        intro x hx
        rcases List.mem_append.1 hx with hx | hx
        ·exact hb x hx
        ·have := List.mem_singleton.1 hx; subst this; omega
       obtain ⟨n, b, e, r⟩ := ih (i + 1) (by omega) hb'
       have hps : psum s (i + 1) = psum s i + rd s (i : Int) := by rw [psum_succ s i hlt, rd_lt s i hlt]
       have hup := psum_up (s.take (i + 1)) hb' (i + 1) (by rw [List.length_take]; omega)
       have hpp : psum (s.take (i + 1)) (i + 1) = psum s (i + 1) := by unfold psum; rw [List.take_take, Nat.min_self]
       rw [hpp] at hup
       have hpos : 0 ≤ psum s i := by
        have := psum_up (s.take (i + 1)) hb' i (by rw [List.length_take]; omega)
        have hq : psum (s.take (i + 1)) i = psum s i := by unfold psum; rw [List.take_take, Nat.min_eq_left (by omega)]
        rw [hq] at this
        exact this.1
       refine ⟨n, b, Ev.step (fun k => ?_) e, r⟩
       rw [braid_total.l0, if_pos (by omega), if_pos (by omega), if_pos (by omega), if_neg c1, if_neg c2, w64 (by omega) (by omega), w64 (by omega) (by omega), hps]
       rfl
   obtain ⟨n, b, e, r⟩ := key s.length 0 (by omega) (by simp)
   refine ⟨n, b, ev_neg (by omega) (Ev.step (fun k => ?_) e), r⟩
   rw [braid_total.j0, if_neg (by simp; omega)]
   simp [psum_zero]
def fsts (P : List (Nat × Int)) : List Int := P.map fun x => (x.1 : Int)
theorem fsts_append (P Q : List (Nat × Int)) : fsts (P ++ Q) = fsts P ++ fsts Q := by simp [fsts]
theorem vis_append (j : Nat) (P Q : List (Nat × Int)) : vis j (P ++ Q) = vis j P ++ vis j Q := by simp [vis]
def visits (m : Nat) (P : List (Nat × Int)) : List (List Int) := (List.range m).map fun j => vis j P
theorem visits_len (m : Nat) (P : List (Nat × Int)) : (visits m P).length = m := by simp [visits]
theorem visits_get (m : Nat) (P : List (Nat × Int)) (j : Nat) (hj : j < m) : rd_L3 (visits m P) (j : Int) = vis j P := by simp [rd_L3, visits, hj]
theorem visits_set (m : Nat) (P : List (Nat × Int)) (j : Nat) (hj : j < m) (o : Int) : (visits m P).set j (vis j P ++ [o]) = visits m (P ++ [(j, o)]) := by
 apply List.ext_getElem
 ·simp [visits]
 ·intro i h1 h2
  rw [List.getElem_set]
  have hi : i < m := by simpa [visits] using h2
  by_cases e : j = i
  ·subst e; simp [visits, vis_append, vis_cons, vis_nil]
  ·simp [visits, vis_append, vis_cons, vis_nil, e]
theorem visits_nil (m : Nat) : visits m [] = List.replicate m [] := by
 apply List.ext_getElem
 ·simp [visits]
 ·intro i h1 h2; simp [visits, vis_nil]
theorem vis_le (j : Nat) (P : List (Nat × Int)) : (vis j P).length ≤ P.length := by
 unfold vis
 rw [List.length_map]
 exact List.length_filter_le _ _
theorem allOff_le (P : List (Nat × Int)) (m : Nat) : (allOff m P).length ≤ m * P.length := by
 induction m with
 | zero => simp [allOff]
 | succ m ih =>
  rw [allOff_succ, List.length_append, Nat.succ_mul]
  have := vis_le m P
  omega
theorem pat_flat (c : List Int) (m : Nat) (P : List (Nat × Int)) (hm : m ≤ 64) (hP : P.length ≤ 256) : Ev (fun k => braid_Pattern.l2 k c [] (visits m P) ((visits m P).length : Int) 0) (c, allOff m P, 0) := by
 have key : ∀ (d i : Nat), i + d = m → Ev (fun k => braid_Pattern.l2 k c (allOff i P) (visits m P) ((visits m P).length : Int) (i : Int)) (c, allOff m P, 0) := by
  intro d
  induction d with
  | zero =>
   intro i hi
   have : i = m := by omega
   subst this
   exact Ev.step (f := fun _ => some (c, allOff i P, 0)) (fun k => by rw [braid_Pattern.l2, if_neg (by rw [visits_len]; omega)]) (Ev.now _)
  | succ d ih =>
   intro i hi
   have hlen := visits_len m P
   have h1 := vis_le i P
   have h2 := allOff_le P i
   have h3 : i * P.length ≤ 64 * 256 := Nat.mul_le_mul (by omega) hP
   refine Ev.step (fun k => ?_) (ih (i + 1) (by omega))
   rw [braid_Pattern.l2, if_pos (by omega), if_pos (by omega), if_pos (by omega), visits_get m P i (by omega), if_pos (by omega), w64 (by omega) (by omega), allOff_succ]
   rfl
 have := key m 0 (by omega)
 simpa [allOff] using this
theorem pat_find (x4 : List Int) (n : Int) (left : List Int) (Pd : List (Nat × Int)) (ds : List Int) (i : Nat) (R : List Int × List Int × Int) (hn : Nonneg left) (hm : left.length ≤ 64) (ht : total left ≤ 256) (hx : x4.length ≤ 1000) (hPd : Pd.length ≤ 1000) (hi : i < ds.length) (hds : ds.length ≤ 256)
  (j : Nat) (hj : j < left.length) (o : Int) (o0 : 0 ≤ o) (o1 : o < left[j])
  (next : Ev (fun k => braid_Pattern.l0 k (x4 ++ [(j : Int)]) [] n (dec left j) (visits left.length (Pd ++ [(j, o)])) ds (ds.length : Int) ((i + 1 : Nat) : Int)) R) :
  ∀ (t a : Nat), a + t = j → Ev (fun k => braid_Pattern.l1 k x4 [] n left (visits left.length Pd) (psum left j + o - psum left a) (a : Int) ds (ds.length : Int) (i : Int)) R := by
 intro t
 induction t with
 | zero =>
  intro a ha
  have : a = j := by omega
  subst this
  have hv := visits_get left.length Pd a hj
  have hvl := vis_le a Pd
  have hr : rd left (a : Int) = left[a] := rd_lt left a hj
  have hlt := psum_total hn (a + 1)
  have hge := psum_nonneg hn a
  rw [psum_succ left a hj] at hlt
  have hpos := hn.at_ a hj
  refine Ev.step (fun k => ?_) next
  have hdec : left.set ((a : Int).toNat) (wrap64 (rd left (a : Int) - 1)) = dec left a := by
   rw [w64 (by rw [hr]; omega) (by rw [hr]; omega), hr]
   simp [dec, List.getD_eq_getElem?_getD, hj]
  rw [braid_Pattern.l1, if_pos (by omega), if_pos (by omega), if_neg (by rw [hr]; omega), if_pos (by omega), if_pos (by rw [visits_len]; omega), hv, if_pos (by omega), hdec, w64 (by omega) (by omega),
   show psum left a + o - psum left a = o from by omega, show ((a : Int).toNat) = a from by omega, visits_set left.length Pd a hj o]
  rfl
 | succ t ih =>
  intro a ha
  have hal : a < left.length := by omega
  have hr : rd left (a : Int) = left[a] := rd_lt left a hal
  have h1 := psum_succ left a hal
  have h2 := psum_le hn (a + 1) j (by omega)
  have h3 := psum_total hn (j + 1)
  rw [psum_succ left j hj] at h3
  have h4 := psum_nonneg hn a
  have h5 := hn.at_ a hal
  refine Ev.step (fun k => ?_) (ih (a + 1) (by omega))
  rw [braid_Pattern.l1, if_pos (by omega), if_pos (by omega), if_pos (by rw [hr]; omega), w64 (by rw [hr]; omega) (by rw [hr]; omega), w64 (by omega) (by omega), hr, h1,
   show psum left j + o - psum left a - left[a] = psum left j + o - (psum left a + left[a]) from by omega]
  rfl
theorem pat_loop (ds : List Int) (m : Nat) (hm : m ≤ 64) (hds : ds.length ≤ 256) : ∀ (rem i : Nat) (left : List Int) (Pd : List (Nat × Int)), i + rem = ds.length → total left = rem → Nonneg left → left.length = m → Pd.length = i →
  (∃ P, Pat left (ds.drop i) P ∧ Ev (fun k => braid_Pattern.l0 k (fsts Pd) [] (ds.length : Int) left (visits m Pd) ds (ds.length : Int) (i : Int)) (fsts (Pd ++ P), allOff m (Pd ++ P), 0)) ∨
  ((∃ t, i ≤ t ∧ ∃ h : t < ds.length, ds[t] < 0 ∨ (ds.length : Int) - t ≤ ds[t]) ∧ Ev (fun k => braid_Pattern.l0 k (fsts Pd) [] (ds.length : Int) left (visits m Pd) ds (ds.length : Int) (i : Int)) ([], [], 2)) := by
 intro rem
 induction rem with
 | zero =>
  intro i left Pd hi ht hn hl hPd
  left
  refine ⟨[], by rw [List.drop_of_length_le (by omega)]; exact .nil left, ?_⟩
  rw [List.append_nil]
  refine Ev.step (fun k => ?_) (pat_flat (fsts Pd) m Pd hm (by omega))
  rw [braid_Pattern.l0, if_neg (by omega)]
 | succ rem ih =>
  intro i left Pd hi ht hn hl hPd
  have hlt : i < ds.length := by omega
  have hr : rd ds (i : Int) = ds[i] := rd_lt ds i hlt
  have hw : wrap64 ((ds.length : Int) - (i : Int)) = (ds.length : Int) - i := w64 (by omega) (by omega)
  by_cases c1 : ds[i] < 0
  ·right
   refine ⟨⟨i, by omega, hlt, .inl c1⟩, ?_⟩
   refine Ev.step (f := fun k => braid_Pattern.j2 k (fsts Pd) [] (ds.length : Int) left (visits m Pd) (rd ds (i : Int)) ds (ds.length : Int) (i : Int) true) (fun k => ?_) (Ev.step (f := fun _ => some ([], [], 2)) (fun k => by rw [braid_Pattern.j2, if_pos rfl]) (Ev.now _))
   rw [braid_Pattern.l0, if_pos (by omega), if_pos (by omega), if_pos (by omega), if_pos (by rw [hr]; exact c1)]
  ·by_cases c2 : (ds.length : Int) - i ≤ ds[i]
   ·right
    refine ⟨⟨i, by omega, hlt, .inr c2⟩, ?_⟩
    refine Ev.step (f := fun k => braid_Pattern.j2 k (fsts Pd) [] (ds.length : Int) left (visits m Pd) (rd ds (i : Int)) ds (ds.length : Int) (i : Int) true) (fun k => ?_) (Ev.step (f := fun _ => some ([], [], 2)) (fun k => by rw [braid_Pattern.j2, if_pos rfl]) (Ev.now _))
    rw [braid_Pattern.l0, if_pos (by omega), if_pos (by omega), if_pos (by omega), if_neg (by rw [hr]; exact c1), hw, decide_eq_true (show rd ds (i : Int) ≥ (ds.length : Int) - i by rw [hr]; exact c2)]
   ·obtain ⟨j, hj, o, o0, o1, e⟩ := place_exists hn ds[i] (by omega) (by omega)
    have hdrop : ds.drop i = ds[i] :: ds.drop (i + 1) := List.drop_eq_getElem_cons hlt
    have hstep : ∀ R, Ev (fun k => braid_Pattern.l0 k (fsts (Pd ++ [(j, o)])) [] (ds.length : Int) (dec left j) (visits m (Pd ++ [(j, o)])) ds (ds.length : Int) ((i + 1 : Nat) : Int)) R →
      Ev (fun k => braid_Pattern.l0 k (fsts Pd) [] (ds.length : Int) left (visits m Pd) ds (ds.length : Int) (i : Int)) R := by
     intro R hR
     subst hl
     have hR' : Ev (fun k => braid_Pattern.l0 k (fsts Pd ++ [(j : Int)]) [] (ds.length : Int) (dec left j) (visits left.length (Pd ++ [(j, o)])) ds (ds.length : Int) ((i + 1 : Nat) : Int)) R := by
      rw [fsts_append] at hR
      exact hR
     have h0 := pat_find (fsts Pd) (ds.length : Int) left Pd ds i R hn (by omega) (by omega) (by simp [fsts]; omega) (by omega) hlt hds j hj o o0 o1 hR' j 0 (by omega)
     refine Ev.step (f := fun k => braid_Pattern.j2 k (fsts Pd) [] (ds.length : Int) left (visits left.length Pd) (rd ds (i : Int)) ds (ds.length : Int) (i : Int) false) (fun k => ?_) (Ev.step (fun k => ?_) h0)
     ·rw [braid_Pattern.l0, if_pos (by omega), if_pos (by omega), if_pos (by omega), if_neg (by rw [hr]; exact c1), hw, decide_eq_false (show ¬ rd ds (i : Int) ≥ (ds.length : Int) - i by rw [hr]; exact c2)]
     ·rw [braid_Pattern.j2, if_neg (by simp), hr, e, psum_zero, Int.sub_zero]
      rfl
    rcases ih (i + 1) (dec left j) (Pd ++ [(j, o)]) (by omega) (by rw [dec_total left j hj]; omega) (dec_nonneg hn j hj (by omega)) (by rw [dec_length]; exact hl) (by simp; omega) with ⟨P, hP, hE⟩ | ⟨⟨t, h1, h2, h3⟩, hE⟩
    ·left
     refine ⟨(j, o) :: P, by rw [hdrop]; exact .cons hj o0 o1 e hP, ?_⟩
     have := hstep _ hE
     rwa [List.append_assoc, List.singleton_append] at this
    ·right
     exact ⟨⟨t, by omega, h2, h3⟩, hstep _ hE⟩
def OkD (s ds : List Int) : Prop := OkS s ∧ (ds.length : Int) = total s ∧ ∀ (t : Nat) (h : t < ds.length), 0 ≤ ds[t] ∧ ds[t] < (ds.length : Int) - t
theorem pattern_good (s ds : List Int) (hs : OkS s) (hl : (ds.length : Int) = total s) : (∃ P, Pat s ds P ∧ Ev (fun k => braid_Pattern.f k s ds) (fsts P, allOff s.length P, 0)) ∨ (¬ OkD s ds ∧ Ev (fun k => braid_Pattern.f k s ds) ([], [], 2)) := by
 have hm := hs.most
 obtain ⟨n, b, e, hb, hn⟩ := total_ev s (by omega)
 have hbt := hb.2 hs
 have hnt := hn hs
 subst hbt
 have hal := hs.all
 have hin : ∀ R, Ev (fun k => braid_Pattern.l0 k (fsts []) [] (ds.length : Int) s (visits s.length []) ds (ds.length : Int) ((0 : Nat) : Int)) R → Ev (fun k => braid_Pattern.f k s ds) R := by
  intro R hR
  unfold braid_Pattern.f
  refine ev_bind e (ev_pos rfl (Ev.step (fun k => ?_) hR))
  rw [braid_Pattern.j0, if_neg (by simp; omega)]
  simp only [Option.bind_some, List.nil_append, List.length_nil]
  rw [if_pos (by omega), if_pos (by omega), if_pos (by omega), visits_nil, show ((s.length : Int).toNat) = s.length from by omega, show n = (ds.length : Int) from by omega]
  rfl
 rcases pat_loop ds s.length hm (by omega) ds.length 0 s [] (by omega) (by omega) hs.nonneg rfl rfl with ⟨P, hP, hE⟩ | ⟨⟨t, h1, h2, h3⟩, hE⟩
 ·left
  rw [List.nil_append] at hE
  exact ⟨P, by simpa using hP, hin _ hE⟩
 ·right
  refine ⟨fun h => ?_, hin _ hE⟩
  have := h.2.2 t h2
  omega
end Go.Proofs.Ytbnifpfnjhdenaa.Pl
end
section
set_option linter.unusedVariables false
set_option linter.unusedSimpArgs false
namespace Go.Proofs.Ytbnifpfnjhdenaa.Pl
open Go.RowKit Go.Proofs.Ytbnifpfnjhdenaa.Q Go.Proofs.YtbnifpfnjhdenaaW.PrintWords Go.Proofs.YtbnifpfnjhdenaaW.PrintLast
def tab (m : Nat) (f : Nat → Int) : List Int := (List.range m).map f
theorem tab_len (m : Nat) (f : Nat → Int) : (tab m f).length = m := by simp [tab]
theorem tab_rd (m : Nat) (f : Nat → Int) (j : Nat) (hj : j < m) : rd (tab m f) (j : Int) = f j := by simp [rd, tab, hj]
theorem tab_set (m : Nat) (f : Nat → Int) (j : Nat) (v : Int) : (tab m f).set j v = tab m (fun i => if i = j then v else f i) := by
 apply List.ext_getElem
 ·simp [tab]
 ·intro i h1 h2
  rw [List.getElem_set]
  by_cases e : j = i
  ·subst e; simp [tab]
  ·simp [tab, e, Ne.symm e]
theorem tab_congr (m : Nat) (f g : Nat → Int) (h : ∀ j, j < m → f j = g j) : tab m f = tab m g := by
 unfold tab
 exact List.map_congr_left fun j hj => h j (List.mem_range.1 hj)
def Told (l : List Int) (nx : Nat → Nat) (c off ds : List Int) (P : List (Nat × Int)) : Prop := Pat l ds P ∧ fsts P = c ∧ Rdo nx off P
theorem Told.head {l : List Int} {nx : Nat → Nat} {x : Int} {c off ds : List Int} {P : List (Nat × Int)} (h : Told l nx (x :: c) off ds P) :
  ∃ (j : Nat) (hj : j < l.length) (o : Int) (es : List Int) (Q : List (Nat × Int)), x = (j : Int) ∧ o = off.getD (nx j) 0 ∧ 0 ≤ o ∧ o < l[j] ∧ ds = (psum l j + o) :: es ∧ P = (j, o) :: Q ∧ Told (dec l j) (fun i => if i = j then nx j + 1 else nx i) c off es Q := by
 obtain ⟨h1, h2, h3⟩ := h
 cases h1 with
 | nil => simp [fsts] at h2
 | @cons _ es Q d o j hj h0 h1 hd t =>
  obtain ⟨a, b⟩ := h3.uncons
  simp [fsts] at h2
  exact ⟨j, hj, o, es, Q, h2.1.symm, a, h0, h1, by rw [hd], rfl, t, by simp [fsts]; exact h2.2, b⟩
theorem draws_sum (s off left nxl out c : List Int) (j : Nat) (o : Int) (n i : Int) (R : List Int × Int) (hj : j < left.length) (hn : Nonneg left) (hb : total left ≤ 256) (hm : left.length ≤ 64) (h0 : 0 ≤ o) (h1 : o ≤ 256)
  (next : Ev (fun k => if out.length < 17592186044416 then (if 0 ≤ (j : Int) then (if (j : Int) < (left.length : Int) then (if (j : Int) < (nxl.length : Int) then (braid_Draws.l1 k s off (left.set ((j : Int) : Int).toNat (wrap64 ((rd left (j : Int)) - 1))) (nxl.set ((j : Int) : Int).toNat (wrap64 ((rd nxl (j : Int)) + 1))) (out ++ [psum left j + o]) c n (wrap64 (i + 1))) else (none)) else (none)) else (none)) else (none)) R) :
  Ev (fun k => braid_Draws.l2 k s off left nxl out (j : Int) o c n i (left.take j) ((left.take j).length : Int) 0) R := by
 have key : ∀ (t a : Nat), a + t = j → Ev (fun k => braid_Draws.l2 k s off left nxl out (j : Int) (psum left a + o) c n i (left.take j) ((left.take j).length : Int) (a : Int)) R := by
  intro t
  induction t with
  | zero =>
   intro a ha
   have : a = j := by omega
   subst this
   refine Ev.step (fun k => ?_) next
   rw [braid_Draws.l2, if_neg (by rw [List.length_take]; omega)]
  | succ t ih =>
   intro a ha
   have hlt : (left.take j).length = j := by rw [List.length_take]; omega
   have hr : rd (left.take j) (a : Int) = left[a] := by
    rw [rd_lt _ a (by omega)]
    simp
   have h2 := psum_succ left a (by omega)
   have h3 := psum_nonneg hn a
   have h4 := psum_total hn (a + 1)
   have h5 := hn.at_ a (by omega)
   refine Ev.step (fun k => ?_) (ih (a + 1) (by omega))
   rw [braid_Draws.l2, if_pos (by omega), if_pos (by omega), if_pos (by omega), hr, w64 (by omega) (by omega), w64 (by omega) (by omega), h2, show psum left a + o + left[a] = psum left a + left[a] + o from by omega]
   rfl
 have := key j 0 (by omega)
 rw [psum_zero, Int.zero_add] at this
 exact this
theorem draws_loop (s off c : List Int) (m : Nat) (hs : s.length = m) (hm : m ≤ 64) (hc : c.length ≤ 256) (hoff : off.length ≤ 256) (hsn : Nonneg s) (hso : total s ≤ off.length) :
  ∀ (rem i : Nat) (left : List Int) (nx : Nat → Nat) (out : List Int), i + rem = c.length → Nonneg left → total left ≤ 256 → left.length = m → out.length ≤ 256 → (∀ x ∈ left, x ≤ 256) → (∀ j, j < m → (nx j : Int) + left.getD j 0 = psum s (j + 1)) → out.length = i →
  (∃ ds P, Told left nx (c.drop i) off ds P ∧ Ev (fun k => braid_Draws.l1 k s off left (tab m fun j => nx j) out c (c.length : Int) (i : Int)) (out ++ ds, 0)) ∨
  ((¬ ∃ ds P, Told left nx (c.drop i) off ds P) ∧ Ev (fun k => braid_Draws.l1 k s off left (tab m fun j => nx j) out c (c.length : Int) (i : Int)) ([], 2)) := by
 intro rem
 induction rem with
 | zero =>
  intro i left nx out hi hn hb hl ho hmx hnx hout
  left
  refine ⟨[], [], ⟨.nil left, by rw [List.drop_of_length_le (by omega)]; rfl, fun j k hk => by simp [vis_nil] at hk⟩, ?_⟩
  rw [List.append_nil]
  exact Ev.step (f := fun _ => some (out, 0)) (fun k => by rw [braid_Draws.l1, if_neg (by omega)]) (Ev.now _)
 | succ rem ih =>
  intro i left nx out hi hn hb hl ho hmx hnx hout
  have hlt : i < c.length := by omega
  have hr : rd c (i : Int) = c[i] := rd_lt c i hlt
  have hdrop : c.drop i = c[i] :: c.drop (i + 1) := List.drop_eq_getElem_cons hlt
  have bad3 : ∀ x : Bool, x = true → Ev (fun k => braid_Draws.j3 k s off left (tab m fun j => nx j) out c[i] c (c.length : Int) (i : Int) x) ([], 2) := fun x hx => Ev.step (f := fun _ => some ([], 2)) (fun k => by rw [braid_Draws.j3, if_pos hx]) (Ev.now _)
  by_cases c1 : c[i] < 0
  ·right
   refine ⟨?_, Ev.step (fun k => ?_) (bad3 true rfl)⟩
   ·rintro ⟨ds, P, h⟩
    rw [hdrop] at h
    obtain ⟨j, hj, o, es, Q, e, _⟩ := h.head
    omega
   ·rw [braid_Draws.l1, if_pos (by omega), if_pos (by omega), if_pos (by omega), hr, if_pos c1]
  ·by_cases c2 : c[i] ≥ (s.length : Int)
   ·right
    refine ⟨?_, Ev.step (fun k => ?_) (bad3 true rfl)⟩
    ·rintro ⟨ds, P, h⟩
     rw [hdrop] at h
     obtain ⟨j, hj, o, es, Q, e, _⟩ := h.head
     omega
    ·rw [braid_Draws.l1, if_pos (by omega), if_pos (by omega), if_pos (by omega), hr, if_neg c1, if_pos c2]
   ·obtain ⟨j, hj⟩ : ∃ j : Nat, c[i] = (j : Int) := ⟨c[i].toNat, by omega⟩
    have hjm : j < m := by omega
    have hjl : j < left.length := by omega
    have hrl : rd left (j : Int) = left[j] := rd_lt left j hjl
    have hrn : rd (tab m fun j => (nx j : Int)) (j : Int) = (nx j : Int) := tab_rd m _ j hjm
    have htl := tab_len m fun j => (nx j : Int)
    have hgl : left.getD j 0 = left[j] := by simp [List.getD_eq_getElem?_getD, hjl]
    have hpos := hn.at_ j hjl
    have hjx := hnx j hjm
    have hps := psum_total hsn (j + 1)
    have hmj := hmx _ (List.getElem_mem hjl)
    have step3 : ∀ R, Ev (fun k => braid_Draws.j3 k s off left (tab m fun j => nx j) out (j : Int) c (c.length : Int) (i : Int) (left[j] == 0)) R → Ev (fun k => braid_Draws.l1 k s off left (tab m fun j => nx j) out c (c.length : Int) (i : Int)) R := by
     intro R hR
     refine Ev.step (fun k => ?_) hR
     rw [braid_Draws.l1, if_pos (by omega), if_pos (by omega), if_pos (by omega), hr, hj, if_neg (by omega), if_neg (by omega), if_pos (by omega), if_pos (by omega), hrl]
    by_cases c3 : left[j] = 0
    ·right
     refine ⟨?_, step3 _ (by rw [← hj]; exact bad3 _ (by simpa using c3))⟩
     rintro ⟨ds, P, h⟩
     rw [hdrop] at h
     obtain ⟨j', hj', o, es, Q, e, eo, o0, o1, _⟩ := h.head
     have : j' = j := by omega
     subst this
     omega
    ·have hno : nx j < off.length := by omega
     have hro : rd off (nx j : Int) = off[nx j] := rd_lt off (nx j) hno
     have hgo : off.getD (nx j) 0 = off[nx j] := by simp [List.getD_eq_getElem?_getD, hno]
     have c3' : (left[j] == 0) = false := by simpa using c3
     have bad4 : ∀ x : Bool, x = true → Ev (fun k => braid_Draws.j4 k s off left (tab m fun j => nx j) out (j : Int) off[nx j] c (c.length : Int) (i : Int) x) ([], 2) := fun x hx => Ev.step (f := fun _ => some ([], 2)) (fun k => by rw [braid_Draws.j4, if_pos hx]) (Ev.now _)
     by_cases c4 : off[nx j] < 0
     ·right
      refine ⟨?_, step3 _ (Ev.step (fun k => ?_) (bad4 true rfl))⟩
      ·rintro ⟨ds, P, h⟩
       rw [hdrop] at h
       obtain ⟨j', hj', o, es, Q, e, eo, o0, o1, _⟩ := h.head
       have : j' = j := by omega
       subst this
       omega
      ·rw [braid_Draws.j3, if_neg (by simp [c3]), if_pos (by omega), if_pos (by omega), hrn, if_pos (by omega), if_pos (by omega), hro, if_pos c4]
     ·have step4 : ∀ R, Ev (fun k => braid_Draws.j4 k s off left (tab m fun j => nx j) out (j : Int) off[nx j] c (c.length : Int) (i : Int) (decide (off[nx j] ≥ left[j]))) R → Ev (fun k => braid_Draws.l1 k s off left (tab m fun j => nx j) out c (c.length : Int) (i : Int)) R := by
       intro R hR
       refine step3 _ (Ev.step (fun k => ?_) hR)
       rw [braid_Draws.j3, if_neg (by simp [c3]), if_pos (by omega), if_pos (by omega), hrn, if_pos (by omega), if_pos (by omega), hro, if_neg c4, if_pos (by omega), hrl]
      by_cases c5 : off[nx j] ≥ left[j]
      ·right
       refine ⟨?_, step4 _ (bad4 _ (by simpa using c5))⟩
       rintro ⟨ds, P, h⟩
       rw [hdrop] at h
       obtain ⟨j', hj', o, es, Q, e, eo, o0, o1, _⟩ := h.head
       have : j' = j := by omega
       subst this
       omega
      ·have hdec : left.set j (wrap64 (left[j] - 1)) = dec left j := by
        rw [w64 (by omega) (by omega)]
        unfold dec
        rw [hgl]
       have hnxs : (tab m fun j => (nx j : Int)).set j (wrap64 ((nx j : Int) + 1)) = tab m (fun i => ((if i = j then nx j + 1 else nx i : Nat) : Int)) := by
        rw [w64 (by omega) (by omega), tab_set]
        refine tab_congr m _ _ fun a ha => ?_
        by_cases e : a = j
        ·simp [e]
        ·simp [e]
       have step5 : ∀ R, Ev (fun k => braid_Draws.l1 k s off (dec left j) (tab m (fun i => ((if i = j then nx j + 1 else nx i : Nat) : Int))) (out ++ [psum left j + off[nx j]]) c (c.length : Int) ((i + 1 : Nat) : Int)) R →
         Ev (fun k => braid_Draws.l1 k s off left (tab m fun j => nx j) out c (c.length : Int) (i : Int)) R := by
        intro R hR
        have h6 := draws_sum s off left (tab m fun j => (nx j : Int)) out c j off[nx j] (c.length : Int) (i : Int) R hjl hn hb (by omega) (by omega) (by omega) (by
         refine ev_pos (by omega) (ev_pos (by omega) (ev_pos (by omega) (ev_pos (by omega) ?_)))
         rw [hrl, hrn, show ((j : Int) : Int).toNat = j from by omega, hdec, hnxs, w64 (by omega) (by omega)]
         exact hR)
        refine step4 _ (Ev.step (fun k => ?_) h6)
        rw [braid_Draws.j4, if_neg (by simp; omega), if_pos (by omega), if_pos (by omega), show ((j : Int) : Int).toNat = j from by omega]
        rfl
       have hnn := dec_nonneg hn j hjl (by omega)
       rcases ih (i + 1) (dec left j) (fun a => if a = j then nx j + 1 else nx a) (out ++ [psum left j + off[nx j]]) (by omega) hnn (by rw [dec_total left j hjl]; omega) (by rw [dec_length]; exact hl) (by simp; omega) (by
         intro x hx
         obtain ⟨a, ha, rfl⟩ := List.getElem_of_mem hx
         rw [dec_length] at ha
         rw [dec_get left j a ha]
         have := hmx _ (List.getElem_mem ha)
         split <;> omega) (by
         intro a ha
         rw [dec_getD left j a (by omega)]
         have := hnx a ha
         by_cases e : a = j
         ·subst e
          simp only [if_true]
          omega
         ·simp only [if_neg e, if_neg (Ne.symm e)]
          exact this) (by simp; omega) with ⟨ds, P, hP, hE⟩ | ⟨hP, hE⟩
       ·left
        refine ⟨(psum left j + off[nx j]) :: ds, (j, off[nx j]) :: P, ?_, ?_⟩
        ·rw [hdrop]
         exact ⟨.cons hjl (by omega) (by omega) rfl hP.1, by simp only [fsts, List.map_cons]; rw [← hj]; have := hP.2.1; unfold fsts at this; rw [this], Rdo.cons hgo.symm hP.2.2⟩
        ·have := step5 _ hE
         rwa [List.append_assoc, List.singleton_append] at this
       ·right
        refine ⟨?_, step5 _ hE⟩
        rintro ⟨ds, P, h⟩
        rw [hdrop] at h
        obtain ⟨j', hj', o, es, Q, e, eo, o0, o1, _, _, ht⟩ := h.head
        have : j' = j := by omega
        subst this
        exact hP ⟨es, Q, ht⟩
theorem draws_good (s c off : List Int) (hs : OkS s) (hc : (c.length : Int) = total s) (ho : (off.length : Int) = total s) :
  (∃ ds P, Told s (start s) c off ds P ∧ Ev (fun k => braid_Draws.f k s c off) (ds, 0)) ∨ ((¬ ∃ ds P, Told s (start s) c off ds P) ∧ Ev (fun k => braid_Draws.f k s c off) ([], 2)) := by
 have hm := hs.most
 have hal := hs.all
 have hone := hs.one
 obtain ⟨n, b, e, hb, hn⟩ := total_ev s (by omega)
 have hbt := hb.2 hs
 have hnt := hn hs
 subst hbt
 have hnn := hs.nonneg
 have hin : ∀ R, Ev (fun k => braid_Draws.l1 k s off s (tab s.length fun j => (start s j : Nat)) [] c (c.length : Int) ((0 : Nat) : Int)) R → Ev (fun k => braid_Draws.f k s c off) R := by
  intro R hR
  have key : ∀ (d a : Nat), a + d = s.length → 1 ≤ a → Ev (fun k => braid_Draws.l0 k s c off n s (tab s.length fun j => if j < a then psum s j else 0) (a : Int)) R := by
   intro d
   induction d with
   | zero =>
    intro a ha h1
    refine Ev.step (fun k => ?_) hR
    rw [braid_Draws.l0, if_neg (by omega), if_pos (by omega), if_pos (by omega)]
    have : (tab s.length fun j => if j < a then psum s j else 0) = tab s.length fun j => ((start s j : Nat) : Int) := tab_congr _ _ _ fun j hj => by
     have := psum_nonneg hnn j
     unfold start
     rw [if_pos (by omega)]
     omega
    rw [this]
    rfl
   | succ d ih =>
    intro a ha h1
    have htl := tab_len s.length fun j => if j < a then psum s j else 0
    have hw : wrap64 ((a : Int) - 1) = ((a - 1 : Nat) : Int) := by rw [w64 (by omega) (by omega)]; omega
    have h2 := psum_succ s (a - 1) (by omega)
    rw [show a - 1 + 1 = a from by omega] at h2
    have h3 := psum_nonneg hnn a
    have h4 := psum_total hnn a
    refine Ev.step (fun k => ?_) (ih (a + 1) (by omega) (by omega))
    rw [braid_Draws.l0, if_pos (by omega), hw, if_pos (by omega), if_pos (by omega), if_pos (by omega), if_pos (by omega), if_pos (by omega), tab_rd _ _ (a - 1) (by omega), rd_lt s (a - 1) (by omega), if_pos (by omega), ← h2, w64 (by omega) (by omega), w64 (by omega) (by omega),
     show ((a : Int) : Int).toNat = a from by omega, tab_set]
    have : (tab s.length fun i => if i = a then psum s a else if i < a then psum s i else 0) = tab s.length fun j => if j < a + 1 then psum s j else 0 := tab_congr _ _ _ fun j hj => by
     by_cases e : j = a
     ·subst e; simp
     ·by_cases e2 : j < a
      ·simp [e, e2, show j < a + 1 from by omega]
      ·simp [e, e2, show ¬ j < a + 1 from by omega]
    rw [this]
    rfl
  have h1 := key (s.length - 1) 1 (by omega) (by omega)
  unfold braid_Draws.f
  refine ev_bind e (ev_pos rfl (ev_pos (by omega) (Ev.step (fun k => ?_) h1)))
  rw [braid_Draws.j0, if_neg (by simp; omega)]
  simp only [Option.bind_some, List.nil_append, List.length_nil]
  have hrep : (tab s.length fun j => if j < 1 then psum s j else 0) = List.replicate s.length 0 := by
   apply List.ext_getElem
   ·simp [tab]
   ·intro i h1 h2
    simp only [tab, List.getElem_map, List.getElem_range, List.getElem_replicate]
    split
    ·rename_i h
     rw [show i = 0 from by omega, psum_zero]
    ·rfl
  rw [if_pos (by omega), if_pos (by omega), if_pos (by omega), show ((s.length : Int).toNat) = s.length from by omega, hrep]
  rfl
 rcases draws_loop s off c s.length rfl hm (by omega) (by omega) hnn (by omega) c.length 0 s (start s) [] (by omega) hnn hal rfl (by simp) (fun x hx => (hs.each x hx).2) (by
  intro j hj
  have := psum_nonneg hnn j
  rw [psum_succ s j hj]
  unfold start
  simp [List.getD_eq_getElem?_getD, hj]
  omega) rfl with ⟨ds, P, hP, hE⟩ | ⟨hP, hE⟩
 ·left
  rw [List.nil_append] at hE
  exact ⟨ds, P, by simpa using hP, hin _ hE⟩
 ·right
  exact ⟨by simpa using hP, hin _ hE⟩
end Go.Proofs.Ytbnifpfnjhdenaa.Pl
end
section
set_option linter.unusedVariables false
set_option linter.unusedSimpArgs false
namespace Go.Proofs.Ytbnifpfnjhdenaa.Pl
open Go.RowKit Go.Proofs.Ytbnifpfnjhdenaa.Q Go.Proofs.YtbnifpfnjhdenaaW.PrintWords Go.Proofs.YtbnifpfnjhdenaaW.PrintLast
structure Good (s ds : List Int) (P : List (Nat × Int)) : Prop where
 sizes : OkS s
 len : (ds.length : Int) = total s
 pat : Pat s ds P
theorem Good.le {s ds : List Int} {P : List (Nat × Int)} (g : Good s ds P) : ds.length ≤ 256 ∧ P.length = ds.length ∧ (fsts P).length = ds.length ∧ (allOff s.length P).length = ds.length := by
 have h1 := g.sizes.all
 have h2 := g.len
 have h3 := g.pat.len
 have h4 := allOff_len s.length P s (Nat.le_refl _) (g.pat.count g.sizes.nonneg h2.symm)
 rw [psum_all s s.length (Nat.le_refl _)] at h4
 exact ⟨by omega, h3, by simp [fsts]; exact h3, by omega⟩
theorem Good.pattern {s ds : List Int} {P : List (Nat × Int)} (g : Good s ds P) : Ev (fun k => braid_Pattern.f k s ds) (fsts P, allOff s.length P, 0) := by
 rcases pattern_good s ds g.sizes g.len with ⟨Q, h1, h2⟩ | ⟨h1, _⟩
 ·rw [g.pat.unique g.sizes.nonneg h1]
  exact h2
 ·refine absurd ⟨g.sizes, g.len, fun t ht => ?_⟩ h1
  have := g.pat.bound g.sizes.nonneg t ht
  rw [← g.len] at this
  exact this
theorem told_unique (off : List Int) : ∀ (A B : List (Nat × Int)) (nx : Nat → Nat), A.map (·.1) = B.map (·.1) → Rdo nx off A → Rdo nx off B → A = B := by
 intro A
 induction A with
 | nil => intro B nx e _ _; cases B with
  | nil => rfl
  | cons b B => simp at e
 | cons a A ih =>
  intro B nx e ha hb
  cases B with
  | nil => simp at e
  | cons b B =>
   obtain ⟨j, o⟩ := a
   obtain ⟨i, p⟩ := b
   simp only [List.map_cons, List.cons.injEq] at e
   obtain ⟨rfl, e2⟩ := e
   obtain ⟨a1, a2⟩ := ha.uncons
   obtain ⟨b1, b2⟩ := hb.uncons
   rw [a1, b1, ih B _ e2 a2 b2]
theorem Good.back {s ds : List Int} {P : List (Nat × Int)} (g : Good s ds P) : Ev (fun k => braid_Draws.f k s (fsts P) (allOff s.length P)) (ds, 0) := by
 have hle := g.le
 have hl := g.len
 have hT : Told s (start s) (fsts P) (allOff s.length P) ds P := ⟨g.pat, rfl, rdo_all g.sizes.nonneg g.pat g.len.symm⟩
 rcases draws_good s (fsts P) (allOff s.length P) g.sizes (by omega) (by omega) with ⟨es, Q, h1, h2⟩ | ⟨h1, _⟩
 ·have hPQ : P = Q := by
   have e1 : P.map (·.1) = Q.map (·.1) := by
    have := h1.2.1
    unfold fsts at this
    have h3 : ∀ (A B : List (Nat × Int)), A.map (fun x => (x.1 : Int)) = B.map (fun x => (x.1 : Int)) → A.map (·.1) = B.map (·.1) := by
     intro A
     induction A with
     | nil => intro B h; cases B with
      | nil => rfl
      | cons b B => simp at h
     | cons a A ih => intro B h; cases B with
      | nil => simp at h
      | cons b B =>
       simp only [List.map_cons, List.cons.injEq] at h ⊢
       exact ⟨by omega, ih B h.2⟩
    exact (h3 Q P this).symm
   exact told_unique _ _ _ _ e1 hT.2.2 h1.2.2
  subst hPQ
  rw [g.pat.draws h1.1]
  exact h2
 ·exact absurd ⟨ds, P, hT⟩ h1
theorem Good.inj {s ds es : List Int} {P Q : List (Nat × Int)} (g : Good s ds P) (g' : Good s es Q) (h1 : fsts P = fsts Q) (h2 : allOff s.length P = allOff s.length Q) : ds = es := by
 have a := g.back
 have b := g'.back
 rw [h1, h2] at a
 obtain ⟨K1, e1⟩ := a
 obtain ⟨K2, e2⟩ := b
 have x := e1 (max K1 K2) (Nat.le_max_left _ _)
 have y := e2 (max K1 K2) (Nat.le_max_right _ _)
 rw [x] at y
 exact congrArg Prod.fst (Option.some.inj y)
theorem Good.same {s ds es : List Int} {P Q : List (Nat × Int)} (g : Good s ds P) (g' : Good s es Q) (h : ds = es) : P = Q := by
 subst h
 exact g.pat.unique g.sizes.nonneg g'.pat
end Go.Proofs.Ytbnifpfnjhdenaa.Pl
end
section
set_option linter.unusedVariables false
set_option linter.unusedSimpArgs false
namespace Go.Proofs.Ytbnifpfnjhdenaa.Pl
open Go.RowKit Go.Proofs.Ytbnifpfnjhdenaa.Q Go.Proofs.YtbnifpfnjhdenaaW.PrintWords Go.Proofs.YtbnifpfnjhdenaaW.PrintLast
def szf (n m j : Nat) : Nat := n / m + (if j < n % m then 1 else 0)
def sz (n m : Nat) : List Int := tab m fun j => (szf n m j : Int)
theorem sz_len (n m : Nat) : (sz n m).length = m := tab_len _ _
theorem sizes_bad (n m : Int) (h : ¬ (0 ≤ n ∧ n ≤ 256 ∧ 1 ≤ m ∧ m ≤ 64)) : Ev (fun k => braid_Sizes.f k n m) ([], 2) := by
 have bad : ∀ b, b = true → Ev (fun k => braid_Sizes.j0 k n m b) ([], 2) := fun b hb => Ev.step (f := fun _ => some ([], 2)) (fun k => by rw [braid_Sizes.j0, if_pos hb]) (Ev.now _)
 unfold braid_Sizes.f
 by_cases h1 : n < 0
 ·exact ev_pos h1 (bad _ rfl)
 refine ev_neg h1 ?_
 by_cases h2 : n > 256
 ·exact ev_pos h2 (bad _ rfl)
 refine ev_neg h2 ?_
 by_cases h3 : m < 1
 ·exact ev_pos h3 (bad _ rfl)
 exact ev_neg h3 (bad _ (by simp; omega))
theorem sizes_good (n m : Nat) (hn : n ≤ 256) (h1 : 1 ≤ m) (h2 : m ≤ 64) : Ev (fun k => braid_Sizes.f k (n : Int) (m : Int)) (sz n m, 0) := by
 unfold braid_Sizes.f
 refine ev_neg (by omega) (ev_neg (by omega) (ev_neg (by omega) ?_))
 refine Ev.step (fun k => by rw [braid_Sizes.j0, if_neg (by simp; omega), if_pos (by omega), if_pos (by omega), Option.bind_some]) ?_
 have hd : n / m ≤ 256 := Nat.le_trans (Nat.div_le_self _ _) hn
 obtain ⟨q, hq⟩ : ∃ q, n / m = q := ⟨_, rfl⟩
 obtain ⟨r, hr0⟩ : ∃ r, n % m = r := ⟨_, rfl⟩
 have t1 : Int.tdiv (n : Int) (m : Int) = (q : Int) := by rw [← hq]; rfl
 have t2 : Int.tmod (n : Int) (m : Int) = (r : Int) := by rw [← hr0]; rfl
 have hz : ∀ j, (szf n m j : Int) = (q : Int) + (if j < r then 1 else 0) := fun j => by unfold szf; rw [hq, hr0]; split <;> simp
 rw [hq] at hd
 have key : ∀ (d i : Nat), i + d = m → Ev (fun k => braid_Sizes.l0 k (n : Int) (m : Int) (tab m fun j => if j < i then (szf n m j : Int) else 0) (m : Int) (i : Int)) (sz n m, 0) := by
  intro d
  induction d with
  | zero =>
   intro i hi
   have e : (tab m fun j => if j < i then (szf n m j : Int) else 0) = sz n m := tab_congr _ _ _ (fun j hj => by rw [if_pos (by omega)])
   rw [e]
   exact Ev.step (f := fun _ => some (sz n m, 0)) (fun k => by rw [braid_Sizes.l0, if_neg (by omega)]) (Ev.now _)
  | succ d ih =>
   intro i hi
   refine Ev.step (fun k => by rw [braid_Sizes.l0, if_pos (by omega), if_neg (by omega), if_pos (by omega), if_pos (by rw [tab_len]; omega), Option.bind_some, t1, t2, Int.toNat_natCast, tab_set, w64 (x := (q : Int)) (by omega) (by omega), w64 (x := (i : Int) + 1) (by omega) (by omega)]) ?_
   have next := ih (i + 1) (by omega)
   by_cases h : i < r
   ·refine ev_pos (by omega) ?_
    rw [tab_rd _ _ i (by omega), if_pos rfl, w64 (by omega) (by omega), tab_set]
    have e : (tab m fun j => if j = i then (q : Int) + 1 else if j = i then (q : Int) else if j < i then (szf n m j : Int) else 0) = tab m fun j => if j < i + 1 then (szf n m j : Int) else 0 :=
     tab_congr _ _ _ (fun j hj => by
      by_cases e1 : j = i
      ·subst e1
       rw [if_pos rfl, if_pos (by omega)]
       rw [hz]; simp [h]
      ·rw [if_neg e1, if_neg e1]
       by_cases e2 : j < i
       ·rw [if_pos e2, if_pos (by omega)]
       ·rw [if_neg e2, if_neg (by omega)])
    rw [e]
    exact next
   ·refine ev_neg (by omega) ?_
    have e : (tab m fun j => if j = i then (q : Int) else if j < i then (szf n m j : Int) else 0) = tab m fun j => if j < i + 1 then (szf n m j : Int) else 0 :=
     tab_congr _ _ _ (fun j hj => by
      by_cases e1 : j = i
      ·subst e1
       rw [if_pos rfl, if_pos (by omega)]
       rw [hz]; simp [h]
      ·rw [if_neg e1]
       by_cases e2 : j < i
       ·rw [if_pos e2, if_pos (by omega)]
       ·rw [if_neg e2, if_neg (by omega)])
    rw [e]
    exact next
 have hr : (List.replicate ((m : Int) : Int).toNat (0 : Int)) = tab m fun j => if j < 0 then (szf n m j : Int) else 0 := by
  simp [tab, List.map_const']
 rw [hr, tab_len]
 exact key m 0 (by omega)
theorem tab_succ (m : Nat) (f : Nat → Int) : tab (m + 1) f = tab m f ++ [f m] := by simp [tab, List.range_succ]
def bnd (n : Nat) : List Int := tab n fun i => (n : Int) - i
theorem bounds_good (n : Nat) (hn : n ≤ 256) : Ev (fun k => braid_Bounds.f k (n : Int)) (bnd n) := by
 unfold braid_Bounds.f
 by_cases h : n < 1
 ·refine ev_pos (by omega) ?_
  obtain rfl : n = 0 := by omega
  exact Ev.step (f := fun _ => some []) (fun k => by rw [braid_Bounds.j0, if_pos rfl]) (Ev.now _)
 refine ev_neg (by omega) (Ev.step (fun k => by rw [braid_Bounds.j0, if_neg (by simp; omega), if_pos (by omega), if_pos (by omega)]) ?_)
 have key : ∀ (d i : Nat), i + d = n → Ev (fun k => braid_Bounds.l0 k (tab i fun j => (n : Int) - j) ((n : Int) - i)) (bnd n) := by
  intro d
  induction d with
  | zero =>
   intro i hi
   obtain rfl : i = n := by omega
   exact Ev.step (f := fun _ => some (bnd i)) (fun k => by rw [braid_Bounds.l0, if_neg (by omega)]; rfl) (Ev.now _)
  | succ d ih =>
   intro i hi
   have := ih (i + 1) (by omega)
   rw [tab_succ] at this
   have e : wrap64 ((n : Int) - i - 1) = (n : Int) - ((i + 1 : Nat) : Int) := by rw [w64 (by omega) (by omega)]; omega
   exact Ev.step (fun k => by rw [braid_Bounds.l0, if_pos (by omega), if_pos (by rw [tab_len]; omega), e]) this
 have := key n 0 (by omega)
 simpa [tab] using this
theorem sz_get (n m j : Nat) (hj : j < m) : (sz n m)[j]'(by rw [sz_len]; exact hj) = (szf n m j : Int) := by simp [sz, tab]
theorem szf_le (n m j : Nat) (hn : n ≤ 256) (h1 : 1 ≤ m) : szf n m j ≤ 256 := by
 unfold szf
 have h3 := Nat.div_add_mod n m
 by_cases h : j < n % m
 ·rw [if_pos h]
  have : m * (n / m) ≥ n / m := Nat.le_mul_of_pos_left _ h1
  omega
 ·rw [if_neg h]
  have := Nat.div_le_self n m
  omega
theorem sz_psum (n m : Nat) (h1 : 1 ≤ m) : ∀ j, j ≤ m → psum (sz n m) j = ((j * (n / m) + min j (n % m) : Nat) : Int) := by
 intro j
 induction j with
 | zero => intro _; simp [psum_zero]
 | succ j ih =>
  intro hj
  rw [psum_succ _ _ (by rw [sz_len]; omega), ih (by omega), sz_get _ _ _ (by omega), Nat.succ_mul]
  unfold szf
  by_cases h : j < n % m
  ·rw [if_pos h]; omega
  ·rw [if_neg h]; omega
theorem sz_total (n m : Nat) (h1 : 1 ≤ m) : total (sz n m) = n := by
 have := sz_psum n m h1 m (Nat.le_refl _)
 rw [psum_all _ _ (by rw [sz_len]; exact Nat.le_refl _)] at this
 rw [this]
 have h3 := Nat.div_add_mod n m
 have h4 := Nat.mod_lt n h1
 omega
theorem sz_ok (n m : Nat) (hn : n ≤ 256) (h1 : 1 ≤ m) (h2 : m ≤ 64) : OkS (sz n m) := by
 refine ⟨by rw [sz_len]; exact h1, by rw [sz_len]; exact h2, fun x hx => ?_, by rw [sz_total n m h1]; omega⟩
 obtain ⟨j, hj, rfl⟩ := List.getElem_of_mem hx
 rw [sz_len] at hj
 rw [sz_get n m j hj]
 have := szf_le n m j hn h1
 omega
def ints (C : List Nat) : List Int := C.map fun j : Nat => (j : Int)
theorem ints_rd (C : List Nat) (i : Nat) (h : i < C.length) : rd (ints C) (i : Int) = (C[i] : Int) := by simp [rd, ints, h]
def cn (C : List Nat) (j i : Nat) : Nat := (C.take i).count j
theorem cn_zero (C : List Nat) (j : Nat) : cn C j 0 = 0 := by simp [cn]
theorem cn_succ (C : List Nat) (j i : Nat) (h : i < C.length) : cn C j (i + 1) = cn C j i + if j = C[i] then 1 else 0 := by
 unfold cn
 rw [List.take_succ_eq_append_getElem h, List.count_append]
 congr 1
 rw [List.count_singleton]
 by_cases e : C[i] = j
 ·simp [e]
 ·simp [e, show ¬ j = C[i] from fun h => e h.symm]
theorem cn_le (C : List Nat) (j i : Nat) : cn C j i ≤ C.count j := (List.take_sublist i C).count_le j
theorem cn_mono (C : List Nat) (j i t : Nat) (h : i ≤ t) : cn C j i ≤ cn C j t := by
 unfold cn
 have : C.take i = (C.take t).take i := by rw [List.take_take, Nat.min_eq_left h]
 rw [this]
 exact (List.take_sublist i (C.take t)).count_le j
theorem cn_at (C : List Nat) (i : Nat) (h : i < C.length) : cn C C[i] (i + 1) = cn C C[i] i + 1 := by rw [cn_succ C _ i h, if_pos rfl]
theorem cn_lt (C : List Nat) (i : Nat) (h : i < C.length) : cn C C[i] i < C.count C[i] := by
 have := cn_at C i h
 have := cn_le C C[i] (i + 1)
 omega
theorem cn_len (C : List Nat) (j i : Nat) : cn C j i ≤ i := Nat.le_trans List.count_le_length (by simp; omega)
def seg (a : Int) (t : Nat) : List Int := tab t fun i => a + i
end Go.Proofs.Ytbnifpfnjhdenaa.Pl
end
section
set_option linter.unusedVariables false
set_option linter.unusedSimpArgs false
namespace Go.Proofs.Ytbnifpfnjhdenaa.Pl
open Go.RowKit Go.Proofs.Ytbnifpfnjhdenaa.Q Go.Proofs.YtbnifpfnjhdenaaW.PrintWords Go.Proofs.YtbnifpfnjhdenaaW.PrintLast
theorem ref_sizes_good (n m : Nat) (hn : n ≤ 256) (h1 : 1 ≤ m) (h2 : m ≤ 64) : Ev (fun k => churnref12_Sizes.f k (n : Int) (m : Int)) (sz n m, 0) := by
 unfold churnref12_Sizes.f
 refine ev_neg (by omega) (ev_neg (by omega) (ev_neg (by omega) ?_))
 refine Ev.step (fun k => by rw [churnref12_Sizes.j0, if_neg (by simp; omega)]) ?_
 have hd : n / m ≤ 256 := Nat.le_trans (Nat.div_le_self _ _) hn
 obtain ⟨q, hq⟩ : ∃ q, n / m = q := ⟨_, rfl⟩
 obtain ⟨r, hr0⟩ : ∃ r, n % m = r := ⟨_, rfl⟩
 have t1 : Int.tdiv (n : Int) (m : Int) = (q : Int) := by rw [← hq]; rfl
 have t2 : Int.tmod (n : Int) (m : Int) = (r : Int) := by rw [← hr0]; rfl
 have hz : ∀ j, (szf n m j : Int) = (q : Int) + (if j < r then 1 else 0) := fun j => by unfold szf; rw [hq, hr0]; split <;> simp
 rw [hq] at hd
 have key : ∀ (d i : Nat), i + d = m → Ev (fun k => churnref12_Sizes.l0 k (n : Int) (m : Int) (tab i fun j => (szf n m j : Int)) (i : Int)) (sz n m, 0) := by
  intro d
  induction d with
  | zero =>
   intro i hi
   obtain rfl : i = m := by omega
   exact Ev.step (f := fun _ => some (sz n i, 0)) (fun k => by rw [churnref12_Sizes.l0, if_neg (by omega)]; rfl) (Ev.now _)
  | succ d ih =>
   intro i hi
   have hlen := tab_len i fun j => (szf n m j : Int)
   refine Ev.step (fun k => ?_) (ih (i + 1) (by omega))
   rw [churnref12_Sizes.l0, if_pos (by omega), if_neg (by omega), t1, t2, tab_succ, hz i, w64 (x := (q : Int)) (by omega) (by omega), w64 (x := (i : Int) + 1) (by omega) (by omega), w64 (x := (q : Int) + 1) (by omega) (by omega)]
   by_cases h : i < r
   ·rw [if_pos (by omega), if_pos (by omega), if_pos h]
    rfl
   ·rw [if_neg (by omega), if_pos (by omega), if_neg h, Int.add_zero]
    rfl
 exact key m 0 (by omega)
theorem ref_bounds_good (n : Nat) (hn : n ≤ 256) : Ev (fun k => churnref12_Bounds.f k (n : Int)) (bnd n) := by
 unfold churnref12_Bounds.f
 refine ev_neg (by omega) ?_
 have key : ∀ (d i : Nat), i + d = n → Ev (fun k => churnref12_Bounds.l0 k (tab i fun i => (n : Int) - i) ((d : Nat) : Int)) (bnd n) := by
  intro d
  induction d with
  | zero =>
   intro i hi
   obtain rfl : i = n := by omega
   exact Ev.step (f := fun _ => some (bnd i)) (fun k => by rw [churnref12_Bounds.l0, if_neg (by omega)]; rfl) (Ev.now _)
  | succ d ih =>
   intro i hi
   have hlen := tab_len i fun i => (n : Int) - i
   refine Ev.step (fun k => ?_) (ih (i + 1) (by omega))
   rw [churnref12_Bounds.l0, if_pos (by omega), if_pos (by omega), w64 (by omega) (by omega), tab_succ, show ((d + 1 : Nat) : Int) - 1 = (d : Int) by omega, show (n : Int) - (i : Int) = ((d + 1 : Nat) : Int) by omega]
 exact key n 0 (by omega)
theorem ref12_total_ev (s : List Int) (hl : s.length ≤ 9223372036854775000) : ∃ n : Int, Ev (fun k => churnref12_total.f k s) n ∧ (OkS s → n = total s) ∧ (¬ OkS s → n = -1) := by
 unfold churnref12_total.f
 have bad : ∀ b, b = true → Ev (fun k => churnref12_total.j0 k s b) (-1) := fun b hb => Ev.step (f := fun _ => some (-1)) (fun k => by rw [churnref12_total.j0, if_pos hb]) (Ev.now _)
 by_cases h1 : s.length < 1
 ·exact ⟨-1, ev_pos (by omega) (bad _ rfl), fun h => by have := h.one; omega, fun _ => rfl⟩
 by_cases h2 : s.length > 64
 ·exact ⟨-1, ev_neg (by omega) (bad _ (by simp; omega)), fun h => by have := h.most; omega, fun _ => rfl⟩
 have key : ∀ (d i : Nat), i + d = s.length → (∀ x ∈ s.take i, 0 ≤ x) → psum s i ≤ 256 → ∃ n : Int, Ev (fun k => churnref12_total.l0 k s (psum s i) (i : Int)) n ∧ (OkS s → n = total s) ∧ (¬ OkS s → n = -1) := by
  intro d
  induction d with
  | zero =>
   intro i hi hb hp
   rw [List.take_of_length_le (by omega)] at hb
   refine ⟨psum s i, Ev.step (f := fun _ => some (psum s i)) (fun k => by rw [churnref12_total.l0, if_neg (by omega)]) (Ev.now _), fun _ => psum_all s i (by omega), fun h => absurd ⟨by omega, by omega, fun x hx => ⟨hb x hx, ?_⟩, by rw [← psum_all s i (by omega)]; exact hp⟩ h⟩
   obtain ⟨j, hj, rfl⟩ := List.getElem_of_mem hx
   have hnn : Nonneg s := hb
   have a1 := psum_succ s j hj
   have a2 := psum_nonneg hnn j
   have a3 := psum_total hnn (j + 1)
   rw [psum_all s i (by omega)] at hp
   omega
  | succ d ih =>
   intro i hi hb hp
   have hlt : i < s.length := by omega
   have hm := rd_mem s (i : Int) (by simp; omega)
   have hps : psum s (i + 1) = psum s i + rd s (i : Int) := by rw [psum_succ s i hlt, rd_lt s i hlt]
   have hnn : Nonneg (s.take i) := hb
   have hpp : psum s i = total (s.take i) := rfl
   have h0 : 0 ≤ psum s i := by rw [hpp]; exact total_nonneg hnn
   by_cases c1 : rd s (i : Int) < 0
   ·exact ⟨-1, Ev.step (f := fun _ => some (-1)) (fun k => by rw [churnref12_total.l0, if_pos (by omega), if_pos (by omega), if_pos c1]) (Ev.now _), fun h => by have := (h.each _ hm).1; omega, fun _ => rfl⟩
   ·by_cases c2 : rd s (i : Int) > 256 - psum s i
    ·refine ⟨-1, Ev.step (f := fun _ => some (-1)) (fun k => by rw [churnref12_total.l0, if_pos (by omega), if_pos (by omega), if_neg c1, w64 (by omega) (by omega), if_pos c2]) (Ev.now _), fun h => ?_, fun _ => rfl⟩
     have a1 := psum_total h.nonneg (i + 1)
     have a2 := h.all
     omega
    ·have hb' : ∀ x ∈ s.take (i + 1), 0 ≤ x := by
      rw [take_rd s i hlt]
      intro x hx
      rcases List.mem_append.1 hx with hx | hx
      ·exact hb x hx
      ·have := List.mem_singleton.1 hx; subst this; omega
     obtain ⟨n, e, r⟩ := ih (i + 1) (by omega) hb' (by omega)
     refine ⟨n, Ev.step (fun k => ?_) e, r⟩
     rw [churnref12_total.l0, if_pos (by omega), if_pos (by omega), if_neg c1, w64 (x := 256 - psum s i) (by omega) (by omega), if_neg c2, w64 (by omega) (by omega), w64 (by omega) (by omega), hps]
     rfl
 obtain ⟨n, e, r⟩ := key s.length 0 (by omega) (by simp) (by rw [psum_zero]; omega)
 refine ⟨n, ev_neg (by omega) (Ev.step (fun k => ?_) e), r⟩
 rw [churnref12_total.j0, if_neg (by simp; omega), psum_zero]
 rfl
theorem ref_pat_flat (c : List Int) (m : Nat) (P : List (Nat × Int)) (hm : m ≤ 64) (hP : P.length ≤ 256) : Ev (fun k => churnref12_Pattern.l2 k (visits m P) c [] 0) (c, allOff m P, 0) := by
 have key : ∀ (d i : Nat), i + d = m → Ev (fun k => churnref12_Pattern.l2 k (visits m P) c (allOff i P) (i : Int)) (c, allOff m P, 0) := by
  intro d
  induction d with
  | zero =>
   intro i hi
   have : i = m := by omega
   subst this
   exact Ev.step (f := fun _ => some (c, allOff i P, 0)) (fun k => by rw [churnref12_Pattern.l2, if_neg (by rw [visits_len]; omega)]) (Ev.now _)
  | succ d ih =>
   intro i hi
   have hlen := visits_len m P
   have h1 := vis_le i P
   have h2 := allOff_le P i
   have h3 : i * P.length ≤ 64 * 256 := Nat.mul_le_mul (by omega) hP
   refine Ev.step (fun k => ?_) (ih (i + 1) (by omega))
   rw [churnref12_Pattern.l2, if_pos (by omega), if_pos (by omega), visits_get m P i (by omega), if_pos (by omega), w64 (by omega) (by omega), allOff_succ]
   rfl
 have := key m 0 (by omega)
 simpa [allOff] using this
theorem ref_pat_find (x4 : List Int) (left : List Int) (Pd : List (Nat × Int)) (ds : List Int) (i : Nat) (R : List Int × List Int × Int) (hn : Nonneg left) (hm : left.length ≤ 64) (ht : total left ≤ 256) (hx : x4.length ≤ 1000) (hPd : Pd.length ≤ 1000) (hi : i < ds.length) (hds : ds.length ≤ 256)
  (j : Nat) (hj : j < left.length) (o : Int) (o0 : 0 ≤ o) (o1 : o < left[j])
  (next : Ev (fun k => churnref12_Pattern.l0 k ds (ds.length : Int) (dec left j) (visits left.length (Pd ++ [(j, o)])) (x4 ++ [(j : Int)]) ((i + 1 : Nat) : Int)) R) :
  ∀ (t a : Nat), a + t = j → Ev (fun k => churnref12_Pattern.l1 k ds (ds.length : Int) left (visits left.length Pd) x4 (i : Int) (psum left j + o - psum left a) (a : Int)) R := by
 intro t
 induction t with
 | zero =>
  intro a ha
  have : a = j := by omega
  subst this
  have hv := visits_get left.length Pd a hj
  have hvl := vis_le a Pd
  have hr : rd left (a : Int) = left[a] := rd_lt left a hj
  have hlt := psum_total hn (a + 1)
  have hge := psum_nonneg hn a
  rw [psum_succ left a hj] at hlt
  have hpos := hn.at_ a hj
  refine Ev.step (fun k => ?_) next
  have hdec : left.set ((a : Int).toNat) (wrap64 (rd left (a : Int) - 1)) = dec left a := by
   rw [w64 (by rw [hr]; omega) (by rw [hr]; omega), hr]
   simp [dec, List.getD_eq_getElem?_getD, hj]
  rw [churnref12_Pattern.l1, if_pos (by omega), if_pos (by omega), if_neg (by rw [hr]; omega), if_pos (by omega), if_pos (by rw [visits_len]; omega), hv, if_pos (by omega), hdec, w64 (by omega) (by omega),
   show psum left a + o - psum left a = o from by omega, show ((a : Int).toNat) = a from by omega, visits_set left.length Pd a hj o]
  rfl
 | succ t ih =>
  intro a ha
  have hal : a < left.length := by omega
  have hr : rd left (a : Int) = left[a] := rd_lt left a hal
  have h1 := psum_succ left a hal
  have h2 := psum_le hn (a + 1) j (by omega)
  have h3 := psum_total hn (j + 1)
  rw [psum_succ left j hj] at h3
  have h4 := psum_nonneg hn a
  have h5 := hn.at_ a hal
  refine Ev.step (fun k => ?_) (ih (a + 1) (by omega))
  rw [churnref12_Pattern.l1, if_pos (by omega), if_pos (by omega), if_pos (by rw [hr]; omega), w64 (by rw [hr]; omega) (by rw [hr]; omega), w64 (by omega) (by omega), hr, h1,
   show psum left j + o - psum left a - left[a] = psum left j + o - (psum left a + left[a]) from by omega]
  rfl
theorem ref_pat_loop (ds : List Int) (m : Nat) (hm : m ≤ 64) (hds : ds.length ≤ 256) : ∀ (rem i : Nat) (left : List Int) (Pd : List (Nat × Int)), i + rem = ds.length → total left = rem → Nonneg left → left.length = m → Pd.length = i →
  (∃ P, Pat left (ds.drop i) P ∧ Ev (fun k => churnref12_Pattern.l0 k ds (ds.length : Int) left (visits m Pd) (fsts Pd) (i : Int)) (fsts (Pd ++ P), allOff m (Pd ++ P), 0)) ∨
  ((∃ t, i ≤ t ∧ ∃ h : t < ds.length, ds[t] < 0 ∨ (ds.length : Int) - t ≤ ds[t]) ∧ Ev (fun k => churnref12_Pattern.l0 k ds (ds.length : Int) left (visits m Pd) (fsts Pd) (i : Int)) ([], [], 2)) := by
 intro rem
 induction rem with
 | zero =>
  intro i left Pd hi ht hn hl hPd
  left
  refine ⟨[], by rw [List.drop_of_length_le (by omega)]; exact .nil left, ?_⟩
  rw [List.append_nil]
  refine Ev.step (fun k => ?_) (ref_pat_flat (fsts Pd) m Pd hm (by omega))
  rw [churnref12_Pattern.l0, if_neg (by omega)]
 | succ rem ih =>
  intro i left Pd hi ht hn hl hPd
  have hlt : i < ds.length := by omega
  have hr : rd ds (i : Int) = ds[i] := rd_lt ds i hlt
  have hw : wrap64 ((ds.length : Int) - (i : Int)) = (ds.length : Int) - i := w64 (by omega) (by omega)
  have bad : ∀ b, b = true → Ev (fun k => churnref12_Pattern.j2 k ds (ds.length : Int) left (visits m Pd) (fsts Pd) (i : Int) (rd ds (i : Int)) b) ([], [], 2) := fun b hb => Ev.step (f := fun _ => some ([], [], 2)) (fun k => by rw [churnref12_Pattern.j2, if_pos hb]) (Ev.now _)
  by_cases c1 : ds[i] < 0
  ·right
   refine ⟨⟨i, by omega, hlt, .inl c1⟩, Ev.step (fun k => ?_) (bad true rfl)⟩
   rw [churnref12_Pattern.l0, if_pos (by omega), if_pos (by omega), if_pos (by omega), if_pos (by rw [hr]; exact c1)]
  ·by_cases c2 : (ds.length : Int) - i ≤ ds[i]
   ·right
    refine ⟨⟨i, by omega, hlt, .inr c2⟩, Ev.step (fun k => ?_) (bad true rfl)⟩
    rw [churnref12_Pattern.l0, if_pos (by omega), if_pos (by omega), if_pos (by omega), if_neg (by rw [hr]; exact c1), hw, decide_eq_true (show rd ds (i : Int) ≥ (ds.length : Int) - i by rw [hr]; exact c2)]
   ·obtain ⟨j, hj, o, o0, o1, e⟩ := place_exists hn ds[i] (by omega) (by omega)
    have hdrop : ds.drop i = ds[i] :: ds.drop (i + 1) := List.drop_eq_getElem_cons hlt
    have hstep : ∀ R, Ev (fun k => churnref12_Pattern.l0 k ds (ds.length : Int) (dec left j) (visits m (Pd ++ [(j, o)])) (fsts (Pd ++ [(j, o)])) ((i + 1 : Nat) : Int)) R →
      Ev (fun k => churnref12_Pattern.l0 k ds (ds.length : Int) left (visits m Pd) (fsts Pd) (i : Int)) R := by
     intro R hR
     subst hl
     have hR' : Ev (fun k => churnref12_Pattern.l0 k ds (ds.length : Int) (dec left j) (visits left.length (Pd ++ [(j, o)])) (fsts Pd ++ [(j : Int)]) ((i + 1 : Nat) : Int)) R := by
      rw [fsts_append] at hR
      exact hR
     have h0 := ref_pat_find (fsts Pd) left Pd ds i R hn (by omega) (by omega) (by simp [fsts]; omega) (by omega) hlt hds j hj o o0 o1 hR' j 0 (by omega)
     refine Ev.step (f := fun k => churnref12_Pattern.j2 k ds (ds.length : Int) left (visits left.length Pd) (fsts Pd) (i : Int) (rd ds (i : Int)) false) (fun k => ?_) (Ev.step (fun k => ?_) h0)
     ·rw [churnref12_Pattern.l0, if_pos (by omega), if_pos (by omega), if_pos (by omega), if_neg (by rw [hr]; exact c1), hw, decide_eq_false (show ¬ rd ds (i : Int) ≥ (ds.length : Int) - i by rw [hr]; exact c2)]
     ·rw [churnref12_Pattern.j2, if_neg (by simp), hr, e, psum_zero, Int.sub_zero]
      rfl
    rcases ih (i + 1) (dec left j) (Pd ++ [(j, o)]) (by omega) (by rw [dec_total left j hj]; omega) (dec_nonneg hn j hj (by omega)) (by rw [dec_length]; exact hl) (by simp; omega) with ⟨P, hP, hE⟩ | ⟨⟨t, h1, h2, h3⟩, hE⟩
    ·left
     refine ⟨(j, o) :: P, by rw [hdrop]; exact .cons hj o0 o1 e hP, ?_⟩
     have := hstep _ hE
     rwa [List.append_assoc, List.singleton_append] at this
    ·right
     exact ⟨⟨t, by omega, h2, h3⟩, hstep _ hE⟩
theorem ref_good_or (s ds : List Int) (hs : s.length ≤ 17592186044000) (hd : ds.length ≤ 17592186044000) :
  (∃ P, Good s ds P ∧ Ev (fun k => churnref12_Pattern.f k s ds) (fsts P, allOff s.length P, 0)) ∨ ((¬ ∃ P, Good s ds P) ∧ Ev (fun k => churnref12_Pattern.f k s ds) ([], [], 2)) := by
 obtain ⟨n, e, h1, h2⟩ := ref12_total_ev s (by omega)
 have hend : ∀ (x : Bool), x = true → Ev (fun k => churnref12_Pattern.j0 k s ds n x) ([], [], 2) := fun x hx => Ev.step (f := fun _ => some ([], [], 2)) (fun k => by rw [churnref12_Pattern.j0, if_pos hx]) (Ev.now _)
 by_cases hO : OkS s
 ·have hn := h1 hO
  have hnn := total_nonneg hO.nonneg
  have hal := hO.all
  have hm := hO.most
  by_cases hl : (ds.length : Int) = total s
  ·have hin : ∀ R, Ev (fun k => churnref12_Pattern.l0 k ds (ds.length : Int) s (visits s.length []) (fsts []) ((0 : Nat) : Int)) R → Ev (fun k => churnref12_Pattern.f k s ds) R := by
    intro R hR
    unfold churnref12_Pattern.f
    refine ev_bind e (ev_neg (by omega) (Ev.step (fun k => ?_) hR))
    rw [churnref12_Pattern.j0, if_neg (by simp; omega)]
    simp only [List.nil_append, List.length_nil]
    rw [if_pos (by omega), if_pos (by omega), if_pos (by omega), visits_nil, show ((s.length : Int).toNat) = s.length from by omega, show n = (ds.length : Int) from by omega]
    rfl
   rcases ref_pat_loop ds s.length hm (by omega) ds.length 0 s [] (by omega) (by omega) hO.nonneg rfl rfl with ⟨P, hP, hE⟩ | ⟨⟨t, t1, t2, t3⟩, hE⟩
   ·left
    rw [List.nil_append] at hE
    exact ⟨P, ⟨hO, hl, by simpa using hP⟩, hin _ hE⟩
   ·right
    refine ⟨?_, hin _ hE⟩
    rintro ⟨P, g⟩
    have := g.pat.bound g.sizes.nonneg t t2
    rw [← g.len] at this
    omega
  ·refine .inr ⟨fun ⟨P, g⟩ => hl g.len, ?_⟩
   unfold churnref12_Pattern.f
   exact ev_bind e (ev_neg (by omega) (hend _ (by rw [bne_iff_ne]; omega)))
 ·refine .inr ⟨fun ⟨P, g⟩ => hO g.sizes, ?_⟩
  have hn := h2 hO
  unfold churnref12_Pattern.f
  exact ev_bind e (ev_pos (by omega) (hend _ rfl))
theorem Good.ref {s ds : List Int} {P : List (Nat × Int)} (g : Good s ds P) : Ev (fun k => churnref12_Pattern.f k s ds) (fsts P, allOff s.length P, 0) := by
 have hl := g.le
 have hm := g.sizes.most
 rcases ref_good_or s ds (by omega) (by omega) with ⟨Q, h1, h2⟩ | ⟨h1, _⟩
 ·rw [g.pat.unique g.sizes.nonneg h1.pat]
  exact h2
 ·exact absurd ⟨P, g⟩ h1
theorem Good.exists {s ds : List Int} (h : OkD s ds) : ∃ P, Good s ds P := by
 obtain ⟨P, hP⟩ := pat_exists ds s h.1.nonneg (fun i hi => by
  have := h.2.2 i hi
  have e := h.2.1
  omega)
 exact ⟨P, h.1, h.2.1, hP⟩
end Go.Proofs.Ytbnifpfnjhdenaa.Pl
end
section
set_option linter.unusedVariables false
set_option linter.unusedSimpArgs false
namespace Go.Proofs.Ytbnifpfnjhdenaa.Pl
open Go.RowKit Go.Proofs.Ytbnifpfnjhdenaa.Q Go.Proofs.YtbnifpfnjhdenaaW.PrintWords Go.Proofs.YtbnifpfnjhdenaaW.PrintLast
def piece (l : List Int) (q j : Nat) : List Int := (l.take ((j + 1) * q)).drop (j * q)
def pieces (l : List Int) (q c : Nat) : List (List Int) := (List.range c).map (piece l q)
def noiseOf (p : List Int) : List Int := p.take 18
def restOf (p : List Int) : List Int := (p.drop 18).drop ((p.length - 18) / 2)
def braidOf (p : List Int) : List Int := (p.drop 18).take ((p.length - 18) / 2)
def qOf (p : List Int) (c : Nat) : Nat := (restOf p).length / c
theorem restOf_len (p : List Int) : (restOf p).length = (p.length - 18) - (p.length - 18) / 2 := by simp [restOf]; omega
theorem qmul_le (p : List Int) (c j : Nat) (hj : j ≤ c) : j * qOf p c ≤ (restOf p).length :=
 Nat.le_trans (Nat.mul_le_mul_right _ hj) (by rw [Nat.mul_comm]; exact Nat.div_mul_le_self _ _)
theorem piece_len (p : List Int) (c j : Nat) (hj : j < c) : (piece (restOf p) (qOf p c) j).length = qOf p c := by
 have := qmul_le p c (j + 1) hj
 unfold piece
 rw [List.length_drop, List.length_take, Nat.min_eq_left this, Nat.succ_mul]
 omega
theorem pieces_succ (l : List Int) (q c : Nat) : pieces l q (c + 1) = pieces l q c ++ [piece l q c] := by
 unfold pieces
 rw [List.range_succ, List.map_append]
 rfl
def splitS (p : List Int) (c : Int) : List Int × List Int × (List (List Int)) × Int :=
 if c < 1 ∨ c > 64 then ([], [], [], 2) else if p.length < 18 then ([], [], [], 3) else (noiseOf p, braidOf p, pieces (restOf p) (qOf p c.toNat) c.toNat, 0)
theorem clone_val (l : List Int) (h : l.length < 140737488355328) : slices_Clone_byte_byte.f l = some l := by
 unfold slices_Clone_byte_byte.f
 rw [if_pos h]
theorem split_ev (p : List Int) (c : Int) (hp : p.length ≤ 140737488351232) : Ev (fun k => tape_Split.f k p c) (splitS p c) := by
 unfold tape_Split.f splitS
 by_cases h1 : c < 1
 ·rw [if_pos (by omega)]
  exact ev_pos h1 (Ev.step (f := fun _ => some ([], [], [], 2)) (fun k => by rw [tape_Split.j0, if_pos rfl]) (Ev.now _))
 ·refine ev_neg h1 ?_
  by_cases h2 : c > 64
  ·rw [if_pos (by omega)]
   exact Ev.step (f := fun _ => some ([], [], [], 2)) (fun k => by rw [tape_Split.j0, if_pos (by simpa using h2)]) (Ev.now _)
  ·rw [if_neg (by omega)]
   by_cases h3 : p.length < 18
   ·rw [if_pos h3]
    exact Ev.step (f := fun _ => some ([], [], [], 3)) (fun k => by rw [tape_Split.j0, if_neg (by simp; omega), if_pos (by omega)]) (Ev.now _)
   ·rw [if_neg h3]
    obtain ⟨n, rfl⟩ := Int.eq_ofNat_of_zero_le (show 0 ≤ c by omega)
    simp only [Int.toNat_natCast]
    have hrl := restOf_len p
    have key : ∀ (d j : Nat), j + d = n → Ev (fun k => tape_Split.l0 k (restOf p) (qOf p n : Int) (n : Int) (j : Int) (noiseOf p) (braidOf p) (pieces (restOf p) (qOf p n) j)) (noiseOf p, braidOf p, pieces (restOf p) (qOf p n) n, 0) := by
     intro d
     induction d with
     | zero =>
      intro j hj
      have : j = n := by omega
      subst this
      exact Ev.step (f := fun _ => some (noiseOf p, braidOf p, pieces (restOf p) (qOf p j) j, 0)) (fun k => by rw [tape_Split.l0, if_neg (by omega)]) (Ev.now _)
     | succ d ih =>
      intro j hj
      have a1 := qmul_le p n (j + 1) (by omega)
      have a2 : j * qOf p n ≤ (j + 1) * qOf p n := Nat.mul_le_mul_right _ (by omega)
      have hpl := piece_len p n j (by omega)
      have hql : qOf p n ≤ (restOf p).length := Nat.div_le_self _ _
      have hcl := clone_val (piece (restOf p) (qOf p n) j) (by omega)
      have b1 : (j : Int) < (n : Int) := by omega
      have b2 : (0 : Int) ≤ ((j * qOf p n : Nat) : Int) := by omega
      have b3 : ((j * qOf p n : Nat) : Int) ≤ (((j + 1) * qOf p n : Nat) : Int) := by omega
      have b4 : (((j + 1) * qOf p n : Nat) : Int) ≤ ((restOf p).length : Int) := by omega
      have b5 : j * qOf p n ≤ 9223372036854775807 := by omega
      have b6 : (j + 1) * qOf p n ≤ 9223372036854775807 := by omega
      have b8 : (pieces (restOf p) (qOf p n) j).length < 5864062014805 := by simp [pieces]; omega
      have b10 : j + 1 ≤ 9223372036854775807 := by omega
      have b9 : j + 1 + d = n := by omega
      have b7 : wrap64 ((j : Int) + 1) = ((j + 1 : Nat) : Int) := w64n (x := j + 1) b10
      have e1 : wrap64 ((j : Int) * (qOf p n : Int)) = ((j * qOf p n : Nat) : Int) := by rw [← Int.natCast_mul]; exact w64n b5
      have e2 : wrap64 (wrap64 ((j : Int) + 1) * (qOf p n : Int)) = (((j + 1) * qOf p n : Nat) : Int) := by
       rw [b7, ← Int.natCast_mul]
       exact w64n b6
      refine Ev.step (fun k => ?_) (ih (j + 1) b9)
      rw [tape_Split.l0, if_pos b1, e1, e2, if_pos b2, if_pos b3, if_pos b4, Int.toNat_natCast, Int.toNat_natCast, show ((restOf p).take ((j + 1) * qOf p n)).drop (j * qOf p n) = piece (restOf p) (qOf p n) j from rfl, hcl, Option.bind_some,
       if_pos b8, b7, pieces_succ]
    have h0 := key n 0 (by omega)
    have hd : (p.drop 18).length = p.length - 18 := by simp
    have g1 : ¬ ((p.length : Int) < 18) := by omega
    have g2 : (18 : Int) ≤ (p.length : Int) := by omega
    have g3 : (0 : Int) ≤ (((p.length - 18) / 2 : Nat) : Int) := by omega
    have g4 : (((p.length - 18) / 2 : Nat) : Int) ≤ ((p.drop 18).length : Int) := by rw [hd]; omega
    have g5 : (p.take 18).length < 140737488355328 := by simp; omega
    have g6 : ((p.drop 18).take ((p.length - 18) / 2)).length < 140737488355328 := by simp; omega
    have g7 : ¬ ((n : Int) = 0) := by omega
    have g8 : ¬ (decide ((n : Int) > 64) = true) := by simpa using h2
    have g9 : (restOf p).length ≤ 9223372036854775807 := by omega
    have hw : wrap64 (((p.drop 18).length : Int) / 2) = (((p.length - 18) / 2 : Nat) : Int) := by rw [hd, w64 (by omega) (by omega)]; omega
    refine Ev.step (fun k => ?_) h0
    have hq : wrap64 (((restOf p).length : Int) / (n : Int)) = (qOf p n : Int) := by
     rw [← Int.natCast_ediv]
     exact w64n (Nat.le_trans (Nat.div_le_self _ _) g9)
    rw [tape_Split.j0, if_neg g8, if_neg g1, if_pos g2, Option.bind_some, hw, clone_val _ g5, Option.bind_some, if_pos g3, if_pos g4, Int.toNat_natCast, clone_val _ g6, Option.bind_some, Option.bind_some, if_neg g7]
    show tape_Split.l0 k (restOf p) (wrap64 (((restOf p).length : Int) / (n : Int))) _ _ _ _ _ = _
    rw [hq]
    rfl
end Go.Proofs.Ytbnifpfnjhdenaa.Pl
end
section
set_option linter.unusedVariables false
set_option linter.unusedSimpArgs false
namespace Go.Proofs.Ytbnifpfnjhdenaa.Pl
open Go.RowKit Go.Proofs.Ytbnifpfnjhdenaa.Q Go.Proofs.YtbnifpfnjhdenaaW.PrintWords Go.Proofs.YtbnifpfnjhdenaaW.PrintLast Go.Proofs.Ytbnifpfnjhdenaa.Pure
theorem anyOk' {bs : List Int} (h : AllOk bs) : ¬ (bs.any fun b => !okBound b) = true := by
 intro hc
 obtain ⟨b, hb, e⟩ := List.any_eq_true.1 hc
 have := h b hb
 rw [okBound_of b this.1 this.2] at e
 exact absurd e (by decide)
theorem drA_some {p bs : List Int} (h : AllOk bs) {r : List Int × Nat} (e : dr p bs 0 = some r) : drA p bs = (r.1, (r.2 : Int), 0) := by
 unfold drA
 rw [if_neg (anyOk' h), e]
theorem drA_none {p bs : List Int} (h : AllOk bs) (e : dr p bs 0 = none) : drA p bs = ([], 0, 3) := by
 unfold drA
 rw [if_neg (anyOk' h), e]
theorem drw_fA (p bs : List Int) (hp : Bytes p) (hl : p.length ≤ 140737488351232) (hbl : bs.length ≤ 17592186043904) : draw_All.f p bs = some (drA p bs) := by
 rw [drw_all_f p bs hp hl hbl, allA_dr]
theorem boundsL_ok : ∀ n : Nat, n ≤ 256 → AllOk (boundsL n)
 | 0, _ => fun b hb => by simp [boundsL] at hb
 | 1, _ => fun b hb => by simp [boundsL] at hb
 | n + 2, h => fun b hb => by
  rw [boundsL] at hb
  rcases List.mem_cons.1 hb with rfl | hb
  ·omega
  ·exact boundsL_ok (n + 1) (by omega) b hb
theorem bnd_len (n : Nat) : (bnd n).length = n := tab_len _ _
theorem bnd_rd (n i : Nat) (h : i < n) : rd (bnd n) (i : Int) = (n : Int) - i := tab_rd _ _ i h
theorem bnd_ok (n : Nat) (h : n ≤ 256) : AllOk (bnd n) := by
 intro b hb
 obtain ⟨i, hi, rfl⟩ := List.mem_map.1 hb
 have := List.mem_range.1 hi
 omega
theorem rd_cons (x : Int) (xs : List Int) (i : Nat) : rd (x :: xs) ((i + 1 : Nat) : Int) = rd xs (i : Int) := by rw [rd_nat, rd_nat, List.getD_cons_succ]
theorem valid_rd : ∀ (bs ws : List Int), Valid bs ws → ws.length = bs.length ∧ ∀ i : Nat, i < bs.length → 0 ≤ rd ws (i : Int) ∧ rd ws (i : Int) < rd bs (i : Int)
 | [], [], _ => ⟨rfl, fun i h => by simp at h⟩
 | b :: bs, w :: ws, h => by
  obtain ⟨h1, h2⟩ := valid_rd bs ws h.2.2
  refine ⟨by simp [h1], fun i hi => ?_⟩
  cases i with
  | zero => exact ⟨h.1, h.2.1⟩
  | succ i => rw [rd_cons, rd_cons]; exact h2 i (by simpa using hi)
 | [], _ :: _, h => h.elim
 | _ :: _, [], h => h.elim
theorem boundsL_fit {s : Nat} {ws : List Int} (h : Valid (boundsL s) ws) : ws.length = s - 1 ∧ FitD (s : Int) ws := by
 obtain ⟨h1, h2⟩ := valid_rd _ _ h
 rw [boundsL_len] at h1 h2
 refine ⟨h1, fun k hk => ?_⟩
 have := h2 k (by omega)
 rw [boundsL_at s k (by omega)] at this
 exact this
theorem bnd_okD {s ws : List Int} (hs : OkS s) (h : Valid (bnd (total s).toNat) ws) : OkD s ws := by
 obtain ⟨h1, h2⟩ := valid_rd _ _ h
 have h0 := total_nonneg hs.nonneg
 rw [bnd_len] at h1 h2
 refine ⟨hs, by omega, fun t ht => ?_⟩
 have := h2 t (by omega)
 rw [bnd_rd _ t (by omega), rd_lt ws t ht] at this
 omega
def permOf (l : List Int) (s : Nat) : Option (List Int) := (dr l (boundsL s) 0).map fun r => fromL (iota s) (s - 1) r.1
def permsG (f : Nat → Option (List Int)) : Nat → Nat → List (List Int) → Option (List (List Int))
 | 0, _, L => some L
 | d + 1, j, L => (f j).bind fun q => permsG f d (j + 1) (L ++ [q])
theorem permsG_some (f : Nat → Option (List Int)) : ∀ (d j : Nat) (L own : List (List Int)), L.length = j → permsG f d j L = some own →
  own.length = j + d ∧ (∀ i, i < j → own[i]? = L[i]?) ∧ ∀ i, j ≤ i → i < j + d → own[i]? = f i := by
 intro d
 induction d with
 | zero =>
  intro j L own hL h
  obtain rfl := Option.some.inj h
  exact ⟨by omega, fun i _ => rfl, fun i h1 h2 => by omega⟩
 | succ d ih =>
  intro j L own hL h
  rw [permsG] at h
  obtain ⟨q, hq, h⟩ := Option.bind_eq_some_iff.1 h
  obtain ⟨h1, h2, h3⟩ := ih (j + 1) (L ++ [q]) own (by simp [hL]) h
  refine ⟨by omega, fun i hi => ?_, fun i hi1 hi2 => ?_⟩
  ·rw [h2 i (by omega), List.getElem?_append_left (by omega)]
  ·by_cases e : i = j
   ·subst e
    rw [h2 i (by omega), List.getElem?_append_right (by omega), hL, hq]
    simp
   ·exact h3 i (by omega) (by omega)
theorem permOf_fits {l : List Int} (hl : Bytes l) {s : Nat} (hs : s ≤ 256) {q : List Int} (h : permOf l s = some q) : q.length = s ∧ Fits q ∧ ∃ ds u, dr l (boundsL s) 0 = some (ds, u) ∧ Valid (boundsL s) ds ∧ fromL (iota s) (s - 1) ds = q ∧ drawsL q (iota s) (s - 1) = ds := by
 unfold permOf at h
 obtain ⟨⟨ds, u⟩, h1, rfl⟩ := Option.map_eq_some_iff.1 h
 have hv := dr_valid l hl (boundsL s) 0 (boundsL_ok s hs) (by omega) _ h1
 simp only at hv
 obtain ⟨f1, f2⟩ := boundsL_fit hv
 simp only [fromL_len, iota_len]
 by_cases h0 : s = 0
 ·subst h0
  obtain rfl := List.eq_nil_of_length_eq_zero f1
  exact ⟨trivial, ⟨by simp [fromL, iota], by simp [fromL, iota]⟩, [], u, h1, hv, rfl, rfl⟩
 ·have := draws_from (s - 1) ds (iota s) f1 (by rw [show ((s - 1 : Nat) : Int) + 1 = (s : Int) by omega]; exact f2) (fits_iota _) (by rw [iota_len]; omega)
  exact ⟨trivial, this.1, ds, u, h1, hv, rfl, this.2.2⟩
structure Lay (p : List Int) (n c : Nat) (ds : List Int) (P : List (Nat × Int)) (own : List (List Int)) : Prop where
 long : 18 ≤ p.length
 most : n ≤ 256
 one : 1 ≤ c
 chunks : c ≤ 64
 draws : ∃ u, dr (braidOf p) (bnd n) 0 = some (ds, u)
 good : Good (sz n c) ds P
 owns : permsG (fun j => permOf (piece (restOf p) (qOf p c) j) (szf n c j)) c 0 [] = some own
theorem bytes_sub {p q : List Int} (h : Bytes p) (hs : q.Sublist p) : Bytes q := fun x hx => h x (hs.subset hx)
theorem bytes_braid {p : List Int} (h : Bytes p) : Bytes (braidOf p) := bytes_sub h ((List.take_sublist _ _).trans (List.drop_sublist _ _))
theorem bytes_rest {p : List Int} (h : Bytes p) : Bytes (restOf p) := bytes_sub h ((List.drop_sublist _ _).trans (List.drop_sublist _ _))
theorem bytes_piece {p : List Int} (h : Bytes p) (q j : Nat) : Bytes (piece (restOf p) q j) := bytes_sub (bytes_rest h) ((List.drop_sublist _ _).trans (List.take_sublist _ _))
theorem braid_le (p : List Int) : (braidOf p).length ≤ p.length := by unfold braidOf; rw [List.length_take, List.length_drop]; omega
theorem piece_le (p : List Int) (q j : Nat) : (piece (restOf p) q j).length ≤ p.length := by
 unfold piece restOf
 rw [List.length_drop, List.length_take, List.length_drop, List.length_drop]
 omega
theorem pieces_rd (l : List Int) (q c j : Nat) (h : j < c) : (pieces l q c).getD j [] = piece l q j := by simp [pieces, h]
theorem pieces_len (l : List Int) (q c : Nat) : (pieces l q c).length = c := by simp [pieces]
theorem Lay.own {p : List Int} (hp : Bytes p) {n c : Nat} {ds : List Int} {P : List (Nat × Int)} {own : List (List Int)} (h : Lay p n c ds P own) :
  own.length = c ∧ ∀ j, j < c → permOf (piece (restOf p) (qOf p c) j) (szf n c j) = some (own.getD j []) ∧ (own.getD j []).length = szf n c j ∧ Fits (own.getD j []) := by
 obtain ⟨h1, _, h3⟩ := permsG_some _ c 0 [] own rfl h.owns
 refine ⟨by omega, fun j hj => ?_⟩
 have e := h3 j (by omega) (by omega)
 have hj' : j < own.length := by omega
 have e2 : own[j]? = some (own.getD j []) := by rw [List.getD_eq_getElem?_getD, List.getElem?_eq_getElem hj', Option.getD_some]
 rw [e2] at e
 obtain ⟨f1, f2, _⟩ := permOf_fits (bytes_piece hp _ _) (szf_le n c j h.most h.one) e.symm
 exact ⟨e.symm, f1, f2⟩
theorem perm_step_ok {l : List Int} (hl : Bytes l) (hle : l.length ≤ 140737488351232) (s : Nat) (hs : s ≤ 256) {q : List Int} (h : permOf l s = some q) :
  ∃ ds u, draw_All.f l (boundsL s) = some (ds, u, 0) ∧ Ev (fun k => perm_From.f k (s : Int) ds) (q, 0) := by
 obtain ⟨h1, h2, ds, u, h3, h4, h5, h6⟩ := permOf_fits hl hs h
 obtain ⟨f1, f2⟩ := boundsL_fit h4
 refine ⟨ds, (u : Int), ?_, ev_to (from_ev (s : Int) ds (by omega) (by omega)) ?_⟩
 ·rw [drw_fA l _ hl hle (by rw [boundsL_len]; omega), drA_some (boundsL_ok s hs) h3]
 ·unfold fromA
  have hm : ((ds.length : Nat) : Int) = mx ((s : Int) - 1) 0 := by unfold mx; split <;> omega
  rw [if_neg (by omega), if_pos ⟨hm, f2⟩, Int.toNat_natCast, h5]
theorem perm_step_no {l : List Int} (hl : Bytes l) (hle : l.length ≤ 140737488351232) (s : Nat) (hs : s ≤ 256) (h : permOf l s = none) : draw_All.f l (boundsL s) = some ([], 0, 3) := by
 unfold permOf at h
 rw [drw_fA l _ hl hle (by rw [boundsL_len]; omega), drA_none (boundsL_ok s hs) (Option.map_eq_none_iff.1 h)]
theorem bounds_ev' (s : Nat) (hs : s ≤ 256) : Ev (fun k => perm_Bounds.f k (s : Int)) (boundsL s) := by
 have := bounds_ev (s : Int) (by omega)
 rwa [Int.toNat_natCast] at this
theorem sz_bounds (n c j : Nat) (hn : n ≤ 256) (h1 : 1 ≤ c) (hc : c ≤ 64) : 0 ≤ psum (sz n c) j ∧ psum (sz n c) j ≤ n := by
 have ok := sz_ok n c hn h1 hc
 have := psum_total ok.nonneg j
 rw [sz_total n c h1] at this
 exact ⟨psum_nonneg ok.nonneg j, this⟩
theorem sz_rd (n c j : Nat) (hj : j < c) : rd (sz n c) (j : Int) = (szf n c j : Int) := tab_rd _ _ j hj
theorem read_loop {p : List Int} (hp : Bytes p) (hl : p.length ≤ 140737488351232) (n c : Nat) (hn : n ≤ 256) (h1 : 1 ≤ c) (hc : c ≤ 64) (ds : List Int)
  {R : List (List Int) → List Int × List Int × List (List Int) × List Int × List Int × List Int × List Int × List (List Int) × Int}
  (hR : ∀ own, permsG (fun j => permOf (piece (restOf p) (qOf p c) j) (szf n c j)) c 0 [] = some own → Ev (fun k => (braid_Pattern.f k (sz n c) ds).bind fun bt228 => (some (noiseOf p, braidOf p, pieces (restOf p) (qOf p c) c, sz n c, (tab c fun j => psum (sz n c) j), bt228.1, bt228.2.1, own, bt228.2.2))) (R own)) :
  ∀ (d j : Nat) (L : List (List Int)), j + d = c → L.length = j → permsG (fun j => permOf (piece (restOf p) (qOf p c) j) (szf n c j)) c 0 [] = permsG (fun j => permOf (piece (restOf p) (qOf p c) j) (szf n c j)) d j L →
  Ev (fun k => riffle_read.l0 k L ds (psum (sz n c) j) (sz n c) (c : Int) (j : Int) (noiseOf p) (braidOf p) (pieces (restOf p) (qOf p c) c) (sz n c) (tab j fun j => psum (sz n c) j))
   (match permsG (fun j => permOf (piece (restOf p) (qOf p c) j) (szf n c j)) d j L with | some own => R own | none => ([], [], [], [], [], [], [], [], 3)) := by
 intro d
 induction d with
 | zero =>
  intro j L hj hL hg
  obtain rfl : j = c := by omega
  rw [hg] at hR
  rw [permsG] at hR ⊢
  exact Ev.step (fun k => by rw [riffle_read.l0, if_neg (by omega)]) (hR L rfl)
 | succ d ih =>
  intro j L hj hL hg
  rw [hg] at hR ih
  rw [permsG] at hR ih ⊢
  have hjc : j < c := by omega
  have hs := szf_le n c j hn h1
  have hsl := sz_len n c
  have htl := tab_len j fun j => psum (sz n c) j
  have hpb := sz_bounds n c j hn h1 hc
  have hrd := sz_rd n c j hjc
  have hps : psum (sz n c) (j + 1) = psum (sz n c) j + (szf n c j : Int) := by rw [psum_succ _ j (by omega), sz_get n c j hjc]
  have hby := bytes_piece hp (qOf p c) j
  have hpl := piece_le p (qOf p c) j
  have hpp : rd_L3 (pieces (restOf p) (qOf p c) c) (j : Int) = piece (restOf p) (qOf p c) j := pieces_rd _ _ _ _ hjc
  have hplen := pieces_len (restOf p) (qOf p c) c
  refine Ev.step (fun k => by rw [riffle_read.l0, if_pos (by omega), if_pos (by omega), if_pos (by omega), if_pos (by omega), if_pos (by omega), hrd]) (ev_bind (bounds_ev' _ hs) ?_)
  cases hq : permOf (piece (restOf p) (qOf p c) j) (szf n c j) with
  | none =>
   refine ev_bind0 (a := ([], 0, 3)) (by
    show draw_All.f ((pieces (restOf p) (qOf p c) c).getD j []) _ = _
    rw [pieces_rd _ _ _ _ hjc]
    exact perm_step_no hby (by omega) _ hs hq) (ev_neg (by decide) (Ev.now _))
  | some q =>
   obtain ⟨es, u, e1, e2⟩ := perm_step_ok hby (by omega) _ hs hq
   refine ev_bind0 (a := (es, u, 0)) (by
    show draw_All.f ((pieces (restOf p) (qOf p c) c).getD j []) _ = _
    rw [pieces_rd _ _ _ _ hjc]
    exact e1) (ev_pos rfl (ev_bind e2 (ev_pos rfl (ev_pos (by omega) ?_))))
   rw [w64 (x := psum (sz n c) j + (szf n c j : Int)) (by omega) (by omega), w64 (x := (j : Int) + 1) (by omega) (by omega), ← hps]
   have := ih (j + 1) (L ++ [q]) (by omega) (by simp [hL]) (by rw [hq]; rfl)
   rw [tab_succ] at this
   exact this
theorem splitS_ok {p : List Int} {c : Nat} (h : 18 ≤ p.length) (h1 : 1 ≤ c) (hc : c ≤ 64) : splitS p (c : Int) = (noiseOf p, braidOf p, pieces (restOf p) (qOf p c) c, 0) := by
 unfold splitS
 rw [if_neg (by omega), if_neg (by omega), Int.toNat_natCast]
theorem read_bad (p : List Int) (n m : Int) (h : ¬ (0 ≤ n ∧ n ≤ 256 ∧ 1 ≤ m ∧ m ≤ 64)) : Ev (fun k => riffle_read.f k p n m) ([], [], [], [], [], [], [], [], 2) := by
 unfold riffle_read.f
 exact ev_bind (sizes_bad n m h) (ev_neg (by decide) (Ev.now _))
theorem sz_fit {n c : Nat} (hn : n ≤ 256) (h1 : 1 ≤ c) (hc : c ≤ 64) {ds : List Int} (h : Valid (bnd n) ds) : ∃ P, Good (sz n c) ds P := by
 refine Good.exists (bnd_okD (sz_ok n c hn h1 hc) ?_)
 rw [sz_total n c h1, Int.toNat_natCast]
 exact h
theorem read_ev {p : List Int} (hp : Bytes p) (hl : p.length ≤ 140737488351232) (n c : Nat) (hn : n ≤ 256) (h1 : 1 ≤ c) (hc : c ≤ 64) :
  (∃ ds P own, Lay p n c ds P own ∧ Ev (fun k => riffle_read.f k p n c) (noiseOf p, braidOf p, pieces (restOf p) (qOf p c) c, sz n c, (tab c fun j => psum (sz n c) j), fsts P, allOff c P, own, 0)) ∨
  ((¬ ∃ ds P own, Lay p n c ds P own) ∧ Ev (fun k => riffle_read.f k p n c) ([], [], [], [], [], [], [], [], 3)) := by
 by_cases h18 : p.length < 18
 ·refine .inr ⟨fun ⟨_, _, _, h⟩ => by have := h.long; omega, ?_⟩
  unfold riffle_read.f
  refine ev_bind (sizes_good n c hn h1 hc) (ev_pos rfl (ev_bind (split_ev p c hl) ?_))
  unfold splitS
  rw [if_neg (by omega), if_pos h18]
  exact ev_neg (by decide) (Ev.now _)
 have hbl := braid_le p
 have hD := drw_fA (braidOf p) (bnd n) (bytes_braid hp) (by omega) (by rw [bnd_len]; omega)
 have start : ∀ R, Ev (fun k => (if (drA (braidOf p) (bnd n)).2.2 = 0 then (riffle_read.l0 k ([] : List (List Int)) (drA (braidOf p) (bnd n)).1 0 (sz n c) ((sz n c).length : Int) 0 (noiseOf p) (braidOf p) (pieces (restOf p) (qOf p c) c) (sz n c) ([] : List Int)) else (some (([] : List Int), ([] : List Int), ([] : List (List Int)), ([] : List Int), ([] : List Int), ([] : List Int), ([] : List Int), ([] : List (List Int)), (drA (braidOf p) (bnd n)).2.2)))) R → Ev (fun k => riffle_read.f k p n c) R := by
  intro R hR
  unfold riffle_read.f
  refine ev_bind (sizes_good n c hn h1 hc) (ev_pos rfl (ev_bind (split_ev p c hl) ?_))
  rw [splitS_ok (by omega) h1 hc]
  exact ev_pos rfl (ev_bind (bounds_good n hn) (ev_bind0 hD hR))
 cases hd : dr (braidOf p) (bnd n) 0 with
 | none =>
  refine .inr ⟨fun ⟨_, _, _, h⟩ => ?_, start _ ?_⟩
  ·obtain ⟨u, hu⟩ := h.draws
   rw [hd] at hu
   exact absurd hu (by simp)
  ·rw [drA_none (bnd_ok n hn) hd]
   exact ev_neg (by decide) (Ev.now _)
 | some r =>
  obtain ⟨ds, u⟩ := r
  have hv := dr_valid _ (bytes_braid hp) (bnd n) 0 (bnd_ok n hn) (by omega) _ hd
  obtain ⟨P, g⟩ := sz_fit hn h1 hc hv
  have key := read_loop hp hl n c hn h1 hc ds (R := fun own => (noiseOf p, braidOf p, pieces (restOf p) (qOf p c) c, sz n c, (tab c fun j => psum (sz n c) j), fsts P, allOff c P, own, 0))
   (fun own _ => ev_bind g.pattern (ev_some (by rw [sz_len]))) c 0 [] (by omega) rfl rfl
  have key' := start _ (by
   rw [drA_some (bnd_ok n hn) hd, sz_len]
   exact ev_pos rfl key)
  cases ho : permsG (fun j => permOf (piece (restOf p) (qOf p c) j) (szf n c j)) c 0 [] with
  | none =>
   rw [ho] at key'
   refine .inr ⟨fun ⟨_, _, _, h⟩ => ?_, key'⟩
   have := h.owns
   rw [ho] at this
   exact absurd this (by simp)
  | some own =>
   rw [ho] at key'
   exact .inl ⟨ds, P, own, ⟨by omega, hn, h1, hc, ⟨u, hd⟩, g, ho⟩, key'⟩
end Go.Proofs.Ytbnifpfnjhdenaa.Pl
end
section
set_option linter.unusedVariables false
set_option linter.unusedSimpArgs false
namespace Go.Proofs.Ytbnifpfnjhdenaa.Pl
open Go.RowKit Go.Proofs.Ytbnifpfnjhdenaa.Q Go.Proofs.YtbnifpfnjhdenaaW.PrintWords Go.Proofs.YtbnifpfnjhdenaaW.PrintLast Go.Proofs.Ytbnifpfnjhdenaa.Pure
def ordAt (C : List Nat) (p : Nat → Int) (own : List (List Int)) (i : Nat) : Int := p (C.getD i 0) + rd (own.getD (C.getD i 0) []) (cn C (C.getD i 0) i : Int)
def ordL (C : List Nat) (p : Nat → Int) (own : List (List Int)) : List Int := tab C.length (ordAt C p own)
theorem ordL_len (C : List Nat) (p : Nat → Int) (own : List (List Int)) : (ordL C p own).length = C.length := tab_len _ _
theorem ordL_rd (C : List Nat) (p : Nat → Int) (own : List (List Int)) (i : Nat) (h : i < C.length) : rd (ordL C p own) (i : Int) = ordAt C p own i := tab_rd _ _ i h
theorem vis_cnt (j : Nat) (P : List (Nat × Int)) : (vis j P).length = (P.map (·.1)).count j := by
 unfold vis
 rw [List.length_map, ← List.countP_eq_length_filter, List.count_eq_countP, List.countP_map]
 rfl
theorem fsts_int (P : List (Nat × Int)) : fsts P = ints (P.map (·.1)) := by simp [fsts, ints]
theorem cn_get (C : List Nat) (i : Nat) (h : i < C.length) : C.getD i 0 = C[i] := by rw [List.getD_eq_getElem?_getD, List.getElem?_eq_getElem h, Option.getD_some]
structure PatC (C : List Nat) (n c : Nat) : Prop where
 len : C.length = n
 lt : ∀ j ∈ C, j < c
 cnt : ∀ j, j < c → C.count j = szf n c j
theorem Good.patC {n c : Nat} {ds : List Int} {P : List (Nat × Int)} (h1 : 1 ≤ c) (g : Good (sz n c) ds P) : PatC (P.map (·.1)) n c := by
 have hle := g.le
 have hl := g.len
 rw [sz_total n c h1] at hl
 refine ⟨by rw [List.length_map]; omega, fun j hj => ?_, fun j hj => ?_⟩
 ·obtain ⟨x, hx, rfl⟩ := List.mem_map.1 hj
  have := g.pat.range x hx
  rwa [sz_len] at this
 ·have := g.pat.count g.sizes.nonneg g.len.symm j (by rw [sz_len]; exact hj)
  rw [← vis_cnt]
  have e : (sz n c).getD j 0 = (szf n c j : Int) := by rw [← rd_nat, sz_rd n c j hj]
  omega
theorem PatC.at_ {C : List Nat} {n c : Nat} (h : PatC C n c) (i : Nat) (hi : i < n) : C.getD i 0 < c ∧ cn C (C.getD i 0) i < szf n c (C.getD i 0) := by
 have hl := h.len
 rw [cn_get C i (by omega)]
 have h1 := h.lt _ (List.getElem_mem (show i < C.length by omega))
 have h2 := cn_lt C i (by omega)
 rw [h.cnt _ h1] at h2
 exact ⟨h1, h2⟩
theorem ordAt_bounds {p : List Int} (hp : Bytes p) {n c : Nat} {ds : List Int} {P : List (Nat × Int)} {own : List (List Int)} (h : Lay p n c ds P own) (i : Nat) (hi : i < n) :
  ∃ o : Int, ordAt (P.map (·.1)) (psum (sz n c)) own i = psum (sz n c) ((P.map (·.1)).getD i 0) + o ∧ rd (own.getD ((P.map (·.1)).getD i 0) []) (cn (P.map (·.1)) ((P.map (·.1)).getD i 0) i : Int) = o ∧ 0 ≤ o ∧ o < szf n c ((P.map (·.1)).getD i 0) := by
 obtain ⟨h1, h2⟩ := (h.good.patC h.one).at_ i hi
 obtain ⟨_, w⟩ := h.own hp
 obtain ⟨_, w2, w3⟩ := w _ h1
 have := fits_rd w3 _ (by rw [w2]; exact h2)
 rw [w2] at this
 exact ⟨_, rfl, rfl, this.1, this.2⟩
theorem Lay.lens {p : List Int} {n c : Nat} {ds : List Int} {P : List (Nat × Int)} {own : List (List Int)} (h : Lay p n c ds P own) : P.length = n ∧ (P.map (·.1)).length = n ∧ ds.length = n := by
 have := (h.good.patC h.one).len
 have hle := h.good.le
 rw [List.length_map] at this
 exact ⟨this, by rw [List.length_map]; exact this, by omega⟩
theorem ordL_fits {p : List Int} (hp : Bytes p) {n c : Nat} {ds : List Int} {P : List (Nat × Int)} {own : List (List Int)} (h : Lay p n c ds P own) : Fits (ordL (P.map (·.1)) (psum (sz n c)) own) := by
 have hl := h.lens.2.1
 have hC := h.good.patC h.one
 have ok := h.good.sizes
 have hown := h.own hp
 have hz := sz_len n c
 refine fits_of_rd (fun m hm => ?_) (fun i j hi hj e => ?_)
 ·rw [ordL_len, hl] at hm
  rw [ordL_rd _ _ _ m (by omega), ordL_len, hl]
  obtain ⟨o, e, _, o0, o1⟩ := ordAt_bounds hp h m hm
  have hc := (hC.at_ m hm).1
  rw [e]
  have a1 := psum_succ (sz n c) _ (show (P.map (·.1)).getD m 0 < (sz n c).length by rw [hz]; exact hc)
  rw [sz_get n c _ hc] at a1
  have a2 := sz_bounds n c ((P.map (·.1)).getD m 0) h.most h.one h.chunks
  have a3 := sz_bounds n c ((P.map (·.1)).getD m 0 + 1) h.most h.one h.chunks
  omega
 ·rw [ordL_len, hl] at hi hj
  rw [ordL_rd _ _ _ i (by omega), ordL_rd _ _ _ j (by omega)] at e
  obtain ⟨o, e1, r1, o0, o1⟩ := ordAt_bounds hp h i hi
  obtain ⟨q, e2, r2, q0, q1⟩ := ordAt_bounds hp h j hj
  have ci := hC.at_ i hi
  have cj := hC.at_ j hj
  rw [e1, e2] at e
  obtain ⟨u1, u2⟩ := place_unique ok.nonneg (by rw [hz]; exact ci.1) (by rw [hz]; exact cj.1) o0 (by rw [sz_get n c _ ci.1]; exact o1) q0 (by rw [sz_get n c _ cj.1]; exact q1) e
  obtain ⟨_, w2, w3⟩ := hown.2 _ ci.1
  rw [← r1, ← r2, ← u1] at u2
  have u3 := fits_rd_inj w3 _ _ (by rw [w2]; exact ci.2) (by rw [w2, u1]; exact cj.2) u2
  generalize hD : (P.map (·.1)) = C at *
  have key : ∀ a b : Nat, a < n → b < n → C.getD a 0 = C.getD b 0 → cn C (C.getD a 0) a = cn C (C.getD a 0) b → ¬ a < b := by
   intro a b ha hb hab hcn hlt
   have s1 := cn_at C a (by omega)
   rw [cn_get C a (by omega)] at hcn
   have s2 := cn_mono C C[a] (a + 1) b hlt
   omega
  have k1 := key i j hi hj u1 u3
  have k2 := key j i hj hi u1.symm (by rw [← u1]; exact u3.symm)
  omega
theorem order_loop {p : List Int} (hp : Bytes p) {n c : Nat} {ds : List Int} {P : List (Nat × Int)} {own : List (List Int)} (h : Lay p n c ds P own) (y0 y1 : List Int) (y2 : List (List Int)) (y3 : List Int) :
  ∀ (d i : Nat), i + d = n → Ev (fun k => riffle_Order.l0 k own (tab c fun j => (cn (P.map (·.1)) j i : Int)) (tab n fun t => if t < i then ordAt (P.map (·.1)) (psum (sz n c)) own t else 0) (fsts P) ((fsts P).length : Int) (i : Int) y0 y1 y2 y3 (tab c fun j => psum (sz n c) j))
   (ordL (P.map (·.1)) (psum (sz n c)) own, 0) := by
 have hl := h.lens
 have hC := h.good.patC h.one
 have hown := h.own hp
 have hfl : (fsts P).length = n := by simp [fsts]; exact hl.1
 have hcc := h.chunks
 have hn := h.most
 intro d
 induction d with
 | zero =>
  intro i hi
  obtain rfl : i = n := by omega
  have e : (tab i fun t => if t < i then ordAt (P.map (·.1)) (psum (sz i c)) own t else 0) = ordL (P.map (·.1)) (psum (sz i c)) own := by
   unfold ordL
   rw [hl.2.1]
   exact tab_congr _ _ _ fun j hj => by rw [if_pos hj]
  rw [e]
  exact Ev.step (f := fun _ => some (ordL (P.map (·.1)) (psum (sz i c)) own, 0)) (fun k => by rw [riffle_Order.l0, if_neg (by omega)]) (Ev.now _)
 | succ d ih =>
  intro i hi
  have hin : i < n := by omega
  obtain ⟨c1, c2⟩ := hC.at_ i hin
  obtain ⟨o, e1, r1, o0, o1⟩ := ordAt_bounds hp h i hin
  obtain ⟨_, w2, w3⟩ := hown.2 _ c1
  have hr : rd (fsts P) (i : Int) = (((P.map (·.1)).getD i 0 : Nat) : Int) := by
   rw [fsts_int, ints_rd _ i (by omega), cn_get _ i (by omega)]
  have hcs : ∀ j, cn (P.map (·.1)) j (i + 1) = cn (P.map (·.1)) j i + if j = (P.map (·.1)).getD i 0 then 1 else 0 := fun j => by
   rw [cn_succ _ j i (by omega), cn_get _ i (by omega)]
  generalize hj : (P.map (·.1)).getD i 0 = j at *
  have t1 := tab_len c fun j => (cn (P.map (·.1)) j i : Int)
  have t2 := tab_len c fun j => psum (sz n c) j
  have t3 := tab_len n fun t => if t < i then ordAt (P.map (·.1)) (psum (sz n c)) own t else 0
  have g1 : rd (tab c fun j => (cn (P.map (·.1)) j i : Int)) (j : Int) = (cn (P.map (·.1)) j i : Int) := tab_rd _ _ j c1
  have g2 : rd (tab c fun j => psum (sz n c) j) (j : Int) = psum (sz n c) j := tab_rd _ _ j c1
  have pb := sz_bounds n c j h.most h.one h.chunks
  have sl := szf_le n c j h.most h.one
  have ho : rd_L3 own (j : Int) = own.getD j [] := rfl
  have hcl := cn_len (P.map (·.1)) j i
  refine Ev.step (fun k => ?_) (ih (i + 1) (by omega))
  rw [riffle_Order.l0, if_pos (by omega), if_pos (by omega), if_pos (by omega), hr, if_pos (by omega), if_pos (by omega), if_pos (by omega), if_pos (by omega), g1, if_pos (by omega), ho, if_pos (by omega), if_pos (by omega), g2, r1, Int.toNat_natCast, Int.toNat_natCast, w64 (x := (cn (P.map (·.1)) j i : Int) + 1) (by omega) (by omega), w64 (x := psum (sz n c) j + o) (by omega) (by omega), w64 (x := (i : Int) + 1) (by omega) (by omega), tab_set, tab_set, ← e1]
  have q1 : (tab c fun t => if t = j then (cn (P.map (·.1)) j i : Int) + 1 else (cn (P.map (·.1)) t i : Int)) = tab c fun j => (cn (P.map (·.1)) j (i + 1) : Int) := tab_congr _ _ _ fun t ht => by
   rw [hcs t]
   by_cases e : t = j
   ·rw [if_pos e, if_pos e, e]; omega
   ·rw [if_neg e, if_neg e]; omega
  have q2 : (tab n fun t => if t = i then ordAt (P.map (·.1)) (psum (sz n c)) own i else if t < i then ordAt (P.map (·.1)) (psum (sz n c)) own t else 0) = tab n fun t => if t < i + 1 then ordAt (P.map (·.1)) (psum (sz n c)) own t else 0 := tab_congr _ _ _ fun t ht => by
   by_cases e : t = i
   ·rw [if_pos e, if_pos (by omega), e]
   ·rw [if_neg e]
    by_cases e2 : t < i
    ·rw [if_pos e2, if_pos (by omega)]
    ·rw [if_neg e2, if_neg (by omega)]
  rw [q1, q2]
  rfl
theorem tab_zero (n : Nat) : List.replicate n (0 : Int) = tab n fun _ => 0 := by
 apply List.ext_getElem
 ·simp [tab]
 ·intro i h1 h2; simp [tab]
theorem order_bad (p : List Int) (n m : Int) (h : ¬ (0 ≤ n ∧ n ≤ 256 ∧ 1 ≤ m ∧ m ≤ 64)) : Ev (fun k => riffle_Order.f k p n m) ([], 2) := by
 unfold riffle_Order.f
 exact ev_bind (read_bad p n m h) (ev_neg (by decide) (Ev.now _))
theorem Lay.order {p : List Int} (hp : Bytes p) {n c : Nat} {ds : List Int} {P : List (Nat × Int)} {own : List (List Int)} (h : Lay p n c ds P own)
  (hr : Ev (fun k => riffle_read.f k p n c) (noiseOf p, braidOf p, pieces (restOf p) (qOf p c) c, sz n c, (tab c fun j => psum (sz n c) j), fsts P, allOff c P, own, 0)) : Ev (fun k => riffle_Order.f k p n c) (ordL (P.map (·.1)) (psum (sz n c)) own, 0) := by
 unfold riffle_Order.f
 have hz := sz_len n c
 have hn := h.most
 have hc := h.chunks
 refine ev_bind hr (ev_pos rfl (ev_pos (show (0 : Int) ≤ ((sz n c).length : Int) by omega) (ev_pos (show (((sz n c).length : Int) : Int).toNat ≤ 35184372088832 by omega) (ev_pos (show (0 : Int) ≤ (n : Int) by omega) (ev_pos (show ((n : Int) : Int).toNat ≤ 35184372088832 by omega) ?_)))))
 have := order_loop hp h (noiseOf p) (braidOf p) (pieces (restOf p) (qOf p c) c) (sz n c) n 0 (by omega)
 rw [hz, Int.toNat_natCast, Int.toNat_natCast, tab_zero, tab_zero]
 have e1 : (tab c fun j => (cn (P.map (·.1)) j 0 : Int)) = tab c fun _ => 0 := tab_congr _ _ _ fun j _ => by rw [cn_zero]; rfl
 have e2 : (tab n fun t => if t < 0 then ordAt (P.map (·.1)) (psum (sz n c)) own t else 0) = tab n fun _ => 0 := tab_congr _ _ _ fun j _ => by rw [if_neg (by omega)]
 rw [e1, e2] at this
 exact this
theorem order_ev {p : List Int} (hp : Bytes p) (hl : p.length ≤ 140737488351232) (n c : Nat) (hn : n ≤ 256) (h1 : 1 ≤ c) (hc : c ≤ 64) :
  (∃ ds P own, Lay p n c ds P own ∧ Ev (fun k => riffle_Order.f k p n c) (ordL (P.map (·.1)) (psum (sz n c)) own, 0)) ∨
  ((¬ ∃ ds P own, Lay p n c ds P own) ∧ Ev (fun k => riffle_Order.f k p n c) ([], 3)) := by
 rcases read_ev hp hl n c hn h1 hc with ⟨ds, P, own, h, e⟩ | ⟨h, e⟩
 ·exact .inl ⟨ds, P, own, h, h.order hp e⟩
 ·refine .inr ⟨h, ?_⟩
  unfold riffle_Order.f
  exact ev_bind e (ev_neg (by decide) (Ev.now _))
theorem Lay.same {p : List Int} {n c : Nat} {ds es : List Int} {P Q : List (Nat × Int)} {own won : List (List Int)} (h : Lay p n c ds P own) (h' : Lay p n c es Q won) : ds = es ∧ P = Q ∧ own = won := by
 obtain ⟨u, hu⟩ := h.draws
 obtain ⟨v, hv⟩ := h'.draws
 rw [hu] at hv
 simp only [Option.some.injEq, Prod.mk.injEq] at hv
 have e := h.owns
 rw [h'.owns] at e
 exact ⟨hv.1, h.good.same h'.good hv.1, (Option.some.inj e).symm⟩
end Go.Proofs.Ytbnifpfnjhdenaa.Pl
end
section
set_option linter.unusedVariables false
set_option linter.unusedSimpArgs false
namespace Go.Proofs.Ytbnifpfnjhdenaa.Pl
open Go.RowKit Go.Proofs.Ytbnifpfnjhdenaa.Q Go.Proofs.YtbnifpfnjhdenaaW.PrintWords Go.Proofs.YtbnifpfnjhdenaaW.PrintLast
theorem copied_f (l : List Int) (h : l.length < 140737488355328) : churnref09_copied.f l = some l := by
 unfold churnref09_copied.f
 rw [if_pos (by simpa using h), List.nil_append]
theorem ref_split_ev (p : List Int) (c : Int) (hp : p.length ≤ 140737488351232) : Ev (fun k => churnref09_Split.f k p c) (splitS p c) := by
 unfold churnref09_Split.f splitS
 have bad : ∀ b, b = true → Ev (fun k => churnref09_Split.j0 k p c b) ([], [], [], 2) := fun b hb => Ev.step (f := fun _ => some ([], [], [], 2)) (fun k => by rw [churnref09_Split.j0, if_pos hb]) (Ev.now _)
 by_cases h1 : c < 1
 ·rw [if_pos (Or.inl h1)]
  exact ev_pos h1 (bad _ rfl)
 refine ev_neg h1 ?_
 by_cases h2 : c > 64
 ·rw [if_pos (Or.inr h2)]
  exact bad _ (by simp; omega)
 rw [if_neg (by omega)]
 by_cases h3 : p.length < 18
 ·rw [if_pos h3]
  exact Ev.step (f := fun _ => some ([], [], [], 3)) (fun k => by rw [churnref09_Split.j0, if_neg (by simp; omega), if_pos (by omega)]) (Ev.now _)
 rw [if_neg h3]
 obtain ⟨n, rfl⟩ := Int.eq_ofNat_of_zero_le (show 0 ≤ c by omega)
 simp only [Int.toNat_natCast]
 have hrl := restOf_len p
 have key : ∀ (d j : Nat), j + d = n → Ev (fun k => churnref09_Split.l0 k (n : Int) (restOf p) (qOf p n : Int) (j : Int) (noiseOf p) (braidOf p) (pieces (restOf p) (qOf p n) j)) (noiseOf p, braidOf p, pieces (restOf p) (qOf p n) n, 0) := by
  intro d
  induction d with
  | zero =>
   intro j hj
   have : j = n := by omega
   subst this
   exact Ev.step (f := fun _ => some (noiseOf p, braidOf p, pieces (restOf p) (qOf p j) j, 0)) (fun k => by rw [churnref09_Split.l0, if_neg (by omega)]) (Ev.now _)
  | succ d ih =>
   intro j hj
   have a1 := qmul_le p n (j + 1) (by omega)
   have a2 : j * qOf p n ≤ (j + 1) * qOf p n := Nat.mul_le_mul_right _ (by omega)
   have a3 : (j + 1) * qOf p n = j * qOf p n + qOf p n := Nat.succ_mul _ _
   have hpl := piece_len p n j (by omega)
   have hql : qOf p n ≤ (restOf p).length := Nat.div_le_self _ _
   have hcl := copied_f (piece (restOf p) (qOf p n) j) (by omega)
   have b1 : (j : Int) < (n : Int) := by omega
   have b2 : (0 : Int) ≤ ((j * qOf p n : Nat) : Int) := by omega
   have b3 : ((j * qOf p n : Nat) : Int) ≤ (((j + 1) * qOf p n : Nat) : Int) := by omega
   have b4 : (((j + 1) * qOf p n : Nat) : Int) ≤ ((restOf p).length : Int) := by omega
   have b5 : j * qOf p n ≤ 9223372036854775807 := by omega
   have b6 : (j + 1) * qOf p n ≤ 9223372036854775807 := by omega
   have b8 : (pieces (restOf p) (qOf p n) j).length < 5864062014805 := by simp [pieces]; omega
   have b10 : j + 1 ≤ 9223372036854775807 := by omega
   have b9 : j + 1 + d = n := by omega
   have b7 : wrap64 ((j : Int) + 1) = ((j + 1 : Nat) : Int) := w64n (x := j + 1) b10
   have e1 : wrap64 ((j : Int) * (qOf p n : Int)) = ((j * qOf p n : Nat) : Int) := by rw [← Int.natCast_mul]; exact w64n b5
   have e2 : wrap64 (((j * qOf p n : Nat) : Int) + (qOf p n : Int)) = (((j + 1) * qOf p n : Nat) : Int) := by
    rw [← Int.natCast_add, ← a3]
    exact w64n b6
   refine Ev.step (fun k => ?_) (ih (j + 1) b9)
   rw [churnref09_Split.l0, if_pos b1, e1, e2, if_pos b2, if_pos b3, if_pos b4, Int.toNat_natCast, Int.toNat_natCast, show ((restOf p).take ((j + 1) * qOf p n)).drop (j * qOf p n) = piece (restOf p) (qOf p n) j from rfl, hcl, Option.bind_some,
    if_pos b8, b7, pieces_succ]
 have h0 := key n 0 (by omega)
 have hd : (p.drop 18).length = p.length - 18 := by simp
 have g1 : ¬ ((p.length : Int) < 18) := by omega
 have g2 : (18 : Int) ≤ (p.length : Int) := by omega
 have g3 : (0 : Int) ≤ (((p.length - 18) / 2 : Nat) : Int) := by omega
 have g4 : (((p.length - 18) / 2 : Nat) : Int) ≤ ((p.drop 18).length : Int) := by rw [hd]; omega
 have g5 : (p.take 18).length < 140737488355328 := by simp; omega
 have g6 : ((p.drop 18).take ((p.length - 18) / 2)).length < 140737488355328 := by simp; omega
 have g7 : ¬ ((n : Int) = 0) := by omega
 have g8 : ¬ (decide ((n : Int) > 64) = true) := by simpa using h2
 have g9 : (restOf p).length ≤ 9223372036854775807 := by omega
 have hw : wrap64 (((p.drop 18).length : Int) / 2) = (((p.length - 18) / 2 : Nat) : Int) := by rw [hd, w64 (by omega) (by omega)]; omega
 refine Ev.step (fun k => ?_) h0
 have hq : wrap64 (((restOf p).length : Int) / (n : Int)) = (qOf p n : Int) := by
  rw [← Int.natCast_ediv]
  exact w64n (Nat.le_trans (Nat.div_le_self _ _) g9)
 rw [churnref09_Split.j0, if_neg g8, if_neg g1, if_pos g2, copied_f _ g5, Option.bind_some, Option.bind_some, hw, if_pos g3, if_pos g4, Int.toNat_natCast, copied_f _ g6, Option.bind_some, Option.bind_some, if_neg g7]
 show churnref09_Split.l0 k (n : Int) (restOf p) (wrap64 (((restOf p).length : Int) / (n : Int))) _ _ _ _ = _
 rw [hq]
 rfl
end Go.Proofs.Ytbnifpfnjhdenaa.Pl
end
section
set_option linter.unusedVariables false
set_option linter.unusedSimpArgs false
namespace Go.Proofs.Ytbnifpfnjhdenaa.Pl
open Go.RowKit Go.Proofs.Ytbnifpfnjhdenaa.Q Go.Proofs.YtbnifpfnjhdenaaW.PrintWords Go.Proofs.YtbnifpfnjhdenaaW.PrintLast
theorem ref_identity_ev (n : Nat) (hn : n ≤ 17592186044415) : Ev (fun k => churnref11_Identity.f k (n : Int)) (iota n) := by
  unfold churnref11_Identity.f
  have key : ∀ (d i : Nat), i + d = n → Ev (fun k => churnref11_Identity.l0 k (n : Int) (iota i) (i : Int)) (iota n) := by
    intro d
    induction d with
    | zero =>
      intro i hi
      obtain rfl : i = n := by omega
      exact Ev.step (f := fun _ => some (iota i)) (fun k => by rw [churnref11_Identity.l0, if_neg (by omega)]) (Ev.now _)
    | succ d ih =>
      intro i hi
      refine Ev.step (fun k => by rw [churnref11_Identity.l0, if_pos (by omega), if_pos (by rw [iota_len]; omega), w64 (by omega) (by omega), ← iota_succ]; rfl) (ih (i + 1) (by omega))
  exact key n 0 (by omega)
theorem ref_bounds_ev (n : Int) (hn : n ≤ 17592186044415) : Ev (fun k => churnref11_Bounds.f k n) (boundsL n.toNat) := by
  unfold churnref11_Bounds.f
  by_cases h0 : n ≤ 1
  · have : boundsL n.toNat = [] := List.eq_nil_of_length_eq_zero (by rw [boundsL_len]; omega)
    rw [this]
    exact Ev.step (f := fun _ => some []) (fun k => by rw [churnref11_Bounds.l0, if_neg (by omega)]) (Ev.now _)
  · obtain ⟨m, rfl⟩ : ∃ m : Nat, n = (m : Int) := ⟨n.toNat, by omega⟩
    have key : ∀ (j : Nat) (acc : List Int), acc.length + j ≤ 17592186044415 → Ev (fun k => churnref11_Bounds.l0 k acc (j : Int)) (acc ++ boundsL j) := by
      intro j
      induction j with
      | zero => intro acc h; exact Ev.step (f := fun _ => some acc) (fun k => by rw [churnref11_Bounds.l0, if_neg (by omega)]) (ev_some (by simp [boundsL]))
      | succ j ih =>
        intro acc h
        by_cases hj : j = 0
        · subst hj
          exact Ev.step (f := fun _ => some acc) (fun k => by rw [churnref11_Bounds.l0, if_neg (by omega)]) (ev_some (by simp [boundsL]))
        · obtain ⟨j, rfl⟩ : ∃ i, j = i + 1 := ⟨j - 1, by omega⟩
          refine Ev.step (f := fun k => churnref11_Bounds.l0 k (acc ++ [((j + 1 + 1 : Nat) : Int)]) ((j + 1 : Nat) : Int)) (fun k => ?_) (ev_to (ih _ (by simp; omega)) (by simp [boundsL]; omega))
          rw [churnref11_Bounds.l0, if_pos (by omega), if_pos (by omega), w64 (by omega) (by omega), show ((j + 1 + 1 : Nat) : Int) - 1 = ((j + 1 : Nat) : Int) by omega]
    exact key m [] (by simp; omega)
theorem ref_from_walk (n : Nat) (l : List Int) (hn : l.length + 1 = n ∨ l = []) (hl : n ≤ 17592186044000) (hf : FitD (n : Int) l) :
    ∀ (d i : Nat) (a : List Int), i + d = l.length → a.length = n → Ev (fun k => churnref11_From.l0 k (n : Int) l a (i : Int)) (fromL a (n - 1 - i) (l.drop i), 0) := by
  intro d
  induction d with
  | zero =>
    intro i a hi ha
    rw [List.drop_eq_nil_of_le (by omega)]
    exact Ev.step (f := fun _ => some (a, 0)) (fun k => by rw [churnref11_From.l0, if_neg (by omega)]) (Ev.now _)
  | succ d ih =>
    intro i a hi ha
    have hn' : l.length + 1 = n := by rcases hn with h | h; · exact h
                                      · subst h; simp at hi
    obtain ⟨f1, f2⟩ := hf i (by omega)
    rw [drop_rd l i (by omega), fromL, show n - 1 - i - 1 = n - 1 - (i + 1) by omega]
    refine Ev.step (f := fun k => churnref11_From.l0 k (n : Int) l (swp a (n - 1 - i) (rd l (i : Int)).toNat) ((i + 1 : Nat) : Int)) (fun k => ?_) (ih (i + 1) _ (by omega) (by rw [swp_len, ha]))
    have e : wrap64 (wrap64 ((n : Int) - 1) - (i : Int)) = ((n - 1 - i : Nat) : Int) := by rw [w64 (x := (n : Int) - 1) (by omega) (by omega), w64 (by omega) (by omega)]; omega
    rw [churnref11_From.l0, if_pos (by omega), if_pos (by omega), e, if_pos (by omega), if_pos (by omega), if_pos (by omega), if_pos (by omega), w64 (by omega) (by omega)]
    unfold swp
    rw [Int.toNat_of_nonneg f1]
    rfl
theorem ref_fit (n : Nat) (l : List Int) (hl : l.length ≤ 17592186044000) (hl2 : n ≤ 17592186044000) :
    ∀ (d i : Nat), i + d = l.length → (∀ k : Nat, k < i → 0 ≤ rd l (k : Int) ∧ rd l (k : Int) < (n : Int) - (k : Int)) → Ev (fun k => churnref11_Fit.l0 k (n : Int) l (i : Int)) (decide (FitD (n : Int) l)) := by
  intro d
  induction d with
  | zero =>
    intro i hi hk
    have hf : FitD (n : Int) l := fun k h => hk k (by omega)
    rw [decide_eq_true hf]
    exact Ev.step (f := fun _ => some true) (fun k => by rw [churnref11_Fit.l0, if_neg (by omega)]) (Ev.now _)
  | succ d ih =>
    intro i hi hk
    by_cases h1 : rd l (i : Int) < 0
    · rw [decide_eq_false (fun hf : FitD _ l => by have := (hf i (by omega)).1; omega)]
      exact Ev.step (f := fun _ => some false) (fun k => by rw [churnref11_Fit.l0, if_pos (by omega), if_pos (by omega), if_pos h1]) (Ev.now _)
    · by_cases h2 : rd l (i : Int) ≥ (n : Int) - (i : Int)
      · rw [decide_eq_false (fun hf : FitD _ l => by have := (hf i (by omega)).2; omega)]
        exact Ev.step (f := fun _ => some false) (fun k => by rw [churnref11_Fit.l0, if_pos (by omega), if_pos (by omega), if_neg h1, w64 (x := (n : Int) - (i : Int)) (by omega) (by omega), if_pos h2]) (Ev.now _)
      · refine Ev.step (fun k => ?_) (ih (i + 1) (by omega) (fun k h => ?_))
        · rw [churnref11_Fit.l0, if_pos (by omega), if_pos (by omega), if_neg h1, w64 (x := (n : Int) - (i : Int)) (by omega) (by omega), if_neg h2, w64 (by omega) (by omega)]
          rfl
        · by_cases hki : k = i
          · subst hki; exact ⟨by omega, by omega⟩
          · exact hk k (by omega)
theorem ref_fit_ev (n : Nat) (l : List Int) (hl : l.length ≤ 17592186044000) (hl2 : n ≤ 17592186044000) (hm : l.length = n - 1) : Ev (fun k => churnref11_Fit.f k (n : Int) l) (decide (FitD (n : Int) l)) := by
  unfold churnref11_Fit.f
  refine ev_bind (ref_bounds_ev (n : Int) (by omega)) (ev_pos (by rw [boundsL_len]; omega) ?_)
  exact ref_fit n l hl hl2 l.length 0 (by omega) (fun k h => by omega)
theorem ref_from_j0 (m : Nat) (l : List Int) (hn : l.length + 1 = m ∨ l = []) (hl : m ≤ 17592186044000) : Ev (fun k => churnref11_From.j0 k (m : Int) l (!(decide (FitD (m : Int) l)))) (if FitD (m : Int) l then (fromL (iota m) (m - 1) l, 0) else ([], 110)) := by
  by_cases hf : FitD (m : Int) l
  · rw [decide_eq_true hf, if_pos hf]
    refine Ev.step (fun k => by rw [churnref11_From.j0, if_neg (by decide)]) (ev_bind (ref_identity_ev m (by omega)) ?_)
    exact ref_from_walk m l hn hl hf l.length 0 _ (by omega) (iota_len m)
  · rw [decide_eq_false hf, if_neg hf]
    exact Ev.step (f := fun _ => some ([], 110)) (fun k => by rw [churnref11_From.j0, if_pos (by decide)]) (Ev.now _)
theorem ref_from_ev (n : Int) (l : List Int) (hn : -9223372036854775808 ≤ n ∧ n ≤ 9223372036854775807) (hl : l.length ≤ 17592186043904) : Ev (fun k => churnref11_From.f k n l) (fromA n l) := by
  unfold churnref11_From.f fromA
  have out : Ev (fun k => churnref11_From.j0 k n l true) ([], 110) := Ev.step (f := fun _ => some ([], 110)) (fun k => by rw [churnref11_From.j0, if_pos rfl]) (Ev.now _)
  by_cases h0 : n < 0
  · rw [if_pos h0]; exact ev_pos h0 (Ev.now _)
  · rw [if_neg h0]
    refine ev_neg h0 ?_
    rw [w64 (by omega) (by omega)]
    by_cases h1 : n = (l.length : Int) + 1
    · have hm : (l.length : Int) = mx (n - 1) 0 := by rw [mx_pos _ (by omega)]; omega
      obtain ⟨m, rfl⟩ : ∃ m : Nat, n = (m : Int) := ⟨n.toNat, by omega⟩
      refine ev_pos h1 (ev_bind (ref_fit_ev m l (by omega) (by omega) (by omega)) (ev_to (ref_from_j0 m l (Or.inl (by omega)) (by omega)) ?_))
      by_cases hf : FitD (m : Int) l
      · rw [if_pos hf, if_pos ⟨hm, hf⟩]
        rfl
      · rw [if_neg hf, if_neg (fun h => hf h.2)]
    · refine ev_neg h1 ?_
      by_cases h2 : n = 0
      · refine ev_pos h2 ?_
        by_cases h3 : (l.length : Int) = 0
        · have hm : (l.length : Int) = mx (n - 1) 0 := by rw [mx_neg _ (by omega)]; omega
          obtain ⟨m, rfl⟩ : ∃ m : Nat, n = (m : Int) := ⟨n.toNat, by omega⟩
          refine ev_pos h3 (ev_bind (ref_fit_ev m l (by omega) (by omega) (by omega)) (ev_to (ref_from_j0 m l (Or.inr (List.eq_nil_of_length_eq_zero (by omega))) (by omega)) ?_))
          by_cases hf : FitD (m : Int) l
          · rw [if_pos hf, if_pos ⟨hm, hf⟩]
            rfl
          · rw [if_neg hf, if_neg (fun h => hf h.2)]
        · have hm : ¬ (l.length : Int) = mx (n - 1) 0 := by rw [mx_neg _ (by omega)]; omega
          rw [if_neg (fun h => hm h.1)]
          exact ev_neg h3 out
      · have hm : ¬ (l.length : Int) = mx (n - 1) 0 := by rw [mx_pos _ (by omega)]; omega
        rw [if_neg (fun h => hm h.1)]
        exact ev_neg h2 out
end Go.Proofs.Ytbnifpfnjhdenaa.Pl
end
section
set_option linter.unusedVariables false
set_option linter.unusedSimpArgs false
namespace Go.Proofs.Ytbnifpfnjhdenaa.Pl
open Go.RowKit Go.Proofs.Ytbnifpfnjhdenaa.Q Go.Proofs.YtbnifpfnjhdenaaW.PrintWords Go.Proofs.YtbnifpfnjhdenaaW.PrintLast Go.Proofs.Ytbnifpfnjhdenaa.Pure
theorem ref_fA (p bs : List Int) (hp : Bytes p) (hl : p.length ≤ 140737488351232) (hbl : bs.length ≤ 17592186043904) : Ev (fun k => churnref10_All.f k p bs) (drA p bs) := by
 rw [← allA_dr]
 exact ref_all_ev p bs hp hl hbl
theorem ref_step_ok {l : List Int} (hl : Bytes l) (hle : l.length ≤ 140737488351232) (s : Nat) (hs : s ≤ 256) {q : List Int} (h : permOf l s = some q) :
  ∃ ds u, Ev (fun k => churnref10_All.f k l (boundsL s)) (ds, u, 0) ∧ Ev (fun k => churnref11_From.f k (s : Int) ds) (q, 0) := by
 obtain ⟨h1, h2, ds, u, h3, h4, h5, h6⟩ := permOf_fits hl hs h
 obtain ⟨f1, f2⟩ := boundsL_fit h4
 refine ⟨ds, (u : Int), ?_, ev_to (ref_from_ev (s : Int) ds (by omega) (by omega)) ?_⟩
 ·have := ref_fA l (boundsL s) hl hle (by rw [boundsL_len]; omega)
  rwa [drA_some (boundsL_ok s hs) h3] at this
 ·unfold fromA
  have hm : ((ds.length : Nat) : Int) = mx ((s : Int) - 1) 0 := by unfold mx; split <;> omega
  rw [if_neg (by omega), if_pos ⟨hm, f2⟩, Int.toNat_natCast, h5]
theorem ref_step_no {l : List Int} (hl : Bytes l) (hle : l.length ≤ 140737488351232) (s : Nat) (hs : s ≤ 256) (h : permOf l s = none) : Ev (fun k => churnref10_All.f k l (boundsL s)) ([], 0, 3) := by
 unfold permOf at h
 have := ref_fA l (boundsL s) hl hle (by rw [boundsL_len]; omega)
 rwa [drA_none (boundsL_ok s hs) (Option.map_eq_none_iff.1 h)] at this
theorem ref_bounds_ev' (s : Nat) (hs : s ≤ 256) : Ev (fun k => churnref11_Bounds.f k (s : Int)) (boundsL s) := by
 have := ref_bounds_ev (s : Int) (by omega)
 rwa [Int.toNat_natCast] at this
theorem laid_loop {p : List Int} (hp : Bytes p) (hl : p.length ≤ 140737488351232) (n c : Nat) (hn : n ≤ 256) (h1 : 1 ≤ c) (hc : c ≤ 64) (C O y0 y1 : List Int) :
  ∀ (d j : Nat) (L : List (List Int)), j + d = c → L.length = j →
  ∃ L', Ev (fun k => churnref13_laid.l0 k (c : Int) (j : Int) (sz n c) C O L y0 y1 (pieces (restOf p) (qOf p c) c))
   (match permsG (fun j => permOf (piece (restOf p) (qOf p c) j) (szf n c j)) d j L with | some own => (sz n c, C, O, own, true) | none => (sz n c, C, O, L', false)) := by
 intro d
 induction d with
 | zero =>
  intro j L hj hL
  obtain rfl : j = c := by omega
  rw [permsG]
  exact ⟨L, Ev.step (f := fun _ => some (sz n j, C, O, L, true)) (fun k => by rw [churnref13_laid.l0, if_neg (by omega)]) (Ev.now _)⟩
 | succ d ih =>
  intro j L hj hL
  rw [permsG]
  have hjc : j < c := by omega
  have hs := szf_le n c j hn h1
  have hsl := sz_len n c
  have hrd := sz_rd n c j hjc
  have hby := bytes_piece hp (qOf p c) j
  have hpl := piece_le p (qOf p c) j
  have hplen := pieces_len (restOf p) (qOf p c) c
  have st : ∀ R, Ev (fun k => (churnref10_All.f k ((pieces (restOf p) (qOf p c) c).getD j []) (boundsL (szf n c j))).bind fun bt716 => (if bt716.2.2 = 0 then ((churnref11_From.f k (szf n c j : Int) bt716.1).bind fun bt722 => (if L.length < 5864062014805 then (churnref13_laid.l0 k (c : Int) (wrap64 ((j : Int) + 1)) (sz n c) C O (L ++ [bt722.1]) y0 y1 (pieces (restOf p) (qOf p c) c)) else (none))) else (some (sz n c, C, O, L, false)))) R → Ev (fun k => churnref13_laid.l0 k (c : Int) (j : Int) (sz n c) C O L y0 y1 (pieces (restOf p) (qOf p c) c)) R := by
   intro R hR
   exact Ev.step (fun k => by rw [churnref13_laid.l0, if_pos (by omega), if_pos (by omega), if_pos (by omega), if_pos (by omega), hrd]) (ev_bind (ref_bounds_ev' _ hs) hR)
  rw [pieces_rd _ _ _ _ hjc] at st
  cases hq : permOf (piece (restOf p) (qOf p c) j) (szf n c j) with
  | none => exact ⟨L, st _ (ev_bind (ref_step_no hby (by omega) _ hs hq) (ev_neg (by decide) (Ev.now _)))⟩
  | some q =>
   obtain ⟨es, u, e1, e2⟩ := ref_step_ok hby (by omega) _ hs hq
   obtain ⟨L', hE⟩ := ih (j + 1) (L ++ [q]) (by omega) (by simp [hL])
   refine ⟨L', st _ (ev_bind e1 (ev_pos rfl (ev_bind e2 (ev_pos (by omega) ?_))))⟩
   rw [w64 (x := (j : Int) + 1) (by omega) (by omega)]
   exact hE
theorem laid_ev {p : List Int} (hp : Bytes p) (hl : p.length ≤ 140737488351232) (n c : Nat) (hn : n ≤ 256) (h1 : 1 ≤ c) (hc : c ≤ 64) :
  (∀ ds P own, Lay p n c ds P own → Ev (fun k => churnref13_laid.f k p n c) (sz n c, fsts P, allOff c P, own, true)) ∧
  ((¬ ∃ ds P own, Lay p n c ds P own) → ∃ r, r.2.2.2.2 = false ∧ Ev (fun k => churnref13_laid.f k p n c) r) := by
 by_cases h18 : p.length < 18
 ·refine ⟨fun ds P own h => by have := h.long; omega, fun _ => ⟨([], [], [], [], false), rfl, ?_⟩⟩
  unfold churnref13_laid.f
  refine ev_bind (ref_split_ev p c hl) ?_
  unfold splitS
  rw [if_neg (by omega), if_pos h18]
  exact ev_neg (by decide) (Ev.now _)
 have hbl := braid_le p
 have hD := ref_fA (braidOf p) (bnd n) (bytes_braid hp) (by omega) (by rw [bnd_len]; omega)
 have start : ∀ R, Ev (fun k => (if (drA (braidOf p) (bnd n)).2.2 = 0 then ((churnref12_Pattern.f k (sz n c) (drA (braidOf p) (bnd n)).1).bind fun bt704 => (churnref13_laid.l0 k (c : Int) 0 (sz n c) bt704.1 bt704.2.1 ([] : List (List Int)) (noiseOf p) (braidOf p) (pieces (restOf p) (qOf p c) c))) else (some (sz n c, ([] : List Int), ([] : List Int), ([] : List (List Int)), false)))) R → Ev (fun k => churnref13_laid.f k p n c) R := by
  intro R hR
  unfold churnref13_laid.f
  refine ev_bind (ref_split_ev p c hl) ?_
  rw [splitS_ok (by omega) h1 hc]
  exact ev_pos rfl (ev_bind (ref_sizes_good n c hn h1 hc) (ev_bind (ref_bounds_good n hn) (ev_bind hD hR)))
 cases hd : dr (braidOf p) (bnd n) 0 with
 | none =>
  refine ⟨fun ds P own h => ?_, fun _ => ⟨(sz n c, [], [], [], false), rfl, start _ ?_⟩⟩
  ·obtain ⟨u, hu⟩ := h.draws
   rw [hd] at hu
   exact absurd hu (by simp)
  ·rw [drA_none (bnd_ok n hn) hd]
   exact ev_neg (by decide) (Ev.now _)
 | some r =>
  obtain ⟨ds, u⟩ := r
  have hv := dr_valid _ (bytes_braid hp) (bnd n) 0 (bnd_ok n hn) (by omega) _ hd
  obtain ⟨P, g⟩ := sz_fit hn h1 hc hv
  obtain ⟨L', key⟩ := laid_loop hp hl n c hn h1 hc (fsts P) (allOff c P) (noiseOf p) (braidOf p) c 0 [] (by omega) rfl
  have key' := start _ (by
   rw [drA_some (bnd_ok n hn) hd]
   have hgr := g.ref
   rw [sz_len] at hgr
   exact ev_pos rfl (ev_bind hgr key))
  cases ho : permsG (fun j => permOf (piece (restOf p) (qOf p c) j) (szf n c j)) c 0 [] with
  | none =>
   rw [ho] at key'
   refine ⟨fun es Q own h => ?_, fun _ => ⟨_, rfl, key'⟩⟩
   have := h.owns
   rw [ho] at this
   exact absurd this (by simp)
  | some own =>
   rw [ho] at key'
   have hL : Lay p n c ds P own := ⟨by omega, hn, h1, hc, ⟨u, hd⟩, g, ho⟩
   refine ⟨fun es Q won h => ?_, fun h => absurd ⟨ds, P, own, hL⟩ h⟩
   obtain ⟨_, e2, e3⟩ := hL.same h
   rw [← e2, ← e3]
   exact key'
theorem ref_fit_f (n c : Int) : churnref13_fit.f n c = some (decide (0 ≤ n ∧ n ≤ 256 ∧ 1 ≤ c ∧ c ≤ 64)) := by
 unfold churnref13_fit.f
 by_cases h1 : n ≥ 0
 ·rw [if_pos h1]
  by_cases h2 : n ≤ 256
  ·rw [if_pos h2]
   by_cases h3 : c ≥ 1
   ·rw [if_pos h3]
    congr 1
    simp [h1, h2, h3]
   ·rw [if_neg h3, decide_eq_false (by omega)]
  ·rw [if_neg h2, decide_eq_false (by omega)]
 ·rw [if_neg h1, decide_eq_false (by omega)]
theorem ref_order_loop {p : List Int} (hp : Bytes p) {n c : Nat} {ds : List Int} {P : List (Nat × Int)} {own : List (List Int)} (h : Lay p n c ds P own) (y0 y2 : List Int) :
  ∀ (d i : Nat), i + d = n → Ev (fun k => churnref13_Order.l1 k (n : Int) (tab c fun j => psum (sz n c) j) (tab c fun j => (cn (P.map (·.1)) j i : Int)) (tab i fun t => ordAt (P.map (·.1)) (psum (sz n c)) own t) (i : Int) y0 (fsts P) y2 own)
   (ordL (P.map (·.1)) (psum (sz n c)) own, 0) := by
 have hl := h.lens
 have hC := h.good.patC h.one
 have hown := h.own hp
 have hfl : (fsts P).length = n := by simp [fsts]; exact hl.1
 have hcc := h.chunks
 have hn := h.most
 intro d
 induction d with
 | zero =>
  intro i hi
  obtain rfl : i = n := by omega
  have e : (tab i fun t => ordAt (P.map (·.1)) (psum (sz i c)) own t) = ordL (P.map (·.1)) (psum (sz i c)) own := by
   unfold ordL
   rw [hl.2.1]
  rw [e]
  exact Ev.step (f := fun _ => some (ordL (P.map (·.1)) (psum (sz i c)) own, 0)) (fun k => by rw [churnref13_Order.l1, if_neg (by omega)]) (Ev.now _)
 | succ d ih =>
  intro i hi
  have hin : i < n := by omega
  obtain ⟨c1, c2⟩ := hC.at_ i hin
  obtain ⟨o, e1, r1, o0, o1⟩ := ordAt_bounds hp h i hin
  obtain ⟨_, w2, w3⟩ := hown.2 _ c1
  have hr : rd (fsts P) (i : Int) = (((P.map (·.1)).getD i 0 : Nat) : Int) := by
   rw [fsts_int, ints_rd _ i (by omega), cn_get _ i (by omega)]
  have hcs : ∀ j, cn (P.map (·.1)) j (i + 1) = cn (P.map (·.1)) j i + if j = (P.map (·.1)).getD i 0 then 1 else 0 := fun j => by
   rw [cn_succ _ j i (by omega), cn_get _ i (by omega)]
  generalize hj : (P.map (·.1)).getD i 0 = j at *
  have t1 := tab_len c fun j => (cn (P.map (·.1)) j i : Int)
  have t2 := tab_len c fun j => psum (sz n c) j
  have t3 := tab_len i fun t => ordAt (P.map (·.1)) (psum (sz n c)) own t
  have g1 : rd (tab c fun j => (cn (P.map (·.1)) j i : Int)) (j : Int) = (cn (P.map (·.1)) j i : Int) := tab_rd _ _ j c1
  have g2 : rd (tab c fun j => psum (sz n c) j) (j : Int) = psum (sz n c) j := tab_rd _ _ j c1
  have pb := sz_bounds n c j h.most h.one h.chunks
  have sl := szf_le n c j h.most h.one
  have ho : rd_L3 own (j : Int) = own.getD j [] := rfl
  have hcl := cn_len (P.map (·.1)) j i
  refine Ev.step (fun k => ?_) (ih (i + 1) (by omega))
  rw [churnref13_Order.l1, if_pos (by omega), if_pos (by omega), if_pos (by omega), hr, if_pos (by omega), if_pos (by omega), if_pos (by omega), if_pos (by omega), g1, if_pos (by omega), ho, if_pos (by omega), if_pos (by omega), g2, r1, Int.toNat_natCast, w64 (x := (cn (P.map (·.1)) j i : Int) + 1) (by omega) (by omega), w64 (x := psum (sz n c) j + o) (by omega) (by omega), w64 (x := (i : Int) + 1) (by omega) (by omega), tab_set, ← e1, tab_succ]
  have q1 : (tab c fun t => if t = j then (cn (P.map (·.1)) j i : Int) + 1 else (cn (P.map (·.1)) t i : Int)) = tab c fun j => (cn (P.map (·.1)) j (i + 1) : Int) := tab_congr _ _ _ fun t ht => by
   rw [hcs t]
   by_cases e : t = j
   ·rw [if_pos e, if_pos e, e]; omega
   ·rw [if_neg e, if_neg e]; omega
  rw [q1]
  rfl
theorem ref_order_ev {p : List Int} (hp : Bytes p) (hl : p.length ≤ 140737488351232) (n c : Nat) (hn : n ≤ 256) (h1 : 1 ≤ c) (hc : c ≤ 64) :
  (∀ ds P own, Lay p n c ds P own → Ev (fun k => churnref13_Order.f k p n c) (ordL (P.map (·.1)) (psum (sz n c)) own, 0)) ∧
  ((¬ ∃ ds P own, Lay p n c ds P own) → Ev (fun k => churnref13_Order.f k p n c) ([], 3)) := by
 obtain ⟨l1, l2⟩ := laid_ev hp hl n c hn h1 hc
 have hf : churnref13_fit.f (n : Int) (c : Int) = some true := by rw [ref_fit_f, decide_eq_true (by omega)]
 constructor
 ·intro ds P own h
  unfold churnref13_Order.f
  refine ev_bind0 hf (ev_pos rfl (ev_bind (l1 ds P own h) (ev_pos rfl (ev_pos (show (0 : Int) ≤ (c : Int) by omega) (ev_pos (show ((c : Int) : Int).toNat ≤ 35184372088832 by omega) ?_)))))
  rw [Int.toNat_natCast]
  have hz := sz_len n c
  have key : ∀ (d a : Nat), a + d = c → 1 ≤ a → Ev (fun k => churnref13_Order.l0 k (n : Int) (c : Int) (tab c fun j => if j < a then psum (sz n c) j else 0) (List.replicate c 0) (a : Int) (sz n c) (fsts P) (allOff c P) own) (ordL (P.map (·.1)) (psum (sz n c)) own, 0) := by
   intro d
   induction d with
   | zero =>
    intro a ha ha1
    have hlast := ref_order_loop hp h (sz n c) (allOff c P) n 0 (by omega)
    have e1 : (tab c fun j => (cn (P.map (·.1)) j 0 : Int)) = List.replicate c 0 := by
     rw [tab_zero]
     exact tab_congr _ _ _ fun j _ => by rw [cn_zero]; rfl
    have e2 : (tab c fun j => if j < a then psum (sz n c) j else 0) = tab c fun j => psum (sz n c) j := tab_congr _ _ _ fun j hj => by rw [if_pos (by omega)]
    rw [e1] at hlast
    rw [e2]
    refine Ev.step (fun k => ?_) hlast
    rw [churnref13_Order.l0, if_neg (by omega), if_pos (by omega), if_pos (by omega)]
    rfl
   | succ d ih =>
    intro a ha ha1
    have htl := tab_len c fun j => if j < a then psum (sz n c) j else 0
    have hw : wrap64 ((a : Int) - 1) = ((a - 1 : Nat) : Int) := by rw [w64 (by omega) (by omega)]; omega
    have h2 := psum_succ (sz n c) (a - 1) (by omega)
    rw [show a - 1 + 1 = a from by omega] at h2
    have h3 := sz_bounds n c a hn h1 hc
    refine Ev.step (fun k => ?_) (ih (a + 1) (by omega) (by omega))
    rw [churnref13_Order.l0, if_pos (by omega), hw, if_pos (by omega), if_pos (by omega), if_pos (by omega), if_pos (by omega), if_pos (by omega), tab_rd _ _ (a - 1) (by omega), rd_lt (sz n c) (a - 1) (by omega), if_pos (by omega), ← h2, w64 (by omega) (by omega), w64 (by omega) (by omega),
     show ((a : Int) : Int).toNat = a from by omega, tab_set]
    have : (tab c fun i => if i = a then psum (sz n c) a else if i < a then psum (sz n c) i else 0) = tab c fun j => if j < a + 1 then psum (sz n c) j else 0 := tab_congr _ _ _ fun j hj => by
     by_cases e : j = a
     ·subst e; simp
     ·by_cases e2 : j < a
      ·rw [if_neg e, if_pos e2, if_pos (by omega)]
      ·rw [if_neg e, if_neg e2, if_neg (by omega)]
    rw [this]
    rfl
  have := key (c - 1) 1 (by omega) (by omega)
  have e : (tab c fun j => if j < 1 then psum (sz n c) j else 0) = List.replicate c 0 := by
   rw [tab_zero]
   refine tab_congr _ _ _ fun j _ => ?_
   by_cases e : j < 1
   ·rw [if_pos e, show j = 0 by omega, psum_zero]
   ·rw [if_neg e]
  rw [e] at this
  exact this
 ·intro h
  obtain ⟨r, e, hr⟩ := l2 h
  unfold churnref13_Order.f
  exact ev_bind0 hf (ev_pos rfl (ev_bind hr (ev_neg (by rw [e]; decide) (Ev.now _))))
theorem ref_order_bad (p : List Int) (n m : Int) (h : ¬ (0 ≤ n ∧ n ≤ 256 ∧ 1 ≤ m ∧ m ≤ 64)) : Ev (fun k => churnref13_Order.f k p n m) ([], 2) := by
 unfold churnref13_Order.f
 exact ev_bind0 (by rw [ref_fit_f, decide_eq_false h]) (ev_neg (by decide) (Ev.now _))
end Go.Proofs.Ytbnifpfnjhdenaa.Pl
end
section
set_option linter.unusedVariables false
set_option linter.unusedSimpArgs false
namespace Go.Proofs.Ytbnifpfnjhdenaa.Pure
open Go.RowKit Go.Proofs.Ytbnifpfnjhdenaa.Q Go.Proofs.YtbnifpfnjhdenaaW.PrintWords Go.Proofs.YtbnifpfnjhdenaaW.PrintLast Go.Proofs.Ytbnifpfnjhdenaa.Pl
theorem alive13 : Ev (fun k => churnlaw13_alive.f k) true := Ev.of (fun k => churnlaw13_alive.mono k) (k := 60) (by decide +kernel)
theorem same13_yes (a : List Int) (ha : a.length ≤ 9223372036854775000) : Ev (fun k => churnlaw13_same.f k a a) true := by
 unfold churnlaw13_same.f
 refine ev_pos rfl ?_
 have key : ∀ (d i : Nat), i + d = a.length → Ev (fun k => churnlaw13_same.l0 k a a (i : Int)) true := by
  intro d
  induction d with
  | zero => intro i hi; exact Ev.step (f := fun _ => some true) (fun k => by rw [churnlaw13_same.l0, if_neg (by omega)]) (Ev.now _)
  | succ d ih =>
   intro i hi
   refine Ev.step (fun k => ?_) (ih (i + 1) (by omega))
   rw [churnlaw13_same.l0, if_pos (by omega), if_pos (by omega), if_pos (by omega), if_pos rfl, w64 (by omega) (by omega)]
   rfl
 exact key a.length 0 (by omega)
def nameOf (i : Nat) : ByteArray := strOfNums [(i : Int) % 256, ((i : Int) / 256) % 256]
def namesTo (n : Nat) : List ByteArray := (List.range n).map nameOf
theorem namesTo_len (n : Nat) : (namesTo n).length = n := by simp [namesTo]
theorem namesTo_succ (n : Nat) : namesTo (n + 1) = namesTo n ++ [nameOf n] := by simp [namesTo, List.range_succ]
def pickS (p : List Int) (q : List ByteArray) : List ByteArray := p.map fun i => rdOf ByteArray.empty q i
theorem pickS_len (p : List Int) (q : List ByteArray) : (pickS p q).length = p.length := by simp [pickS]
theorem pickS_rd (p : List Int) (q : List ByteArray) (i : Nat) (h : i < p.length) : rdOf ByteArray.empty (pickS p q) (i : Int) = rdOf ByteArray.empty q (rd p (i : Int)) := by
 rw [rd_lt p i h]
 simp [rdOf, pickS, h]
theorem picked_string_ev (p : List Int) (q : List ByteArray) (hl : p.length ≤ 8796093022207) (hp : ∀ x ∈ p, 0 ≤ x ∧ x < (q.length : Int)) : Ev (fun k => perm_picked_string.f k p q) (pickS p q) := by
 unfold perm_picked_string.f
 refine ev_pos (by omega) (ev_pos (by omega) ?_)
 have key : ∀ (d i : Nat), i + d = p.length → Ev (fun k => perm_picked_string.l0 k q (pickS (p.take i) q) p (p.length : Int) (i : Int)) (pickS p q) := by
  intro d
  induction d with
  | zero =>
   intro i hi
   rw [List.take_of_length_le (by omega)]
   exact Ev.step (f := fun _ => some (pickS p q)) (fun k => by rw [perm_picked_string.l0, if_neg (by omega)]) (Ev.now _)
  | succ d ih =>
   intro i hi
   have hm := hp _ (rd_mem p (i : Int) (by simp; omega))
   have hlen : (pickS (p.take i) q).length = i := by rw [pickS_len, List.length_take]; omega
   refine Ev.step (fun k => ?_) (ih (i + 1) (by omega))
   rw [perm_picked_string.l0, if_pos (by omega), if_pos (by omega), if_pos (by omega), if_pos hm.1, if_pos hm.2, if_pos (by omega), w64 (by omega) (by omega), take_rd p i (by omega)]
   simp only [pickS, List.map_append, List.map_cons, List.map_nil]
   rfl
 have := key p.length 0 (by omega)
 simpa [pickS] using this
theorem shuffle_ok {p : List Int} {c : Int} {q : List ByteArray} {o : List Int} (h : Ev (fun k => riffle_Order.f k p (q.length : Int) c) (o, 0)) (ho : o.length = q.length) (hq : q.length ≤ 1000) (fo : Fits o) : Ev (fun k => riffle_Shuffle_string.f k p c q) (pickS o q, 0) := by
 unfold riffle_Shuffle_string.f perm_Apply_string.f
 refine ev_bind h (ev_pos rfl (ev_bind (a := (pickS o q, 0)) ?_ (Ev.now _)))
 refine ev_pos (show (o.length : Int) = (q.length : Int) by omega) (ev_bind (fits_ev o (by omega)) (ev_pos (by simp [fo]) (ev_bind (picked_string_ev o q (by omega) (fun x hx => by have := fo.1 x hx; omega)) (Ev.now _))))
theorem shuffle_no {p : List Int} {c : Int} {q : List ByteArray} {e : Int} (he : e ≠ 0) (h : Ev (fun k => riffle_Order.f k p (q.length : Int) c) ([], e)) : Ev (fun k => riffle_Shuffle_string.f k p c q) ([], e) := by
 unfold riffle_Shuffle_string.f
 exact ev_bind h (ev_neg he (Ev.now _))
theorem orders_l1 (o : List Int) (q : List ByteArray) (ho : o.length ≤ 1000) (hp : ∀ x ∈ o, 0 ≤ x ∧ x < (q.length : Int)) : ∀ (d i : Nat), i + d = o.length → Ev (fun k => churnlaw13_RiffleOrders.l1 k o q (pickS o q) (i : Int)) true := by
 intro d
 induction d with
 | zero => intro i hi; exact Ev.step (f := fun _ => some true) (fun k => by rw [churnlaw13_RiffleOrders.l1, if_neg (by omega)]) (Ev.now _)
 | succ d ih =>
  intro i hi
  have hm := hp _ (rd_mem o (i : Int) (by simp; omega))
  have hlen := pickS_len o q
  refine Ev.step (fun k => ?_) (ih (i + 1) (by omega))
  rw [churnlaw13_RiffleOrders.l1, if_pos (by omega), if_pos (by omega), if_pos (by omega), if_pos hm.1, if_pos hm.2, if_pos (by rw [pickS_rd o q i (by omega)]), w64 (by omega) (by omega)]
  rfl
theorem orders_l0 (p : List Int) (n : Nat) (c : Int) (o : List Int) (e : Int) (hn : n ≤ 300) (r : List ByteArray)
  (hs : Ev (fun k => riffle_Shuffle_string.f k p c (namesTo n)) (r, e)) (hr : r.length = o.length) (hend : Ev (fun k => churnlaw13_RiffleOrders.l1 k o (namesTo n) r 0) true) :
  ∀ (d i : Nat), i + d = n → Ev (fun k => churnlaw13_RiffleOrders.l0 k p (n : Int) c o e (namesTo i) (i : Int)) true := by
 intro d
 induction d with
 | zero =>
  intro i hi
  obtain rfl : i = n := by omega
  refine Ev.step (fun k => by rw [churnlaw13_RiffleOrders.l0, if_neg (by omega)]) (ev_bind hs (ev_pos rfl (Ev.step (fun k => ?_) hend)))
  rw [churnlaw13_RiffleOrders.j3, if_neg (by simp [hr])]
 | succ d ih =>
  intro i hi
  have hl := namesTo_len i
  refine Ev.step (fun k => ?_) (ih (i + 1) (by omega))
  rw [churnlaw13_RiffleOrders.l0, if_pos (by omega), if_pos (by omega), w64 (by omega) (by omega), namesTo_succ]
  rfl
theorem RiffleOrders : churnlaw13_RiffleOrders.Pure := by
 intro p n c h1 h2 hp hn hc
 have hp' : Bytes p := fun x hx => wf_u8 (hp x hx)
 have hnw := wf_i64 hn
 have hcw := wf_i64 hc
 refine Ev.rounds (g := fun k => churnlaw13_RiffleOrders.f k p n c) (r := true) ?_
 unfold churnlaw13_RiffleOrders.f
 refine ev_bind alive13 (ev_pos rfl ?_)
 have main : ∀ (o : List Int) (e : Int), o.length ≤ 256 → Ev (fun k => churnref13_Order.f k p n c) (o, e) → Ev (fun k => riffle_Order.f k p n c) (o, e) →
   (∀ m : Nat, n = (m : Int) → m ≤ 300 → ∃ r, Ev (fun k => riffle_Shuffle_string.f k p c (namesTo m)) (r, e) ∧ r.length = o.length ∧ Ev (fun k => churnlaw13_RiffleOrders.l1 k o (namesTo m) r 0) true) →
   Ev (fun n_1 => (churnref13_Order.f n_1 p n c).bind fun bt769 => (riffle_Order.f n_1 p n c).bind fun bt773 => if bt773.2 = bt769.2 then (churnlaw13_same.f n_1 bt773.1 bt769.1).bind fun t777 => churnlaw13_RiffleOrders.j0 n_1 p n c bt769.1 bt769.2 (!t777) else churnlaw13_RiffleOrders.j0 n_1 p n c bt769.1 bt769.2 true) true := by
  intro o e ho hr hg hs
  refine ev_bind hr (ev_bind hg (ev_pos rfl (ev_bind (same13_yes o (by omega)) ?_)))
  by_cases n0 : n < 0
  ·refine Ev.step (f := fun k => churnlaw13_RiffleOrders.j1 k p n c o e true) (fun k => by rw [churnlaw13_RiffleOrders.j0, if_neg (by decide), if_pos n0]) (Ev.step (f := fun _ => some true) (fun k => by rw [churnlaw13_RiffleOrders.j1, if_pos rfl]) (Ev.now _))
  ·obtain ⟨m, rfl⟩ : ∃ m : Nat, n = (m : Int) := ⟨n.toNat, by omega⟩
   refine Ev.step (f := fun k => churnlaw13_RiffleOrders.j1 k p (m : Int) c o e (decide ((m : Int) > 300))) (fun k => by rw [churnlaw13_RiffleOrders.j0, if_neg (by decide), if_neg n0]) ?_
   by_cases n3 : (m : Int) > 300
   ·exact Ev.step (f := fun _ => some true) (fun k => by rw [churnlaw13_RiffleOrders.j1, if_pos (decide_eq_true n3)]) (Ev.now _)
   ·obtain ⟨r, s1, s2, s3⟩ := hs m rfl (by omega)
    refine Ev.step (fun k => ?_) (orders_l0 p m c o e (by omega) r s1 s2 s3 m 0 (by omega))
    rw [churnlaw13_RiffleOrders.j1, if_neg (by simp; omega), if_pos (by omega), if_pos (by omega)]
    rfl
 by_cases hfit : 0 ≤ n ∧ n ≤ 256 ∧ 1 ≤ c ∧ c ≤ 64
 ·obtain ⟨m, rfl⟩ : ∃ m : Nat, n = (m : Int) := ⟨n.toNat, by omega⟩
  obtain ⟨d, rfl⟩ : ∃ d : Nat, c = (d : Int) := ⟨c.toNat, by omega⟩
  obtain ⟨r1, r2⟩ := ref_order_ev hp' (by omega) m d (by omega) (by omega) (by omega)
  rcases order_ev hp' (by omega) m d (by omega) (by omega) (by omega) with ⟨ds, P, own, h, e⟩ | ⟨h, e⟩
  ·have fo := ordL_fits hp' h
   have lo : (ordL (P.map (·.1)) (psum (sz m d)) own).length = m := by rw [ordL_len]; exact h.lens.2.1
   refine main _ 0 (by omega) (r1 ds P own h) e (fun m' hm' _ => ?_)
   obtain rfl : m = m' := by omega
   refine ⟨_, shuffle_ok (by rw [namesTo_len]; exact e) (by rw [namesTo_len]; exact lo) (by rw [namesTo_len]; omega) fo, pickS_len _ _, orders_l1 _ _ (by omega) (fun x hx => ?_) m 0 (by omega)⟩
   have := fo.1 x hx
   rw [namesTo_len]
   omega
  ·refine main [] 3 (by simp) (r2 h) e (fun m' hm' _ => ?_)
   obtain rfl : m = m' := by omega
   exact ⟨[], shuffle_no (by decide) (by rw [namesTo_len]; exact e), rfl, Ev.step (f := fun _ => some true) (fun k => by rw [churnlaw13_RiffleOrders.l1, if_neg (by simp)]) (Ev.now _)⟩
 ·refine main [] 2 (by simp) (ref_order_bad p n c hfit) (order_bad p n c hfit) (fun m hm _ => ?_)
  subst hm
  exact ⟨[], shuffle_no (by decide) (by rw [namesTo_len]; exact order_bad p _ c hfit), rfl, Ev.step (f := fun _ => some true) (fun k => by rw [churnlaw13_RiffleOrders.l1, if_neg (by simp)]) (Ev.now _)⟩
end Go.Proofs.Ytbnifpfnjhdenaa.Pure
end
