/- The printed functions of perm and its reference, told plainly: same, fits and Check, picked and Put. -/
import Derived.Test.YtmbkgepfpfeahaaPlain
import Derived.Test.YtmbkgepfpfeahaaQx1
import Derived.Test.YtmbkgepfpfeahaaQx5
import Derived.Test.YtmbkgepfpfeahaaQx3
import Derived.Test.YtmbkgepfpfeahaaQx4
set_option linter.unusedVariables false
set_option linter.unusedSimpArgs false
namespace Go.Proofs.Ytmbkgepfpfeahaa.Pl
open Go.RowKit Go.Proofs.Ytmbkgepfpfeahaa.Q Go.Proofs.YtmbkgepfpfeahaaW.PrintWords Go.Proofs.YtmbkgepfpfeahaaW.PrintLast

/-- A list that fits: the numbers 0 to n - 1, each once. -/
def Fits (l : List Int) : Prop := (∀ x ∈ l, 0 ≤ x ∧ x < (l.length : Int)) ∧ l.Nodup
instance (l : List Int) : Decidable (Fits l) := by unfold Fits; infer_instance

theorem same_ev (a b : List Int) (ha : a.length ≤ 9223372036854775000) : Ev (fun k => churnlaw11_same.f k a b) (decide (a = b)) := by
  unfold churnlaw11_same.f
  by_cases h : a.length = b.length
  · refine ev_pos (by omega) ?_
    have key : ∀ (d i : Nat), i + d = a.length → a.take i = b.take i → Ev (fun k => churnlaw11_same.l0 k a b (i : Int)) (decide (a = b)) := by
      intro d
      induction d with
      | zero =>
        intro i hi ht
        refine Ev.step (f := fun _ => some true) (fun k => by rw [churnlaw11_same.l0, if_neg (by omega)]) (ev_some ?_)
        have : a = b := by
          have h1 : a.take i = a := List.take_of_length_le (by omega)
          have h2 : b.take i = b := List.take_of_length_le (by omega)
          rw [h1, h2] at ht
          exact ht
        simp [this]
      | succ d ih =>
        intro i hi ht
        by_cases he : rd a (i : Int) = rd b (i : Int)
        · refine Ev.step (f := fun k => churnlaw11_same.l0 k a b ((i + 1 : Nat) : Int)) (fun k => ?_) (ih (i + 1) (by omega) ?_)
          · rw [churnlaw11_same.l0, if_pos (by omega), if_pos (by omega), if_pos (by omega), if_pos he, w64 (by omega) (by omega)]
            rfl
          · rw [take_rd a i (by omega), take_rd b i (by omega), ht, he]
        · refine Ev.step (f := fun _ => some false) (fun k => ?_) (ev_some ?_)
          · rw [churnlaw11_same.l0, if_pos (by omega), if_pos (by omega), if_pos (by omega), if_neg he]
          · have : a ≠ b := fun e => he (by rw [e])
            simp [this]
    exact key a.length 0 (by omega) (by simp)
  · refine ev_neg (by omega) (ev_some ?_)
    have : a ≠ b := fun e => h (by rw [e])
    simp [this]

/-- What a list of marks says of the numbers met so far. -/
def Seen (n : Nat) (seen : List Bool) (met : List Int) : Prop := seen.length = n ∧ ∀ v : Nat, v < n → (seen.getD v false = true ↔ (v : Int) ∈ met)
theorem Seen.start (n : Nat) : Seen n (List.replicate n false) [] := by
  refine ⟨by simp, fun v hv => ?_⟩
  simp [List.getD_eq_getElem?_getD, List.getElem?_replicate, hv]
theorem Seen.next {n : Nat} {seen : List Bool} {met : List Int} (h : Seen n seen met) (x : Int) (h0 : 0 ≤ x) (hx : x < n) : Seen n (seen.set x.toNat true) (met ++ [x]) := by
  refine ⟨by rw [List.length_set]; exact h.1, fun v hv => ?_⟩
  have hl := h.1
  rw [List.getD_eq_getElem?_getD, List.getElem?_set]
  by_cases e : x.toNat = v
  · have : (v : Int) = x := by omega
    simp [e, this, hl, hv]
  · have h1 := h.2 v hv
    rw [List.getD_eq_getElem?_getD] at h1
    simp only [e, if_false, h1, List.mem_append, List.mem_singleton]
    constructor
    · exact Or.inl
    · rintro (h2 | h2)
      · exact h2
      · omega
theorem Seen.at_ {n : Nat} {seen : List Bool} {met : List Int} (h : Seen n seen met) (x : Int) (h0 : 0 ≤ x) (hx : x < n) : (rdOf false seen x = true ↔ x ∈ met) := by
  have := h.2 x.toNat (by omega)
  rw [show ((x.toNat : Nat) : Int) = x from by omega] at this
  exact this

theorem fits_split (l : List Int) (i : Nat) (h : i < l.length) (hp : ∀ x ∈ l.take i, 0 ≤ x ∧ x < (l.length : Int)) (hn : (l.take i).Nodup) :
    (Fits l → 0 ≤ rd l (i : Int) ∧ rd l (i : Int) < (l.length : Int) ∧ rd l (i : Int) ∉ l.take i) := by
  intro hf
  have hm : rd l (i : Int) ∈ l := rd_mem l _ (by simpa using h)
  refine ⟨(hf.1 _ hm).1, (hf.1 _ hm).2, fun hc => ?_⟩
  have h2 : (l.take (i + 1)).Nodup := (List.take_sublist _ _).nodup hf.2
  rw [take_rd l i h, List.nodup_append] at h2
  exact h2.2.2 _ hc _ (List.mem_singleton.2 rfl) rfl

theorem fits_loops (l : List Int) (hl : l.length ≤ 9223372036854775000) (d : Nat) : ∀ (i : Nat) (seen : List Bool), i + d = l.length → Seen l.length seen (l.take i) →
    (∀ x ∈ l.take i, 0 ≤ x ∧ x < (l.length : Int)) → (l.take i).Nodup →
    Ev (fun k => perm_fits.l0 k l seen l (l.length : Int) (i : Int)) (decide (Fits l)) ∧ Ev (fun k => churnref11_Check.l0 k l seen (i : Int)) (if Fits l then 0 else 110) := by
  induction d with
  | zero =>
    intro i seen hi hs hp hn
    have hf : Fits l := by
      have h1 : l.take i = l := List.take_of_length_le (by omega)
      rw [h1] at hp hn
      exact ⟨hp, hn⟩
    rw [if_pos hf, decide_eq_true hf]
    exact ⟨Ev.step (f := fun _ => some true) (fun k => by rw [perm_fits.l0, if_neg (by omega)]) (ev_some rfl), Ev.step (f := fun _ => some 0) (fun k => by rw [churnref11_Check.l0, if_neg (by omega)]) (ev_some rfl)⟩
  | succ d ih =>
    intro i seen hi hs hp hn
    have hsp := fits_split l i (by omega) hp hn
    have hlen := hs.1
    by_cases h1 : rd l (i : Int) < 0
    · have hf : ¬ Fits l := fun h => by have := (hsp h).1; omega
      rw [if_neg hf, decide_eq_false hf]
      exact ⟨Ev.step (f := fun _ => some false) (fun k => by rw [perm_fits.l0, if_pos (by omega), if_pos (by omega), if_pos (by omega), if_pos h1]) (ev_some rfl),
        Ev.step (f := fun _ => some 110) (fun k => by rw [churnref11_Check.l0, if_pos (by omega), if_pos (by omega), if_pos h1]) (ev_some rfl)⟩
    · by_cases h2 : rd l (i : Int) ≥ (l.length : Int)
      · have hf : ¬ Fits l := fun h => by have := (hsp h).2.1; omega
        rw [if_neg hf, decide_eq_false hf]
        exact ⟨Ev.step (f := fun _ => some false) (fun k => by rw [perm_fits.l0, if_pos (by omega), if_pos (by omega), if_pos (by omega), if_neg h1, if_pos h2]) (ev_some rfl),
          Ev.step (f := fun _ => some 110) (fun k => by rw [churnref11_Check.l0, if_pos (by omega), if_pos (by omega), if_neg h1, if_pos h2]) (ev_some rfl)⟩
      · have hat := hs.at_ (rd l (i : Int)) (by omega) (by omega)
        by_cases h3 : rdOf false seen (rd l (i : Int)) = true
        · have hf : ¬ Fits l := fun h => (hsp h).2.2 (hat.1 h3)
          rw [if_neg hf, decide_eq_false hf]
          exact ⟨Ev.step (f := fun _ => some false) (fun k => by rw [perm_fits.l0, if_pos (by omega), if_pos (by omega), if_pos (by omega), if_neg h1, if_neg h2, if_pos (by omega), if_pos (by omega), if_pos h3]) (ev_some rfl),
            Ev.step (f := fun _ => some 110) (fun k => by rw [churnref11_Check.l0, if_pos (by omega), if_pos (by omega), if_neg h1, if_neg h2, if_pos (by omega), if_pos (by omega), if_pos h3]) (ev_some rfl)⟩
        · have hnx := hs.next (rd l (i : Int)) (by omega) (by omega)
          rw [← take_rd l i (by omega)] at hnx
          obtain ⟨e1, e2⟩ := ih (i + 1) _ (by omega) hnx (by
            rw [take_rd l i (by omega)]
            intro x hx
            rcases List.mem_append.1 hx with hx | hx
            · exact hp x hx
            · have := List.mem_singleton.1 hx
              subst this
              exact ⟨by omega, by omega⟩) (by
            rw [take_rd l i (by omega), List.nodup_append]
            refine ⟨hn, by simp, fun a ha b hb hab => ?_⟩
            have := List.mem_singleton.1 hb
            subst this
            subst hab
            exact h3 (hat.2 ha))
          refine ⟨Ev.step (fun k => ?_) e1, Ev.step (fun k => ?_) e2⟩
          · rw [perm_fits.l0, if_pos (by omega), if_pos (by omega), if_pos (by omega), if_neg h1, if_neg h2, if_pos (by omega), if_pos (by omega), if_neg h3, w64 (by omega) (by omega)]
            rfl
          · rw [churnref11_Check.l0, if_pos (by omega), if_pos (by omega), if_neg h1, if_neg h2, if_pos (by omega), if_pos (by omega), if_neg h3, w64 (by omega) (by omega)]
            rfl

theorem fits_ev (l : List Int) (hl : l.length ≤ 281474976710656) : Ev (fun k => perm_fits.f k l) (decide (Fits l)) := by
  unfold perm_fits.f
  refine ev_pos (by omega) (ev_pos (by omega) ?_)
  exact (fits_loops l (by omega) l.length 0 _ (by omega) (by simpa using Seen.start l.length) (by simp) (by simp)).1
theorem check_ev (l : List Int) (hl : l.length ≤ 281474976710656) : Ev (fun k => churnref11_Check.f k l) (if Fits l then 0 else 110) := by
  unfold churnref11_Check.f
  refine ev_pos (by omega) (ev_pos (by omega) ?_)
  exact (fits_loops l (by omega) l.length 0 _ (by omega) (by simpa using Seen.start l.length) (by simp) (by simp)).2

/-- The list in the order of the places. -/
def pick (p q : List Int) : List Int := p.map fun i => rd q i
theorem picked_ev (p q : List Int) (hl : p.length ≤ 17592186044415) (hp : ∀ x ∈ p, 0 ≤ x ∧ x < (q.length : Int)) : Ev (fun k => perm_picked_int.f k p q) (pick p q) := by
  unfold perm_picked_int.f
  refine ev_pos (by omega) (ev_pos (by omega) ?_)
  have key : ∀ (d i : Nat), i + d = p.length → Ev (fun k => perm_picked_int.l0 k q (pick (p.take i) q) p (p.length : Int) (i : Int)) (pick p q) := by
    intro d
    induction d with
    | zero =>
      intro i hi
      rw [List.take_of_length_le (by omega)]
      exact Ev.step (f := fun _ => some (pick p q)) (fun k => by rw [perm_picked_int.l0, if_neg (by omega)]) (ev_some rfl)
    | succ d ih =>
      intro i hi
      have hb := hp _ (rd_mem p (i : Int) (by simp; omega))
      refine Ev.step (fun k => ?_) (ih (i + 1) (by omega))
      have hlen : (pick (p.take i) q).length < 17592186044416 := by simp [pick]; omega
      rw [perm_picked_int.l0, if_pos (by omega), if_pos (by omega), if_pos (by omega), if_pos hb.1, if_pos hb.2, if_pos hlen, w64 (by omega) (by omega), take_rd p i (by omega)]
      simp [pick]
  have := key p.length 0 (by omega)
  simpa [pick] using this
theorem put_ev (p q : List Int) (hl : p.length ≤ 17592186044415) (hp : ∀ x ∈ p, 0 ≤ x ∧ x < (q.length : Int)) : Ev (fun k => churnref11_Put.f k p q) (pick p q) := by
  unfold churnref11_Put.f
  have key : ∀ (d i : Nat), i + d = p.length → Ev (fun k => churnref11_Put.l0 k p q (pick (p.take i) q) (i : Int)) (pick p q) := by
    intro d
    induction d with
    | zero =>
      intro i hi
      rw [List.take_of_length_le (by omega)]
      exact Ev.step (f := fun _ => some (pick p q)) (fun k => by rw [churnref11_Put.l0, if_neg (by omega)]) (ev_some rfl)
    | succ d ih =>
      intro i hi
      have hb := hp _ (rd_mem p (i : Int) (by simp; omega))
      refine Ev.step (fun k => ?_) (ih (i + 1) (by omega))
      have hlen : (pick (p.take i) q).length < 17592186044416 := by simp [pick]; omega
      rw [churnref11_Put.l0, if_pos (by omega), if_pos (by omega), if_pos hb.1, if_pos hb.2, if_pos hlen, w64 (by omega) (by omega), take_rd p i (by omega)]
      simp [pick]
  have := key p.length 0 (by omega)
  simpa [pick] using this
end Go.Proofs.Ytmbkgepfpfeahaa.Pl
