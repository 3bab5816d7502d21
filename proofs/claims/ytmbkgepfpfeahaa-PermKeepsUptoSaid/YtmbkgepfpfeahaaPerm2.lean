/- Identity, Inverse, and putting in order of texts, told plainly; the algebra of pick. -/
import Derived.Test.YtmbkgepfpfeahaaPerm1
import Derived.Test.YtmbkgepfpfeahaaQx1
import Derived.Test.YtmbkgepfpfeahaaQx13
import Derived.Test.YtmbkgepfpfeahaaQx6
import Derived.Test.YtmbkgepfpfeahaaQx3
set_option linter.unusedVariables false
set_option linter.unusedSimpArgs false
namespace Go.Proofs.Ytmbkgepfpfeahaa.Pl
open Go.RowKit Go.Proofs.Ytmbkgepfpfeahaa.Q Go.Proofs.YtmbkgepfpfeahaaW.PrintWords Go.Proofs.YtmbkgepfpfeahaaW.PrintLast

theorem awake11 : Ev (fun k => churnlaw11_awake.f k) true := Ev.of (fun k => churnlaw11_awake.mono k) (k := 20) (by decide +kernel)
/-- 0 to n - 1. -/
def iota (n : Nat) : List Int := (List.range n).map fun i : Nat => (i : Int)
theorem iota_len (n : Nat) : (iota n).length = n := by simp [iota]
theorem iota_get (n i : Nat) (h : i < (iota n).length) : (iota n)[i] = (i : Int) := by simp [iota]
theorem iota_succ (n : Nat) : iota (n + 1) = iota n ++ [(n : Int)] := by simp [iota, List.range_succ]
theorem mx_nat (n : Nat) : mx (n : Int) 0 = (n : Int) := by unfold mx; split <;> omega
theorem mx_neg (n : Int) (h : n ≤ 0) : mx n 0 = 0 := by unfold mx; split <;> omega
theorem identity_ev (n : Nat) (hn : n ≤ 17592186044415) : Ev (fun k => perm_Identity.f k (n : Int)) (iota n) := by
  unfold perm_Identity.f
  rw [mx_nat]
  have key : ∀ (d i : Nat), i + d = n → Ev (fun k => perm_Identity.l0 k (iota i) (n : Int) (i : Int)) (iota n) := by
    intro d
    induction d with
    | zero =>
      intro i hi
      have : i = n := by omega
      subst this
      exact Ev.step (f := fun _ => some (iota i)) (fun k => by rw [perm_Identity.l0, if_neg (by omega)]) (Ev.now _)
    | succ d ih =>
      intro i hi
      have hl := iota_len i
      refine Ev.step (fun k => ?_) (ih (i + 1) (by omega))
      rw [perm_Identity.l0, if_pos (by omega), if_pos (by omega), w64 (by omega) (by omega), iota_succ]
      rfl
  have := key n 0 (by omega)
  simpa [iota] using this
theorem identity_none (n : Int) (h : n ≤ 0) : Ev (fun k => perm_Identity.f k n) [] := by
  unfold perm_Identity.f
  rw [mx_neg n h]
  exact Ev.step (f := fun _ => some []) (fun k => by rw [perm_Identity.l0, if_neg (by omega)]) (Ev.now _)

theorem fits_mem {p : List Int} (h : Fits p) (i : Nat) (hi : i < p.length) : 0 ≤ p[i] ∧ p[i] < (p.length : Int) := h.1 _ (List.getElem_mem hi)
theorem fits_inj {p : List Int} (h : Fits p) {i j : Nat} (hi : i < p.length) (hj : j < p.length) (e : p[i] = p[j]) : i = j :=
  (List.getElem_inj h.2).1 e
theorem nodup_bound : ∀ (n : Nat) (l : List Int), l.Nodup → (∀ x ∈ l, 0 ≤ x ∧ x < (n : Int)) → l.length ≤ n
  | 0, l, _, h => by
    cases l with
    | nil => simp
    | cons x l => have := h x (by simp); omega
  | n + 1, l, hn, h => by
    by_cases hm : (n : Int) ∈ l
    · have h1 := nodup_bound n (l.erase (n : Int)) (hn.erase _) (fun x hx => by
        have := (hn.mem_erase_iff).1 hx
        have := h x this.2
        omega)
      rw [List.length_erase_of_mem hm] at h1
      omega
    · have h1 := nodup_bound n l hn (fun x hx => by
        have := h x hx
        have : x ≠ (n : Int) := fun e => hm (e ▸ hx)
        omega)
      omega
/-- Numbers below n, each once, n of them: all are there. -/
theorem fits_all {p : List Int} (h : Fits p) (v : Nat) (hv : v < p.length) : ∃ (i : Nat) (hi : i < p.length), p[i] = (v : Int) := by
  by_cases hm : (v : Int) ∈ p
  · obtain ⟨i, hi, e⟩ := List.getElem_of_mem hm
    exact ⟨i, hi, e⟩
  · have := nodup_bound p.length ((v : Int) :: p) (List.nodup_cons.2 ⟨hm, h.2⟩) (fun x hx => by
      rcases List.mem_cons.1 hx with rfl | hx
      · omega
      · exact h.1 x hx)
    simp only [List.length_cons] at this
    omega
theorem nodup_get {l : List Int} (h : ∀ (i j : Nat) (hi : i < l.length) (hj : j < l.length), i < j → l[i] ≠ l[j]) : l.Nodup := by
  unfold List.Nodup
  rw [List.pairwise_iff_getElem]
  exact h
theorem fits_iota (n : Nat) : Fits (iota n) := by
  refine ⟨fun x hx => ?_, ?_⟩
  · simp only [iota, List.mem_map, List.mem_range] at hx
    obtain ⟨i, hi, rfl⟩ := hx
    rw [iota_len]
    omega
  · refine nodup_get fun i j hi hj hij => ?_
    rw [iota_get, iota_get]
    omega

theorem pick_len (p q : List Int) : (pick p q).length = p.length := by simp [pick]
theorem pick_get (p q : List Int) (i : Nat) (hi : i < p.length) : (pick p q)[i]'(by rw [pick_len]; exact hi) = rd q p[i] := by simp [pick]
theorem rd_get (q : List Int) (x : Int) (h0 : 0 ≤ x) (h1 : x < (q.length : Int)) : rd q x = q[x.toNat]'(by omega) := by
  unfold rd
  simp [List.getD_eq_getElem?_getD, show x.toNat < q.length by omega]
theorem pick_assoc (p q r : List Int) (hq : p.length = q.length) (fp : Fits p) : pick (pick p q) r = pick p (pick q r) := by
  apply List.ext_getElem
  · simp [pick]
  · intro i h1 h2
    have hi : i < p.length := by simpa [pick] using h1
    have hb := fits_mem fp i hi
    rw [pick_get _ _ i (by rw [pick_len]; exact hi), pick_get p q i hi, pick_get p _ i hi, rd_get (pick q r) p[i] hb.1 (by rw [pick_len]; omega), pick_get q r p[i].toNat (by omega), rd_get q p[i] hb.1 (by omega)]
theorem pick_iota_right (p : List Int) (fp : Fits p) : pick p (iota p.length) = p := by
  apply List.ext_getElem
  · simp [pick]
  · intro i h1 h2
    have hb := fits_mem fp i h2
    rw [pick_get p _ i h2, rd_get _ _ hb.1 (by rw [iota_len]; exact hb.2), iota_get]
    omega
theorem pick_iota_left (p : List Int) : pick (iota p.length) p = p := by
  apply List.ext_getElem
  · simp [pick, iota]
  · intro i h1 h2
    rw [pick_get _ p i (by rw [iota_len]; exact h2), iota_get, rd_lt p i h2]
theorem fits_pick (p q : List Int) (hq : p.length = q.length) (fp : Fits p) (fq : Fits q) : Fits (pick p q) := by
  refine ⟨fun x hx => ?_, ?_⟩
  · obtain ⟨i, hi, rfl⟩ := List.getElem_of_mem hx
    have hi' : i < p.length := by simpa [pick] using hi
    have hb := fits_mem fp i hi'
    rw [pick_get p q i hi', rd_get q _ hb.1 (by omega), pick_len]
    have := fits_mem fq p[i].toNat (by omega)
    omega
  · refine nodup_get fun i j hi hj hij => ?_
    have hj' : j < p.length := by simpa [pick] using hj
    have hi' : i < p.length := by omega
    have b1 := fits_mem fp i hi'
    have b2 := fits_mem fp j hj'
    rw [pick_get p q i hi', pick_get p q j hj', rd_get q _ b1.1 (by omega), rd_get q _ b2.1 (by omega)]
    intro e
    have e1 := fits_inj fq (i := p[i].toNat) (j := p[j].toNat) (by omega) (by omega) e
    have := fits_inj fp hi' hj' (by omega)
    omega

/-- Back again. -/
def IsInv (p r : List Int) : Prop := r.length = p.length ∧ ∀ (i : Nat) (hi : i < p.length), rd r p[i] = (i : Int)
theorem inverse_ev (p : List Int) (hl : p.length ≤ 17592186044415) (fp : Fits p) : ∃ r, IsInv p r ∧ Ev (fun k => perm_Inverse.f k p) (r, 0) := by
  have key : ∀ (d i : Nat) (r : List Int), i + d = p.length → r.length = p.length → (∀ (j : Nat) (hj : j < p.length), j < i → rd r p[j] = (j : Int)) →
      ∃ r', IsInv p r' ∧ Ev (fun k => perm_Inverse.l0 k r p (p.length : Int) (i : Int)) (r', 0) := by
    intro d
    induction d with
    | zero =>
      intro i r hi hr hj
      exact ⟨r, ⟨hr, fun j hj' => hj j hj' (by omega)⟩, Ev.step (f := fun _ => some (r, 0)) (fun k => by rw [perm_Inverse.l0, if_neg (by omega)]) (Ev.now _)⟩
    | succ d ih =>
      intro i r hi hr hj
      have hlt : i < p.length := by omega
      have hb := fits_mem fp i hlt
      have he : rd p (i : Int) = p[i] := rd_lt p i hlt
      obtain ⟨r', h1, h2⟩ := ih (i + 1) (r.set p[i].toNat (i : Int)) (by omega) (by rw [List.length_set]; exact hr) (fun j hj' hji => by
        have hb2 := fits_mem fp j hj'
        rw [rd_get _ _ hb2.1 (by rw [List.length_set]; omega), List.getElem_set]
        by_cases e : p[i].toNat = p[j].toNat
        · have := fits_inj fp hlt hj' (by omega)
          simp [e]
          omega
        · rw [if_neg e, ← rd_get r p[j] hb2.1 (by omega)]
          refine hj j hj' ?_
          rcases Nat.lt_or_ge j i with h | h
          · exact h
          · have : j = i := by omega
            subst this
            exact absurd rfl e)
      refine ⟨r', h1, Ev.step (fun k => ?_) h2⟩
      rw [perm_Inverse.l0, if_pos (by omega), if_pos (by omega), if_pos (by omega), he, if_pos (by omega), if_pos (by omega), w64 (by omega) (by omega)]
      rfl
  obtain ⟨r, h1, h2⟩ := key p.length 0 (List.replicate p.length 0) (by omega) (by simp) (fun j _ h => by omega)
  refine ⟨r, h1, ?_⟩
  unfold perm_Inverse.f
  refine ev_bind (fits_ev p (by omega)) (ev_pos (by simp [fp]) (ev_pos (by omega) (ev_pos (by omega) ?_)))
  simpa using h2
theorem IsInv.range {p r : List Int} (fp : Fits p) (h : IsInv p r) (v : Nat) (hv : v < r.length) : ∃ (i : Nat) (hi : i < p.length), p[i] = (v : Int) ∧ r[v] = (i : Int) := by
  obtain ⟨i, hi, e⟩ := fits_all fp v (by rw [← h.1]; exact hv)
  refine ⟨i, hi, e, ?_⟩
  have := h.2 i hi
  rw [e, rd_lt r v hv] at this
  exact this
theorem IsInv.fits {p r : List Int} (fp : Fits p) (h : IsInv p r) : Fits r := by
  refine ⟨fun x hx => ?_, ?_⟩
  · obtain ⟨v, hv, rfl⟩ := List.getElem_of_mem hx
    obtain ⟨i, hi, _, e⟩ := h.range fp v hv
    rw [e, h.1]
    omega
  · refine nodup_get fun a b ha hb hab => ?_
    obtain ⟨i, hi, e1, e2⟩ := h.range fp a ha
    obtain ⟨j, hj, e3, e4⟩ := h.range fp b hb
    rw [e2, e4]
    intro e
    have : i = j := by omega
    subst this
    omega
theorem IsInv.right {p r : List Int} (fp : Fits p) (h : IsInv p r) : pick p r = iota p.length := by
  apply List.ext_getElem
  · simp [pick, iota]
  · intro i h1 h2
    have hi : i < p.length := by simpa [pick] using h1
    rw [pick_get p r i hi, h.2 i hi, iota_get]
theorem IsInv.left {p r : List Int} (fp : Fits p) (h : IsInv p r) : pick r p = iota p.length := by
  apply List.ext_getElem
  · simp [pick, iota, h.1]
  · intro v h1 h2
    have hv : v < r.length := by simpa [pick] using h1
    obtain ⟨i, hi, e1, e2⟩ := h.range fp v hv
    rw [pick_get r p v hv, e2, rd_lt p i hi, e1, iota_get]
theorem perm_check_ev (p : List Int) (hl : p.length ≤ 281474976710656) : Ev (fun k => perm_Check.f k p) (if Fits p then 0 else 110) := by
  unfold perm_Check.f
  refine ev_bind (fits_ev p hl) ?_
  by_cases f : Fits p
  · exact ev_pos (by simp [f]) (ev_some (by simp [f]))
  · exact ev_neg (by simp [f]) (ev_some (by simp [f]))
theorem compose_good (p q : List Int) (hp : p.length ≤ 17592186044415) (h : p.length = q.length) (f1 : Fits p) (f2 : Fits q) : Ev (fun k => perm_Compose.f k p q) (pick p q, 0) := by
  unfold perm_Compose.f
  have hb : ∀ x ∈ p, 0 ≤ x ∧ x < (q.length : Int) := fun x hx => by have := f1.1 x hx; omega
  exact ev_pos (by omega) (ev_bind (fits_ev p (by omega)) (ev_pos (by simp [f1]) (ev_bind (fits_ev q (by omega)) (ev_pos (by simp [f2]) (ev_bind (picked_ev p q hp hb) (Ev.now _))))))
theorem compose_bad (p q : List Int) (hp : p.length ≤ 17592186044415) (hq : q.length ≤ 17592186044415) (h : ¬ (p.length = q.length ∧ Fits p ∧ Fits q)) : Ev (fun k => perm_Compose.f k p q) ([], 110) := by
  unfold perm_Compose.f
  by_cases h1 : p.length = q.length
  · refine ev_pos (by omega) (ev_bind (fits_ev p (by omega)) ?_)
    by_cases f1 : Fits p
    · have f2 : ¬ Fits q := fun f2 => h ⟨h1, f1, f2⟩
      exact ev_pos (by simp [f1]) (ev_bind (fits_ev q (by omega)) (ev_neg (by simp [f2]) (Ev.now _)))
    · exact ev_neg (by simp [f1]) (Ev.now _)
  · exact ev_neg (by omega) (Ev.now _)
end Go.Proofs.Ytmbkgepfpfeahaa.Pl
