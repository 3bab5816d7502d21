/- Composing is associative, the identity changes nothing, the inverse leads back on either side (P11.2); putting in order by a composition is putting in order twice (P11.4): the printed statement, proved over lists. -/
import Derived.Test.YtmbkgepfpfeahaaPerm2
import Derived.Test.YtmbkgepfpfeahaaQLPermGroup
set_option linter.unusedVariables false
set_option linter.unusedSimpArgs false
namespace Go.Proofs.Ytmbkgepfpfeahaa.Pure
open Go.RowKit Go.Proofs.Ytmbkgepfpfeahaa.Q Go.Proofs.YtmbkgepfpfeahaaW.PrintWords Go.Proofs.YtmbkgepfpfeahaaW.PrintLast Go.Proofs.Ytmbkgepfpfeahaa.Pl

/-- A list of texts in the order of the places. -/
def spick (p : List Int) (l : List ByteArray) : List ByteArray := p.map fun i => rdOf ByteArray.empty l i
theorem spick_len (p : List Int) (l : List ByteArray) : (spick p l).length = p.length := by simp [spick]
theorem srd_get (l : List ByteArray) (x : Int) (h0 : 0 ≤ x) (h1 : x < (l.length : Int)) : rdOf ByteArray.empty l x = l[x.toNat]'(by omega) := by
  unfold rdOf
  simp [List.getD_eq_getElem?_getD, show x.toNat < l.length by omega]
theorem spick_get (p : List Int) (l : List ByteArray) (i : Nat) (hi : i < p.length) : (spick p l)[i]'(by rw [spick_len]; exact hi) = rdOf ByteArray.empty l p[i] := by simp [spick]
theorem spicked_ev (p : List Int) (l : List ByteArray) (hl : p.length ≤ 8796093022207) (hp : ∀ x ∈ p, 0 ≤ x ∧ x < (l.length : Int)) : Ev (fun k => perm_picked_string.f k p l) (spick p l) := by
  unfold perm_picked_string.f
  refine ev_pos (by omega) (ev_pos (by omega) ?_)
  have key : ∀ (d i : Nat), i + d = p.length → Ev (fun k => perm_picked_string.l0 k l (spick (p.take i) l) p (p.length : Int) (i : Int)) (spick p l) := by
    intro d
    induction d with
    | zero =>
      intro i hi
      rw [List.take_of_length_le (by omega)]
      exact Ev.step (f := fun _ => some (spick p l)) (fun k => by rw [perm_picked_string.l0, if_neg (by omega)]) (Ev.now _)
    | succ d ih =>
      intro i hi
      have hb := hp _ (rd_mem p (i : Int) (by simp; omega))
      refine Ev.step (fun k => ?_) (ih (i + 1) (by omega))
      have hlen : (spick (p.take i) l).length < 8796093022208 := by simp [spick]; omega
      rw [perm_picked_string.l0, if_pos (by omega), if_pos (by omega), if_pos (by omega), if_pos hb.1, if_pos hb.2, if_pos hlen, w64 (by omega) (by omega), take_rd p i (by omega)]
      simp [spick]
  have := key p.length 0 (by omega)
  simpa [spick] using this
theorem sapply_good (p : List Int) (l : List ByteArray) (hl : l.length ≤ 8796093022207) (h : p.length = l.length) (f : Fits p) : Ev (fun k => perm_Apply_string.f k p l) (spick p l, 0) := by
  unfold perm_Apply_string.f
  exact ev_pos (by omega) (ev_bind (fits_ev p (by omega)) (ev_pos (by simp [f]) (ev_bind (spicked_ev p l (by omega) (fun x hx => by have := f.1 x hx; omega)) (Ev.now _))))
theorem sapply_bad (p : List Int) (l : List ByteArray) (h : p.length ≠ l.length) : Ev (fun k => perm_Apply_string.f k p l) ([], 110) := by
  unfold perm_Apply_string.f
  exact ev_neg (by omega) (Ev.now _)
theorem spick_assoc (p q : List Int) (l : List ByteArray) (hq : p.length = q.length) (fp : Fits p) : spick (pick p q) l = spick p (spick q l) := by
  apply List.ext_getElem
  · simp [spick, pick]
  · intro i h1 h2
    have hi : i < p.length := by simpa [spick, pick] using h1
    have hb := fits_mem fp i hi
    rw [spick_get _ _ i (by rw [pick_len]; exact hi), pick_get p q i hi, spick_get p _ i hi, srd_get (spick q l) p[i] hb.1 (by rw [spick_len]; omega), spick_get q l p[i].toNat (by omega), rd_get q p[i] hb.1 (by omega)]
theorem spick_iota (l : List ByteArray) : spick (iota l.length) l = l := by
  apply List.ext_getElem
  · simp [spick, iota]
  · intro i h1 h2
    rw [spick_get _ l i (by rw [iota_len]; exact h2), iota_get, srd_get l _ (by omega) (by omega)]
    simp

theorem three_ev (p q r : List Int) (hp : p.length ≤ 281474976710656) (hq : q.length ≤ 281474976710656) (hr : r.length ≤ 281474976710656) :
    Ev (fun k => churnlaw11_three.f k p q r) (decide (Fits p ∧ Fits q ∧ Fits r ∧ p.length = q.length ∧ q.length = r.length)) := by
  unfold churnlaw11_three.f
  refine ev_bind (perm_check_ev p hp) ?_
  by_cases f1 : Fits p
  · refine ev_pos (by simp [f1]) (ev_bind (perm_check_ev q hq) ?_)
    by_cases f2 : Fits q
    · refine ev_pos (by simp [f2]) (ev_bind (perm_check_ev r hr) ?_)
      by_cases f3 : Fits r
      · refine ev_pos (by simp [f3]) ?_
        by_cases h : p.length = q.length
        · refine ev_pos (by omega) (ev_some ?_)
          rw [Bool.eq_iff_iff]
          simp [f1, f2, f3, h]
          omega
        · exact ev_neg (by omega) (ev_some (by simp [h]))
      · exact ev_neg (by simp [f3]) (ev_some (by simp [f3]))
    · exact ev_neg (by simp [f2]) (ev_some (by simp [f2]))
  · exact ev_neg (by simp [f1]) (ev_some (by simp [f1]))

theorem group_l0 (l once both back : List ByteArray) (hl : l.length ≤ 8796093022207) (h1 : once.length = l.length) (h2 : both.length = l.length) (h3 : back = once) :
    Ev (fun k => churnlaw11_PermGroup.l0 k l once both both back 0) true := by
  subst h3
  have key : ∀ (d i : Nat), i + d = l.length → Ev (fun k => churnlaw11_PermGroup.l0 k l back both both back (i : Int)) true := by
    intro d
    induction d with
    | zero => intro i hi; exact Ev.step (f := fun _ => some true) (fun k => by rw [churnlaw11_PermGroup.l0, if_neg (by omega)]) (Ev.now _)
    | succ d ih =>
      intro i hi
      refine Ev.step (fun k => ?_) (ih (i + 1) (by omega))
      rw [churnlaw11_PermGroup.l0, if_pos (by omega), if_pos (by omega), if_pos (by omega), if_pos (by omega), if_pos rfl, if_pos (by omega), if_pos (by omega), if_pos rfl, w64 (by omega) (by omega)]
      rfl
  exact key l.length 0 (by omega)

theorem PermGroup : churnlaw11_PermGroup.Pure := by
  intro p q r l hp hq hr hl
  have p8 := hp.2.1
  have q8 := hq.2.1
  have r8 := hr.2.1
  have l8 := hl.2.1
  refine Ev.rounds (g := fun k => churnlaw11_PermGroup.f k p q r l) (r := true) ?_
  unfold churnlaw11_PermGroup.f
  refine ev_bind awake11 (ev_pos rfl (ev_bind (three_ev p q r (by omega) (by omega) (by omega)) ?_))
  by_cases h3 : Fits p ∧ Fits q ∧ Fits r ∧ p.length = q.length ∧ q.length = r.length
  · obtain ⟨f1, f2, f3, e1, e2⟩ := h3
    obtain ⟨v, hv, hev⟩ := inverse_ev p (by omega) f1
    have fv := hv.fits f1
    have vl := hv.1
    have fpq := fits_pick p q e1 f1 f2
    have fqr := fits_pick q r e2 f2 f3
    have lpq := pick_len p q
    have lqr := pick_len q r
    have li := iota_len p.length
    have fi := fits_iota p.length
    refine ev_pos (by simp [f1, f2, f3, e1, e2]) (ev_bind (compose_good p q (by omega) e1 f1 f2) (ev_bind (compose_good q r (by omega) e2 f2 f3) (ev_bind (compose_good (pick p q) r (by omega) (by omega) fpq f3) (ev_bind (compose_good p (pick q r) (by omega) (by omega) f1 fqr) (ev_bind (identity_ev p.length (by omega)) (ev_bind (compose_good p (iota p.length) (by omega) (by omega) f1 fi) (ev_bind (compose_good (iota p.length) p (by omega) (by omega) fi f1) (ev_bind hev (ev_bind (compose_good p v (by omega) (by omega) f1 fv) (ev_bind (compose_good v p (by omega) (by omega) fv f1) ?_))))))))))
    refine ev_pos rfl (ev_pos rfl (ev_pos rfl (ev_pos rfl (ev_pos rfl (ev_pos rfl ?_)))))
    refine ev_bind (same_ev _ _ (by rw [pick_len]; omega)) (ev_pos (by simp [pick_assoc p q r e1 f1]) (ev_bind (same_ev _ _ (by rw [pick_len]; omega)) (ev_pos (by simp [pick_iota_right p f1]) (ev_bind (same_ev _ _ (by rw [pick_len]; omega)) (ev_pos (by simp [pick_iota_left p]) (ev_bind (same_ev _ _ (by rw [pick_len]; omega)) (ev_pos (by simp [hv.right f1]) (ev_bind (same_ev _ _ (by rw [pick_len]; omega)) ?_))))))))
    rw [decide_eq_true (hv.left f1), Bool.not_true]
    refine Ev.step (fun k => by rw [churnlaw11_PermGroup.j0, if_neg (by simp)]) ?_
    by_cases hll : l.length = p.length
    · have so := sapply_good q l (by omega) (by omega) f2
      refine ev_bind so (ev_pos (by omega) ?_)
      have lo := spick_len q l
      have st := sapply_good p (spick q l) (by omega) (by omega) f1
      have lt := spick_len p (spick q l)
      have sb := sapply_good (pick p q) l (by omega) (by omega) fpq
      have lb := spick_len (pick p q) l
      have sk := sapply_good v (spick p (spick q l)) (by omega) (by omega) fv
      have lk := spick_len v (spick p (spick q l))
      refine ev_bind st (ev_bind sb (ev_bind sk (ev_pos rfl (ev_pos rfl (ev_pos rfl (ev_pos rfl (ev_pos (by simp only; omega) (ev_pos (by simp only; omega) ?_))))))))
      refine Ev.step (fun k => by rw [churnlaw11_PermGroup.j1, if_neg (by simp; omega)]) ?_
      have hb : spick v (spick p (spick q l)) = spick q l := by
        rw [← spick_assoc v p (spick q l) (by omega) fv, hv.left f1]
        have : p.length = (spick q l).length := by omega
        rw [this]
        exact spick_iota _
      simp only
      rw [spick_assoc p q l e1 f1]
      exact group_l0 l (spick q l) _ _ (by omega) (by omega) (by omega) hb
    · refine ev_bind (sapply_bad q l (by omega)) (ev_neg (by omega) (ev_pos rfl (ev_some (by simp))))
  · refine ev_neg (by simpa using h3) ?_
    by_cases h : p.length = q.length ∧ Fits p ∧ Fits q
    · have h' : ¬ (q.length = r.length ∧ Fits q ∧ Fits r) := fun h2 => h3 ⟨h.2.1, h.2.2, h2.2.2, h.1, h2.1⟩
      exact ev_bind (compose_good p q (by omega) h.1 h.2.1 h.2.2) (ev_bind (compose_bad q r (by omega) (by omega) h') (ev_pos rfl (ev_some (by decide))))
    · by_cases h' : q.length = r.length ∧ Fits q ∧ Fits r
      · exact ev_bind (compose_bad p q (by omega) (by omega) h) (ev_bind (compose_good q r (by omega) h'.1 h'.2.1 h'.2.2) (ev_neg (by decide) (Ev.now _)))
      · exact ev_bind (compose_bad p q (by omega) (by omega) h) (ev_bind (compose_bad q r (by omega) (by omega) h') (ev_neg (by decide) (Ev.now _)))
end Go.Proofs.Ytmbkgepfpfeahaa.Pure
