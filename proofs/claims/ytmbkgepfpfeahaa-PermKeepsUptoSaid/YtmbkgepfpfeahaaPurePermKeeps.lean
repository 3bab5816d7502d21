/- What is handed in stays as it is, spare room too, and isn't kept; answers are new memory and share none: what the nine functions answer for any two lists of at most 1048576 numbers. -/
import Derived.Test.YtmbkgepfpfeahaaPerm5
import Derived.Test.YtmbkgepfpfeahaaPkS
set_option linter.unusedVariables false
set_option linter.unusedSimpArgs false
namespace Go.Proofs.Ytmbkgepfpfeahaa.Pure
open Go.RowKit Go.Proofs.Ytmbkgepfpfeahaa.Q Go.Proofs.YtmbkgepfpfeahaaW.PrintWords Go.Proofs.YtmbkgepfpfeahaaW.PrintLast Go.Proofs.Ytmbkgepfpfeahaa.Pl
theorem keeps_apply (p q : List Int) (hp : p.length ≤ 17592186044415) : ∃ r, Ev (fun k => perm_Apply_int.f k p q) r ∧ r.1.length ≤ p.length := by
  unfold perm_Apply_int.f
  by_cases h : p.length = q.length
  · by_cases f1 : Fits p
    · have hb : ∀ x ∈ p, 0 ≤ x ∧ x < (q.length : Int) := fun x hx => by have := f1.1 x hx; omega
      exact ⟨(pick p q, 0), ev_pos (by omega) (ev_bind (fits_ev p (by omega)) (ev_pos (by simp [f1]) (ev_bind (picked_ev p q hp hb) (Ev.now _)))), by simp [pick]⟩
    · exact ⟨([], 110), ev_pos (by omega) (ev_bind (fits_ev p (by omega)) (ev_neg (by simp [f1]) (Ev.now _))), by simp⟩
  · exact ⟨([], 110), ev_neg (by omega) (Ev.now _), by simp⟩
theorem keeps_compose (p q : List Int) (hp : p.length ≤ 17592186044415) (hq : q.length ≤ 17592186044415) : ∃ r, Ev (fun k => perm_Compose.f k p q) r ∧ r.1.length ≤ p.length := by
  by_cases h : p.length = q.length ∧ Fits p ∧ Fits q
  · exact ⟨_, compose_good p q hp h.1 h.2.1 h.2.2, by simp [pick]⟩
  · exact ⟨_, compose_bad p q hp hq h, by simp⟩
theorem PermKeeps (p q : List Int) (hp : p.length ≤ 1048576) (hq : q.length ≤ 1048576) : PkTold p q := by
  refine ⟨?_, fun l hl => Ev.rounds (ev_to (same_ev l l (by omega)) (by simp))⟩
  obtain ⟨⟨a, ea⟩, ⟨ka, ha⟩, la⟩ := keeps_compose p q (by omega) (by omega)
  obtain ⟨kb, hb⟩ := inverse_all p (by omega)
  obtain ⟨⟨c, ec⟩, ⟨kc, hc⟩, lc⟩ := keeps_apply p q (by omega)
  obtain ⟨kd, hd⟩ := draws_all p (by omega)
  obtain ⟨ke, he⟩ := rank_all p (by omega)
  obtain ⟨kf, hf⟩ := unrank_ev q (by omega)
  obtain ⟨kg, hg⟩ := from_ev ((q.length : Int) + 1) q (by omega) (by omega)
  obtain ⟨n, hn⟩ : ∃ n : Nat, (p.length : Int) % 500 = (n : Int) := ⟨p.length % 500, by omega⟩
  obtain ⟨ku, hu⟩ := identity_ev n (by omega)
  obtain ⟨kz, hz⟩ := bounds_ev (n : Int) (by omega)
  obtain ⟨kw, hw⟩ := awake11
  obtain ⟨K, hK⟩ : ∃ K, K = ka + kb + kc + kd + ke + kf + kg + ku + kz + kw := ⟨_, rfl⟩
  have l1 : (invA p).1.length ≤ 1048577 := by unfold invA; split <;> simp [invL_len]; omega
  have l2 : (drawsA p).1.length ≤ 1048577 := by unfold drawsA; split <;> simp [drawsL_len]; omega
  have l3 : (rankA p).1.length ≤ 1048577 := by unfold rankA; split <;> simp [digits_len]; omega
  have l4 : (unrA q).1.length ≤ 1048577 := by unfold unrA; split <;> simp [unr_len]; omega
  have l5 : (fromA ((q.length : Int) + 1) q).1.length ≤ 1048577 := by
    unfold fromA
    split
    · simp
    · split
      · simp [fromL_len, iota_len]; omega
      · simp
  have l6 : (iota n).length ≤ 1048577 := by rw [iota_len]; omega
  have l7 : (boundsL (n : Int).toNat).length ≤ 1048577 := by rw [boundsL_len]; omega
  simp only at la lc
  refine ⟨K, a, _, c, _, _, _, _, iota n, boundsL (n : Int).toNat, ea, _, ec, _, _, _, _, { ha := ha K (by omega), hb := hb K (by omega), hc := hc K (by omega), hd := hd K (by omega), he := he K (by omega), hf := hf K (by omega), hg := hg K (by omega), hu := ?_, hz := ?_, hw := hw K (by omega), len := ?_ }⟩
  · rw [hn]; exact hu K (by omega)
  · rw [hn]; exact hz K (by omega)
  · intro l hl
    simp only [List.mem_cons, List.not_mem_nil, or_false] at hl
    rcases hl with rfl | rfl | rfl | rfl | rfl | rfl | rfl | rfl | rfl <;> first | exact la | exact l1 | exact lc | exact l2 | exact l3 | exact l4 | exact l5 | exact l6 | exact l7 | omega
end Go.Proofs.Ytmbkgepfpfeahaa.Pure
