/- Permutations of one length stand in the order of their digits (P11.5): the printed statement, proved over lists. -/
import Derived.Test.YtmbkgepfpfeahaaPerm3
import Derived.Test.YtmbkgepfpfeahaaQx33
set_option linter.unusedVariables false
set_option linter.unusedSimpArgs false
namespace Go.Proofs.Ytmbkgepfpfeahaa.Pure
open Go.RowKit Go.Proofs.Ytmbkgepfpfeahaa.Q Go.Proofs.YtmbkgepfpfeahaaW.PrintWords Go.Proofs.YtmbkgepfpfeahaaW.PrintLast Go.Proofs.Ytmbkgepfpfeahaa.Pl

/-- Which list is ahead at the first place where they differ. -/
def lessL : List Int → List Int → Bool
  | a :: l, b :: m => if a = b then lessL l m else decide (a < b)
  | _, _ => false
theorem less_ev (a b : List Int) (ha : a.length ≤ 9223372036854775000) : Ev (fun k => churnlaw11_less.f k a b) (lessL a b) := by
  unfold churnlaw11_less.f
  have key : ∀ (d i : Nat), i + d = a.length → Ev (fun k => churnlaw11_less.l0 k a b (i : Int)) (lessL (a.drop i) (b.drop i)) := by
    intro d
    induction d with
    | zero =>
      intro i hi
      refine Ev.step (f := fun k => churnlaw11_less.j1 k a b (i : Int) false) (fun k => by rw [churnlaw11_less.l0, if_neg (by omega)]) (Ev.step (f := fun _ => some false) (fun k => by rw [churnlaw11_less.j1, if_neg (by decide)]) (ev_some ?_))
      rw [List.drop_eq_nil_of_le (by omega)]
      rfl
    | succ d ih =>
      intro i hi
      refine Ev.step (f := fun k => churnlaw11_less.j1 k a b (i : Int) (decide ((i : Int) < (b.length : Int)))) (fun k => by rw [churnlaw11_less.l0, if_pos (by omega)]) ?_
      by_cases hb : i < b.length
      · rw [decide_eq_true (show (i : Int) < (b.length : Int) by omega), drop_rd a i (by omega), drop_rd b i (by omega), lessL]
        by_cases e : rd a (i : Int) = rd b (i : Int)
        · refine Ev.step (fun k => by rw [churnlaw11_less.j1, if_pos rfl, if_pos (by omega), if_pos (by omega), if_pos (by omega), if_pos e, w64 (by omega) (by omega)]; rfl) (ev_to (ih (i + 1) (by omega)) ?_)
          rw [if_pos e]
        · refine Ev.step (f := fun _ => some (decide (rd a (i : Int) < rd b (i : Int)))) (fun k => by rw [churnlaw11_less.j1, if_pos rfl, if_pos (by omega), if_pos (by omega), if_pos (by omega), if_neg e]) (ev_some ?_)
          rw [if_neg e]
      · rw [decide_eq_false (show ¬ (i : Int) < (b.length : Int) by omega), show b.drop i = [] from List.drop_eq_nil_of_le (by omega)]
        refine Ev.step (f := fun _ => some false) (fun k => by rw [churnlaw11_less.j1, if_neg (by decide)]) (ev_some ?_)
        cases a.drop i <;> rfl
  exact key a.length 0 (by omega)
theorem less_digits : ∀ (p q L : List Int), L.Pairwise (· < ·) → p.Nodup → q.Nodup → (∀ y ∈ p, y ∈ L) → (∀ y ∈ q, y ∈ L) → lessL (digits L p) (digits L q) = lessL p q
  | [], _, _, _, _, _, _, _ => by simp [digits, lessL]
  | _ :: _, [], _, _, _, _, _, _ => by simp [digits, lessL]
  | x :: xs, y :: ys, L, hs, hp, hq, hmp, hmq => by
    have h1 := idx_rises L hs x y (hmp x List.mem_cons_self) (hmq y List.mem_cons_self)
    have h2 := idx_rises L hs y x (hmq y List.mem_cons_self) (hmp x List.mem_cons_self)
    simp only [digits, lessL]
    by_cases e : x = y
    · subst e
      obtain ⟨a1, a2, a3, _⟩ := left_next L hs x xs hp hmp
      obtain ⟨_, b2, b3, _⟩ := left_next L hs x ys hq hmq
      rw [if_pos rfl, if_pos rfl]
      exact less_digits xs ys _ a1 a2 b2 a3 b3
    · rw [if_neg e, if_neg (by omega)]
      by_cases hlt : x < y
      · rw [decide_eq_true hlt, decide_eq_true (by have := h1.1 hlt; omega)]
      · rw [decide_eq_false hlt, decide_eq_false (by omega)]

theorem iota_sorted (n : Nat) : (iota n).Pairwise (· < ·) := by
  rw [List.pairwise_iff_getElem]
  intro i j hi hj hij
  rw [iota_get, iota_get]
  omega
theorem fits_in (p : List Int) (fp : Fits p) : ∀ y ∈ p, y ∈ iota p.length := by
  intro y hy
  have := fp.1 y hy
  unfold iota
  exact List.mem_map.2 ⟨y.toNat, by simp; omega, by omega⟩
theorem PermRises : churnlaw11_PermRises.Pure := by
  intro p q h1 h2 h3 h4 h5 h6
  refine Ev.rounds (g := fun k => churnlaw11_PermRises.f k p q) (r := true) ?_
  unfold churnlaw11_PermRises.f
  refine ev_bind awake11 (ev_pos rfl ?_)
  have out : ∀ a b : List Int, Ev (fun k => churnlaw11_PermRises.j0 k p q a b true) true := fun a b => Ev.step (f := fun _ => some true) (fun k => by rw [churnlaw11_PermRises.j0, if_pos rfl]) (Ev.now _)
  by_cases fp : Fits p
  · by_cases fq : Fits q
    · refine ev_bind (rank_good p (by omega) fp) (ev_bind (rank_good q (by omega) fq) (ev_pos rfl (ev_pos rfl ?_)))
      by_cases e : p.length = q.length
      · have c : ((p.length : Int) != (q.length : Int)) = false := by simp [e]
        rw [c]
        refine Ev.step (fun k => by rw [churnlaw11_PermRises.j0, if_neg (by decide)]) ?_
        have d1 : lessL (digits (iota p.length) p) (digits (iota q.length) q) = lessL p q := by
          rw [← e]
          exact less_digits p q _ (iota_sorted _) fp.2 fq.2 (fits_in p fp) (by rw [e]; exact fits_in q fq)
        have d2 : lessL (digits (iota q.length) q) (digits (iota p.length) p) = lessL q p := by
          rw [← e]
          exact less_digits q p _ (iota_sorted _) fq.2 fp.2 (by rw [e]; exact fits_in q fq) (fits_in p fp)
        refine ev_bind (less_ev _ _ (by omega)) (ev_bind (less_ev _ _ (by rw [digits_len]; omega)) (ev_pos (by rw [d1]; simp) ?_))
        refine ev_bind (less_ev _ _ (by omega)) (ev_bind (less_ev _ _ (by rw [digits_len]; omega)) (ev_some ?_))
        rw [d2]
        simp
      · have c : ((p.length : Int) != (q.length : Int)) = true := by simp; omega
        rw [c]
        exact out _ _
    · exact ev_bind (rank_good p (by omega) fp) (ev_bind (rank_bad q (by omega) fq) (ev_pos rfl (ev_neg (by decide) (out _ _))))
  · by_cases fq : Fits q
    · exact ev_bind (rank_bad p (by omega) fp) (ev_bind (rank_good q (by omega) fq) (ev_neg (by decide) (out _ _)))
    · exact ev_bind (rank_bad p (by omega) fp) (ev_bind (rank_bad q (by omega) fq) (ev_neg (by decide) (out _ _)))

end Go.Proofs.Ytmbkgepfpfeahaa.Pure
