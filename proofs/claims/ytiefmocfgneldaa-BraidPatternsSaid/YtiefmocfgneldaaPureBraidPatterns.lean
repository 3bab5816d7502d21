/- Every Pattern and Draws, of any lists, is the document's, and answers are memory of their own (P12.1): the statement over lists that the row asks for: both sides come to the same lists. -/
import Derived.Test.YtiefmocfgneldaaBraid7
import Derived.Test.YtiefmocfgneldaaQx5
import Derived.Test.YtiefmocfgneldaaQLBraidPatterns
set_option linter.unusedVariables false
namespace Go.Proofs.Ytiefmocfgneldaa.Pure
open Go.RowKit Go.Proofs.Ytiefmocfgneldaa.Q Go.Proofs.YtiefmocfgneldaaW.PrintWords Go.Proofs.YtiefmocfgneldaaW.PrintLast Go.Proofs.Ytiefmocfgneldaa.Pl
theorem ev_one {α : Type} {g : Nat → Option α} {r s : α} (h : Ev g r) (h' : Ev g s) : r = s := by
  obtain ⟨a, ha⟩ := h
  obtain ⟨b, hb⟩ := h'
  have h1 := ha (max a b) (Nat.le_max_left _ _)
  have h2 := hb (max a b) (Nat.le_max_right _ _)
  rw [h1] at h2
  exact Option.some.inj h2
theorem both_pattern (s d : List Int) (hs : s.length ≤ 17592186044000) (hd : d.length ≤ 17592186044000) : ∃ (c o : List Int) (e : Int), Ev (fun k => braid_Pattern.f k s d) (c, o, e) ∧ Ev (fun k => churnref12_Pattern.f k s d) (c, o, e) ∧ c.length ≤ 1048576 ∧ o.length ≤ 1048576 := by
  rcases ref_good_or s d hs hd with ⟨P, g, h⟩ | ⟨n, h⟩
  · have hle := g.le
    exact ⟨_, _, _, g.pattern, h, by omega, by omega⟩
  · rcases good_or s d hs hd with ⟨Q, g, _⟩ | ⟨_, h'⟩
    · exact absurd ⟨Q, g⟩ n
    · exact ⟨_, _, _, h', h, by simp, by simp⟩
theorem both_draws (s c o : List Int) (hs : s.length ≤ 17592186044000) (hc : c.length ≤ 17592186044000) (ho : o.length ≤ 17592186044000) : ∃ (ds : List Int) (e : Int), Ev (fun k => braid_Draws.f k s c o) (ds, e) ∧ Ev (fun k => churnref12_Draws.f k s c o) (ds, e) ∧ ds.length ≤ 1048576 := by
  obtain ⟨⟨ds, e⟩, h1, h2⟩ := ref_draws_same s c o hs hc ho
  refine ⟨ds, e, h1, h2, ?_⟩
  by_cases h : OkS s ∧ (c.length : Int) = total s ∧ (o.length : Int) = total s
  · rcases draws_good s c o h.1 h.2.1 h.2.2 with ⟨ds', P, t, e'⟩ | ⟨_, e'⟩
    · have := ev_one h1 e'
      simp only [Prod.mk.injEq] at this
      rw [this.1]
      have h3 := t.1.len
      have h4 : c.length = P.length := by rw [← t.2.1]; simp [fsts]
      have h5 := h.1.all
      omega
    · have := ev_one h1 e'
      simp only [Prod.mk.injEq] at this
      rw [this.1]
      simp
  · have := ev_one h1 (draws_bad s c o hs hc ho h)
    simp only [Prod.mk.injEq] at this
    rw [this.1]
    simp
theorem whole_lent (l : List Int) (h : l.length ≤ 17592186044000) : ∃ k, churnlaw12_whole.f k (l ++ [-77, -78]) l = some true := by
  obtain ⟨k, hk⟩ := Ev.rounds (same12_yes l (by omega))
  refine ⟨k, ?_⟩
  have hl : (l ++ [-77, -78]).length = l.length + 2 := by simp
  have e1 : (l ++ [-77, -78]).take ((l.length : Int) : Int).toNat = l := by simp
  have e2 : rd (l ++ [-77, -78]) (l.length : Int) = -77 := by simp [rd, List.getD_eq_getElem?_getD]
  have e3 : wrap64 ((l.length : Int) + 1) = ((l.length + 1 : Nat) : Int) := w64n (x := l.length + 1) (by omega)
  have e4 : rd (l ++ [-77, -78]) ((l.length + 1 : Nat) : Int) = -78 := by simp only [rd, Int.toNat_natCast, List.getD_eq_getElem?_getD]; rw [List.getElem?_append_right (by omega)]; simp
  unfold churnlaw12_whole.f
  rw [if_pos (by omega), if_pos (by rw [hl]; omega), e1, hk, Option.bind_some, if_pos rfl, if_pos (by rw [hl]; omega), if_pos e2, e3, if_pos (by omega), if_pos (by rw [hl]; omega), e4]
  rfl
theorem BraidPatterns : churnlaw12_BraidPatterns.Pure := by
  rintro l ⟨h0, h1, h2⟩
  unfold churnlaw12_BraidPatterns.f
  rw [if_pos]
  refine ⟨⟨?_, ?_, whole_lent, ?_⟩, by omega, fun q hq => ?_⟩
  · intro s d hs hd
    obtain ⟨c, o, e, a, b, l1, l2⟩ := both_pattern s d hs hd
    obtain ⟨k1, e1⟩ := Ev.rounds a
    obtain ⟨k2, e2⟩ := Ev.rounds b
    obtain ⟨k3, e3⟩ := Ev.rounds (same12_yes c (by omega))
    obtain ⟨k4, e4⟩ := Ev.rounds (same12_yes o (by omega))
    exact ⟨k1, k2, k3, k4, c, o, e, e1, e2, e3, e4, l1, l2⟩
  · intro s c o hs hc ho
    obtain ⟨ds, e, a, b, l1⟩ := both_draws s c o hs hc ho
    obtain ⟨k1, e1⟩ := Ev.rounds a
    obtain ⟨k2, e2⟩ := Ev.rounds b
    obtain ⟨k3, e3⟩ := Ev.rounds (same12_yes ds (by omega))
    exact ⟨k1, k2, k3, ds, e, e1, e2, e3, l1⟩
  · exact Ev.rounds awake12
  · obtain ⟨⟨-, a, -⟩, ⟨-, b, -⟩, ⟨-, c, -⟩, ⟨-, d, -⟩⟩ := h2 q hq
    exact ⟨by omega, by omega, by omega, by omega⟩
end Go.Proofs.Ytiefmocfgneldaa.Pure
