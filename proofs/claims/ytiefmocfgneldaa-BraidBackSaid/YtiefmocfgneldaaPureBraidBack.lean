/- The pattern and offsets that draws tell, tell these draws again, and the other way round; each chunk stands in the pattern as often as its size says (P12.1): the printed statement, proved over lists. -/
import Derived.Test.YtiefmocfgneldaaBraid4
import Derived.Test.YtiefmocfgneldaaQLBraidBack
set_option linter.unusedVariables false
set_option linter.unusedSimpArgs false
namespace Go.Proofs.Ytiefmocfgneldaa.Pure
open Go.RowKit Go.Proofs.Ytiefmocfgneldaa.Q Go.Proofs.YtiefmocfgneldaaW.PrintWords Go.Proofs.YtiefmocfgneldaaW.PrintLast Go.Proofs.Ytiefmocfgneldaa.Pl

theorem fsts_count (j : Nat) (P : List (Nat × Int)) : (((fsts P).filter (· == (j : Int))).length : Int) = ((vis j P).length : Int) := by
  induction P with
  | nil => rfl
  | cons x P ih =>
    obtain ⟨i, o⟩ := x
    rw [vis_cons]
    have : fsts ((i, o) :: P) = (i : Int) :: fsts P := rfl
    rw [this, List.filter_cons]
    by_cases e : i = j
    · simp [e]; omega
    · have h : ((i : Int) == (j : Int)) = false := by simp; omega
      rw [h]; simp [e]; omega

/-- The loop that counts one chunk off. -/
theorem back_l1 (x3 x4 : List Int) (x5 : Int) (s draws chunk offset : List Int) (j : Nat) (v : Int) (hl : x3.length ≤ 256) (hv : 0 ≤ v) (hv2 : v ≤ 256) (hc : ((x3.filter (· == (j : Int))).length : Int) = v) (hj : j < s.length) (hs : s.length ≤ 64)
    (next : Ev (fun k => churnlaw12_BraidBack.l0 k x3 x4 x5 s (s.length : Int) ((j + 1 : Nat) : Int) s draws chunk offset) true) :
    Ev (fun k => churnlaw12_BraidBack.l1 k x3 x4 x5 (j : Int) v s (s.length : Int) (j : Int) x3 (x3.length : Int) 0 s draws chunk offset) true := by
  have key : ∀ (d i : Nat), i + d = x3.length → Ev (fun k => churnlaw12_BraidBack.l1 k x3 x4 x5 (j : Int) (v - ((x3.take i).filter (· == (j : Int))).length) s (s.length : Int) (j : Int) x3 (x3.length : Int) (i : Int) s draws chunk offset) true := by
    intro d
    induction d with
    | zero =>
      intro i hi
      rw [List.take_of_length_le (by omega), hc]
      refine Ev.step (fun k => ?_) next
      rw [churnlaw12_BraidBack.l1, if_neg (by omega), if_pos (by omega), w64 (by omega) (by omega)]
      rfl
    | succ d ih =>
      intro i hi
      have hle : ((x3.take i).filter (· == (j : Int))).length ≤ i := by
        have := List.length_filter_le (· == (j : Int)) (x3.take i)
        rw [List.length_take] at this
        omega
      by_cases e : rd x3 (i : Int) = (j : Int)
      · have h2 : ((x3.take (i + 1)).filter (· == (j : Int))).length = ((x3.take i).filter (· == (j : Int))).length + 1 := by
          rw [take_rd x3 i (by omega), List.filter_append, List.length_append]
          simp [e]
        refine Ev.step (fun k => ?_) (ih (i + 1) (by omega))
        rw [churnlaw12_BraidBack.l1, if_pos (by omega), if_pos (by omega), if_pos (by omega), if_pos e, w64 (by omega) (by omega), w64 (by omega) (by omega), h2,
          show v - ((x3.take i).filter (· == (j : Int))).length - 1 = v - ((((x3.take i).filter (· == (j : Int))).length + 1 : Nat) : Int) from by omega]
        rfl
      · have h2 : ((x3.take (i + 1)).filter (· == (j : Int))).length = ((x3.take i).filter (· == (j : Int))).length := by
          rw [take_rd x3 i (by omega), List.filter_append, List.length_append]
          have : (rd x3 (i : Int) == (j : Int)) = false := by simpa using e
          simp [this]
        refine Ev.step (fun k => ?_) (ih (i + 1) (by omega))
        rw [churnlaw12_BraidBack.l1, if_pos (by omega), if_pos (by omega), if_pos (by omega), if_neg e, w64 (by omega) (by omega), h2]
        rfl
  have := key x3.length 0 (by omega)
  simpa using this

theorem back_l0 (x4 : List Int) (x5 : Int) (s draws chunk offset : List Int) (P : List (Nat × Int)) (g : Go.Proofs.Ytiefmocfgneldaa.Pl.Good s draws P) (next : Ev (fun k => churnlaw12_BraidBack.j3 k (fsts P) x4 x5 s draws chunk offset) true) :
    Ev (fun k => churnlaw12_BraidBack.l0 k (fsts P) x4 x5 s (s.length : Int) 0 s draws chunk offset) true := by
  have hc := g.pat.count g.sizes.nonneg g.len.symm
  have hm := g.sizes.most
  have hle := g.le
  have key : ∀ (d i : Nat), i + d = s.length → Ev (fun k => churnlaw12_BraidBack.l0 k (fsts P) x4 x5 s (s.length : Int) (i : Int) s draws chunk offset) true := by
    intro d
    induction d with
    | zero =>
      intro i hi
      refine Ev.step (fun k => ?_) next
      rw [churnlaw12_BraidBack.l0, if_neg (by omega)]
    | succ d ih =>
      intro i hi
      have hlt : i < s.length := by omega
      have hb := g.sizes.each _ (List.getElem_mem hlt)
      have hci := hc i hlt
      have hg : s.getD i 0 = s[i] := by simp [List.getD_eq_getElem?_getD, hlt]
      have := back_l1 (fsts P) x4 x5 s draws chunk offset i s[i] (by omega) hb.1 hb.2 (by rw [fsts_count]; omega) hlt hm (ih (i + 1) (by omega))
      refine Ev.step (fun k => ?_) this
      rw [churnlaw12_BraidBack.l0, if_pos (by omega), if_pos (by omega), if_pos (by omega), rd_lt s i hlt]
  exact key s.length 0 (by omega)

/-- The second half: what Draws answers. -/
theorem back_j3 (x3 x4 : List Int) (x5 : Int) (s draws chunk offset : List Int) (hs : s.length ≤ 17592186044000) (hc : chunk.length ≤ 17592186044000) (ho : offset.length ≤ 17592186044000) (h : x5 = 0 ∨ (x5 = 2 ∧ x3 = [] ∧ x4 = [])) :
    Ev (fun k => churnlaw12_BraidBack.j3 k x3 x4 x5 s draws chunk offset) true := by
  refine Ev.step (fun k => by rw [churnlaw12_BraidBack.j3]) ?_
  rcases draws_or s chunk offset hs hc ho with ⟨ds, P, g, e1, e2, he⟩ | ⟨_, he⟩
  · have hle := g.le
    have hlen := g.len
    refine ev_bind he (ev_pos rfl ?_)
    simp only
    have key : ∀ (d i : Nat), i + d = ds.length → Ev (fun k => churnlaw12_BraidBack.l2 k ds ds (ds.length : Int) (i : Int) s draws chunk offset) true := by
      intro d
      induction d with
      | zero =>
        intro i hi
        refine Ev.step (fun k => by rw [churnlaw12_BraidBack.l2, if_neg (by omega)]) ?_
        refine ev_bind g.pattern (ev_pos rfl ?_)
        simp only [e1, e2]
        exact ev_bind (same12_yes chunk (by rw [← e1]; omega)) (ev_pos rfl (ev_bind (same12_yes offset (by rw [← e2]; omega)) (Ev.now _)))
      | succ d ih =>
        intro i hi
        have hlt : i < ds.length := by omega
        have hb := g.pat.bound g.sizes.nonneg i hlt
        rw [← hlen] at hb
        refine Ev.step (fun k => ?_) (ih (i + 1) (by omega))
        rw [churnlaw12_BraidBack.l2, if_pos (by omega), if_pos (by omega), if_pos (by omega), rd_lt ds i hlt, if_neg (by omega), w64 (x := (ds.length : Int) - i) (by omega) (by omega), if_neg (by omega), w64 (by omega) (by omega)]
        rfl
    exact key ds.length 0 (by omega)
  · refine ev_bind he (ev_neg (by decide) (ev_pos rfl (ev_pos rfl ?_)))
    rcases h with rfl | ⟨rfl, rfl, rfl⟩
    · exact ev_pos rfl (Ev.now _)
    · exact ev_neg (by decide) (ev_pos rfl (ev_some (by simp [wrap64])))

theorem BraidBack : churnlaw12_BraidBack.Pure := by
  intro s draws chunk offset hs hd hc ho
  have h1 := hs.2.1
  have h2 := hd.2.1
  have h3 := hc.2.1
  have h4 := ho.2.1
  refine Ev.rounds (g := fun k => churnlaw12_BraidBack.f k s draws chunk offset) (r := true) ?_
  unfold churnlaw12_BraidBack.f
  refine ev_bind awake12 (ev_pos rfl ?_)
  rcases good_or s draws (by omega) (by omega) with ⟨P, g, e⟩ | ⟨_, e⟩
  · have hle := g.le
    refine ev_bind e (ev_pos rfl (ev_bind g.back (ev_pos rfl (ev_bind (same12_yes draws (by omega)) (ev_pos rfl ?_)))))
    simp only
    refine Ev.step (fun k => by rw [churnlaw12_BraidBack.j0, if_neg (by simp; omega)]) ?_
    exact back_l0 _ _ s draws chunk offset P g (back_j3 _ _ _ s draws chunk offset (by omega) (by omega) (by omega) (.inl rfl))
  · refine ev_bind e (ev_neg (by decide) ?_)
    simp only
    exact back_j3 _ _ _ s draws chunk offset (by omega) (by omega) (by omega) (.inr ⟨rfl, rfl, rfl⟩)

end Go.Proofs.Ytiefmocfgneldaa.Pure
