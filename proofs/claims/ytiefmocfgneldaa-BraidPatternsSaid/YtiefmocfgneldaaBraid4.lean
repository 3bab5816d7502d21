/- What the statements about braid need: equality of lists; a pattern is told by draws and draws by a pattern, one to one. -/
import Derived.Test.YtiefmocfgneldaaBraid3
import Derived.Test.YtiefmocfgneldaaQx4
import Derived.Test.YtiefmocfgneldaaQx9
set_option linter.unusedVariables false
set_option linter.unusedSimpArgs false
namespace Go.Proofs.Ytiefmocfgneldaa.Pl
open Go.RowKit Go.Proofs.Ytiefmocfgneldaa.Q Go.Proofs.YtiefmocfgneldaaW.PrintWords Go.Proofs.YtiefmocfgneldaaW.PrintLast

theorem same12_ev (a b : List Int) (ha : a.length ≤ 9223372036854775000) : Ev (fun k => churnlaw12_same.f k a b) (decide (a = b)) := by
  unfold churnlaw12_same.f
  by_cases h : a.length = b.length
  · refine ev_pos (by omega) ?_
    have key : ∀ (d i : Nat), i + d = a.length → a.take i = b.take i → Ev (fun k => churnlaw12_same.l0 k a b (a.length : Int) (i : Int)) (decide (a = b)) := by
      intro d
      induction d with
      | zero =>
        intro i hi ht
        refine Ev.step (f := fun _ => some true) (fun k => by rw [churnlaw12_same.l0, if_neg (by omega)]) (ev_some ?_)
        have : a = b := by
          have h1 : a.take i = a := List.take_of_length_le (by omega)
          have h2 : b.take i = b := List.take_of_length_le (by omega)
          rw [h1, h2] at ht
          exact ht
        simp [this]
      | succ d ih =>
        intro i hi ht
        by_cases he : rd a (i : Int) = rd b (i : Int)
        · refine Ev.step (f := fun k => churnlaw12_same.l0 k a b (a.length : Int) ((i + 1 : Nat) : Int)) (fun k => ?_) (ih (i + 1) (by omega) ?_)
          · rw [churnlaw12_same.l0, if_pos (by omega), if_pos (by omega), if_pos (by omega), if_pos (by omega), if_pos he, w64 (by omega) (by omega)]
            rfl
          · rw [take_rd a i (by omega), take_rd b i (by omega), ht, he]
        · refine Ev.step (f := fun _ => some false) (fun k => ?_) (ev_some ?_)
          · rw [churnlaw12_same.l0, if_pos (by omega), if_pos (by omega), if_pos (by omega), if_pos (by omega), if_neg he]
          · have : a ≠ b := fun e => he (by rw [e])
            simp [this]
    exact key a.length 0 (by omega) (by simp)
  · refine ev_neg (by omega) (ev_some ?_)
    have : a ≠ b := fun e => h (by rw [e])
    simp [this]
theorem same12_yes (a : List Int) (ha : a.length ≤ 9223372036854775000) : Ev (fun k => churnlaw12_same.f k a a) true := ev_to (same12_ev a a ha) (by simp)
theorem awake12 : Ev (fun k => churnlaw12_awake.f k) true := Ev.of (fun k => churnlaw12_awake.mono k) (k := 40) (by decide +kernel)

/-- The pairs of a pattern. -/
structure Good (s ds : List Int) (P : List (Nat × Int)) : Prop where
  sizes : OkS s
  len : (ds.length : Int) = total s
  pat : Pat s ds P
theorem Good.le {s ds : List Int} {P : List (Nat × Int)} (g : Good s ds P) : ds.length ≤ 256 ∧ P.length = ds.length ∧ (fsts P).length = ds.length ∧ (allOff s.length P).length = ds.length := by
  have h1 := g.sizes.all
  have h2 := g.len
  have h3 := g.pat.len
  have h4 := allOff_len s.length P s (Nat.le_refl _) (g.pat.count g.sizes.nonneg h2.symm)
  rw [psum_all s s.length (Nat.le_refl _)] at h4
  exact ⟨by omega, h3, by simp [fsts]; exact h3, by omega⟩
theorem good_or (s ds : List Int) (hs : s.length ≤ 17592186044000) (hd : ds.length ≤ 17592186044000) :
    (∃ P, Good s ds P ∧ Ev (fun k => braid_Pattern.f k s ds) (fsts P, allOff s.length P, 0)) ∨ ((¬ ∃ P, Good s ds P) ∧ Ev (fun k => braid_Pattern.f k s ds) ([], [], 2)) := by
  by_cases h : OkS s ∧ (ds.length : Int) = total s
  · rcases pattern_good s ds h.1 h.2 with ⟨P, h1, h2⟩ | ⟨h1, h2⟩
    · exact .inl ⟨P, ⟨h.1, h.2, h1⟩, h2⟩
    · refine .inr ⟨?_, h2⟩
      rintro ⟨P, g⟩
      refine h1 ⟨h.1, h.2, fun t ht => ?_⟩
      have := g.pat.bound g.sizes.nonneg t ht
      rw [← g.len] at this
      exact this
  · refine .inr ⟨?_, pattern_bad s ds hs hd h⟩
    rintro ⟨P, g⟩
    exact h ⟨g.sizes, g.len⟩
theorem Good.pattern {s ds : List Int} {P : List (Nat × Int)} (g : Good s ds P) : Ev (fun k => braid_Pattern.f k s ds) (fsts P, allOff s.length P, 0) := by
  rcases pattern_good s ds g.sizes g.len with ⟨Q, h1, h2⟩ | ⟨h1, _⟩
  · rw [g.pat.unique g.sizes.nonneg h1]
    exact h2
  · refine absurd ⟨g.sizes, g.len, fun t ht => ?_⟩ h1
    have := g.pat.bound g.sizes.nonneg t ht
    rw [← g.len] at this
    exact this
theorem told_unique (off : List Int) : ∀ (A B : List (Nat × Int)) (nx : Nat → Nat), A.map (·.1) = B.map (·.1) → Rdo nx off A → Rdo nx off B → A = B := by
  intro A
  induction A with
  | nil => intro B nx e _ _; cases B with
    | nil => rfl
    | cons b B => simp at e
  | cons a A ih =>
    intro B nx e ha hb
    cases B with
    | nil => simp at e
    | cons b B =>
      obtain ⟨j, o⟩ := a
      obtain ⟨i, p⟩ := b
      simp only [List.map_cons, List.cons.injEq] at e
      obtain ⟨rfl, e2⟩ := e
      obtain ⟨a1, a2⟩ := ha.uncons
      obtain ⟨b1, b2⟩ := hb.uncons
      rw [a1, b1, ih B _ e2 a2 b2]
/-- Draws behind a pattern give the draws back. -/
theorem Good.back {s ds : List Int} {P : List (Nat × Int)} (g : Good s ds P) : Ev (fun k => braid_Draws.f k s (fsts P) (allOff s.length P)) (ds, 0) := by
  have hle := g.le
  have hl := g.len
  have hT : Told s (start s) (fsts P) (allOff s.length P) ds P := ⟨g.pat, rfl, rdo_all g.sizes.nonneg g.pat g.len.symm⟩
  rcases draws_good s (fsts P) (allOff s.length P) g.sizes (by omega) (by omega) with ⟨es, Q, h1, h2⟩ | ⟨h1, _⟩
  · have hPQ : P = Q := by
      have e1 : P.map (·.1) = Q.map (·.1) := by
        have := h1.2.1
        unfold fsts at this
        have h3 : ∀ (A B : List (Nat × Int)), A.map (fun x => (x.1 : Int)) = B.map (fun x => (x.1 : Int)) → A.map (·.1) = B.map (·.1) := by
          intro A
          induction A with
          | nil => intro B h; cases B with
            | nil => rfl
            | cons b B => simp at h
          | cons a A ih => intro B h; cases B with
            | nil => simp at h
            | cons b B =>
              simp only [List.map_cons, List.cons.injEq] at h ⊢
              exact ⟨by omega, ih B h.2⟩
        exact (h3 Q P this).symm
      exact told_unique _ _ _ _ e1 hT.2.2 h1.2.2
    subst hPQ
    rw [g.pat.draws h1.1]
    exact h2
  · exact absurd ⟨ds, P, hT⟩ h1
/-- What Draws tells is told back by Pattern. -/
theorem draws_or (s c off : List Int) (hs : s.length ≤ 17592186044000) (hc : c.length ≤ 17592186044000) (ho : off.length ≤ 17592186044000) :
    (∃ ds P, Good s ds P ∧ fsts P = c ∧ allOff s.length P = off ∧ Ev (fun k => braid_Draws.f k s c off) (ds, 0)) ∨
    ((¬ ∃ ds P, Good s ds P ∧ fsts P = c ∧ allOff s.length P = off) ∧ Ev (fun k => braid_Draws.f k s c off) ([], 2)) := by
  by_cases h : OkS s ∧ (c.length : Int) = total s ∧ (off.length : Int) = total s
  · obtain ⟨h1, h2, h3⟩ := h
    rcases draws_good s c off h1 h2 h3 with ⟨ds, P, ht, he⟩ | ⟨ht, he⟩
    · have hl : ds.length = c.length := by
        have a := ht.1.len
        have b := congrArg List.length ht.2.1
        simp [fsts] at b
        omega
      have g : Good s ds P := ⟨h1, by omega, ht.1⟩
      exact .inl ⟨ds, P, g, ht.2.1, all_rdo h1.nonneg ht.1 g.len.symm (by omega) ht.2.2, he⟩
    · refine .inr ⟨?_, he⟩
      rintro ⟨ds, P, g, e1, e2⟩
      exact ht ⟨ds, P, g.pat, e1, by rw [← e2]; exact rdo_all g.sizes.nonneg g.pat g.len.symm⟩
  · refine .inr ⟨?_, draws_bad s c off hs hc ho h⟩
    rintro ⟨ds, P, g, e1, e2⟩
    have := g.le
    have h4 := g.len
    exact h ⟨g.sizes, by rw [← e1]; omega, by rw [← e2]; omega⟩
/-- One pattern's chunks with another's offsets are a pattern. -/
theorem Good.cross {s ds es : List Int} {P Q : List (Nat × Int)} (g : Good s ds P) (g' : Good s es Q) : ∃ xs R, Good s xs R ∧ fsts R = fsts P ∧ allOff s.length R = allOff s.length Q := by
  have hn := g.sizes.nonneg
  have hc := g.pat.count hn g.len.symm
  have hc' := g'.pat.count hn g'.len.symm
  obtain ⟨xs, R, h1, h2, h3⟩ := draws_exist (allOff s.length Q) (P.map (·.1)) s (start s) hn (by
    intro j hj
    obtain ⟨x, hx, rfl⟩ := List.mem_map.1 hj
    exact g.pat.range x hx) (by
    intro j hj
    have := hc j hj
    have e : ((P.map (·.1)).filter (· == j)).length = (vis j P).length := by
      unfold vis
      rw [List.filter_map, List.length_map, List.length_map]
      rfl
    omega) (by
    intro j k hj hk
    have h4 := hc' j hj
    have hk' : k < (vis j Q).length := by omega
    rw [allOff_at s.length Q s hn (Nat.le_refl _) hc' j k hj hk']
    exact g'.pat.offs hn j k hj hk')
  have hf : fsts R = fsts P := by
    have : R.map (·.1) = P.map (·.1) := h2
    unfold fsts
    rw [show (fun x : Nat × Int => (x.1 : Int)) = (fun n : Nat => (n : Int)) ∘ (·.1) from rfl, ← List.map_map, this, List.map_map]
  have hl : xs.length = ds.length := by
    have a := h1.len
    have b := congrArg List.length h2
    have c := g.pat.len
    simp at b
    omega
  have G : Good s xs R := ⟨g.sizes, by rw [hl]; exact g.len, h1⟩
  have := g'.le
  have h5 := g.len
  have h6 := g'.len
  exact ⟨xs, R, G, hf, all_rdo hn h1 G.len.symm (by omega) h3⟩
/-- Chunks and offsets tell the pairs, and so the draws. -/
theorem Good.inj {s ds es : List Int} {P Q : List (Nat × Int)} (g : Good s ds P) (g' : Good s es Q) (h1 : fsts P = fsts Q) (h2 : allOff s.length P = allOff s.length Q) : ds = es := by
  have a := g.back
  have b := g'.back
  rw [h1, h2] at a
  obtain ⟨K1, e1⟩ := a
  obtain ⟨K2, e2⟩ := b
  have x := e1 (max K1 K2) (Nat.le_max_left _ _)
  have y := e2 (max K1 K2) (Nat.le_max_right _ _)
  rw [x] at y
  exact congrArg Prod.fst (Option.some.inj y)
theorem Good.same {s ds es : List Int} {P Q : List (Nat × Int)} (g : Good s ds P) (g' : Good s es Q) (h : ds = es) : P = Q := by
  subst h
  exact g.pat.unique g.sizes.nonneg g'.pat
end Go.Proofs.Ytiefmocfgneldaa.Pl
