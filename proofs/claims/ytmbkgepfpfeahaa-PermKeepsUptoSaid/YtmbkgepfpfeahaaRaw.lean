/- Rows told by their cells: a literal, an append, and how rows that lie apart come together: lists for 'apart'. -/
import Derived.Test.YtmbkgepfpfeahaaApt1
set_option linter.unusedVariables false
set_option linter.unusedSimpArgs false
namespace Go.Proofs.Ytmbkgepfpfeahaa.Q
open Go.RowKit Go.Proofs.YtmbkgepfpfeahaaW.PrintWords Go.Proofs.YtmbkgepfpfeahaaW.PrintLast Go.Proofs.YtmbkgepfpfeahaaW.PrintMore Go.Proofs.Ytmbkgepfpfeahaa.Pl
section
variable {P : Program} {ops : Array Oper} {rest : List Oper} {o : Oper} {a : Act} {Q : Exit → Act → World → Prop} {Kc : Act → World → Prop}
/-- A literal, told by its cells. -/
theorem cells_lit {W : World} (base e : Nat) (hgd : o.guard = none) {N : Tmp} (_hd : o.dst = some N) {inner : List Value} (hrun : (execOp a.eval o).run P W = .ok (.value (.slice (some ⟨W.heap.size, 0, none⟩) inner.length inner.length)) (W.alloc (.cells inner.toArray e)))
    (hbase : base ≤ W.heap.size) (hm : inner.length ≤ 9223372036854775807)
    (h : ∀ v1 w1, w1.ownsRow base e 1 v1 inner.length inner → W.grownBy w1 none → v1.ownBlock = some W.heap.size → wpList P ops Q rest (a.put o.dst v1) w1) : wpList P ops Q (o :: rest) a W := by
  refine Kd.event_run hgd hrun (h _ _ ?_ (World.grownBy_alloc W _ none) (by simp [Value.ownBlock]))
  have h2 := World.ownsRow_lit (base := base) (e := e) (size := 1) W inner.toArray inner.length hbase (by simpa [maxLen] using hm) (by simp)
  simpa using h2
/-- An append, told by its cells. -/
theorem wp_cells_app {W : World} (base : Nat) (s x : Operand) (t e : TypeId) (z : Value) (bytes : Nat)
    (ho : o.op = .call { callee := .builtin .append, args := #[s, x], argTypes := #[t, t] })
    (ht : P.underlying t = some (.slice e)) (hinfo : (P.info? e).map (fun i => (i.zero, i.size, i.bytes)) = some (some z, 1, bytes)) (hzs : z.cells.size = 1) (hb0 : 0 < bytes)
    (v : Value) (xs ys : List Value) (A : Option Addr) (m c : Nat) (hs : a.eval s = v) (hx : a.eval x = .slice A m c) (HO : W.ownsRow base e 1 v xs.length xs) (hm : ys.length = m)
    (hy : ∀ j u, ys[j]? = some u → ∃ g, A = some ⟨g, 0, none⟩ ∧ W.cell? ⟨g, j, none⟩ = some u) (h1 : ∀ u ∈ ys, u.oneCell' = true) (hbase : base ≤ W.heap.size) (hl : (xs.length + m) * bytes ≤ 140737488355328)
    (h : ∀ v1 w1, w1.ownsRow base e 1 v1 (xs.length + m) (xs ++ ys) → W.grownBy w1 v.ownBlock → (v1.ownBlock = v.ownBlock ∨ (v1.ownBlock = some W.heap.size ∧ W.grownBy w1 none)) → Kc (a.put o.dst v1) w1) : o.wp P a W Kc Q := by
  obtain ⟨i0, hi, hzz⟩ := Option.map_eq_some_iff.1 hinfo
  simp only [Prod.mk.injEq] at hzz
  obtain ⟨hz0, hz1, hz2⟩ := hzz
  have hlen : xs.length + m ≤ 140737488355328 := Nat.le_trans (Nat.le_mul_of_pos_right _ hb0) hl
  obtain ⟨v1, w1, hr, h2, h3, h5⟩ : ∃ v1 w1, (Builtin.append_ #[t, t] o.type #[v, .slice A m c]).run P W = .ok v1 w1 ∧ w1.ownsRow base e 1 v1 (xs.length + m) (xs ++ ys) ∧ W.grownBy w1 v.ownBlock ∧ (v1.ownBlock = v.ownBlock ∨ (v1.ownBlock = some W.heap.size ∧ W.grownBy w1 none)) := by
    rcases A with _ | ad
    · obtain rfl : ys = [] := by
        cases ys with
        | nil => rfl
        | cons y ys => obtain ⟨g, e, -⟩ := hy 0 y rfl; cases e
      obtain rfl : m = 0 := by simpa using hm.symm
      refine ⟨v, W, ?_, by simpa using HO, World.grownBy.refl W _, .inl rfl⟩
      rcases HO.2 with ⟨rfl, hn⟩ | ⟨g, cap, cur, rfl, _, _, hnc, _⟩
      · simp [Builtin.append_, run_underlying ht, sizeOf, typeInfo, hi, Builtin.lenOf, Builtin.firstCells]
      · simp [Builtin.append_, run_underlying ht, sizeOf, typeInfo, hi, Builtin.lenOf, Builtin.firstCells, hnc, storeCells]
    · refine run_append_keep (P := P) W base t o.type e i0 z bytes ht hi hz0 hz1 hz2 hzs v xs.length xs HO ad m c ys (by omega) ?_ h1 (by simp only [maxLen]; omega) hl hbase
      intro j u hu
      obtain ⟨g, e, hc⟩ := hy j u hu
      injection e with e
      subst e
      rw [show ((⟨g, 0, none⟩ : Addr).add j) = ⟨g, j, none⟩ from by simp [Addr.add]; omega]
      exact hc
  unfold Oper.wp execOp
  simp only [ho, resolve, invoke, builtin, Sem.run_bind, Sem.run_pure, Result.andThen_ok, List.map_toArray, List.map_cons, List.map_nil, hs, hx, hr]
  exact h v1 w1 h2 h3 h5
/-- An append, told by its cells. -/
theorem cells_app {W : World} (base : Nat) (hgd : o.guard = none) (s x : Operand) (t e : TypeId) (z : Value) (bytes : Nat)
    (ho : o.op = .call { callee := .builtin .append, args := #[s, x], argTypes := #[t, t] })
    (ht : P.underlying t = some (.slice e)) (hinfo : (P.info? e).map (fun i => (i.zero, i.size, i.bytes)) = some (some z, 1, bytes)) (hzs : z.cells.size = 1) (hb0 : 0 < bytes)
    (v : Value) (xs ys : List Value) (A : Option Addr) (m c : Nat) (hs : a.eval s = v) (hx : a.eval x = .slice A m c) (HO : W.ownsRow base e 1 v xs.length xs) (hm : ys.length = m)
    (hy : ∀ j u, ys[j]? = some u → ∃ g, A = some ⟨g, 0, none⟩ ∧ W.cell? ⟨g, j, none⟩ = some u) (h1 : ∀ u ∈ ys, u.oneCell' = true) (hbase : base ≤ W.heap.size) (hl : (xs.length + m) * bytes ≤ 140737488355328)
    (h : ∀ v1 w1, w1.ownsRow base e 1 v1 (xs.length + m) (xs ++ ys) → W.grownBy w1 v.ownBlock → (v1.ownBlock = v.ownBlock ∨ (v1.ownBlock = some W.heap.size ∧ W.grownBy w1 none)) → wpList P ops Q rest (a.put o.dst v1) w1) : wpList P ops Q (o :: rest) a W :=
  wpList_plain hgd fun K hK => wp_cells_app base s x t e z bytes ho ht hinfo hzs hb0 v xs ys A m c hs hx HO hm hy h1 hbase hl (fun v1 w1 h2 h3 h5 => hK _ _ (h v1 w1 h2 h3 h5))
/-- The same inside a region that draws its order. -/
theorem step_cells_app {E : Prop} {W : World} (base : Nat) (hw : Region.wanted o (yielded ops a.tmps) = true) (s x : Operand) (t e : TypeId) (z : Value) (bytes : Nat)
    (ho : o.op = .call { callee := .builtin .append, args := #[s, x], argTypes := #[t, t] })
    (ht : P.underlying t = some (.slice e)) (hinfo : (P.info? e).map (fun i => (i.zero, i.size, i.bytes)) = some (some z, 1, bytes)) (hzs : z.cells.size = 1) (hb0 : 0 < bytes)
    (v : Value) (xs ys : List Value) (A : Option Addr) (m c : Nat) (hs : a.eval s = v) (hx : a.eval x = .slice A m c) (HO : W.ownsRow base e 1 v xs.length xs) (hm : ys.length = m)
    (hy : ∀ j u, ys[j]? = some u → ∃ g, A = some ⟨g, 0, none⟩ ∧ W.cell? ⟨g, j, none⟩ = some u) (h1 : ∀ u ∈ ys, u.oneCell' = true) (hbase : base ≤ W.heap.size) (hl : (xs.length + m) * bytes ≤ 140737488355328)
    (h : ∀ v1 w1, w1.ownsRow base e 1 v1 (xs.length + m) (xs ++ ys) → W.grownBy w1 v.ownBlock → (v1.ownBlock = v.ownBlock ∨ (v1.ownBlock = some W.heap.size ∧ W.grownBy w1 none)) → Kc (a.put o.dst v1) w1) :
    if Region.wanted o (yielded ops a.tmps) = true then Oper.wp P o a W Kc Q else E := by
  rw [if_pos hw]
  exact wp_cells_app base s x t e z bytes ho ht hinfo hzs hb0 v xs ys A m c hs hx HO hm hy h1 hbase hl h
end
section
variable {k : IntKind} {W W1 : World} {base T e n c : Nat} {okr ok1 ok2 : Nat → Prop} {ls ls' : List Value} {xs xs' : List (List Int)} {v : Value} {x : List Int} {A : Option Addr} {inner : List Value}
/-- Cells of a row of one's own, as 'apart' reads them. -/
theorem own_cells (h : W.ownsRow base e 1 v n inner) : ∃ A c, v = .slice A n c ∧ n = inner.length ∧ n ≤ c ∧ (∀ g, A = some ⟨g, 0, none⟩ → base ≤ g ∧ g < W.heap.size) ∧ ∀ (j : Nat) (u : Value), inner[j]? = some u → ∃ g, A = some ⟨g, 0, none⟩ ∧ W.cell? ⟨g, j, none⟩ = some u := by
  have hl := h.1
  rcases h.2 with ⟨rfl, rfl⟩ | ⟨g, cap, cur, rfl, hbg, hg, hnc, hcm, hcs, htake⟩
  · refine ⟨none, 0, rfl, by simpa using hl.symm, Nat.le_refl _, fun g e => (by cases e), fun j u hu => ?_⟩
    have : inner = [] := List.eq_nil_of_length_eq_zero (by simpa using hl)
    subst this
    simp at hu
  · refine ⟨_, cap, rfl, by simpa using hl.symm, hnc, ?_, ?_⟩
    · intro g' e
      injection e with e
      injection e with e
      subst e
      exact ⟨hbg, blk_lt hg⟩
    · intro j u hu
      refine ⟨g, rfl, ?_⟩
      have := World.ownsRow.cells h (g := g) rfl j u hu
      rwa [show ((⟨g, 0, none⟩ : Addr).add j) = ⟨g, j, none⟩ from by simp [Addr.add]; omega] at this
theorem Lists.mono (h : Lists k W base T ok1 ls xs) (hm : ∀ b, ok1 b → ok2 b) : Lists k W base T ok2 ls xs :=
  ⟨h.len, fun j v x hv hx => Kd.R_mono (h.row j v x hv hx) hm, h.two⟩
theorem Lists.step (h : Lists k W base T okr ls xs) (hs : ∀ b, okr b → b < W.heap.size → W1.heap[b]? = W.heap[b]?) : Lists k W1 base T okr ls xs :=
  ⟨h.len, fun j v x hv hx => Kd.R_step (h.row j v x hv hx) hs, h.two⟩
theorem Lists.nil (k : IntKind) (W : World) (base T : Nat) (okr : Nat → Prop) : Lists k W base T okr [] [] := ⟨rfl, fun j v x hv => by simp at hv, fun i j u v _ hu => by simp at hu⟩
theorem Lists.cons (h : Lists k W base T okr ls xs) (hr : Kd.R (Kd.int k) T W base okr v x) (ha : ∀ u, u ∈ ls → ∀ b, v.ownBlock = some b → u.ownBlock ≠ some b) : Lists k W base T okr (v :: ls) (x :: xs) := by
  refine ⟨by simp [h.len], ?_, ?_⟩
  · intro j v' x' hv hx
    cases j with
    | zero =>
      simp only [List.getElem?_cons_zero, Option.some.injEq] at hv hx
      rw [← hv, ← hx]
      exact hr
    | succ j => exact h.row j v' x' (by simpa using hv) (by simpa using hx)
  · intro i j u v' hij hu hv b hb hb2
    cases i with
    | zero =>
      simp only [List.getElem?_cons_zero, Option.some.injEq] at hu
      subst hu
      cases j with
      | zero => exact hij rfl
      | succ j => exact ha v' (List.mem_of_getElem? (show ls[j]? = some v' by simpa using hv)) b hb hb2
    | succ i =>
      cases j with
      | zero =>
        simp only [List.getElem?_cons_zero, Option.some.injEq] at hv
        subst hv
        exact ha u (List.mem_of_getElem? (show ls[i]? = some u by simpa using hu)) b hb2 hb
      | succ j => exact h.two i j u v' (by omega) (by simpa using hu) (by simpa using hv) b hb hb2
/-- Lists whose rows lie in two far stretches. -/
theorem Lists.append (h : Lists k W base T ok1 ls xs) (h' : Lists k W base T ok2 ls' xs') (hf : ∀ b, ok1 b → ¬ ok2 b) : Lists k W base T (fun b => ok1 b ∨ ok2 b) (ls ++ ls') (xs ++ xs') := by
  have hl := h.len
  have in1 : ∀ (j : Nat) (u : Value), ls[j]? = some u → ∀ b, u.ownBlock = some b → ok1 b := fun j u hu => by
    have hj := (List.getElem?_eq_some_iff.1 hu).1
    exact (h.row j u _ hu (List.getElem?_eq_getElem (by omega))).1
  have in2 : ∀ (j : Nat) (u : Value), ls'[j]? = some u → ∀ b, u.ownBlock = some b → ok2 b := fun j u hu => by
    have hj := (List.getElem?_eq_some_iff.1 hu).1
    exact (h'.row j u _ hu (List.getElem?_eq_getElem (by have := h'.len; omega))).1
  refine ⟨by simp [h.len, h'.len], ?_, ?_⟩
  · intro j v x hv hx
    rw [List.getElem?_append] at hv hx
    by_cases hj : j < ls.length
    · rw [if_pos hj] at hv
      rw [if_pos (by omega)] at hx
      exact Kd.R_mono (h.row j v x hv hx) (fun b hb => .inl hb)
    · rw [if_neg hj] at hv
      rw [if_neg (by omega), ← hl] at hx
      exact Kd.R_mono (h'.row _ v x hv hx) (fun b hb => .inr hb)
  · intro i j u v hij hu hv b hb hb2
    rw [List.getElem?_append] at hu hv
    by_cases hi : i < ls.length
    · rw [if_pos hi] at hu
      by_cases hj : j < ls.length
      · rw [if_pos hj] at hv
        exact h.two i j u v hij hu hv b hb hb2
      · rw [if_neg hj] at hv
        exact hf b (in1 i u hu b hb) (in2 _ v hv b hb2)
    · rw [if_neg hi] at hu
      by_cases hj : j < ls.length
      · rw [if_pos hj] at hv
        exact hf b (in1 j v hv b hb2) (in2 _ u hu b hb)
      · rw [if_neg hj] at hv
        exact h'.two _ _ u v (by omega) hu hv b hb hb2
end
end Go.Proofs.Ytmbkgepfpfeahaa.Q
