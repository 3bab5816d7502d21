/- Rows whose elements are of several cells: append of some elements, a store into one cell, what the cells read; plain lemmas. -/
import Derived.Test.YtiefmocfgneldaaQx0
set_option linter.unusedVariables false
set_option linter.unusedSimpArgs false
namespace Go.Proofs.Ytiefmocfgneldaa.Q
open Go.RowKit Go.Proofs.YtiefmocfgneldaaW.PrintWords Go.Proofs.YtiefmocfgneldaaW.PrintLast Go.Proofs.YtiefmocfgneldaaW.PrintMore Go.Proofs.Ytiefmocfgneldaa.Pl
section
variable {P : Program}
theorem many_run (w : World) (base : Nat) (t ty e : TypeId) (i : TypeInfo) (z : Value) (sz bytes : Nat) (ht : P.underlying t = some (.slice e)) (hi : P.info? e = some i) (hz : i.zero = some z)
    (hsize : i.size = sz) (hs0 : 0 < sz) (hby : i.bytes = bytes) (hzs : z.cells.size = sz)
    (v : Value) (n : Nat) (xs : List Value) (hown : w.ownsRow base e sz v n xs)
    (a : Addr) (m c : Nat) (news : List Value) (hm : 0 < m) (hl : news.length = m * sz) (hnews : ∀ j u, news[j]? = some u → w.cell? (a.add j) = some u) (h1 : ∀ u ∈ news, u.oneCell' = true)
    (h63 : n + m ≤ maxLen) (hbytes : (n + m) * bytes ≤ 140737488355328) (hbase : base ≤ w.heap.size) :
    ∃ v' w', (Builtin.append_ #[t, t] ty #[v, .slice (some a) m c]).run P w = .ok v' w' ∧ w'.ownsRow base e sz v' (n + m) (xs ++ news) ∧ w.grownBy w' v.ownBlock ∧
      (v'.ownBlock = v.ownBlock ∨ (v'.ownBlock = some w.heap.size ∧ w.grownBy w' none)) := by
  obtain ⟨v', w', hr, h2, h3, h4, h5⟩ := run_append_own_at (P := P) w base t ty e i z sz bytes ht hi hz hsize hby hzs hs0 v n xs hown a m c news hl hnews h1 h63 hbytes hbase
  refine ⟨v', w', hr, h2, h3, ?_⟩
  rcases h5 with h5 | h5
  · exact .inl h5
  · right
    refine ⟨h5, ?_⟩
    simp only [maxLen] at h63
    rcases hown.2 with ⟨rfl, rfl⟩ | ⟨g, cap, cur, rfl, hbg, hg, hnc, hcm, hcs, htake⟩
    · have hr2 := run_append_nil (P := P) w t ty e i z ht hi hz a m c news (by rw [hsize]; exact hl) hnews hm (by omega) (by rw [hby]; simp only [Nat.zero_add] at hbytes; omega)
      rw [hr2] at hr
      cases hr
      exact ⟨rfl, rfl, rfl, by simp, fun k hk _ => Below.heap_alloc w.drew _ k hk⟩
    · by_cases hroom : n + m ≤ cap
      · have hfit : n * i.size + news.length ≤ cur.size := by rw [hl, hcs, hsize, ← Nat.add_mul]; exact Nat.mul_le_mul_right _ hroom
        have hr2 := run_append_room (P := P) w t ty e i ht hi g n cap cur hg a m c news (by rw [hsize]; exact hl) hnews h1 hroom hfit
        rw [hr2] at hr
        cases hr
        have hlt := blk_lt hg
        have : g = w.heap.size := by simpa [Value.ownBlock] using h5
        omega
      · have holds : ∀ j u, xs[j]? = some u → w.cell? ((⟨g, 0, none⟩ : Addr).add j) = some u := hown.cells (g := g) rfl
        have hr2 := run_append_grow (P := P) w t ty e i z ht hi hz ⟨g, 0, none⟩ n cap xs (by rw [hsize]; exact hown.1) holds a m c news (by rw [hsize]; exact hl) hnews (by omega) (by omega) (growslice_fits (by omega) (by rw [hby]; exact hbytes))
        rw [hr2] at hr
        cases hr
        exact ⟨rfl, rfl, rfl, by simp, fun k hk _ => Below.heap_alloc w.drew _ k hk⟩
end
theorem many_step {W W1 : World} {base T sz n : Nat} {v : Value} {inner : List Value} (h : W.ownsRow base T sz v n inner) (hs : ∀ b, v.ownBlock = some b → W1.heap[b]? = W.heap[b]?) : W1.ownsRow base T sz v n inner := by
  refine ⟨h.1, ?_⟩
  rcases h.2 with e | ⟨g, cap, cur, rfl, hbg, hg, hr⟩
  · exact .inl e
  · exact .inr ⟨g, cap, cur, rfl, hbg, (hs g rfl).trans hg, hr⟩
theorem many_next {W W1 : World} {base T sz n : Nat} {v : Value} {inner : List Value} (h : W.ownsRow base T sz v n inner) (hb : Below W.heap.size W W1) : W1.ownsRow base T sz v n inner :=
  many_step h (fun b hv => hb.block b (h.lt b hv).2)
/-- Where the cells lie. -/
theorem many_cells {W : World} {base T sz n : Nat} {v : Value} {inner : List Value} (h : W.ownsRow base T sz v n inner) : ∃ A c, v = .slice A n c ∧ n ≤ c ∧ (∀ g, A = some ⟨g, 0, none⟩ → base ≤ g ∧ g < W.heap.size) ∧
    ∀ (j : Nat) (u : Value), inner[j]? = some u → ∃ g, A = some ⟨g, 0, none⟩ ∧ W.cell? ⟨g, j, none⟩ = some u ∧ W.frozen? ⟨g, j, none⟩ = false := by
  have hl := h.1
  rcases h.2 with ⟨rfl, rfl⟩ | ⟨g, cap, cur, rfl, hbg, hg, hnc, hcm, hcs, htake⟩
  · refine ⟨none, 0, rfl, Nat.le_refl _, fun g e => (by cases e), fun j u hu => ?_⟩
    have : inner = [] := List.eq_nil_of_length_eq_zero (by simpa using hl)
    subst this
    simp at hu
  · refine ⟨_, cap, rfl, hnc, ?_, fun j u hu => ⟨g, rfl, ?_, blk_frozen hg _⟩⟩
    · intro g' e
      injection e with e
      injection e with e
      subst e
      exact ⟨hbg, blk_lt hg⟩
    · rw [blk_cell hg j]
      rw [← htake, List.getElem?_take] at hu
      split at hu
      · simpa using hu
      · cases hu
/-- A store into one cell of an element. -/
theorem many_put {W : World} {base T sz n g c k : Nat} {inner : List Value} (h : W.ownsRow base T sz (.slice (some ⟨g, 0, none⟩) n c) n inner) (hk : k < n * sz) (u : Value) :
    (W.setCell ⟨g, k, none⟩ u).ownsRow base T sz (.slice (some ⟨g, 0, none⟩) n c) n (inner.set k u) ∧ base ≤ g := by
  rcases h.2 with ⟨e, -⟩ | ⟨g', cap, cur, e, hbg, hg, hnc, hcm, hcs, htake⟩
  · cases e
  · injection e with e1 e2 e3
    injection e1 with e1
    injection e1 with e1
    subst e1
    refine ⟨⟨by rw [List.length_set]; exact h.1, .inr ⟨g, cap, cur.setIfInBounds k u, by rw [e3], hbg, blk_set hg k u, hnc, hcm, by rw [Array.size_setIfInBounds]; exact hcs, ?_⟩⟩, hbg⟩
    rw [Array.toList_setIfInBounds, ← htake]
    exact List.take_set
/-- make([]T, 0, m). -/
theorem many_empty (W : World) (base T sz m : Nat) (cs : Array Value) (hb : base ≤ W.heap.size) (hm : m ≤ maxLen) (hs : cs.size = m * sz) : (W.alloc (.cells cs T)).ownsRow base T sz (.slice (some ⟨W.heap.size, 0, none⟩) 0 m) 0 [] :=
  ⟨by simp, .inr ⟨W.heap.size, m, cs, rfl, hb, (by show (W.heap.push _)[W.heap.size]? = _; simp), Nat.zero_le _, hm, hs, by simp⟩⟩
section
variable {P : Program} {ops : Array Oper} {rest : List Oper} {o : Oper} {a : Act} {Q : Exit → Act → World → Prop} {Kc : Act → World → Prop}
/-- An append of m elements of several cells. -/
theorem many_wp {W : World} (base : Nat) (s x : Operand) (t e : TypeId) (z : Value) (sz bytes : Nat)
    (ho : o.op = .call { callee := .builtin .append, args := #[s, x], argTypes := #[t, t] })
    (ht : P.underlying t = some (.slice e)) (hinfo : (P.info? e).map (fun i => (i.zero, i.size, i.bytes)) = some (some z, sz, bytes)) (hzs : z.cells.size = sz) (hs0 : 0 < sz) (hb0 : 0 < bytes)
    (v : Value) (n m : Nat) (xs ys : List Value) (g c : Nat) (hs : a.eval s = v) (hx : a.eval x = .slice (some ⟨g, 0, none⟩) m c) (HO : W.ownsRow base e sz v n xs) (hm0 : 0 < m) (hm : ys.length = m * sz)
    (hy : ∀ j u, ys[j]? = some u → W.cell? ⟨g, j, none⟩ = some u) (h1 : ∀ u ∈ ys, u.oneCell' = true) (hbase : base ≤ W.heap.size) (hl : (n + m) * bytes ≤ 140737488355328)
    (h : ∀ v1 w1, w1.ownsRow base e sz v1 (n + m) (xs ++ ys) → W.grownBy w1 v.ownBlock → (v1.ownBlock = v.ownBlock ∨ (v1.ownBlock = some W.heap.size ∧ W.grownBy w1 none)) → Kc (a.put o.dst v1) w1) : o.wp P a W Kc Q := by
  obtain ⟨i0, hi, hzz⟩ := Option.map_eq_some_iff.1 hinfo
  simp only [Prod.mk.injEq] at hzz
  obtain ⟨hz0, hz1, hz2⟩ := hzz
  have hlen : n + m ≤ 140737488355328 := Nat.le_trans (Nat.le_mul_of_pos_right _ hb0) hl
  obtain ⟨v1, w1, hr, h2, h3, h5⟩ := many_run (P := P) W base t o.type e i0 z sz bytes ht hi hz0 hz1 hs0 hz2 hzs v n xs HO ⟨g, 0, none⟩ m c ys hm0 hm
    (by intro j u hu; rw [show ((⟨g, 0, none⟩ : Addr).add j) = ⟨g, j, none⟩ from by simp [Addr.add]; omega]; exact hy j u hu) h1 (by simp only [maxLen]; omega) hl hbase
  unfold Oper.wp execOp
  simp only [ho, resolve, invoke, builtin, Sem.run_bind, Sem.run_pure, Result.andThen_ok, List.map_toArray, List.map_cons, List.map_nil, hs, hx, hr]
  exact h v1 w1 h2 h3 h5
theorem many_app {W : World} (base : Nat) (hgd : o.guard = none) (s x : Operand) (t e : TypeId) (z : Value) (sz bytes : Nat)
    (ho : o.op = .call { callee := .builtin .append, args := #[s, x], argTypes := #[t, t] })
    (ht : P.underlying t = some (.slice e)) (hinfo : (P.info? e).map (fun i => (i.zero, i.size, i.bytes)) = some (some z, sz, bytes)) (hzs : z.cells.size = sz) (hs0 : 0 < sz) (hb0 : 0 < bytes)
    (v : Value) (n m : Nat) (xs ys : List Value) (g c : Nat) (hs : a.eval s = v) (hx : a.eval x = .slice (some ⟨g, 0, none⟩) m c) (HO : W.ownsRow base e sz v n xs) (hm0 : 0 < m) (hm : ys.length = m * sz)
    (hy : ∀ j u, ys[j]? = some u → W.cell? ⟨g, j, none⟩ = some u) (h1 : ∀ u ∈ ys, u.oneCell' = true) (hbase : base ≤ W.heap.size) (hl : (n + m) * bytes ≤ 140737488355328)
    (h : ∀ v1 w1, w1.ownsRow base e sz v1 (n + m) (xs ++ ys) → W.grownBy w1 v.ownBlock → (v1.ownBlock = v.ownBlock ∨ (v1.ownBlock = some W.heap.size ∧ W.grownBy w1 none)) → wpList P ops Q rest (a.put o.dst v1) w1) : wpList P ops Q (o :: rest) a W :=
  wpList_plain hgd fun K hK => many_wp base s x t e z sz bytes ho ht hinfo hzs hs0 hb0 v n m xs ys g c hs hx HO hm0 hm hy h1 hbase hl (fun v1 w1 h2 h3 h5 => hK _ _ (h v1 w1 h2 h3 h5))
theorem step_many_mid {E : Prop} {w0 W Wc : World} (base : Nat) (HB0 : Below w0.heap.size w0 W) (hB : Below W.heap.size W Wc) (hlo : w0.heap.size ≤ base) (hbase : base ≤ W.heap.size) (hw : Region.wanted o (yielded ops a.tmps) = true) (s x : Operand) (t e : TypeId) (z : Value) (sz bytes : Nat)
    (ho : o.op = .call { callee := .builtin .append, args := #[s, x], argTypes := #[t, t] })
    (ht : P.underlying t = some (.slice e)) (hinfo : (P.info? e).map (fun i => (i.zero, i.size, i.bytes)) = some (some z, sz, bytes)) (hzs : z.cells.size = sz) (hs0 : 0 < sz) (hb0 : 0 < bytes)
    (v : Value) (n m : Nat) (xs ys : List Value) (g c : Nat) (hs : a.eval s = v) (hx : a.eval x = .slice (some ⟨g, 0, none⟩) m c) (HO : W.ownsRow base e sz v n xs) (hm0 : 0 < m) (hm : ys.length = m * sz)
    (hy : ∀ j u, ys[j]? = some u → Wc.cell? ⟨g, j, none⟩ = some u) (h1 : ∀ u ∈ ys, u.oneCell' = true) (hl : (n + m) * bytes ≤ 140737488355328)
    (h : ∀ v1 w1, w1.ownsRow base e sz v1 (n + m) (xs ++ ys) → Below w0.heap.size w0 w1 → (∀ k, k < base → w1.heap[k]? = W.heap[k]?) → W.heap.size ≤ w1.heap.size → Kc (a.put o.dst v1) w1) :
    if Region.wanted o (yielded ops a.tmps) = true then Oper.wp P o a Wc Kc Q else E := by
  rw [if_pos hw]
  refine many_wp base s x t e z sz bytes ho ht hinfo hzs hs0 hb0 v n m xs ys g c hs hx (many_next HO hB) hm0 hm hy h1 (Nat.le_trans hbase hB.size) hl (fun v1 w1 h2 h3 _ => ?_)
  refine h v1 w1 h2 ((below_step HB0 hB).grown h3 (below_step HB0 hB).size (fun g e => Nat.le_trans hlo (HO.lt g e).1)) (fun k hk => ?_) (Nat.le_trans hB.size h3.size)
  exact (h3.block k (by have := hB.size; omega) (fun e => by have := (HO.lt k e.symm).1; omega)).trans (hB.block k (by omega))
end
theorem lit_cells (W : World) (A : Array Value) (T : Nat) (j : Nat) (u : Value) (h : A.toList[j]? = some u) : (W.alloc (.cells A T)).cell? ⟨W.heap.size, j, none⟩ = some u := by
  rw [blk_cell (blk_new W (.cells A T)) j]
  simpa using h
theorem lit_cells_drew (W : World) (A : Array Value) (T : Nat) (j : Nat) (u : Value) (h : A.toList[j]? = some u) : (W.alloc (.cells A T)).drew.cell? ⟨W.heap.size, j, none⟩ = some u := lit_cells W A T j u h
/-- A list of pairs, cell by cell. -/
def pcells (ps : List (Int × Int)) : List Value := ps.flatMap fun x => [.int .i64 x.1, .int .i64 x.2]
theorem pcells_len (ps : List (Int × Int)) : (pcells ps).length = ps.length * 2 := by
  induction ps with
  | nil => rfl
  | cons x ps ih => simp only [pcells, List.flatMap_cons, List.length_append, List.length_cons, List.length_nil] at ih ⊢; omega
theorem pcells_get (ps : List (Int × Int)) (i : Nat) (x : Int × Int) (h : ps[i]? = some x) : (pcells ps)[i * 2]? = some (.int .i64 x.1) ∧ (pcells ps)[i * 2 + 1]? = some (.int .i64 x.2) := by
  induction ps generalizing i with
  | nil => simp at h
  | cons y ps ih =>
    cases i with
    | zero =>
      simp only [List.getElem?_cons_zero, Option.some.injEq] at h
      subst h
      exact ⟨rfl, rfl⟩
    | succ i =>
      have h2 := ih i (by simpa using h)
      have e : ∀ k, (pcells (y :: ps))[k + 2]? = (pcells ps)[k]? := fun k => by
        rw [pcells, List.flatMap_cons, List.getElem?_append_right (by simp)]
        rfl
      rw [show (i + 1) * 2 = i * 2 + 2 by omega, e, show i * 2 + 2 + 1 = i * 2 + 1 + 2 by omega, e]
      exact h2
theorem pcells_app (ps qs : List (Int × Int)) : pcells (ps ++ qs) = pcells ps ++ pcells qs := by simp [pcells]
theorem pcells_set (ps : List (Int × Int)) (i : Nat) (x : Int × Int) (h : i < ps.length) : ((pcells ps).set (i * 2) (.int .i64 x.1)).set (i * 2 + 1) (.int .i64 x.2) = pcells (ps.set i x) := by
  induction ps generalizing i with
  | nil => simp at h
  | cons y ps ih =>
    cases i with
    | zero => rfl
    | succ i =>
      have h2 := ih i (by simpa using h)
      rw [show (i + 1) * 2 = i * 2 + 2 by omega, show i * 2 + 2 + 1 = i * 2 + 1 + 2 by omega]
      show ((Value.int .i64 y.1 :: Value.int .i64 y.2 :: pcells ps).set (i * 2 + 2) _).set (i * 2 + 1 + 2) _ = Value.int .i64 y.1 :: Value.int .i64 y.2 :: pcells (ps.set i x)
      simp only [List.set_cons_succ]
      rw [h2]
end Go.Proofs.Ytiefmocfgneldaa.Q
