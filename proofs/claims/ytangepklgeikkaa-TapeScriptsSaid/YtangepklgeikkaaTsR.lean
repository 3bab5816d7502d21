/- TapeScripts: appends onto rows whose elements are of several cells; a list of tapes and a list of what each tape is; plain lemmas. -/
import Derived.Test.YtangepklgeikkaaQx0
set_option linter.unusedVariables false
set_option linter.unusedSimpArgs false
namespace Go.Proofs.Ytangepklgeikkaa.Q
open Go.RowKit Go.Proofs.YtangepklgeikkaaW.PrintWords Go.Proofs.YtangepklgeikkaaW.PrintLast Go.Proofs.YtangepklgeikkaaW.PrintMore Go.Proofs.Ytangepklgeikkaa.Pl
section
variable {P : Program}
theorem run_append_many (w : World) (base : Nat) (t ty e : TypeId) (i : TypeInfo) (z : Value) (sz bytes : Nat) (ht : P.underlying t = some (.slice e)) (hi : P.info? e = some i) (hz : i.zero = some z)
    (hsize : i.size = sz) (hs0 : 0 < sz) (hby : i.bytes = bytes) (hzs : z.cells.size = sz)
    (v : Value) (n : Nat) (xs : List Value) (hown : w.ownsRow base e sz v n xs)
    (a : Addr) (m c : Nat) (news : List Value) (hm : 0 < m) (hl : news.length = m * sz) (hnews : ∀ j u, news[j]? = some u → w.cell? (a.add j) = some u) (h1 : ∀ u ∈ news, u.oneCell' = true)
    (h63 : n + m ≤ maxLen) (hbytes : (n + m) * bytes ≤ 140737488355328) (hbase : base ≤ w.heap.size) :
    ∃ v' w', (Builtin.append_ #[t, t] ty #[v, .slice (some a) m c]).run P w = .ok v' w' ∧ w'.ownsRow base e sz v' (n + m) (xs ++ news) ∧ w.grownBy w' v.ownBlock ∧
      (v'.ownBlock = v.ownBlock ∨ (v'.ownBlock = some w.heap.size ∧ w.grownBy w' none)) := by
  obtain ⟨v', w', hr, h2, h3, h4, h5⟩ := run_append_own_at (P := P) w base t ty e i z sz bytes ht hi hz hsize hby hzs hs0 v n xs hown a m c news hl hnews h1 h63 hbytes hbase
  refine ⟨v', w', hr, h2, h3, ?_⟩
  rcases h5 with h5 | h5
  · exact .inl h5
  · right
    refine ⟨h5, ?_⟩
    simp only [maxLen] at h63
    rcases hown.2 with ⟨rfl, rfl⟩ | ⟨g, cap, cur, rfl, hbg, hg, hnc, hcm, hcs, htake⟩
    · have hr2 := run_append_nil (P := P) w t ty e i z ht hi hz a m c news (by rw [hsize]; exact hl) hnews hm (by omega) (by rw [hby]; simp only [Nat.zero_add] at hbytes; omega)
      rw [hr2] at hr
      cases hr
      exact ⟨rfl, rfl, rfl, by simp, fun k hk _ => Below.heap_alloc w.drew _ k hk⟩
    · by_cases hroom : n + m ≤ cap
      · have hfit : n * i.size + news.length ≤ cur.size := by rw [hl, hcs, hsize, ← Nat.add_mul]; exact Nat.mul_le_mul_right _ hroom
        have hr2 := run_append_room (P := P) w t ty e i ht hi g n cap cur hg a m c news (by rw [hsize]; exact hl) hnews h1 hroom hfit
        rw [hr2] at hr
        cases hr
        have hlt := blk_lt hg
        have : g = w.heap.size := by simpa [Value.ownBlock] using h5
        omega
      · have holds : ∀ j u, xs[j]? = some u → w.cell? ((⟨g, 0, none⟩ : Addr).add j) = some u := hown.cells (g := g) rfl
        have hr2 := run_append_grow (P := P) w t ty e i z ht hi hz ⟨g, 0, none⟩ n cap xs (by rw [hsize]; exact hown.1) holds a m c news (by rw [hsize]; exact hl) hnews (by omega) (by omega) (growslice_fits (by omega) (by rw [hby]; exact hbytes))
        rw [hr2] at hr
        cases hr
        exact ⟨rfl, rfl, rfl, by simp, fun k hk _ => Below.heap_alloc w.drew _ k hk⟩
end
theorem own_step2 {W W1 : World} {base T sz n : Nat} {v : Value} {inner : List Value} (h : W.ownsRow base T sz v n inner) (hs : ∀ b, v.ownBlock = some b → W1.heap[b]? = W.heap[b]?) : W1.ownsRow base T sz v n inner := by
  refine ⟨h.1, ?_⟩
  rcases h.2 with e | ⟨g, cap, cur, rfl, hbg, hg, hr⟩
  · exact .inl e
  · exact .inr ⟨g, cap, cur, rfl, hbg, (hs g rfl).trans hg, hr⟩
section
variable {P : Program} {ops : Array Oper} {o : Oper} {a : Act} {Q : Exit → Act → World → Prop} {Kc : Act → World → Prop}
/-- An append of one element of several cells, as a step of a region that draws its order. -/
theorem step_one_app {E : Prop} {W : World} (base : Nat) (hw : Region.wanted o (yielded ops a.tmps) = true) (s x : Operand) (t e : TypeId) (z : Value) (sz bytes : Nat)
    (ho : o.op = .call { callee := .builtin .append, args := #[s, x], argTypes := #[t, t] })
    (ht : P.underlying t = some (.slice e)) (hinfo : (P.info? e).map (fun i => (i.zero, i.size, i.bytes)) = some (some z, sz, bytes)) (hzs : z.cells.size = sz) (hs0 : 0 < sz) (hb0 : 0 < bytes)
    (v : Value) (n : Nat) (xs ys : List Value) (g c : Nat) (hs : a.eval s = v) (hx : a.eval x = .slice (some ⟨g, 0, none⟩) 1 c) (HO : W.ownsRow base e sz v n xs) (hm : ys.length = sz)
    (hy : ∀ j u, ys[j]? = some u → W.cell? ⟨g, j, none⟩ = some u) (h1 : ∀ u ∈ ys, u.oneCell' = true) (hbase : base ≤ W.heap.size) (hl : (n + 1) * bytes ≤ 140737488355328)
    (h : ∀ v1 w1, w1.ownsRow base e sz v1 (n + 1) (xs ++ ys) → W.grownBy w1 v.ownBlock → (v1.ownBlock = v.ownBlock ∨ (v1.ownBlock = some W.heap.size ∧ W.grownBy w1 none)) → Kc (a.put o.dst v1) w1) :
    if Region.wanted o (yielded ops a.tmps) = true then Oper.wp P o a W Kc Q else E := by
  rw [if_pos hw]
  obtain ⟨i0, hi, hzz⟩ := Option.map_eq_some_iff.1 hinfo
  simp only [Prod.mk.injEq] at hzz
  obtain ⟨hz0, hz1, hz2⟩ := hzz
  have hlen : n + 1 ≤ 140737488355328 := Nat.le_trans (Nat.le_mul_of_pos_right _ hb0) hl
  obtain ⟨v1, w1, hr, h2, h3, h5⟩ := run_append_many (P := P) W base t o.type e i0 z sz bytes ht hi hz0 hz1 hs0 hz2 hzs v n xs HO ⟨g, 0, none⟩ 1 c ys (by omega) (by omega)
    (by intro j u hu; rw [show ((⟨g, 0, none⟩ : Addr).add j) = ⟨g, j, none⟩ from by simp [Addr.add]; omega]; exact hy j u hu) h1 (by simp only [maxLen]; omega) hl hbase
  unfold Oper.wp execOp
  simp only [ho, resolve, invoke, builtin, Sem.run_bind, Sem.run_pure, Result.andThen_ok, List.map_toArray, List.map_cons, List.map_nil, hs, hx, hr]
  exact h v1 w1 h2 h3 h5
end
/-- What a tape is: its bytes, as the script's list holds them, and the place up to which they are read. -/
structure Bk where
  A : Option Addr
  c : Nat
  p : List Int
  at_ : Nat
def tcell (b : Bk) : List Value := [.string (strOfNums b.p), .int .i64 b.at_]
def bcell (b : Bk) : List Value := [.slice b.A b.p.length b.c, .int .i64 b.at_]
structure BkOk (w : World) (b : Bk) : Prop where
  reads : Kd.C (Kd.int .u8) w b.A b.p.length b.p
  cap : b.p.length ≤ b.c
  le : b.at_ ≤ b.p.length
  big : b.p.length ≤ 140737488351232
  byt : ∀ x ∈ b.p, 0 ≤ x ∧ x ≤ 255
theorem BkOk.nil (w : World) : BkOk w ⟨none, 0, [], 0⟩ := ⟨Kd.C_of_reads (d := (0 : Int)) ⟨rfl, by simp, fun h => absurd h (by simp)⟩, by simp, by simp, by simp, by simp⟩
/-- The list of tapes and the list of books. -/
structure TS (w W : World) (vt vb : Value) (L : List Bk) : Prop where
  ot : W.ownsRow w.heap.size 25 2 vt L.length (L.flatMap tcell)
  ob : W.ownsRow w.heap.size 29 2 vb L.length (L.flatMap bcell)
  ne : ∀ b, vt.ownBlock = some b → vb.ownBlock ≠ some b
  ok : ∀ x ∈ L, BkOk w x
  below : Below w.heap.size w W
  pos : 0 < L.length
section
variable {w W W1 W2 W3 W4 : World} {vt vb vt1 vb1 : Value} {L : List Bk} {x : Bk}
theorem TS.next (h : TS w W vt vb L) (hb : Below W.heap.size W W1) : TS w W1 vt vb L :=
  ⟨own_step2 h.ot (fun b hv => hb.block b (h.ot.lt b hv).2), own_step2 h.ob (fun b hv => hb.block b (h.ob.lt b hv).2), h.ne, h.ok, below_step h.below hb, h.pos⟩
/-- Behind the first append the books are as they were. -/
theorem TS.mid (h : TS w W vt vb L) (hb : Below W.heap.size W W1) (hg : W1.grownBy W2 vt.ownBlock) : W2.ownsRow w.heap.size 29 2 vb L.length (L.flatMap bcell) :=
  own_step2 h.ob (fun b hv => (hg.block b (Nat.lt_of_lt_of_le (h.ob.lt b hv).2 hb.size) (fun e => h.ne b e.symm hv)).trans (hb.block b (h.ob.lt b hv).2))
theorem TS.app (h : TS w W vt vb L) (hb : Below W.heap.size W W1) (ht : W2.ownsRow w.heap.size 25 2 vt1 (L.length + 1) (L.flatMap tcell ++ tcell x)) (hg : W1.grownBy W2 vt.ownBlock) (hc : vt1.ownBlock = vt.ownBlock ∨ (vt1.ownBlock = some W1.heap.size ∧ W1.grownBy W2 none))
    (hb2 : Below W2.heap.size W2 W3) (hbk : W4.ownsRow w.heap.size 29 2 vb1 (L.length + 1) (L.flatMap bcell ++ bcell x)) (hg2 : W3.grownBy W4 vb.ownBlock) (hc2 : vb1.ownBlock = vb.ownBlock ∨ (vb1.ownBlock = some W3.heap.size ∧ W3.grownBy W4 none)) (hx : BkOk w x) : TS w W4 vt1 vb1 (L ++ [x]) := by
  have hz1 := hb.size
  have hz2 := hg.size
  have hz3 := hb2.size
  have ne1 : ∀ b, vt1.ownBlock = some b → vb.ownBlock ≠ some b := by
    intro b hv hv2
    rcases hc with e | ⟨e, -⟩
    · exact h.ne b (e ▸ hv) hv2
    · rw [e] at hv
      injection hv with hv
      have := (h.ob.lt b hv2).2
      omega
  have hbl : Below w.heap.size w W2 := by
    have h1 := below_step h.below hb
    exact h1.grown hg h1.size (fun b hv => (h.ot.lt b hv).1)
  have hbl3 := below_step hbl hb2
  refine ⟨by simpa [List.flatMap_append] using own_step2 ht (fun b hv => (hg2.block b (Nat.lt_of_lt_of_le (ht.lt b hv).2 hz3) (fun e => ne1 b hv e.symm)).trans (hb2.block b (ht.lt b hv).2)), by simpa [List.flatMap_append] using hbk, ?_, ?_, hbl3.grown hg2 hbl3.size (fun b hv => (h.ob.lt b hv).1), by simp⟩
  · intro b hv hv2
    rcases hc2 with e | ⟨e, -⟩
    · exact ne1 b hv (e ▸ hv2)
    · rw [e] at hv2
      injection hv2 with hv2
      have := (ht.lt b hv).2
      omega
  · intro y hy
    rcases List.mem_append.1 hy with hy | hy
    · exact h.ok y hy
    · rw [List.mem_singleton.1 hy]
      exact hx
theorem two_get {f : Bk → List Value} (hf : ∀ x, (f x).length = 2) : ∀ (L : List Bk) (i j : Nat) (x : Bk), L[i]? = some x → j < 2 → (L.flatMap f)[i * 2 + j]? = (f x)[j]?
  | [], i, j, x, h, _ => by simp at h
  | y :: L, 0, j, x, h, hj => by
    simp only [List.getElem?_cons_zero, Option.some.injEq] at h
    subst h
    rw [List.flatMap_cons, List.getElem?_append_left (by rw [hf]; omega), Nat.zero_mul, Nat.zero_add]
  | y :: L, i + 1, j, x, h, hj => by
    rw [List.flatMap_cons, List.getElem?_append_right (by rw [hf]; omega), hf, show (i + 1) * 2 + j - 2 = i * 2 + j by omega]
    exact two_get hf L i j x (by simpa using h) hj
theorem own_two {T base n : Nat} {v : Value} {inner : List Value} (h : W.ownsRow base T 2 v n inner) (hn : 0 < n) : ∃ g c, v = .slice (some ⟨g, 0, none⟩) n c ∧ n ≤ c ∧ base ≤ g ∧ g < W.heap.size ∧ ∀ (j : Nat) (u : Value), inner[j]? = some u → W.cell? ⟨g, j, none⟩ = some u := by
  rcases h.2 with ⟨rfl, rfl⟩ | ⟨g, cap, cur, rfl, hbg, hg, hnc, hcm, hcs, htake⟩
  · omega
  · refine ⟨g, cap, rfl, hnc, hbg, blk_lt hg, fun j u hu => ?_⟩
    rw [blk_cell hg j]
    rw [← htake, List.getElem?_take] at hu
    split at hu
    · simpa using hu
    · cases hu
/-- The tapes and the books at a place. -/
theorem TS.at_ (h : TS w W vt vb L) {i : Nat} {b : Bk} (hi : L[i]? = some b) : ∃ g c g' c', vt = .slice (some ⟨g, 0, none⟩) L.length c ∧ vb = .slice (some ⟨g', 0, none⟩) L.length c' ∧ g < W.heap.size ∧ g' < W.heap.size ∧
    W.cell? ⟨g, i * 2, none⟩ = some (.string (strOfNums b.p)) ∧ W.cell? ⟨g, i * 2 + 1, none⟩ = some (.int .i64 b.at_) ∧ W.cell? ⟨g', i * 2, none⟩ = some (.slice b.A b.p.length b.c) ∧ W.cell? ⟨g', i * 2 + 1, none⟩ = some (.int .i64 b.at_) := by
  obtain ⟨g, c, e1, -, -, h1, h2⟩ := own_two h.ot h.pos
  obtain ⟨g', c', e2, -, -, h3, h4⟩ := own_two h.ob h.pos
  exact ⟨g, c, g', c', e1, e2, h1, h3, h2 _ _ (two_get (fun _ => rfl) L i 0 b hi (by omega)), h2 _ _ (two_get (fun _ => rfl) L i 1 b hi (by omega)), h4 _ _ (two_get (fun _ => rfl) L i 0 b hi (by omega)), h4 _ _ (two_get (fun _ => rfl) L i 1 b hi (by omega))⟩
theorem TS.cells {g n c g' n' c' : Nat} (h : TS w W (.slice (some ⟨g, 0, none⟩) n c) (.slice (some ⟨g', 0, none⟩) n' c') L) {i : Nat} {b : Bk} (hi : L[i]? = some b) :
    W.cell? ⟨g, i * 2, none⟩ = some (.string (strOfNums b.p)) ∧ W.cell? ⟨g, i * 2 + 1, none⟩ = some (.int .i64 b.at_) ∧ W.cell? ⟨g', i * 2, none⟩ = some (.slice b.A b.p.length b.c) ∧ W.cell? ⟨g', i * 2 + 1, none⟩ = some (.int .i64 b.at_) := by
  obtain ⟨g1, c1, g2, c2, e1, e2, -, -, h1, h2, h3, h4⟩ := h.at_ hi
  injection e1 with e1
  injection e1 with e1
  injection e1 with e1
  injection e2 with e2
  injection e2 with e2
  injection e2 with e2
  subst e1 e2
  exact ⟨h1, h2, h3, h4⟩
theorem TS.lit (h : TS w W vt vb L) : ∃ g c g' c', vt = .slice (some ⟨g, 0, none⟩) L.length c ∧ vb = .slice (some ⟨g', 0, none⟩) L.length c' := by
  obtain ⟨g, c, e1, -⟩ := own_two h.ot h.pos
  obtain ⟨g', c', e2, -⟩ := own_two h.ob h.pos
  exact ⟨g, c, g', c', e1, e2⟩
end
/-- A script's steps: the kind, the tape, the number, the bytes. -/
abbrev StepK : Kd (Int × Int × Int × List Int) := Kd.pair (Kd.int .i64) (Kd.pair (Kd.int .i64) (Kd.pair (Kd.int .i64) (Kd.slice 5 (Kd.int .u8))))
theorem step_at {w : World} {A : Option Addr} {n : Nat} {S : List (Int × Int × Int × List Int)} (h : Kd.C StepK w A n S) {i : Nat} {k t m : Int} {p : List Int} (hi : S[i]? = some (k, t, m, p)) :
    ∃ ad Ap cp, A = some ad ∧ w.cell? (ad.add (i * 4)) = some (.int .i64 k) ∧ w.cell? (ad.add (i * 4 + 1)) = some (.int .i64 t) ∧ w.cell? (ad.add (i * 4 + 2)) = some (.int .i64 m) ∧ w.cell? (ad.add (i * 4 + 3)) = some (.slice Ap p.length cp) ∧ p.length ≤ cp ∧ Kd.C (Kd.int .u8) w Ap p.length p := by
  obtain ⟨ad, e, hc⟩ := h.2.2 (by have := (List.getElem?_eq_some_iff.1 hi).1; have := h.1; omega)
  obtain ⟨c, hl, hK, hcell⟩ := hc i _ hi
  obtain ⟨c0, c1, rfl, k0, c2, c3, rfl, k1, c4, c5, rfl, k2, Ap, cp, e5, hcap, hC⟩ := hK
  have e0 : c0 = [.int .i64 k] := k0
  have e1 : c2 = [.int .i64 t] := k1
  have e2 : c4 = [.int .i64 m] := k2
  subst e0 e1 e2 e5
  exact ⟨ad, Ap, cp, e, hcell 0 _ rfl, hcell 1 _ rfl, hcell 2 _ rfl, hcell 3 _ rfl, hcap, hC⟩
theorem blk_new2 (W : World) (A : Obj) : (W.alloc A).heap[W.heap.size]? = some A := by
  show (W.heap.push A)[W.heap.size]? = some A
  simp
theorem alloc2_new (W : World) (A B : Obj) : ((W.alloc A).alloc B).drew.heap[W.heap.size + 1]? = some B := by
  have h := blk_new2 (W.alloc A) B
  have e : (W.alloc A).heap.size = W.heap.size + 1 := by simp
  rw [e] at h
  exact h
theorem alloc2_old (W : World) (A B : Obj) : ((W.alloc A).alloc B).drew.heap[W.heap.size]? = some A :=
  ((below_alloc (Below.refl (W.alloc A).heap.size (W.alloc A)) B).block W.heap.size (by simp)).trans (blk_new2 W A)
theorem infoTape : (Try.prog.info? 25).map (fun i => (i.zero, i.size, i.bytes)) = some (some (.agg #[.string ⟨#[]⟩, .int .i64 0]), 2, 24) := by kernel_rfl
theorem infoBook : (Try.prog.info? 29).map (fun i => (i.zero, i.size, i.bytes)) = some (some (.agg #[.slice none 0 0, .int .i64 0]), 2, 32) := by kernel_rfl
theorem underTapes : Try.prog.underlying 26 = some (.slice 25) := by kernel_rfl
theorem underBooks : Try.prog.underlying 30 = some (.slice 29) := by kernel_rfl
theorem lit1 (W : World) (ys : List Value) (T : TypeId) (j : Nat) (u : Value) (h : ys[j]? = some u) : (W.alloc (.cells ys.toArray T)).cell? ⟨W.heap.size, j, none⟩ = some u :=
  (blk_cell (blk_new W _) j).trans (by simpa using h)
theorem lit1d (W : World) (ys : List Value) (T : TypeId) (j : Nat) (u : Value) (h : ys[j]? = some u) : (W.alloc (.cells ys.toArray T)).drew.cell? ⟨W.heap.size, j, none⟩ = some u := lit1 W ys T j u h
theorem lit2o (W : World) (ys : List Value) (T : TypeId) (B : Obj) (j : Nat) (u : Value) (h : ys[j]? = some u) : ((W.alloc (.cells ys.toArray T)).alloc B).drew.cell? ⟨W.heap.size, j, none⟩ = some u :=
  (World.cell?_of_block (a := ⟨W.heap.size, j, none⟩) ((alloc2_old W (.cells ys.toArray T) B).trans (blk_new2 W _).symm)).trans (lit1 W ys T j u h)
theorem lit2n (W : World) (A : Obj) (ys : List Value) (T : TypeId) (j : Nat) (u : Value) (h : ys[j]? = some u) : ((W.alloc A).alloc (.cells ys.toArray T)).drew.cell? ⟨W.heap.size + 1, j, none⟩ = some u := by
  have := lit1 (W.alloc A) ys T j u h
  have e : (W.alloc A).heap.size = W.heap.size + 1 := by simp
  rw [e] at this
  exact this
theorem kept_lit {W W1 : World} {o : Option Nat} {g j : Nat} {u : Value} (hg : W.grownBy W1 o) (hlt : g < W.heap.size) (hne : some g ≠ o) (h : W.cell? ⟨g, j, none⟩ = some u) : W1.cell? ⟨g, j, none⟩ = some u :=
  (World.cell?_of_block (a := ⟨g, j, none⟩) (hg.block g hlt (fun e => hne e))).trans h
/-- What the first of the two appends leaves. -/
structure Half (w W W1 W2 : World) (gt ct : Nat) (vt1 : Value) (L : List Bk) (x : Bk) : Prop where
  hb : Below W.heap.size W W1
  ho : W2.ownsRow w.heap.size 25 2 vt1 (L.length + 1) (L.flatMap tcell ++ tcell x)
  hg : W1.grownBy W2 (some gt)
  hc : vt1.ownBlock = some gt ∨ (vt1.ownBlock = some W1.heap.size ∧ W1.grownBy W2 none)
section
variable {ops : Array Oper} {o : Oper} {a : Act} {Q : Exit → Act → World → Prop} {Kc : Act → World → Prop} {E : Prop} {w W Wc Wd W2 : World} {vb v1 : Value} {L : List Bk} {b : Bk} {gt ct gb cb g c : Nat}
theorem Half.keep (h : Half w W Wc W2 gt ct v1 L b) {k : Nat} (hlt : k < W.heap.size) (hne : k ≠ gt) : W2.heap[k]? = W.heap[k]? :=
  (h.hg.block k (Nat.lt_of_lt_of_le hlt h.hb.size) (fun e => hne (by injection e))).trans (h.hb.block k hlt)
theorem Half.cell (h : Half w W Wc W2 gt ct v1 L b) {k j : Nat} {u : Value} (hlt : k < W.heap.size) (hne : k ≠ gt) (hc : W.cell? ⟨k, j, none⟩ = some u) : W2.cell? ⟨k, j, none⟩ = some u :=
  (World.cell?_of_block (a := ⟨k, j, none⟩) (h.keep hlt hne)).trans hc
/-- The tape is appended. -/
theorem TS.step_t (h : TS w W (.slice (some ⟨gt, 0, none⟩) L.length ct) vb L) (hB : Below W.heap.size W Wc) (hw : Region.wanted o (yielded ops a.tmps) = true) (s x : Operand)
    (ho : o.op = .call { callee := .builtin .append, args := #[s, x], argTypes := #[26, 26] }) (hs : a.eval s = .slice (some ⟨gt, 0, none⟩) L.length ct) (hx : a.eval x = .slice (some ⟨g, 0, none⟩) 1 c)
    (hy : ∀ j u, (tcell b)[j]? = some u → Wc.cell? ⟨g, j, none⟩ = some u) (hn : L.length ≤ 2932031007403) (hk : ∀ v1 w2, Half w W Wc w2 gt ct v1 L b → Kc (a.put o.dst v1) w2) :
    if Region.wanted o (yielded ops a.tmps) = true then Oper.wp Try.prog o a Wc Kc Q else E := by
  refine step_one_app w.heap.size hw s x 26 25 _ 2 24 ho underTapes infoTape rfl (by omega) (by omega) _ L.length (L.flatMap tcell) (tcell b) g c hs hx (own_step2 h.ot (fun k hv => hB.block k (h.ot.lt k hv).2)) rfl hy ?_ (Nat.le_trans h.below.size hB.size) (by omega) ?_
  · intro u hu
    simp only [tcell, List.mem_cons, List.not_mem_nil, or_false] at hu
    rcases hu with rfl | rfl <;> rfl
  · intro v1 w2 h1 h2 h3
    exact hk v1 w2 ⟨hB, h1, h2, h3⟩
/-- The book is appended. -/
theorem TS.step_b (h : TS w W (.slice (some ⟨gt, 0, none⟩) L.length ct) (.slice (some ⟨gb, 0, none⟩) L.length cb) L) (hh : Half w W Wc W2 gt ct v1 L b) (hB : Below W2.heap.size W2 Wd) (hw : Region.wanted o (yielded ops a.tmps) = true) (s x : Operand)
    (ho : o.op = .call { callee := .builtin .append, args := #[s, x], argTypes := #[30, 30] }) (hs : a.eval s = .slice (some ⟨gb, 0, none⟩) L.length cb) (hx : a.eval x = .slice (some ⟨g, 0, none⟩) 1 c)
    (hy : ∀ j u, (bcell b)[j]? = some u → Wd.cell? ⟨g, j, none⟩ = some u) (hb : BkOk w b) (hn : L.length ≤ 2932031007403)
    (hk : ∀ v2 w4, TS w w4 v1 v2 (L ++ [b]) → (∀ (k j : Nat) (u : Value), k < W.heap.size → k ≠ gt → k ≠ gb → W.cell? ⟨k, j, none⟩ = some u → w4.cell? ⟨k, j, none⟩ = some u) → Kc (a.put o.dst v2) w4) :
    if Region.wanted o (yielded ops a.tmps) = true then Oper.wp Try.prog o a Wd Kc Q else E := by
  have hm := h.mid hh.hb hh.hg
  refine step_one_app w.heap.size hw s x 30 29 _ 2 32 ho underBooks infoBook rfl (by omega) (by omega) _ L.length (L.flatMap bcell) (bcell b) g c hs hx (own_step2 hm (fun k hv => hB.block k (hm.lt k hv).2)) rfl hy ?_ (by have h1 := h.below.size; have h2 := hh.hb.size; have h3 := hh.hg.size; have h4 := hB.size; omega) (by omega) ?_
  · intro u hu
    simp only [bcell, List.mem_cons, List.not_mem_nil, or_false] at hu
    rcases hu with rfl | rfl <;> rfl
  · intro v2 w4 h1 h2 h3
    refine hk v2 w4 (h.app hh.hb hh.ho hh.hg hh.hc hB h1 h2 h3 hb) (fun k j u hlt n1 n2 hc => ?_)
    have hz1 := hh.hb.size
    have hz2 := hh.hg.size
    exact (World.cell?_of_block (a := ⟨k, j, none⟩) ((h2.block k (by have := hB.size; omega) (fun e => n2 (by injection e))).trans ((hB.block k (by omega)).trans (hh.keep hlt n1)))).trans hc
theorem TS.set (h : TS w W (.slice (some ⟨gt, 0, none⟩) L.length ct) (.slice (some ⟨gb, 0, none⟩) L.length cb) L) {k : Nat} (j : Nat) (u : Value) (h1 : k ≠ gt) (h2 : k ≠ gb) (h3 : w.heap.size ≤ k) : TS w (W.setCell ⟨k, j, none⟩ u) (.slice (some ⟨gt, 0, none⟩) L.length ct) (.slice (some ⟨gb, 0, none⟩) L.length cb) L :=
  ⟨own_step2 h.ot (fun b hv => Below.heap_setCell W ⟨k, j, none⟩ u b (by simp [Value.ownBlock] at hv; show b ≠ k; omega)), own_step2 h.ob (fun b hv => Below.heap_setCell W ⟨k, j, none⟩ u b (by simp [Value.ownBlock] at hv; show b ≠ k; omega)), h.ne, h.ok, h.below.setCell h3 _, h.pos⟩
theorem set_far {W : World} {k j k2 j2 : Nat} {u v : Value} (hne : k2 ≠ k) (h : W.cell? ⟨k2, j2, none⟩ = some v) : (W.setCell ⟨k, j, none⟩ u).cell? ⟨k2, j2, none⟩ = some v :=
  (World.cell?_of_block (a := ⟨k2, j2, none⟩) (Below.heap_setCell W ⟨k, j, none⟩ u k2 hne)).trans h
theorem Half.lit (h : Half w W Wc W2 gt ct v1 L b) {j : Nat} {u : Value} (hlt : g < Wc.heap.size) (hne : g ≠ gt) (hc : Wc.cell? ⟨g, j, none⟩ = some u) : W2.cell? ⟨g, j, none⟩ = some u :=
  (World.cell?_of_block (a := ⟨g, j, none⟩) (h.hg.block g hlt (fun e => hne (by injection e)))).trans hc
end
end Go.Proofs.Ytangepklgeikkaa.Q
