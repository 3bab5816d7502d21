/- PermKeeps: rows by range, lists that are laid out one after another, a list that is grown and read again; plain lemmas. -/
import Derived.Test.YtmbkgepfpfeahaaRaw
set_option linter.unusedVariables false
set_option linter.unusedSimpArgs false
namespace Go.Proofs.Ytmbkgepfpfeahaa.Q
open Go.RowKit Go.Proofs.YtmbkgepfpfeahaaW.PrintWords Go.Proofs.YtmbkgepfpfeahaaW.PrintLast Go.Proofs.YtmbkgepfpfeahaaW.PrintMore Go.Proofs.Ytmbkgepfpfeahaa.Pl
/-- A row whose block lies from lo on, ahead of hi. -/
def RK (k : IntKind) (T : Nat) (W : World) (lo hi : Nat) (v : Value) (xs : List Int) : Prop := Kd.R (Kd.int k) T W lo (fun b => lo ≤ b ∧ b < hi) v xs
section
variable {k : IntKind} {T : Nat} {w w' W W1 : World} {lo hi : Nat} {v : Value} {xs : List Int} {ok : Nat → Prop}
theorem RK.of (h : Kd.R (Kd.int k) T w' w.heap.size ok v xs) : RK k T w' w.heap.size w'.heap.size v xs := Kd.R_mono (Kd.R_bound h) (fun b hb => ⟨hb.2.1, hb.2.2.1⟩)
theorem RK.below (h : RK k T W lo hi v xs) (hb : Below W.heap.size W W1) : RK k T W1 lo hi v xs := Kd.R_step h (fun b _ hlt => hb.block b hlt)
theorem RK.off {r : Option Nat} (h : RK k T W lo hi v xs) (hg : W.grownBy W1 r) (hn : ∀ g, r = some g → ¬ (lo ≤ g ∧ g < hi)) : RK k T W1 lo hi v xs := Kd.R_step h (fun b hb hlt => hg.block b hlt (fun e => hn b e.symm hb))
theorem RK.lit (h : RK k T W lo hi v xs) : ∃ A c, v = .slice A xs.length c := by
  obtain ⟨A, c, rfl, -⟩ := Kd.R_reads h
  exact ⟨_, _, rfl⟩
theorem RK.reads {A : Option Addr} {n c : Nat} (h : RK k T W lo hi (.slice A n c) xs) : Kd.C (Kd.int k) W A xs.length xs ∧ xs.length ≤ c := by
  obtain ⟨rfl, a, b⟩ := Kd.R_reads' h
  exact ⟨b, a⟩
theorem RK.put {g n c : Nat} (h : RK k T W lo hi (.slice (some ⟨g, 0, none⟩) n c) xs) (hn : xs.length = n) (j : Nat) (hj : j < n) (z : Int) :
    RK k T (W.setCell ⟨g, j, none⟩ (.int k z)) lo hi (.slice (some ⟨g, 0, none⟩) n c) (xs.set j z) ∧ W.grownBy (W.setCell ⟨g, j, none⟩ (.int k z)) (some g) ∧ lo ≤ g ∧ g < hi ∧ W.cell? ⟨g, j, none⟩ = some (.int k (xs.getD j 0)) ∧ W.frozen? ⟨g, j, none⟩ = false := by
  obtain ⟨hp, hg⟩ := Kd.R_putg h (j : Int) z
  simp only [Int.toNat_natCast] at hp hg
  have h2 := Kd.R_celln (0 : Int) h (j : Int) (by omega) (by omega)
  simp only [Int.toNat_natCast, rdOf] at h2
  exact ⟨hp, hg, (h.1 g rfl).1, (h.1 g rfl).2, h2.1, h2.2⟩
theorem RK.head {n c : Nat} {A : Option Addr} (h : RK k T W lo hi (.slice A n c) xs) (hn : 0 < n) : ∃ g, A = some ⟨g, 0, none⟩ := by
  have h2 := Kd.R_reads' h
  obtain ⟨ad, rfl, -⟩ := Kd.at_int h2.2.2 0 (by omega) (by omega)
  obtain ⟨p, rfl⟩ := Kd.R_head h
  exact ⟨p, rfl⟩
end
/-- A bag of rows. -/
structure Rw where
  k : IntKind
  T : Nat
  lo : Nat
  hi : Nat
  v : Value
  xs : List Int
def Bag (W : World) (L : List Rw) : Prop := ∀ r ∈ L, RK r.k r.T W r.lo r.hi r.v r.xs
section
variable {k : IntKind} {T : Nat} {W W1 : World} {L : List Rw} {lo hi : Nat} {v : Value} {xs : List Int}
theorem Bag.nil (W : World) : Bag W [] := fun r hr => by simp at hr
theorem Bag.at_ {r : Rw} (h : Bag W L) (hr : r ∈ L) : RK r.k r.T W r.lo r.hi r.v r.xs := h r hr
theorem Bag.next (h : Bag W L) (hb : Below W.heap.size W W1) : Bag W1 L := fun r hr => (h r hr).below hb
theorem Bag.off {g : Option Nat} (h : Bag W L) (hg : W.grownBy W1 g) (hn : ∀ r ∈ L, ∀ b, g = some b → ¬ (r.lo ≤ b ∧ b < r.hi)) : Bag W1 L := fun r hr => (h r hr).off hg (hn r hr)
theorem Bag.add (h : Bag W L) (r : RK k T W lo hi v xs) : Bag W (⟨k, T, lo, hi, v, xs⟩ :: L) := by
  intro x hx
  rcases List.mem_cons.1 hx with rfl | hx
  · exact r
  · exact h x hx
end
/-- A store into a list with two marks behind it. -/
theorem RK.putm {k : IntKind} {T lo hi g n c : Nat} {W : World} {xs : List Int} {m1 m2 : Int} (h : RK k T W lo hi (.slice (some ⟨g, 0, none⟩) (n + 2) c) (xs ++ [m1, m2])) (hn : xs.length = n) (j : Nat) (hj : j < n) (z : Int) :
    RK k T (W.setCell ⟨g, j, none⟩ (.int k z)) lo hi (.slice (some ⟨g, 0, none⟩) (n + 2) c) (xs.set j z ++ [m1, m2]) ∧ W.grownBy (W.setCell ⟨g, j, none⟩ (.int k z)) (some g) ∧ lo ≤ g ∧ g < hi ∧ W.cell? ⟨g, j, none⟩ = some (.int k (xs.getD j 0)) ∧ W.frozen? ⟨g, j, none⟩ = false := by
  obtain ⟨a, b, c1, d, e, f⟩ := h.put (by simp [hn]) j (by omega) z
  rw [List.set_append_left _ _ (by omega)] at a
  refine ⟨a, b, c1, d, ?_, f⟩
  rw [e]
  simp [List.getD_eq_getElem?_getD, List.getElem?_append_left (show j < xs.length by omega)]
section
variable {W W0 W1 W' : World} {lo hi lo2 hi2 base T T2 n : Nat} {v v1 : Value} {xs x y zs : List Int} {ls vs inner : List Value} {xss yss : List (List Int)}
theorem Lists.consK {k : IntKind} (h : Lists k W base T (fun k => lo2 ≤ k ∧ k < hi2) ls xss) (r : RK k T W lo hi v xs) (h1 : hi ≤ lo2) (h2 : lo ≤ hi) (h3 : hi ≤ hi2) (hb : base ≤ lo) : Lists k W base T (fun k => lo ≤ k ∧ k < hi2) (v :: ls) (xs :: xss) := by
  have hm : Lists k W base T (fun k => lo ≤ k ∧ k < hi2) ls xss := h.mono (fun b hb => ⟨by have := hb.1; omega, hb.2⟩)
  refine hm.cons (Kd.R_lower (Kd.R_mono r (fun k hk => ⟨hk.1, by have := hk.2; omega⟩)) hb) (fun u hu b hv hu2 => ?_)
  obtain ⟨j, hj, e⟩ := List.mem_iff_getElem.1 hu
  have := (h.row j u _ (by rw [List.getElem?_eq_getElem hj, e]) (List.getElem?_eq_getElem (by rw [← h.len]; exact hj))).1 b hu2
  have h4 := (r.1 b hv).2
  have h5 := this.1
  omega
theorem own_step {size : Nat} (h : W.ownsRow base T2 size v n inner) (hs : ∀ b, v.ownBlock = some b → W1.heap[b]? = W.heap[b]?) : W1.ownsRow base T2 size v n inner := by
  refine ⟨h.1, ?_⟩
  rcases h.2 with e | ⟨g, cap, cur, rfl, hbg, hg, hr⟩
  · exact .inl e
  · exact .inr ⟨g, cap, cur, rfl, hbg, (hs g rfl).trans hg, hr⟩
/-- A list of lists that is laid out: its cells, and the lists, which lie apart. -/
structure PL (T T2 base : Nat) (W : World) (v : Value) (ls : List Value) (xs : List (List Int)) : Prop where
  own : W.ownsRow base T2 1 v ls.length ls
  lists : Lists .i64 W base T (fun b => base ≤ b ∧ some b ≠ v.ownBlock) ls xs
  size : base ≤ W.heap.size
theorem PL.start (T T2 : Nat) (h : base ≤ W.heap.size) : PL T T2 base W (.slice none 0 0) [] [] := ⟨World.ownsRow_nil W base T2 1, Lists.nil _ _ _ _ _, h⟩
theorem PL.next (h : PL T T2 base W v ls xss) (hb : Below W.heap.size W W1) : PL T T2 base W1 v ls xss :=
  ⟨own_step h.own (fun b hv => hb.block b (h.own.lt b hv).2), h.lists.step (fun b _ hlt => hb.block b hlt), Nat.le_trans h.size hb.size⟩
theorem PL.app {m : Nat} (h : PL T T2 base W0 v ls xss) (hB : Below W0.heap.size W0 W) (hR : Lists .i64 W W0.heap.size T (fun b => W0.heap.size ≤ b ∧ b < hi) vs yss) (hhi : hi ≤ W.heap.size)
    (hm : m = vs.length) (ho : W1.ownsRow base T2 1 v1 (ls.length + m) (ls ++ vs)) (hg : W.grownBy W1 v.ownBlock) (hc : v1.ownBlock = v.ownBlock ∨ (v1.ownBlock = some W.heap.size ∧ W.grownBy W1 none)) : PL T T2 base W1 v1 (ls ++ vs) (xss ++ yss) := by
  subst hm
  have hvl : ∀ b, v.ownBlock = some b → b < W0.heap.size := fun b hb => (h.own.lt b hb).2
  have h1 : Lists .i64 W1 base T (fun b => (base ≤ b ∧ some b ≠ v.ownBlock) ∧ b < W0.heap.size) ls xss := by
    have hb0 : Lists .i64 W0 base T (fun b => (base ≤ b ∧ some b ≠ v.ownBlock) ∧ b < W0.heap.size) ls xss := ⟨h.lists.len, fun j v x hv hx => Kd.R_mono (Kd.R_bound (h.lists.row j v x hv hx)) (fun b hb => ⟨hb.1, hb.2.2.1⟩), h.lists.two⟩
    refine (hb0.step (W1 := W) (fun b hb hlt => hB.block b hlt)).step (fun b hb hlt => hg.block b hlt hb.1.2)
  have h2 : Lists .i64 W1 base T (fun b => W0.heap.size ≤ b ∧ b < hi) vs yss := by
    have h3 : Lists .i64 W base T (fun b => W0.heap.size ≤ b ∧ b < hi) vs yss := ⟨hR.len, fun j v x hv hx => Kd.R_lower (hR.row j v x hv hx) h.size, hR.two⟩
    refine h3.step (fun b hb hlt => hg.block b hlt (fun e => ?_))
    have := hvl b e.symm
    omega
  refine ⟨by simpa using ho, (h1.append h2 (fun b hb hb2 => by have := hb.2; have := hb2.1; omega)).mono ?_, Nat.le_trans (Nat.le_trans h.size hB.size) hg.size⟩
  intro b hb
  rcases hb with hb | hb
  · refine ⟨hb.1.1, fun e => ?_⟩
    rcases hc with e2 | ⟨e2, -⟩
    · exact hb.1.2 (e.trans e2)
    · rw [e2] at e
      injection e with e
      have := hB.size
      have := hb.2
      omega
  · refine ⟨Nat.le_trans h.size hb.1, fun e => ?_⟩
    rcases hc with e2 | ⟨e2, -⟩
    · have := hvl b (e2 ▸ e.symm)
      omega
    · rw [e2] at e
      injection e with e
      omega
theorem PL.at_ {A : Option Addr} {n c i : Nat} (h : PL T T2 base W (.slice A n c) ls xss) (hi : i < ls.length) : ∃ (g : Nat) (Ai : Option Addr) (ci : Nat) (x : List Int), A = some ⟨g, 0, none⟩ ∧ ls[i]? = some (.slice Ai x.length ci) ∧ W.cell? ⟨g, i, none⟩ = some (.slice Ai x.length ci) ∧ xss[i]? = some x ∧ Kd.C (Kd.int .i64) W Ai x.length x ∧ x.length ≤ ci := by
  obtain ⟨A', c', e, -, -, -, hc⟩ := own_cells h.own
  injection e with e1 e2 e3
  subst e1
  have hl := h.lists.len
  have hr := h.lists.row i _ _ (List.getElem?_eq_getElem hi) (List.getElem?_eq_getElem (by omega))
  obtain ⟨g, e, hcell⟩ := hc i _ (List.getElem?_eq_getElem hi)
  obtain ⟨Ai, ci, e4, h5, h6⟩ := Kd.R_reads hr
  exact ⟨g, Ai, ci, _, e, by rw [List.getElem?_eq_getElem hi, e4], by rw [hcell, e4], List.getElem?_eq_getElem _, h6, h5⟩
theorem PL.head {A : Option Addr} {n c : Nat} (h : PL T T2 base W (.slice A n c) ls xss) : n = ls.length ∧ n ≤ c ∧ (∀ g, A = some ⟨g, 0, none⟩ → base ≤ g ∧ g < W.heap.size) ∧ ∀ (j : Nat) (u : Value), ls[j]? = some u → ∃ g, A = some ⟨g, 0, none⟩ ∧ W.cell? ⟨g, j, none⟩ = some u := by
  obtain ⟨A', c', e, -, h1, h2, hc⟩ := own_cells h.own
  injection e with e1 e2 e3
  subst e1 e2 e3
  exact ⟨rfl, h1, h2, hc⟩
theorem PL.lit (h : PL T T2 base W v ls xss) : ∃ A c, v = .slice A ls.length c := by
  obtain ⟨A', c', e, -⟩ := own_cells h.own
  exact ⟨A', c', e⟩
theorem Lists.one {k : IntKind} (r : RK k T W lo hi v xs) : Lists k W lo T (fun b => lo ≤ b ∧ b < hi) [v] [xs] := (Lists.nil k W lo T (fun b => lo ≤ b ∧ b < hi)).cons r (fun u hu => by cases hu)
theorem R_none (k : IntKind) (T base : Nat) (W : World) (hb : base ≤ W.heap.size) : Kd.R (Kd.int k) T (W.alloc (.cells #[] T)) base (fun _ => True) (.slice (some ⟨W.heap.size, 0, none⟩) 0 0) [] := by
  have h2 := World.ownsRow_lit (base := base) (e := T) (size := 1) W #[] 0 hb (by simp [maxLen]) rfl
  exact Kd.R_of_own (by simpa [encs] using h2) (fun _ _ => trivial)
/-- What all rounds keep: the lent lists, the answers, and what was copied of them. -/
structure PK (T : Nat) (w W : World) (s1 s2 s3 s4 s5 : Nat) (room shed : Value) (xp xq : List Int) (A B : Option Addr) (ls ws : List Value) (ys zs : List (List Int)) : Prop where
  below : Below w.heap.size w W
  ord : w.heap.size ≤ s1 ∧ s1 ≤ s2 ∧ s2 ≤ s3 ∧ s3 ≤ s4 ∧ s4 ≤ s5 ∧ s5 ≤ W.heap.size
  rp : RK .i64 T W s1 s2 room (xp ++ [-77, -78])
  rq : RK .i64 T W s2 s3 shed (xq ++ [-79, -80])
  ll : Lists .i64 W s3 T (fun b => (s3 ≤ b ∧ b < s4) ∧ A.map (·.block) ≠ some b) ls ys
  lw : Lists .i64 W s4 T (fun b => s4 ≤ b ∧ b < s5) ws zs
  oa : ∀ (j : Nat) (u : Value), ls[j]? = some u → ∃ g, A = some ⟨g, 0, none⟩ ∧ s3 ≤ g ∧ g < s4 ∧ W.cell? ⟨g, j, none⟩ = some u
  ob : ∀ (j : Nat) (u : Value), ws[j]? = some u → ∃ g, B = some ⟨g, 0, none⟩ ∧ s4 ≤ g ∧ g < s5 ∧ W.cell? ⟨g, j, none⟩ = some u
end
section
variable {T : Nat} {w W W1 : World} {s1 s2 s3 s4 s5 : Nat} {room shed : Value} {xp xq : List Int} {A B : Option Addr} {ls ws : List Value} {ys zs : List (List Int)}
theorem RK.wide {k : IntKind} {lo hi hi' : Nat} {v : Value} {xs : List Int} (h : RK k T W lo hi v xs) (hh : hi ≤ hi') : RK k T W lo hi' v xs := Kd.R_mono h (fun b hb => ⟨hb.1, Nat.lt_of_lt_of_le hb.2 hh⟩)
theorem Lists.bound {k : IntKind} {base T : Nat} {ok : Nat → Prop} {ls : List Value} {xs : List (List Int)} (h : Lists k W base T ok ls xs) : Lists k W base T (fun b => ok b ∧ b < W.heap.size) ls xs :=
  ⟨h.len, fun j v x hv hx => Kd.R_mono (Kd.R_bound (h.row j v x hv hx)) (fun b hb => ⟨hb.1, hb.2.2.1⟩), h.two⟩
theorem PK.made {W2 W3 : World} {T2 s3' n c m d : Nat} (hw : Below w.heap.size w W2) (h2 : Below W2.heap.size W2 W3) (ho : w.heap.size ≤ s1 ∧ s1 ≤ s2 ∧ s2 ≤ s3 ∧ s3 ≤ W2.heap.size) (rp : RK .i64 T W2 s1 s2 room (xp ++ [-77, -78])) (rq : RK .i64 T W2 s2 s3' shed (xq ++ [-79, -80])) (h3 : s3' ≤ s3)
    (hp : PL T T2 s3 W2 (.slice A n c) ls ys) (hq : PL T T2 W2.heap.size W3 (.slice B m d) ws zs) : PK T w W3 s1 s2 s3 W2.heap.size W3.heap.size room shed xp xq A B ls ws ys zs := by
  have e : ∀ (Al : Option Addr) m c b, (Value.slice Al m c).ownBlock = some b ↔ Al.map (·.block) = some b := fun Al m c b => by cases Al <;> simp [Value.ownBlock]
  refine ⟨below_step hw h2, ⟨ho.1, ho.2.1, ho.2.2.1, ho.2.2.2, h2.size, Nat.le_refl _⟩, rp.below h2, (rq.below h2).wide h3, ?_, ?_, ?_, ?_⟩
  · exact (hp.lists.bound.step (fun b hb hlt => h2.block b hlt)).mono (fun b hb => ⟨⟨hb.1.1, hb.2⟩, fun h => hb.1.2 ((e _ _ _ _).2 h).symm⟩)
  · exact hq.lists.bound.mono (fun b hb => ⟨hb.1.1, hb.2⟩)
  · intro j u hu
    obtain ⟨-, -, h4, h5⟩ := hp.head
    obtain ⟨g, e1, hc⟩ := h5 j u hu
    obtain ⟨h6, h7⟩ := h4 g e1
    exact ⟨g, e1, h6, h7, (World.cell?_of_block (a := ⟨g, j, none⟩) (h2.block g h7)).trans hc⟩
  · intro j u hu
    obtain ⟨-, -, h4, h5⟩ := hq.head
    obtain ⟨g, e1, hc⟩ := h5 j u hu
    obtain ⟨h6, h7⟩ := h4 g e1
    exact ⟨g, e1, h6, h7, hc⟩
theorem PK.atA {i : Nat} (h : PK T w W s1 s2 s3 s4 s5 room shed xp xq A B ls ws ys zs) (hi : i < ys.length) : ∃ (g : Nat) (Ai : Option Addr) (ci : Nat) (x : List Int), A = some ⟨g, 0, none⟩ ∧ ls[i]? = some (.slice Ai x.length ci) ∧ W.cell? ⟨g, i, none⟩ = some (.slice Ai x.length ci) ∧ ys[i]? = some x ∧ Kd.C (Kd.int .i64) W Ai x.length x ∧ x.length ≤ ci := by
  have hl := h.ll.len
  have hr := h.ll.row i _ _ (List.getElem?_eq_getElem (by omega)) (List.getElem?_eq_getElem hi)
  obtain ⟨g, e, -, -, hcell⟩ := h.oa i _ (List.getElem?_eq_getElem (by omega))
  obtain ⟨Ai, ci, e4, h5, h6⟩ := Kd.R_reads hr
  exact ⟨g, Ai, ci, _, e, by rw [List.getElem?_eq_getElem (by omega), e4], by rw [hcell, e4], List.getElem?_eq_getElem _, h6, h5⟩
theorem PK.atB {i : Nat} (h : PK T w W s1 s2 s3 s4 s5 room shed xp xq A B ls ws ys zs) (hi : i < zs.length) : ∃ (g : Nat) (Ai : Option Addr) (ci : Nat) (x : List Int), B = some ⟨g, 0, none⟩ ∧ ws[i]? = some (.slice Ai x.length ci) ∧ W.cell? ⟨g, i, none⟩ = some (.slice Ai x.length ci) ∧ zs[i]? = some x ∧ Kd.C (Kd.int .i64) W Ai x.length x ∧ x.length ≤ ci := by
  have hl := h.lw.len
  have hr := h.lw.row i _ _ (List.getElem?_eq_getElem (by omega)) (List.getElem?_eq_getElem hi)
  obtain ⟨g, e, -, -, hcell⟩ := h.ob i _ (List.getElem?_eq_getElem (by omega))
  obtain ⟨Ai, ci, e4, h5, h6⟩ := Kd.R_reads hr
  exact ⟨g, Ai, ci, _, e, by rw [List.getElem?_eq_getElem (by omega), e4], by rw [hcell, e4], List.getElem?_eq_getElem _, h6, h5⟩
theorem PK.inA {i gA : Nat} (h : PK T w W s1 s2 s3 s4 s5 room shed xp xq (some ⟨gA, 0, none⟩) B ls ws ys zs) (hi : i < ys.length) : ∃ (Ai : Option Addr) (ci : Nat) (x : List Int), ls[i]? = some (.slice Ai x.length ci) ∧ W.cell? ⟨gA, i, none⟩ = some (.slice Ai x.length ci) ∧ ys[i]? = some x ∧ Kd.C (Kd.int .i64) W Ai x.length x ∧ x.length ≤ ci := by
  obtain ⟨g, Ai, ci, x, e, h1, h2, h3⟩ := h.atA hi
  injection e with e
  injection e with e
  subst e
  exact ⟨Ai, ci, x, h1, h2, h3⟩
theorem PK.inB {i gB : Nat} (h : PK T w W s1 s2 s3 s4 s5 room shed xp xq A (some ⟨gB, 0, none⟩) ls ws ys zs) (hi : i < zs.length) : ∃ (Ai : Option Addr) (ci : Nat) (x : List Int), ws[i]? = some (.slice Ai x.length ci) ∧ W.cell? ⟨gB, i, none⟩ = some (.slice Ai x.length ci) ∧ zs[i]? = some x ∧ Kd.C (Kd.int .i64) W Ai x.length x ∧ x.length ≤ ci := by
  obtain ⟨g, Ai, ci, x, e, h1, h2, h3⟩ := h.atB hi
  injection e with e
  injection e with e
  subst e
  exact ⟨Ai, ci, x, h1, h2, h3⟩
theorem PK.step (h : PK T w W s1 s2 s3 s4 s5 room shed xp xq A B ls ws ys zs) (hb : Below w.heap.size w W1) (hz : W.heap.size ≤ W1.heap.size) (hs : ∀ b, s1 ≤ b → b < s5 → W1.heap[b]? = W.heap[b]?) : PK T w W1 s1 s2 s3 s4 s5 room shed xp xq A B ls ws ys zs := by
  have o := h.ord
  refine ⟨hb, ⟨o.1, o.2.1, o.2.2.1, o.2.2.2.1, o.2.2.2.2.1, by omega⟩, ?_, ?_, ?_, ?_, ?_, ?_⟩
  · exact Kd.R_step h.rp (fun b hb _ => hs b (by omega) (by omega))
  · exact Kd.R_step h.rq (fun b hb _ => hs b (by omega) (by omega))
  · exact h.ll.step (fun b hb _ => hs b (by omega) (by omega))
  · exact h.lw.step (fun b hb _ => hs b (by omega) (by omega))
  · intro j u hu
    obtain ⟨g, e, h1, h2, hc⟩ := h.oa j u hu
    exact ⟨g, e, h1, h2, (World.cell?_of_block (a := ⟨g, j, none⟩) (hs g (by omega) (by omega))).trans hc⟩
  · intro j u hu
    obtain ⟨g, e, h1, h2, hc⟩ := h.ob j u hu
    exact ⟨g, e, h1, h2, (World.cell?_of_block (a := ⟨g, j, none⟩) (hs g (by omega) (by omega))).trans hc⟩
theorem PK.next (h : PK T w W s1 s2 s3 s4 s5 room shed xp xq A B ls ws ys zs) (hb : Below W.heap.size W W1) : PK T w W1 s1 s2 s3 s4 s5 room shed xp xq A B ls ws ys zs :=
  h.step (below_step h.below hb) hb.size (fun b _ hlt => hb.block b (by have := h.ord; omega))
theorem PK.putp {g n c : Nat} (h : PK T w W s1 s2 s3 s4 s5 (.slice (some ⟨g, 0, none⟩) (n + 2) c) shed xp xq A B ls ws ys zs) (hn : xp.length = n) (j : Nat) (hj : j < n) (z : Int) : PK T w (W.setCell ⟨g, j, none⟩ (.int .i64 z)) s1 s2 s3 s4 s5 (.slice (some ⟨g, 0, none⟩) (n + 2) c) shed (xp.set j z) xq A B ls ws ys zs := by
  obtain ⟨h1, hg, hlo, hhi, -⟩ := h.rp.putm hn j hj z
  have o := h.ord
  have hs : ∀ b, s2 ≤ b → b < s5 → (W.setCell ⟨g, j, none⟩ (.int .i64 z)).heap[b]? = W.heap[b]? := fun b h1 h2 => hg.block b (by omega) (fun e => by injection e with e; omega)
  refine ⟨h.below.setCell (by show w.heap.size ≤ g; omega) _, ⟨o.1, o.2.1, o.2.2.1, o.2.2.2.1, o.2.2.2.2.1, Nat.le_trans o.2.2.2.2.2 hg.size⟩, h1, ?_, ?_, ?_, ?_, ?_⟩
  · exact Kd.R_step h.rq (fun b hb _ => hs b (by omega) (by omega))
  · exact h.ll.step (fun b hb _ => hs b (by omega) (by omega))
  · exact h.lw.step (fun b hb _ => hs b (by omega) (by omega))
  · intro j u hu
    obtain ⟨g, e, h1, h2, hc⟩ := h.oa j u hu
    exact ⟨g, e, h1, h2, (World.cell?_of_block (a := ⟨g, j, none⟩) (hs g (by omega) (by omega))).trans hc⟩
  · intro j u hu
    obtain ⟨g, e, h1, h2, hc⟩ := h.ob j u hu
    exact ⟨g, e, h1, h2, (World.cell?_of_block (a := ⟨g, j, none⟩) (hs g (by omega) (by omega))).trans hc⟩
theorem PK.putq {g n c : Nat} (h : PK T w W s1 s2 s3 s4 s5 room (.slice (some ⟨g, 0, none⟩) (n + 2) c) xp xq A B ls ws ys zs) (hn : xq.length = n) (j : Nat) (hj : j < n) (z : Int) : PK T w (W.setCell ⟨g, j, none⟩ (.int .i64 z)) s1 s2 s3 s4 s5 room (.slice (some ⟨g, 0, none⟩) (n + 2) c) xp (xq.set j z) A B ls ws ys zs := by
  obtain ⟨h1, hg, hlo, hhi, -⟩ := h.rq.putm hn j hj z
  have o := h.ord
  have hs : ∀ b, (b < s2 ∨ s3 ≤ b) → b < s5 → (W.setCell ⟨g, j, none⟩ (.int .i64 z)).heap[b]? = W.heap[b]? := fun b h1 h2 => hg.block b (by omega) (fun e => by injection e with e; omega)
  refine ⟨h.below.setCell (by show w.heap.size ≤ g; omega) _, ⟨o.1, o.2.1, o.2.2.1, o.2.2.2.1, o.2.2.2.2.1, Nat.le_trans o.2.2.2.2.2 hg.size⟩, ?_, h1, ?_, ?_, ?_, ?_⟩
  · exact Kd.R_step h.rp (fun b hb _ => hs b (by omega) (by omega))
  · exact h.ll.step (fun b hb _ => hs b (by omega) (by omega))
  · exact h.lw.step (fun b hb _ => hs b (by omega) (by omega))
  · intro j u hu
    obtain ⟨g, e, h1, h2, hc⟩ := h.oa j u hu
    exact ⟨g, e, h1, h2, (World.cell?_of_block (a := ⟨g, j, none⟩) (hs g (by omega) (by omega))).trans hc⟩
  · intro j u hu
    obtain ⟨g, e, h1, h2, hc⟩ := h.ob j u hu
    exact ⟨g, e, h1, h2, (World.cell?_of_block (a := ⟨g, j, none⟩) (hs g (by omega) (by omega))).trans hc⟩
/-- The answers, as 'apart' begins with them. -/
theorem PK.toAp (h : PK T w W s1 s2 s3 s4 s5 room shed xp xq A B ls ws ys zs) (mk : Nat → Int) : Ap1 .i64 W W s3 T (fun b => (s3 ≤ b ∧ b < s4) ∧ A.map (·.block) ≠ some b) A ls ys ys mk 0 0 :=
  { below := Below.refl _ _, lists := h.ll, lens := fun _ => rfl, done := fun j hj => absurd hj (by omega), part := by simp, outer := fun j v hj => by obtain ⟨g, e, -, -, hc⟩ := h.oa j v hj; exact ⟨g, e, hc⟩, far := fun g e => by rw [e]; simp, kept := fun _ _ _ => rfl }
theorem PK.ofAp {mk : Nat → Int} {i t : Nat} {yl : List (List Int)} (h : PK T w W s1 s2 s3 s4 s5 room shed xp xq A B ls ws ys zs) (a : Ap1 .i64 W W1 s3 T (fun b => (s3 ≤ b ∧ b < s4) ∧ A.map (·.block) ≠ some b) A ls ys yl mk i t) : PK T w W1 s1 s2 s3 s4 s5 room shed xp xq A B ls ws yl zs := by
  have o := h.ord
  have hz := a.below.size
  have hs : ∀ b, (b < s3 ∨ s4 ≤ b ∨ A.map (·.block) = some b) → b < s5 → W1.heap[b]? = W.heap[b]? := fun b h1 h2 => a.kept b (by omega) (fun h3 => by rcases h1 with h1 | h1 | h1; omega; omega; exact h3.2 h1)
  refine ⟨⟨a.below.os.trans h.below.os, a.below.tape.trans h.below.tape, a.below.output.trans h.below.output, Nat.le_trans h.below.size hz, fun b hb => (hs b (by omega) (by omega)).trans (h.below.block b hb)⟩, ⟨o.1, o.2.1, o.2.2.1, o.2.2.2.1, o.2.2.2.2.1, by omega⟩, ?_, ?_, a.lists, ?_, ?_, ?_⟩
  · exact Kd.R_step h.rp (fun b hb _ => hs b (by omega) (by omega))
  · exact Kd.R_step h.rq (fun b hb _ => hs b (by omega) (by omega))
  · exact h.lw.step (fun b hb _ => hs b (by omega) (by omega))
  · intro j u hu
    obtain ⟨g, e, h1, h2, hc⟩ := h.oa j u hu
    exact ⟨g, e, h1, h2, (World.cell?_of_block (a := ⟨g, j, none⟩) (hs g (.inr (.inr (by rw [e]; rfl))) (by omega))).trans hc⟩
  · intro j u hu
    obtain ⟨g, e, h1, h2, hc⟩ := h.ob j u hu
    exact ⟨g, e, h1, h2, (World.cell?_of_block (a := ⟨g, j, none⟩) (hs g (.inr (.inl h1)) (by omega))).trans hc⟩
/-- One answer that is grown: it is read as it was, and all others stay. -/
structure KG (T base : Nat) (W0 W : World) (Al : Option Addr) (n c : Nat) (x : List Int) (g : Value) (y : List Int) : Prop where
  row : Kd.R (Kd.int .i64) T W base (fun b => Al.map (·.block) = some b ∨ W0.heap.size ≤ b) g (x ++ y)
  was : Kd.R (Kd.int .i64) T W base (fun b => Al.map (·.block) = some b) (.slice Al n c) x
  lnk : (∃ n', g = .slice Al n' c) ∨ (∀ b, g.ownBlock = some b → W0.heap.size ≤ b)
  oth : ∀ b, b < W0.heap.size → Al.map (·.block) ≠ some b → W.heap[b]? = W0.heap[b]?
  below : Below base W0 W
  wasb : ∀ b, Al.map (·.block) = some b → b < W0.heap.size
  bs : base ≤ W0.heap.size
theorem KG.start {base n c : Nat} {W0 : World} {Al : Option Addr} {x : List Int} {ok : Nat → Prop} (h : Kd.R (Kd.int .i64) T W0 base ok (.slice Al n c) x) (hbs : base ≤ W0.heap.size) : KG T base W0 W0 Al n c x (.slice Al n c) [] := by
  have e : ∀ b, (Value.slice Al n c).ownBlock = some b ↔ Al.map (·.block) = some b := fun b => by cases Al <;> simp [Value.ownBlock]
  have ht : Kd.R (Kd.int .i64) T W0 base (fun b => Al.map (·.block) = some b) (.slice Al n c) x := Kd.R_mono (Kd.R_tight rfl h) (fun b hb => (e b).1 hb.symm)
  exact { row := by rw [List.append_nil]; exact Kd.R_mono ht (fun b hb => .inl hb), was := ht, lnk := .inl ⟨n, rfl⟩, oth := fun _ _ _ => rfl, below := Below.refl _ _, wasb := fun b hb => Kd.R_lt h b ((e b).2 hb), bs := hbs }
theorem KG.next {base n c : Nat} {W0 : World} {Al : Option Addr} {x y : List Int} {g : Value} (h : KG T base W0 W Al n c x g y) (hb : Below W.heap.size W W1) : KG T base W0 W1 Al n c x g y :=
  { row := Kd.R_step h.row (fun b _ hlt => hb.block b hlt), was := Kd.R_step h.was (fun b _ hlt => hb.block b hlt), lnk := h.lnk, oth := fun b h1 h2 => (hb.block b (Nat.lt_of_lt_of_le h1 h.below.size)).trans (h.oth b h1 h2), below := h.below.trans (hb.mono (Nat.le_trans h.bs h.below.size)), wasb := h.wasb, bs := h.bs }
theorem KG.app {base n c : Nat} {W0 : World} {Al : Option Addr} {x y zs : List Int} {g v1 : Value} (h : KG T base W0 W Al n c x g y) (hr : Kd.R (Kd.int .i64) T W1 base (fun b => Al.map (·.block) = some b ∨ W0.heap.size ≤ b) v1 ((x ++ y) ++ zs)) (hg : W.grownBy W1 g.ownBlock)
    (hc : (∃ p n c m, g = .slice p n c ∧ v1 = .slice p m c) ∨ (v1.ownBlock = some W.heap.size ∧ W.grownBy W1 none)) : KG T base W0 W1 Al n c x v1 (y ++ zs) := by
  have hz := h.below.size
  have hn : n = x.length := (Kd.R_reads' h.was).1
  have hgb : ∀ b, g.ownBlock = some b → base ≤ b := Kd.R_base h.row
  have e : ∀ (Al : Option Addr) m c b, (Value.slice Al m c).ownBlock = some b ↔ Al.map (·.block) = some b := fun Al m c b => by cases Al <;> simp [Value.ownBlock]
  have gok : ∀ b, g.ownBlock = some b → Al.map (·.block) = some b ∨ W0.heap.size ≤ b := fun b hb => h.row.1 b hb
  refine { row := by rw [← List.append_assoc]; exact hr, was := ?_, lnk := ?_, oth := ?_, below := ?_, wasb := h.wasb, bs := h.bs }
  · rcases hc with ⟨p, n1, c1, m1, rfl, rfl⟩ | ⟨e1, hgn⟩
    · rcases h.lnk with ⟨n', e2⟩ | hfar
      · injection e2 with e2 e3 e4
        subst e2 e4
        have h2 := Kd.R_take (m := x.length) hr (by simp)
        rw [List.append_assoc, List.take_left, ← hn] at h2
        exact Kd.R_mono (Kd.R_tight rfl h2) (fun b hb => (e _ _ _ b).1 hb.symm)
      · exact Kd.R_step h.was (fun b hb hlt => hg.block b hlt (fun e1 => by have := hfar b e1.symm; have := h.wasb b hb; omega))
    · exact Kd.R_step h.was (fun b hb hlt => hgn.block b hlt (by simp))
  · rcases hc with ⟨p, n1, c1, m1, rfl, rfl⟩ | ⟨e1, hgn⟩
    · rcases h.lnk with ⟨n', e2⟩ | hfar
      · injection e2 with e2 e3 e4
        exact .inl ⟨m1, by rw [e2, e4]⟩
      · exact .inr (fun b hb => hfar b ((e _ _ _ b).2 ((e _ _ _ b).1 hb)))
    · exact .inr (fun b hb => by rw [e1] at hb; injection hb with hb; omega)
  · intro b h1 h2
    refine (hg.block b (by omega) (fun e1 => ?_)).trans (h.oth b h1 h2)
    rcases gok b e1.symm with h3 | h3
    · exact h2 h3
    · omega
  · exact h.below.grown hg (Nat.le_trans h.bs hz) hgb
/-- After it: all answers are as they were. -/
theorem KG.done {i n c : Nat} {W0 : World} {Al : Option Addr} {x y : List Int} {g : Value} (h : KG T s3 W0 W Al n c x g y) (hk : PK T w W0 s1 s2 s3 s4 s5 room shed xp xq A B ls ws ys zs) (hi : ls[i]? = some (.slice Al n c)) (hx : ys[i]? = some x) : PK T w W s1 s2 s3 s4 s5 room shed xp xq A B ls ws ys zs := by
  have o := hk.ord
  have hz := h.below.size
  have e : ∀ (Al : Option Addr) m c b, (Value.slice Al m c).ownBlock = some b ↔ Al.map (·.block) = some b := fun Al m c b => by cases Al <;> simp [Value.ownBlock]
  have hrow := hk.ll.row i _ x hi hx
  have hal : ∀ b, Al.map (·.block) = some b → (s3 ≤ b ∧ b < s4) ∧ A.map (·.block) ≠ some b := fun b hb => hrow.1 b ((e _ _ _ b).2 hb)
  have hs : ∀ b, b < s5 → Al.map (·.block) ≠ some b → W.heap[b]? = W0.heap[b]? := fun b h1 h2 => h.oth b (by omega) h2
  refine ⟨⟨h.below.os.trans hk.below.os, h.below.tape.trans hk.below.tape, h.below.output.trans hk.below.output, Nat.le_trans hk.below.size hz, fun b hb => (h.below.block b (by omega)).trans (hk.below.block b hb)⟩, ⟨o.1, o.2.1, o.2.2.1, o.2.2.2.1, o.2.2.2.2.1, by omega⟩, ?_, ?_, ⟨hk.ll.len, ?_, hk.ll.two⟩, ?_, ?_, ?_⟩
  · exact Kd.R_step hk.rp (fun b hb _ => hs b (by omega) (fun h3 => by have := hal b h3; omega))
  · exact Kd.R_step hk.rq (fun b hb _ => hs b (by omega) (fun h3 => by have := hal b h3; omega))
  · intro j v x' hv hx'
    by_cases ej : j = i
    · subst ej
      rw [hi] at hv
      rw [hx] at hx'
      injection hv with hv
      injection hx' with hx'
      subst hv hx'
      exact Kd.R_mono h.was (fun b hb => hal b hb)
    · have h3 := hk.ll.row j v x' hv hx'
      refine Kd.R_mono (Kd.R_step (Kd.R_mono (Kd.R_tight rfl h3) (ok' := fun b => v.ownBlock = some b ∧ ((s3 ≤ b ∧ b < s4) ∧ A.map (·.block) ≠ some b)) (fun b hb => ⟨hb.symm, h3.1 b hb.symm⟩)) (fun b hb _ => hs b (by have := hb.2; omega) (fun h4 => hk.ll.two j i v _ ej hv hi b hb.1 ((e _ _ _ b).2 h4)))) (fun b hb => hb.2)
  · exact hk.lw.step (fun b hb _ => hs b (by omega) (fun h3 => by have := hal b h3; omega))
  · intro j u hu
    obtain ⟨g, e1, h1, h2, hc⟩ := hk.oa j u hu
    exact ⟨g, e1, h1, h2, (World.cell?_of_block (a := ⟨g, j, none⟩) (hs g (by omega) (fun h3 => (hal g h3).2 (by rw [e1]; rfl)))).trans hc⟩
  · intro j u hu
    obtain ⟨g, e1, h1, h2, hc⟩ := hk.ob j u hu
    exact ⟨g, e1, h1, h2, (World.cell?_of_block (a := ⟨g, j, none⟩) (hs g (by omega) (fun h3 => by have := hal g h3; omega))).trans hc⟩
end
section
variable {P : Program}
/-- append: the old block with its old room, or a fresh one. -/
theorem run_append_cap (w : World) (base : Nat) (t ty e : TypeId) (i : TypeInfo) (z : Value) (bytes : Nat) (ht : P.underlying t = some (.slice e)) (hi : P.info? e = some i) (hz : i.zero = some z)
    (hsize : i.size = 1) (hby : i.bytes = bytes) (hzs : z.cells.size = 1)
    (v : Value) (n : Nat) (xs : List Value) (hown : w.ownsRow base e 1 v n xs)
    (a : Addr) (m c : Nat) (news : List Value) (hl : news.length = m * 1) (hnews : ∀ j u, news[j]? = some u → w.cell? (a.add j) = some u) (h1 : ∀ u ∈ news, u.oneCell' = true)
    (h63 : n + m ≤ maxLen) (hbytes : (n + m) * bytes ≤ 140737488355328) (hbase : base ≤ w.heap.size) (hm : 0 < m) :
    ∃ v' w', (Builtin.append_ #[t, t] ty #[v, .slice (some a) m c]).run P w = .ok v' w' ∧ w'.ownsRow base e 1 v' (n + m) (xs ++ news) ∧ w.grownBy w' v.ownBlock ∧
      ((∃ p n c m, v = .slice p n c ∧ v' = .slice p m c) ∨ (v'.ownBlock = some w.heap.size ∧ w.grownBy w' none)) := by
  obtain ⟨v', w', hr, h2, h3, h5⟩ := run_append_keep (P := P) w base t ty e i z bytes ht hi hz hsize hby hzs v n xs hown a m c news hl hnews h1 h63 hbytes hbase
  refine ⟨v', w', hr, h2, h3, ?_⟩
  simp only [maxLen] at h63
  rcases h5 with h5 | h5
  · rcases hown.2 with ⟨rfl, rfl⟩ | ⟨g, cap, cur, rfl, hbg, hg, hnc, hcm, hcs, htake⟩
    · have hr2 := run_append_nil (P := P) w t ty e i z ht hi hz a m c news (by rw [hsize]; exact hl) hnews hm (by omega) (by rw [hby]; simp only [Nat.zero_add] at hbytes; omega)
      rw [hr2] at hr
      cases hr
      simp [Value.ownBlock] at h5
    · by_cases hroom : n + m ≤ cap
      · have hfit : n * i.size + news.length ≤ cur.size := by rw [hl, hcs, hsize]; omega
        have hr2 := run_append_room (P := P) w t ty e i ht hi g n cap cur hg a m c news (by rw [hsize]; exact hl) hnews h1 hroom hfit
        rw [hr2] at hr
        cases hr
        exact .inl ⟨_, _, _, _, rfl, rfl⟩
      · have holds : ∀ j u, xs[j]? = some u → w.cell? ((⟨g, 0, none⟩ : Addr).add j) = some u := hown.cells (g := g) rfl
        have hr2 := run_append_grow (P := P) w t ty e i z ht hi hz ⟨g, 0, none⟩ n cap xs (by rw [hsize]; exact hown.1) holds a m c news (by rw [hsize]; exact hl) hnews (by omega) (by omega) (growslice_fits (by omega) (by rw [hby]; exact hbytes))
        rw [hr2] at hr
        cases hr
        have := blk_lt hg
        simp only [Value.ownBlock, Option.some.injEq] at h5
        omega
  · exact .inr h5
variable {ops : Array Oper} {rest : List Oper} {o : Oper} {a : Act} {Q : Exit → Act → World → Prop} {Kc : Act → World → Prop}
theorem R_app_cap {k : IntKind} {W : World} (base : Nat) (hgd : o.guard = none) (s x : Operand) (t e : TypeId) (bytes : Nat)
    (ho : o.op = .call { callee := .builtin .append, args := #[s, x], argTypes := #[t, t] })
    (ht : P.underlying t = some (.slice e)) (hinfo : (P.info? e).map (fun i => (i.zero, i.size, i.bytes)) = some (some (.int k 0), 1, bytes)) (hb0 : 0 < bytes)
    (v : Value) (xs : List Int) (z : Int) (g c : Nat) (ok : Nat → Prop) (hs : a.eval s = v) (hx : a.eval x = .slice (some ⟨g, 0, none⟩) 1 c) (hfresh : ok W.heap.size)
    (HO : (Kd.int k).R e W base ok v xs) (HR : W.cell? ⟨g, 0, none⟩ = some (.int k z)) (hbase : base ≤ W.heap.size) (hl : (xs.length + 1) * bytes ≤ 140737488355328)
    (h : ∀ v1 w1, (Kd.int k).R e w1 base ok v1 (xs ++ [z]) → W.grownBy w1 v.ownBlock → ((∃ p n c m, v = .slice p n c ∧ v1 = .slice p m c) ∨ (v1.ownBlock = some W.heap.size ∧ W.grownBy w1 none)) → wpList P ops Q rest (a.put o.dst v1) w1) : wpList P ops Q (o :: rest) a W := by
  obtain ⟨i0, hi, hzz⟩ := Option.map_eq_some_iff.1 hinfo
  simp only [Prod.mk.injEq] at hzz
  obtain ⟨hz0, hz1, hz2⟩ := hzz
  have hlen : xs.length + 1 ≤ 140737488355328 := Nat.le_trans (Nat.le_mul_of_pos_right _ hb0) hl
  obtain ⟨v1, w1, hr, h2, h3, h5⟩ := run_append_cap (P := P) W base t o.type e i0 (.int k 0) bytes ht hi hz0 hz1 hz2 rfl v xs.length (encs (Value.int k) xs) (Kd.own_of_R HO) ⟨g, 0, none⟩ 1 c [.int k z] (by simp)
    (by intro j u hu; cases j with
      | zero => simp at hu; subst hu; simpa [Addr.add] using HR
      | succ j => simp at hu) (by intro u hu; simp at hu; subst hu; rfl) (by simp only [maxLen]; omega) hl hbase (by omega)
  refine wpList_plain hgd fun K hK => ?_
  unfold Oper.wp execOp
  simp only [ho, resolve, invoke, builtin, Sem.run_bind, Sem.run_pure, Result.andThen_ok, List.map_toArray, List.map_cons, List.map_nil, hs, hx, hr]
  refine hK _ _ (h v1 w1 ?_ h3 h5)
  refine Kd.R_of_own (by simpa [encs] using h2) (fun q hq => ?_)
  rcases h5 with ⟨p, n, c, m, rfl, rfl⟩ | ⟨h5, -⟩
  · exact HO.1 q (by cases p with | none => simp [Value.ownBlock] at hq | some p => simpa [Value.ownBlock] using hq)
  · rw [h5] at hq
    injection hq with hq
    rw [← hq]
    exact hfresh
end
end Go.Proofs.Ytmbkgepfpfeahaa.Q
