/- Functions of the program as plain Lean functions, each with a proof that its call comes to just these answers, or the row that joins them to the given statement; no condition beside the statement's own. Written for this claim by pf.py, this session's program over the kit's print. -/
import Derived.Test.YtiefmocfgneldaaQx0
import Derived.Test.YtiefmocfgneldaaQx4
import Derived.Test.YtiefmocfgneldaaQx9
import Derived.Test.YtiefmocfgneldaaQx10
import Derived.Test.YtiefmocfgneldaaQx11
import Derived.Test.YtiefmocfgneldaaQx12
import Derived.Test.YtiefmocfgneldaaQx13
namespace Go.Proofs.Ytiefmocfgneldaa.Q
open Go.RowKit Go.Proofs.YtiefmocfgneldaaW.PrintWords Go.Proofs.YtiefmocfgneldaaW.PrintLast Go.Proofs.YtiefmocfgneldaaW.PrintMore
attribute [local go_sem] max2_int min2_int max_two min_two max_three min_three max_four min_four   -- for this text's walks alone
set_option linter.unusedVariables false
set_option linter.unusedSimpArgs false

/-! ### churnlaw12_BraidSizes: function 4 -/
/- own text -/
section
open Go.Proofs.Ytiefmocfgneldaa.Pl
section
variable {W W1 : World} {base T n cl : Nat} {k : IntKind} {g v v1 : Value} {xs ys x y zs : List Int} {ok ok' : Nat → Prop} {Al : Option Addr}
/-- Two rows that begin in one block begin at one address. -/
theorem apt_addr (h : Kd.R (Kd.int k) T W base ok v xs) (h1 : Kd.R (Kd.int k) T W1 base ok' v1 ys) (e : v1.ownBlock = v.ownBlock) : ∃ A n c n' c', v = .slice A n c ∧ v1 = .slice A n' c' := by
  obtain ⟨A, c, rfl, -⟩ := Kd.R_reads h
  obtain ⟨A', c', rfl, -⟩ := Kd.R_reads h1
  refine ⟨A, xs.length, c, ys.length, c', rfl, ?_⟩
  cases A with
  | none => cases A' with
    | none => rfl
    | some b => simp [Value.ownBlock] at e
  | some a => cases A' with
    | none => simp [Value.ownBlock] at e
    | some b =>
      obtain ⟨p, rfl⟩ := Kd.R_head h
      obtain ⟨q, rfl⟩ := Kd.R_head h1
      simp only [Value.ownBlock, Option.some.injEq] at e
      rw [e]
/-- g was grown out of the list at Al: it lies there still, or the list lies apart from it. -/
structure LG (k : IntKind) (W : World) (base T : Nat) (Al : Option Addr) (g : Value) (x y : List Int) : Prop where
  row : Kd.R (Kd.int k) T W base (fun _ => True) g (x ++ y)
  was : (∃ n c, g = .slice Al n c) ∨ Kd.F (Kd.int k) W (fun b => some b ≠ g.ownBlock ∧ Al.map (·.block) = some b) Al x.length x
theorem LG.start (h : Kd.R (Kd.int k) T W base ok (.slice Al n cl) x) : LG k W base T Al (.slice Al n cl) x [] :=
  ⟨by rw [List.append_nil]; exact Kd.R_mono h (fun _ _ => trivial), .inl ⟨_, _, rfl⟩⟩
theorem LG.app (h : LG k W base T Al g x y) (hr : Kd.R (Kd.int k) T W1 base (fun _ => True) v1 ((x ++ y) ++ zs)) (hg : W.grownBy W1 g.ownBlock) (hc : v1.ownBlock = g.ownBlock ∨ (v1.ownBlock = some W.heap.size ∧ W.grownBy W1 none)) : LG k W1 base T Al v1 x (y ++ zs) := by
  refine ⟨by rw [← List.append_assoc]; exact hr, ?_⟩
  rcases hc with e | ⟨e, hn⟩
  · rcases h.was with ⟨n, c, rfl⟩ | hF
    · obtain ⟨A, n1, c1, n2, c2, e1, e2⟩ := apt_addr h.row hr e
      injection e1 with e1
      exact .inl ⟨n2, c2, by rw [e2, e1]⟩
    · refine .inr (Kd.F_mono (Kd.F_grown hF hg (fun b hb => hb.1)) (fun b hb => ⟨by rw [e]; exact hb.1, hb.2⟩))
  · rcases h.was with ⟨n, c, rfl⟩ | hF
    · have hF := Kd.R_F (Kd.R_tight rfl h.row)
      obtain rfl := (Kd.R_reads' h.row).1
      have hF := Kd.F_take (m := x.length) (Kd.F_bound hF) (by simp)
      rw [List.take_left] at hF
      refine .inr (Kd.F_mono (Kd.F_grown hF hn (fun b hb => by simp)) (fun b hb => ⟨?_, ?_⟩))
      · rw [e]; intro x; injection x with x; have := hb.2; omega
      · have h1 := hb.1
        cases Al with
        | none => simp [Value.ownBlock] at h1
        | some a => simp only [Value.ownBlock, Option.some.injEq] at h1; simp [h1]
    · refine .inr (Kd.F_mono (Kd.F_grown (Kd.F_bound hF) hn (fun b hb => by simp)) (fun b hb => ⟨?_, hb.1.2⟩))
      rw [e]; intro x; injection x with x; have := hb.2; omega
/-- A step that leaves both blocks as they were. -/
theorem LG.step (h : LG k W base T Al g x y) (hs : ∀ b, (some b = g.ownBlock ∨ Al.map (·.block) = some b) → b < W.heap.size → W1.heap[b]? = W.heap[b]?) : LG k W1 base T Al g x y := by
  refine ⟨Kd.R_mono (Kd.R_step (Kd.R_tight rfl h.row) (fun b hb hlt => hs b (.inl hb) hlt)) (fun _ _ => trivial), ?_⟩
  rcases h.was with h1 | hF
  · exact .inl h1
  · exact .inr (Kd.F_step hF (fun b hb hlt => hs b (.inr hb.2) hlt))
/-- What the list reads. -/
theorem LG.reads (h : LG k W base T Al g x y) : Kd.C (Kd.int k) W Al x.length x := by
  rcases h.was with ⟨n, c, rfl⟩ | hF
  · have hF := Kd.R_F h.row
    obtain rfl := (Kd.R_reads' h.row).1
    have hF := Kd.F_take (m := x.length) hF (by simp)
    rw [List.take_left] at hF
    exact Kd.F_now hF
  · exact Kd.F_now hF
end
section
variable {W W1 : World} {base T T2 n cl : Nat} {k : IntKind} {ok : Nat → Prop} {A : Option Addr} {xs : List (List Int)}
/-- The lists of a row whose inner rows lie apart: their values, their rows, and that no two share a block. -/
structure Lists (k : IntKind) (W : World) (base T : Nat) (okr : Nat → Prop) (ls : List Value) (xs : List (List Int)) : Prop where
  len : ls.length = xs.length
  row : ∀ (j : Nat) (v : Value) (x : List Int), ls[j]? = some v → xs[j]? = some x → Kd.R (Kd.int k) T W base okr v x
  two : ∀ (i j : Nat) (u v : Value), i ≠ j → ls[i]? = some u → ls[j]? = some v → ∀ b, u.ownBlock = some b → v.ownBlock ≠ some b
theorem lists_of (h : Kd.S (Kd.slice T (Kd.int k)) T2 W base ok (.slice A n cl) xs) :
    ∃ ls : List Value, Lists k W base T (fun b => ok b ∧ some b ≠ (Value.slice A n cl).ownBlock) ls xs ∧ n = xs.length ∧ ∀ (j : Nat) (v : Value), ls[j]? = some v → ∃ g, A = some ⟨g, 0, none⟩ ∧ W.cell? ⟨g, j, none⟩ = some v := by
  have hn := (Kd.S_reads' h).1
  obtain ⟨f, h0, inner, ho, hr⟩ := h
  rw [List.length_zipIdx] at ho
  have hl : inner.length = xs.length := by have h := ho.1; have h : inner.length = xs.length * 1 := h; omega
  have hat : ∀ (j : Nat) (v : Value) (x : List Int), inner[j]? = some v → xs[j]? = some x → Kd.R (Kd.int k) T W base (fun b => (ok b ∧ some b ≠ (Value.slice A n cl).ownBlock) ∧ f b = j) v x := by
    intro j v x hv hx
    obtain ⟨u, e, hu⟩ := hr.2 j (x, j) (Kd.zip_at hx)
    have e : (inner.drop (j * 1)).take 1 = [u] := e
    have hu : Kd.R (Kd.int k) T W base (fun b => (ok b ∧ some b ≠ (Value.slice A n cl).ownBlock) ∧ f b = j) u x := hu
    have e2 : inner[j]? = some u := by
      have := congrArg (fun l : List Value => l[0]?) e
      rw [Nat.mul_one] at this
      simpa [List.getElem?_take, List.getElem?_drop] using this
    rw [hv] at e2
    injection e2 with e2
    rw [e2]
    exact hu
  refine ⟨inner, ⟨hl, fun j v x hv hx => Kd.R_mono (hat j v x hv hx) (fun b hb => hb.1), ?_⟩, hn, ?_⟩
  · intro i j u v hij hu hv b hb hb2
    have hi : i < xs.length := by rw [← hl]; exact (List.getElem?_eq_some_iff.1 hu).1
    have hj : j < xs.length := by rw [← hl]; exact (List.getElem?_eq_some_iff.1 hv).1
    have h1 := (hat i u _ hu (List.getElem?_eq_getElem hi)).1 b hb
    have h2 := (hat j v _ hv (List.getElem?_eq_getElem hj)).1 b hb2
    exact hij (h1.2.symm.trans h2.2)
  · intro j v hv
    have hj : j < xs.length := by rw [← hl]; exact (List.getElem?_eq_some_iff.1 hv).1
    rcases ho.2 with ⟨_, e0⟩ | ⟨g, cap, cur, e, -, hb, -, -, -, ht⟩
    · omega
    · injection e with e
      refine ⟨g, e, (blk_cell hb j).trans ?_⟩
      rw [← ht] at hv
      rw [List.getElem?_take] at hv
      split at hv
      · simpa using hv
      · cases hv
/-- A store into one of the lists. -/
theorem Lists.put {okr : Nat → Prop} {ls : List Value} {i j g c m : Nat} {x : List Int} {z : Int} (h : Lists k W base T okr ls xs) (hv : ls[i]? = some (.slice (some ⟨g, 0, none⟩) m c)) (hx : xs[i]? = some x) :
    Lists k (W.setCell ⟨g, j, none⟩ (.int k z)) base T okr ls (xs.set i (x.set j z)) ∧ W.grownBy (W.setCell ⟨g, j, none⟩ (.int k z)) (some g) := by
  have hR := h.row i _ x hv hx
  obtain ⟨hp, hg⟩ := Kd.R_putg hR (j : Int) z
  simp only [Int.toNat_natCast] at hp hg
  refine ⟨⟨by rw [List.length_set]; exact h.len, ?_, h.two⟩, hg⟩
  intro j' v' x' hv' hx'
  by_cases e : j' = i
  · subst e
    rw [hv] at hv'
    injection hv' with hv'
    have hi := (List.getElem?_eq_some_iff.1 hx).1
    rw [List.getElem?_set_self hi] at hx'
    injection hx' with hx'
    rw [← hv', ← hx']
    exact hp
  · rw [List.getElem?_set_ne (fun e2 => e e2.symm)] at hx'
    refine Kd.R_grown2 (h.row j' v' x' hv' hx') rfl hg ?_
    intro b hb hb2
    exact h.two j' i v' _ e hv' hv b hb2.symm (by injection hb with hb; rw [← hb]; rfl)
/-- Phase one: the lists before i bear their marks, list i bears it up to t. -/
structure Ap1 (k : IntKind) (w W : World) (base T : Nat) (okr : Nat → Prop) (A : Option Addr) (ls : List Value) (xs ys : List (List Int)) (mk : Nat → Int) (i t : Nat) : Prop where
  below : Below base w W
  lists : Lists k W base T okr ls ys
  lens : ∀ j : Nat, (ys.getD j []).length = (xs.getD j []).length
  done : ∀ j : Nat, j < i → ys.getD j [] = List.replicate (xs.getD j []).length (mk j)
  part : (ys.getD i []).take t = List.replicate t (mk i)
  outer : ∀ (j : Nat) (v : Value), ls[j]? = some v → ∃ g, A = some ⟨g, 0, none⟩ ∧ W.cell? ⟨g, j, none⟩ = some v
  far : ∀ g, A = some ⟨g, 0, none⟩ → ¬ okr g
  kept : ∀ b, b < w.heap.size → ¬ okr b → W.heap[b]? = w.heap[b]?
section
variable {w : World} {okr : Nat → Prop} {ls : List Value} {ys : List (List Int)} {mk : Nat → Int} {i t : Nat}
theorem Ap1.at_ (h : Ap1 k w W base T okr A ls xs ys mk i t) (hi : i < xs.length) (hls : ls.length = xs.length) : ∃ (g : Nat) (Ai : Option Addr) (ci : Nat), A = some ⟨g, 0, none⟩ ∧ ls[i]? = some (.slice Ai (xs.getD i []).length ci) ∧ W.cell? ⟨g, i, none⟩ = some (.slice Ai (xs.getD i []).length ci) ∧
      (0 < (xs.getD i []).length → ∃ gi, Ai = some ⟨gi, 0, none⟩) ∧ ∀ gi, Ai = some ⟨gi, 0, none⟩ → ∀ j, j < (xs.getD i []).length → (∃ u, W.cell? ⟨gi, j, none⟩ = some (.int k u)) ∧ W.frozen? ⟨gi, j, none⟩ = false := by
  have hy : i < ys.length := by have := h.lists.len; omega
  have hl : i < ls.length := by omega
  obtain ⟨g, e, hc⟩ := h.outer i _ (List.getElem?_eq_getElem hl)
  have hR := h.lists.row i _ _ (List.getElem?_eq_getElem hl) (List.getElem?_eq_getElem hy)
  have hlen := h.lens i
  rw [List.getD_eq_getElem?_getD, List.getElem?_eq_getElem hy] at hlen
  simp only [Option.getD_some] at hlen
  obtain ⟨Ai, ci, e1, hcap, hC⟩ := Kd.R_reads hR
  rw [e1, hlen] at hR
  refine ⟨g, Ai, ci, e, by rw [List.getElem?_eq_getElem hl, e1, hlen], by rw [hc, e1, hlen], ?_, ?_⟩
  · intro h0
    obtain ⟨ad, ea, -⟩ := hC.2.2 (by omega)
    subst ea
    obtain ⟨p, rfl⟩ := Kd.R_head hR
    exact ⟨p, rfl⟩
  · rintro gi rfl j hj
    rw [← hlen] at hR
    have := Kd.R_cell (0 : Int) hR (j : Int) (by omega) (by omega)
    simp only [Int.toNat_natCast] at this
    exact ⟨⟨_, this.1⟩, this.2⟩
theorem take_set {x : List Int} {t : Nat} {z : Int} (ht : t < x.length) (h : x.take t = List.replicate t z) : (x.set t z).take (t + 1) = List.replicate (t + 1) z := by
  rw [List.take_succ_eq_append_getElem (by simpa using ht), List.getElem_set_self, List.take_set_of_le (Nat.le_refl _), h]
  simp [List.replicate_succ']
section
variable {w : World} {okr : Nat → Prop} {ls : List Value} {ys : List (List Int)} {mk : Nat → Int} {i t : Nat}
theorem Ap1.put {gi m ci : Nat} (h : Ap1 k w W base T okr A ls xs ys mk i t) (hv : ls[i]? = some (.slice (some ⟨gi, 0, none⟩) m ci)) (ht : t < (xs.getD i []).length) :
    Ap1 k w (W.setCell ⟨gi, t, none⟩ (.int k (mk i))) base T okr A ls xs (ys.set i ((ys.getD i []).set t (mk i))) mk i (t + 1) := by
  have hl : i < ls.length := (List.getElem?_eq_some_iff.1 hv).1
  have hy : i < ys.length := by have := h.lists.len; omega
  have hlen := h.lens i
  have hyg : ys.getD i [] = ys[i] := by rw [List.getD_eq_getElem?_getD, List.getElem?_eq_getElem hy]; rfl
  have hR := h.lists.row i _ _ hv (List.getElem?_eq_getElem hy)
  obtain ⟨hL, hg⟩ := h.lists.put (j := t) (z := mk i) hv (List.getElem?_eq_getElem hy)
  have hgi : okr gi := hR.1 gi rfl
  have hgb : base ≤ gi := Kd.R_base hR gi rfl
  have hset : ∀ j : Nat, (ys.set i ((ys.getD i []).set t (mk i))).getD j [] = if j = i then (ys.getD i []).set t (mk i) else ys.getD j [] := by
    intro j
    rw [List.getD_eq_getElem?_getD]
    by_cases e : j = i
    · subst e; rw [if_pos rfl, List.getElem?_set_self hy]; rfl
    · rw [if_neg e, List.getElem?_set_ne (fun e2 => e e2.symm), ← List.getD_eq_getElem?_getD]
  refine { below := h.below.setCell hgb _, lists := by rw [hyg]; exact hL, lens := ?_, done := ?_, part := ?_, outer := ?_, far := h.far, kept := fun b hb hn => (Below.heap_setCell W ⟨gi, t, none⟩ (.int k (mk i)) b (fun e => hn (e ▸ hgi))).trans (h.kept b hb hn) }
  · intro j
    rw [hset]
    split
    · rename_i e; rw [List.length_set, e]; exact hlen
    · exact h.lens j
  · intro j hj
    rw [hset, if_neg (by omega)]
    exact h.done j hj
  · rw [hset, if_pos rfl]
    exact take_set (by omega) h.part
  · intro j v hj
    obtain ⟨g, e, hc⟩ := h.outer j v hj
    refine ⟨g, e, ?_⟩
    exact cell_kept hc (W2 := W.setCell ⟨gi, t, none⟩ (.int k (mk i))) (S := fun b => some b = some gi) ⟨hg.size, fun b hb hs => hg.block b hb hs⟩ (fun e2 => h.far g e (by injection e2 with e2; have e2 : g = gi := e2; rw [e2]; exact hgi))
theorem Ap1.next (h : Ap1 k w W base T okr A ls xs ys mk i (xs.getD i []).length) : Ap1 k w W base T okr A ls xs ys mk (i + 1) 0 := by
  refine { h with done := ?_, part := by simp }
  intro j hj
  by_cases e : j = i
  · subst e
    have := h.part
    rw [← h.lens j, List.take_length] at this
    rw [this, h.lens j]
  · exact h.done j (by omega)
end
end
/-- A list's blocks: its own, and that of what was grown out of it. -/
def Blk (ls hs : List Value) (j b : Nat) : Prop := (∃ v, ls[j]? = some v ∧ v.ownBlock = some b) ∨ (∃ u, hs[j]? = some u ∧ u.ownBlock = some b)
/-- Lists and what was grown out of them: no two pairs share a block, and none lies in 'no'. -/
structure Grown (k : IntKind) (W : World) (base T : Nat) (no : Nat → Prop) (ls hs : List Value) (xs ys : List (List Int)) : Prop where
  lenh : hs.length = ls.length
  lenx : xs.length = ls.length
  leny : ys.length = ls.length
  row : ∀ (j : Nat) (v u : Value) (x y : List Int), ls[j]? = some v → hs[j]? = some u → xs[j]? = some x → ys[j]? = some y → ∃ Al c, v = .slice Al x.length c ∧ LG k W base T Al u x y
  two : ∀ (i j : Nat), i ≠ j → ∀ b, Blk ls hs i b → ¬ Blk ls hs j b
  away : ∀ (j b : Nat), Blk ls hs j b → ¬ no b
  here : ∀ (j b : Nat), Blk ls hs j b → b < W.heap.size
section
variable {no : Nat → Prop} {ls hs : List Value} {ys : List (List Int)} {i : Nat} {u v1 : Value} {x y zs : List Int}
theorem Grown.app (h : Grown k W base T no ls hs xs ys) (hu : hs[i]? = some u) (hx : xs[i]? = some x) (hy : ys[i]? = some y) (hr : Kd.R (Kd.int k) T W1 base (fun _ => True) v1 ((x ++ y) ++ zs)) (hg : W.grownBy W1 u.ownBlock)
    (hc : v1.ownBlock = u.ownBlock ∨ (v1.ownBlock = some W.heap.size ∧ W.grownBy W1 none)) (hno : ∀ b, no b → b < W.heap.size) : Grown k W1 base T no ls (hs.set i v1) xs (ys.set i (y ++ zs)) := by
  have hi : i < hs.length := (List.getElem?_eq_some_iff.1 hu).1
  have hiy : i < ys.length := (List.getElem?_eq_some_iff.1 hy).1
  have hv1 : ∀ b, v1.ownBlock = some b → b < W1.heap.size := Kd.R_lt hr
  have blk : ∀ j b, Blk ls (hs.set i v1) j b → Blk ls hs j b ∨ (j = i ∧ b = W.heap.size) := by
    rintro j b (e | ⟨q, hq, hb⟩)
    · exact .inl (.inl e)
    · by_cases e : j = i
      · subst e
        rw [List.getElem?_set_self hi] at hq
        injection hq with hq
        subst hq
        rcases hc with e | ⟨e, -⟩
        · exact .inl (.inr ⟨u, hu, by rw [← e]; exact hb⟩)
        · rw [e] at hb; injection hb with hb; exact .inr ⟨rfl, hb.symm⟩
      · rw [List.getElem?_set_ne (fun e2 => e e2.symm)] at hq
        exact .inl (.inr ⟨q, hq, hb⟩)
  refine { lenh := by rw [List.length_set]; exact h.lenh, lenx := h.lenx, leny := by rw [List.length_set]; exact h.leny, row := ?_, two := ?_, away := ?_, here := ?_ }
  · intro j v q x' y' h1 h2 h3 h4
    by_cases e : j = i
    · subst e
      rw [List.getElem?_set_self hi] at h2
      rw [List.getElem?_set_self hiy] at h4
      injection h2 with h2
      injection h4 with h4
      subst h2 h4
      rw [hx] at h3
      injection h3 with h3
      subst h3
      obtain ⟨Al, c, e1, hL⟩ := h.row j v u x y h1 hu hx hy
      exact ⟨Al, c, e1, hL.app hr hg hc⟩
    · rw [List.getElem?_set_ne (fun e2 => e e2.symm)] at h2 h4
      obtain ⟨Al, c, e1, hL⟩ := h.row j v q x' y' h1 h2 h3 h4
      refine ⟨Al, c, e1, hL.step (fun b hb hlt => hg.block b hlt (fun e2 => ?_))⟩
      refine h.two j i e b ?_ (.inr ⟨u, hu, e2.symm⟩)
      rcases hb with hb | hb
      · exact .inr ⟨q, h2, hb.symm⟩
      · refine .inl ⟨v, h1, ?_⟩
        rw [e1]
        cases Al with
        | none => simp at hb
        | some a => simpa [Value.ownBlock] using hb
  · intro a j e b hb hb2
    rcases blk a b hb with h1 | ⟨e1, e2⟩
    · rcases blk j b hb2 with h2 | ⟨e3, e4⟩
      · exact h.two a j e b h1 h2
      · have := h.here a b h1; omega
    · rcases blk j b hb2 with h2 | ⟨e3, e4⟩
      · have := h.here j b h2; omega
      · omega
  · intro j b hb hn
    rcases blk j b hb with h1 | ⟨e1, e2⟩
    · exact h.away j b h1 hn
    · have := hno b hn; omega
  · intro j b hb
    have := hg.size
    rcases hb with e | ⟨q, hq, hb⟩
    · have := h.here j b (.inl e); omega
    · by_cases e : j = i
      · subst e
        rw [List.getElem?_set_self hi] at hq
        injection hq with hq
        subst hq
        exact hv1 b hb
      · rw [List.getElem?_set_ne (fun e2 => e e2.symm)] at hq
        have := h.here j b (.inr ⟨q, hq, hb⟩); omega
end
section
variable {no okr : Nat → Prop} {ls hs : List Value} {ys : List (List Int)}
theorem Grown.step (h : Grown k W base T no ls hs xs ys) (hs_ : ∀ b, ¬ no b → b < W.heap.size → W1.heap[b]? = W.heap[b]?) (hsz : W.heap.size ≤ W1.heap.size) : Grown k W1 base T no ls hs xs ys := by
  refine { h with row := ?_, here := fun j b hb => Nat.lt_of_lt_of_le (h.here j b hb) hsz }
  intro j v q x y h1 h2 h3 h4
  obtain ⟨Al, c, e1, hL⟩ := h.row j v q x y h1 h2 h3 h4
  refine ⟨Al, c, e1, hL.step (fun b hb hlt => hs_ b (h.away j b ?_) hlt)⟩
  rcases hb with hb | hb
  · exact .inr ⟨q, h2, hb.symm⟩
  · refine .inl ⟨v, h1, ?_⟩
    rw [e1]
    cases Al with
    | none => simp at hb
    | some a => simpa [Value.ownBlock] using hb
theorem Lists.grown (h : Lists k W base T okr ls xs) (hno : ∀ b, no b → okr b → W.heap.size ≤ b) : Grown k W base T no ls ls xs (List.replicate ls.length []) := by
  have row : ∀ (j : Nat) (v : Value), ls[j]? = some v → ∃ x, xs[j]? = some x ∧ Kd.R (Kd.int k) T W base okr v x := by
    intro j v hv
    have hj : j < xs.length := by rw [← h.len]; exact (List.getElem?_eq_some_iff.1 hv).1
    exact ⟨_, List.getElem?_eq_getElem hj, h.row j v _ hv (List.getElem?_eq_getElem hj)⟩
  have one : ∀ j b, Blk ls ls j b → ∃ v, ls[j]? = some v ∧ v.ownBlock = some b := by
    rintro j b (e | e) <;> exact e
  refine { lenh := rfl, lenx := h.len.symm, leny := List.length_replicate, row := ?_, two := ?_, away := ?_, here := ?_ }
  · intro j v u x y h1 h2 h3 h4
    rw [h1] at h2
    injection h2 with h2
    subst h2
    have hR := h.row j v x h1 h3
    obtain ⟨A, c, rfl, -⟩ := Kd.R_reads hR
    have hy : y = [] := by
      rw [List.getElem?_replicate] at h4
      split at h4
      · injection h4 with h4; exact h4.symm
      · cases h4
    subst hy
    exact ⟨A, c, rfl, LG.start hR⟩
  · intro i j e b hb hb2
    obtain ⟨u, hu, e1⟩ := one i b hb
    obtain ⟨v, hv, e2⟩ := one j b hb2
    exact h.two i j u v e hu hv b e1 e2
  · intro j b hb hn
    obtain ⟨v, hv, e1⟩ := one j b hb
    obtain ⟨x, hx, hR⟩ := row j v hv
    have := hno b hn (hR.1 b e1)
    have := Kd.R_lt hR b e1
    omega
  · intro j b hb
    obtain ⟨v, hv, e1⟩ := one j b hb
    obtain ⟨x, hx, hR⟩ := row j v hv
    exact Kd.R_lt hR b e1
end
/-- What was grown onto each list: cnt j of its marks. -/
def tails (n : Nat) (cnt : Nat → Nat) (mk : Nat → Int) : List (List Int) := (List.range n).map fun j => List.replicate (cnt j) (mk j)
theorem tails_at {n j : Nat} {cnt : Nat → Nat} {mk : Nat → Int} (h : j < n) : (tails n cnt mk)[j]? = some (List.replicate (cnt j) (mk j)) := by
  simp [tails, h]
theorem tails_none (n : Nat) (mk : Nat → Int) : tails n (fun _ => 0) mk = List.replicate n [] := by
  apply List.ext_getElem? 
  intro j
  by_cases h : j < n
  · rw [tails_at h, List.getElem?_replicate, if_pos h]; rfl
  · rw [List.getElem?_replicate, if_neg h]; simp [tails]; omega
theorem tails_set {n i a : Nat} {cnt : Nat → Nat} {mk : Nat → Int} (h : i < n) : (tails n cnt mk).set i (List.replicate (cnt i) (mk i) ++ List.replicate a (mk i)) = tails n (fun j => if j = i then cnt i + a else cnt j) mk := by
  apply List.ext_getElem?
  intro j
  by_cases hj : j < n
  · rw [tails_at hj]
    by_cases e : j = i
    · subst e
      rw [List.getElem?_set_self (by simpa [tails] using hj), if_pos rfl, List.replicate_append_replicate]
    · rw [List.getElem?_set_ne (fun e2 => e e2.symm), tails_at hj, if_neg e]
  · have h1 : ∀ c : Nat → Nat, (tails n c mk)[j]? = none := fun c => by simp [tails]; omega
    rw [h1, List.getElem?_set_ne (by omega), h1]
/-- Phases two and three: the lists with what was grown onto them, and the block of `more`. -/
structure Ap2 (okr : Nat → Prop) (k : IntKind) (w W : World) (base T T2 gm : Nat) (A : Option Addr) (ls hs : List Value) (xs : List (List Int)) (gs : Array Value) (mk2 : Nat → Int) (cnt : Nat → Nat) : Prop where
  below : Below base w W
  grown : Grown k W base T (fun b => A = some ⟨b, 0, none⟩ ∨ b = gm) ls hs xs (tails ls.length cnt mk2)
  more : W.heap[gm]? = some (.cells gs T2 (0, 0))
  gsz : gs.size = ls.length
  gmb : base ≤ gm
  outer : ∀ (j : Nat) (v : Value), ls[j]? = some v → ∃ g, A = some ⟨g, 0, none⟩ ∧ g ≠ gm ∧ W.cell? ⟨g, j, none⟩ = some v
  kept : ∀ b, b < w.heap.size → ¬ okr b → W.heap[b]? = w.heap[b]?
  home : ∀ j b, Blk ls hs j b → okr b ∨ w.heap.size ≤ b
  gmw : w.heap.size ≤ gm
theorem Ap1.made {w : World} {okr : Nat → Prop} {ls : List Value} {ys : List (List Int)} {mk mk2 : Nat → Int} {m : Nat} (h : Ap1 k w W base T okr A ls xs ys mk m 0) (cells : Array Value) (hc : cells.size = ls.length) (hbase : base ≤ W.heap.size) :
    Ap2 okr k w (W.alloc (.cells cells T2)) base T T2 W.heap.size A ls ls ys cells mk2 (fun _ => 0) := by
  have hb : Below W.heap.size W (W.alloc (.cells cells T2)) := (Below.refl _ _).alloc (Nat.le_refl _) _
  have hG := h.lists.grown (no := fun b => A = some ⟨b, 0, none⟩ ∨ b = W.heap.size) (by
    rintro b (e | e) hk
    · exact absurd hk (h.far b e)
    · omega)
  refine { below := h.below.alloc hbase _, grown := ?_, more := blk_new _ _, gsz := hc, gmb := hbase, outer := ?_, kept := fun b hlt hn => (hb.block b (Nat.lt_of_lt_of_le hlt h.below.size)).trans (h.kept b hlt hn), home := ?_, gmw := h.below.size }
  · rw [tails_none]
    exact hG.step (fun b _ hlt => hb.block b hlt) hb.size
  · intro j v hv
    obtain ⟨g, e, hcell⟩ := h.outer j v hv
    have hlt : g < W.heap.size := World.block_lt_of_cell? W ⟨g, j, none⟩ hcell
    exact ⟨g, e, by omega, cell_kept (S := fun _ => False) hcell ⟨hb.size, fun b hlt _ => hb.block b hlt⟩ (fun h => h)⟩
  · rintro j b (⟨v, hv, e⟩ | ⟨v, hv, e⟩) <;>
    exact .inl ((h.lists.row j v _ hv (List.getElem?_eq_getElem (by have := h.lists.len; have := (List.getElem?_eq_some_iff.1 hv).1; omega))).1 b e)
section
variable {okr : Nat → Prop} {w : World} {gm i a : Nat} {ls hs : List Value} {gs : Array Value} {mk2 : Nat → Int} {cnt : Nat → Nat} {u v1 : Value} {x : List Int}
theorem Ap2.grow (h : Ap2 okr k w W base T T2 gm A ls hs xs gs mk2 cnt) (hg : W.grownBy W1 none) : Ap2 okr k w W1 base T T2 gm A ls hs xs gs mk2 cnt := by
  have hlt := blk_lt h.more
  have hgb := h.gmb
  refine { h with below := h.below.grown hg (by omega) (fun k hk => by simp at hk), grown := h.grown.step (fun b _ hb => hg.block b hb (by simp)) hg.size, more := blk_grown h.more hg (by simp), outer := ?_, kept := fun b hlt hn => (hg.block b (Nat.lt_of_lt_of_le hlt h.below.size) (by simp)).trans (h.kept b hlt hn) }
  intro j v hv
  obtain ⟨g, e, hne, hcell⟩ := h.outer j v hv
  exact ⟨g, e, hne, cell_kept (S := fun _ => False) hcell ⟨hg.size, fun b hlt _ => hg.block b hlt (by simp)⟩ (fun h => h)⟩
theorem Ap2.row (h : Ap2 okr k w W base T T2 gm A ls hs xs gs mk2 cnt) (hi : i < ls.length) (hu : hs[i]? = some u) (hx : xs[i]? = some x) : Kd.R (Kd.int k) T W base (fun _ => True) u (x ++ List.replicate (cnt i) (mk2 i)) := by
  obtain ⟨Al, c, -, hL⟩ := h.grown.row i _ u x _ (List.getElem?_eq_getElem hi) hu hx (tails_at hi)
  exact hL.row
theorem Ap2.app (h : Ap2 okr k w W base T T2 gm A ls hs xs gs mk2 cnt) (hi : i < ls.length) (hu : hs[i]? = some u) (hx : xs[i]? = some x) (hr : Kd.R (Kd.int k) T W1 base (fun _ => True) v1 ((x ++ List.replicate (cnt i) (mk2 i)) ++ List.replicate a (mk2 i)))
    (hg : W.grownBy W1 u.ownBlock) (hc : v1.ownBlock = u.ownBlock ∨ (v1.ownBlock = some W.heap.size ∧ W.grownBy W1 none)) (hA : ∀ g, A = some ⟨g, 0, none⟩ → g < W.heap.size) : Ap2 okr k w W1 base T T2 gm A ls (hs.set i v1) xs gs mk2 (fun j => if j = i then cnt i + a else cnt j) := by
  have hlt := blk_lt h.more
  have hgb := h.gmb
  have hub : ∀ b, u.ownBlock = some b → base ≤ b := Kd.R_base (h.row hi hu hx)
  have haw : ∀ b, u.ownBlock = some b → ¬ (A = some ⟨b, 0, none⟩ ∨ b = gm) := fun b hb => h.grown.away i b (.inr ⟨u, hu, hb⟩)
  refine { below := h.below.grown hg (by omega) hub, grown := ?_, more := blk_grown h.more hg (fun e => haw gm e.symm (.inr rfl)), gsz := h.gsz, gmb := hgb, outer := ?_, kept := ?_, home := ?_, gmw := h.gmw }
  · have := h.grown.app hu hx (tails_at hi) hr hg hc (by
      rintro b (e | e)
      · exact hA b e
      · omega)
    rw [tails_set hi] at this
    exact this
  · intro j v hv
    obtain ⟨g, e, hne, hcell⟩ := h.outer j v hv
    exact ⟨g, e, hne, cell_kept (S := fun b => some b = u.ownBlock) hcell ⟨hg.size, fun b hlt hs => hg.block b hlt hs⟩ (fun e2 => haw g e2.symm (.inl e))⟩
  · intro b hlt hn
    refine (hg.block b (Nat.lt_of_lt_of_le hlt h.below.size) (fun e => ?_)).trans (h.kept b hlt hn)
    rcases h.home i b (.inr ⟨u, hu, e.symm⟩) with h1 | h1
    · exact hn h1
    · omega
  · have hil : i < hs.length := (List.getElem?_eq_some_iff.1 hu).1
    rintro j b (e | ⟨q, hq, hb⟩)
    · exact h.home j b (.inl e)
    · by_cases e : j = i
      · subst e
        rw [List.getElem?_set_self hil] at hq
        injection hq with hq
        subst hq
        rcases hc with e | ⟨e, -⟩
        · exact h.home j b (.inr ⟨u, hu, by rw [← e]; exact hb⟩)
        · rw [e] at hb; injection hb with hb; exact .inr (by have := h.below.size; omega)
      · rw [List.getElem?_set_ne (fun e2 => e e2.symm)] at hq
        exact h.home j b (.inr ⟨q, hq, hb⟩)
end
theorem Ap2.store {okr : Nat → Prop} {w : World} {gm : Nat} {ls hs : List Value} {gs : Array Value} {mk2 : Nat → Int} {cnt : Nat → Nat} (h : Ap2 okr k w W base T T2 gm A ls hs xs gs mk2 cnt) (i : Nat) (v : Value) :
    Ap2 okr k w (W.setCell ⟨gm, i, none⟩ v) base T T2 gm A ls hs xs (gs.setIfInBounds i v) mk2 cnt := by
  have hs : ∀ b, b ≠ gm → (W.setCell ⟨gm, i, none⟩ v).heap[b]? = W.heap[b]? := fun b hb => Below.heap_setCell W ⟨gm, i, none⟩ v b hb
  have hb : Below base w (W.setCell ⟨gm, i, none⟩ v) := h.below.setCell h.gmb _
  have hsz : W.heap.size ≤ (W.setCell ⟨gm, i, none⟩ v).heap.size := by simp
  refine { below := hb, grown := h.grown.step (fun b hn _ => hs b (fun e => hn (.inr e))) hsz, more := by apply blk_set; exact h.more, gsz := by rw [Array.size_setIfInBounds]; exact h.gsz, gmb := h.gmb, outer := ?_, kept := fun b hlt hn => (hs b (by have := h.gmw; omega)).trans (h.kept b hlt hn), home := h.home, gmw := h.gmw }
  intro j v' hv
  obtain ⟨g, e, hne, hcell⟩ := h.outer j v' hv
  exact ⟨g, e, hne, cell_kept (S := fun b => b = gm) hcell ⟨hsz, fun b _ hb => hs b hb⟩ hne⟩
end
/-- A literal's cells. -/
theorem C_lit (k : IntKind) (W : World) (xs : List Int) (e : Nat) (hm : xs.length ≤ 9223372036854775807) : (Kd.int k).C (W.alloc (.cells (xs.map (Value.int k)).toArray e)) (some ⟨W.heap.size, 0, none⟩) xs.length xs := by
  refine Kd.C_of_reads (d := (0 : Int)) ⟨rfl, hm, fun _ => ⟨_, rfl, fun j hj => ?_⟩⟩
  have h := blk_cell (blk_new W (.cells (xs.map (Value.int k)).toArray e)) j
  rw [show ((⟨W.heap.size, 0, none⟩ : Addr).add j) = ⟨W.heap.size, j, none⟩ from by simp [Addr.add]; omega]
  rw [h]
  simp [List.getD_eq_getElem?_getD, List.getElem?_eq_getElem hj]
section
variable {okr : Nat → Prop} {W W1 : World} {base T T2 : Nat} {k : IntKind} {A : Option Addr} {xs : List (List Int)} {w : World} {gm i q a : Nat} {ls hs : List Value} {gs : Array Value} {mk2 : Nat → Int} {cnt cnt' : Nat → Nat} {u v1 : Value} {x : List Int}
theorem Ap2.cnt_eq (h : Ap2 okr k w W base T T2 gm A ls hs xs gs mk2 cnt) (e : ∀ j, j < ls.length → cnt j = cnt' j) : Ap2 okr k w W base T T2 gm A ls hs xs gs mk2 cnt' := by
  have e1 : tails ls.length cnt mk2 = tails ls.length cnt' mk2 := by
    apply List.ext_getElem?
    intro j
    by_cases hj : j < ls.length
    · rw [tails_at hj, tails_at hj, e j hj]
    · have h1 : ∀ c : Nat → Nat, (tails ls.length c mk2)[j]? = none := fun c => by simp [tails]; omega
      rw [h1, h1]
  have := h.grown
  rw [e1] at this
  exact { h with grown := this }
theorem Ap2.at_ (h : Ap2 okr k w W base T T2 gm A ls hs xs gs mk2 cnt) (hi : i < ls.length) : ∃ (g : Nat) (Al : Option Addr) (c : Nat) (x : List Int), A = some ⟨g, 0, none⟩ ∧ g ≠ gm ∧ g < W.heap.size ∧ ls[i]? = some (.slice Al x.length c) ∧ xs[i]? = some x ∧ W.cell? ⟨g, i, none⟩ = some (.slice Al x.length c) ∧ xs.getD i [] = x := by
  have hh : i < hs.length := by rw [h.grown.lenh]; exact hi
  have hx : i < xs.length := by rw [h.grown.lenx]; exact hi
  obtain ⟨Al, c, e, hL⟩ := h.grown.row i _ _ _ _ (List.getElem?_eq_getElem hi) (List.getElem?_eq_getElem hh) (List.getElem?_eq_getElem hx) (tails_at hi)
  obtain ⟨g, eA, hne, hcell⟩ := h.outer i _ (List.getElem?_eq_getElem hi)
  refine ⟨g, Al, c, xs[i], eA, hne, World.block_lt_of_cell? W ⟨g, i, none⟩ hcell, by rw [List.getElem?_eq_getElem hi, e], List.getElem?_eq_getElem hx, by rw [hcell, e], by rw [List.getD_eq_getElem?_getD, List.getElem?_eq_getElem hx]; rfl⟩
/-- One append to what was grown out of list i. -/
theorem Ap2.one (h : Ap2 okr k w W base T T2 gm A ls (hs.set i u) xs gs mk2 (fun j => if j = i then q else cnt j)) (hi : i < ls.length) (hx : xs[i]? = some x) (hr : Kd.R (Kd.int k) T W1 base (fun _ => True) v1 ((x ++ List.replicate q (mk2 i)) ++ List.replicate a (mk2 i)))
    (hg : W.grownBy W1 u.ownBlock) (hc : v1.ownBlock = u.ownBlock ∨ (v1.ownBlock = some W.heap.size ∧ W.grownBy W1 none)) : Ap2 okr k w W1 base T T2 gm A ls (hs.set i v1) xs gs mk2 (fun j => if j = i then q + a else cnt j) := by
  have hh : i < hs.length := by have := h.grown.lenh; rw [List.length_set] at this; omega
  obtain ⟨g, Al, c, x', eA, -, hlt, -⟩ := h.at_ hi
  have := h.app hi (List.getElem?_set_self hh) hx (a := a) (v1 := v1) (by simpa using hr) hg hc (by intro g' e; rw [eA] at e; injection e with e; injection e with e; omega)
  rw [List.set_set] at this
  refine this.cnt_eq (fun j _ => ?_)
  by_cases e : j = i
  · simp [e]
  · simp [e]
theorem Ap2.rowi (h : Ap2 okr k w W base T T2 gm A ls (hs.set i u) xs gs mk2 (fun j => if j = i then q else cnt j)) (hi : i < ls.length) (hx : xs[i]? = some x) : Kd.R (Kd.int k) T W base (fun _ => True) u (x ++ List.replicate q (mk2 i)) := by
  have hh : i < hs.length := by have := h.grown.lenh; rw [List.length_set] at this; omega
  have := h.row hi (List.getElem?_set_self hh) hx
  simpa using this
theorem set_held {α : Type} {l : List α} {i : Nat} {u : α} (h : l[i]? = some u) : l.set i u = l := by
  apply List.ext_getElem?
  intro j
  rw [List.getElem?_set]
  split
  · rename_i e; subst e; rw [h]; have := (List.getElem?_eq_some_iff.1 h).1; simp [this]
  · rfl
/-- List i's growth goes on from u. -/
theorem Ap2.go {b c : Nat} (h : Ap2 okr k w W base T T2 gm A ls hs xs gs mk2 (fun j => if j < i then b else c)) (hu : hs[i]? = some u) : Ap2 okr k w W base T T2 gm A ls (hs.set i u) xs gs mk2 (fun j => if j = i then c + 0 else if j < i then b else c) := by
  rw [set_held hu]
  refine h.cnt_eq (fun j _ => ?_)
  by_cases e : j = i
  · simp [e]
  · simp [e]
theorem Ap2.came {b c d : Nat} (h : Ap2 okr k w W base T T2 gm A ls (hs.set i u) xs gs mk2 (fun j => if j = i then c + d else if j < i then b else c)) (hb : c + d = b) : Ap2 okr k w (W.setCell ⟨gm, i, none⟩ u) base T T2 gm A ls (hs.set i u) xs (gs.setIfInBounds i u) mk2 (fun j => if j < i + 1 then b else c) := by
  refine (h.store i u).cnt_eq (fun j _ => ?_)
  by_cases e : j = i
  · simp [e]; omega
  · by_cases e2 : j < i
    · simp [e, e2, show j < i + 1 from by omega]
    · simp [e, e2, show ¬ j < i + 1 from by omega]
theorem laid_set (hd : ∀ j, j < i → gs[j]? = hs[j]?) (hg : i < gs.size) (hl : i < hs.length) : ∀ j, j < i + 1 → (gs.setIfInBounds i u)[j]? = (hs.set i u)[j]? := by
  intro j hj
  rw [Array.getElem?_setIfInBounds, List.getElem?_set]
  by_cases e : i = j
  · subst e; simp [hg, hl]
  · rw [if_neg e, if_neg e]; exact hd j (by omega)
theorem laid_all (hd : ∀ j : Nat, gs[j]? = hs[j]?) : ∀ j : Nat, (gs.setIfInBounds i u)[j]? = (hs.set i u)[j]? := by
  have hsz : gs.size = hs.length := by
    have h1 := hd gs.size
    have h2 := hd hs.length
    simp at h1 h2
    omega
  intro j
  rw [Array.getElem?_setIfInBounds, List.getElem?_set]
  by_cases e : i = j
  · subst e; simp [hsz]
  · rw [if_neg e, if_neg e]; exact hd j
theorem rest_set (hr : ∀ j, i ≤ j → hs[j]? = ls[j]?) : ∀ j, i + 1 ≤ j → (hs.set i u)[j]? = ls[j]? := by
  intro j hj
  rw [List.getElem?_set_ne (by omega)]
  exact hr j (by omega)
/-- What list i itself reads. -/
theorem Ap2.list {Al : Option Addr} {c n : Nat} (h : Ap2 okr k w W base T T2 gm A ls hs xs gs mk2 cnt) (hv : ls[i]? = some (.slice Al n c)) (hx : xs[i]? = some x) : Kd.C (Kd.int k) W Al x.length x := by
  have hi : i < ls.length := (List.getElem?_eq_some_iff.1 hv).1
  have hh : i < hs.length := by rw [h.grown.lenh]; exact hi
  obtain ⟨Al', c', e, hL⟩ := h.grown.row i _ _ _ _ hv (List.getElem?_eq_getElem hh) hx (tails_at hi)
  injection e with e
  rw [e]
  exact hL.reads
/-- What a list behind its marks reads at place t. -/
theorem rd_marks {n q t : Nat} {a b : Int} (ht : t < n + q) : (List.replicate n a ++ List.replicate q b).getD t 0 = if t < n then a else b := by
  rw [List.getD_eq_getElem?_getD, List.getElem?_append]
  by_cases h : t < n
  · simp [h]
  · simp [h, show t - n < q from by omega]
theorem Ap2.look {n q t : Nat} {a : Int} (h : Ap2 okr k w W base T T2 gm A ls hs xs gs mk2 cnt) (hi : i < ls.length) (hu : hs[i]? = some u) (hx : xs[i]? = some (List.replicate n a)) (hc : cnt i = q) (ht : t < n + q) : ∃ g c, u = .slice (some ⟨g, 0, none⟩) (n + q) c ∧ W.cell? ⟨g, t, none⟩ = some (.int k (if t < n then a else mk2 i)) := by
  have hr := h.row hi hu hx
  rw [hc] at hr
  obtain ⟨Au, cu, rfl, hcap, hC⟩ := Kd.R_reads hr
  have hl : (List.replicate n a ++ List.replicate q (mk2 i)).length = n + q := by simp
  obtain ⟨ad, rfl, -⟩ := hC.2.2 (by rw [hl]; omega)
  obtain ⟨p, rfl⟩ := Kd.R_head hr
  have := (Kd.R_cell (0 : Int) hr (t : Int) (by omega) (by rw [hl]; omega)).1
  simp only [Int.toNat_natCast, rdOf, rd_marks ht] at this
  exact ⟨p, cu, by rw [hl], this⟩
end
/-- A tail that was laid out reads its mark. -/
theorem tail_reads {W : World} {g T n : Nat} {arr : Array Value} {z : Int} (h : W.heap[g]? = some (.cells arr T (0, 0))) (hs : arr.size = n) (hc : ∀ j, j < n → arr[j]? = some (.int .i64 z)) (hn : n ≤ 9223372036854775807 := by omega) : Kd.C (Kd.int .i64) W (some ⟨g, 0, none⟩) n (List.replicate n z) := by
  refine Kd.C_of_reads (d := (0 : Int)) ⟨by simp, hn, fun _ => ⟨_, rfl, fun j hj => ?_⟩⟩
  rw [show ((⟨g, 0, none⟩ : Addr).add j) = ⟨g, j, none⟩ from by simp [Addr.add]; omega, blk_cell h j, hc j hj]
  simp [List.getD_eq_getElem?_getD, hj]
set_option maxHeartbeats 1000000 in
set_option maxRecDepth 100000 in
theorem apart_calls (A : Option Addr) (n c base : Nat) (okr : Nat → Prop) (ls : List Value) (xs : List (List Int)) (w : World) (hL : Lists .i64 w base 3 okr ls xs) (hN : n = xs.length)
    (hC : ∀ (j : Nat) (v : Value), ls[j]? = some v → ∃ g, A = some ⟨g, 0, none⟩ ∧ w.cell? ⟨g, j, none⟩ = some v) (hfar : ∀ g, A = some ⟨g, 0, none⟩ → ¬ okr g) (hb : base ≤ w.heap.size) (hn : n ≤ 4194304) (hx : ∀ x ∈ xs, x.length ≤ 1048576) :
    Calls Try.prog 22 #[.slice A n c] w fun e w' => e = .returned (.bool true) ∧ Below base w w' ∧ ∀ b, b < w.heap.size → ¬ okr b → w'.heap[b]? = w.heap[b]? := by
  have HL := Aside0.mk hL
  have HN := Aside0.mk hN
  have HC := Aside0.mk hC
  have HX := Aside0.mk hx
  have HNN := Aside0.mk hn
  clear hL hN hC hx hn
  go_enter Try.func22, Try.ntmps22
  go_wp2_with (fail)
  go_loopg [20] n (fun gq v20 wr => ∃ (i : Nat) (ys : List (List Int)), v20 = .int .i64 i ∧ Aside0 (i ≤ n) ∧ Aside0 (n - i ≤ gq) ∧ Aside0 (Ap1 .i64 w wr base 3 okr A ls xs ys (fun i => -1000 - (i : Int)) i 0))
  case atStart =>
    refine ⟨0, xs, rfl, ⟨Nat.zero_le _⟩, ⟨by omega⟩, ⟨{ below := Below.refl _ _, lists := HL.out, lens := fun _ => rfl, done := fun j hj => absurd hj (by omega), part := by simp, outer := HC.out, far := hfar, kept := fun _ _ _ => rfl }⟩⟩
  case round =>
    obtain ⟨i, ys, rfl, HI, HG, I⟩ := hrel
    by_cases hlt : i < n
    · have c1 : decide ((i : Int) < (n : Int)) = true := decide_eq_true (by omega)
      have c2 : (0 : Int) ≤ (i : Int) := Int.natCast_nonneg i
      have c3 : (i : Int) < (n : Int) := by omega
      obtain ⟨g, Ai, ci, rfl, hls, hcell, hhead, hrow⟩ := I.out.at_ (by have := HN.out; omega) (by have := I.out.lists.len; have := HL.out.len; omega)
      obtain ⟨len, hlen⟩ : ∃ len, (xs.getD i []).length = len := ⟨_, rfl⟩
      rw [hlen] at hls hcell hhead hrow
      have hlb : len ≤ 1048576 := by rw [← hlen, List.getD_eq_getElem?_getD]; cases e : xs[i]? with | none => simp | some x => exact HX.out x (List.mem_of_getElem? e)
      have HLB := Aside0.mk hlb
      clear hlb
      have HLS := Aside0.mk hls
      have HHD := Aside0.mk hhead
      have HLEN := Aside0.mk hlen
      have HLT := Aside0.mk hlt
      have i1 : (i : Int) ≤ 4194304 := by have := HNN.out; omega
      have hw1 : wrap64 (-1000 - (i : Int)) = -1000 - (i : Int) := w64 (by omega) (by omega)
      have hw2 : wrap64 (-2000 - (i : Int)) = -2000 - (i : Int) := w64 (by omega) (by omega)
      have hw3 : IntKind.i64.wrap (-1000 - (i : Int)) = -1000 - (i : Int) := (i64_w _).trans hw1
      have hw4 : IntKind.i64.wrap (-2000 - (i : Int)) = -2000 - (i : Int) := (i64_w _).trans hw2
      clear hrow hls hhead hlen hlt
      go_wp2_with (fail)
      have I0 := I
      clear I
      go_loopg [27] len (fun gq v27 wq => ∃ (t : Nat) (ys : List (List Int)), v27 = .int .i64 t ∧ Aside0 (t ≤ len) ∧ Aside0 (len - t ≤ gq) ∧ Aside0 (Ap1 .i64 w wq base 3 okr (some ⟨g, 0, none⟩) ls xs ys (fun i => -1000 - (i : Int)) i t))
      case atStart => exact ⟨0, ys, rfl, ⟨Nat.zero_le _⟩, ⟨by omega⟩, I0⟩
      case round =>
        clear I0 hcell
        obtain ⟨t, ys', rfl, HT, HG2, I⟩ := hrel
        by_cases htl : t < len
        · have d1 : decide ((t : Int) < (len : Int)) = true := decide_eq_true (by omega)
          have d2 : (0 : Int) ≤ (t : Int) := Int.natCast_nonneg t
          have d3 : (t : Int) < (len : Int) := by omega
          obtain ⟨g', A', c', e1, e2, -, -, hrow⟩ := I.out.at_ (by have := HN.out; have := HLT.out; omega) (by have := I.out.lists.len; have := HL.out.len; omega)
          rw [HLS.out] at e2
          injection e2 with e2
          injection e2 with e2 e3 e4
          obtain ⟨gi, rfl⟩ := HHD.out (by omega)
          obtain ⟨⟨u, hu⟩, hz⟩ := hrow gi e2.symm t (by rw [HLEN.out]; exact htl)
          have HTL := Aside0.mk htl
          clear e1 e2 e3 e4 hrow htl
          go_wp2_with (fail)
          go_roundg (len - (t + 1))
          case measure => have := HG2.out; have := HTL.out; omega
          case rel =>
            have := HTL.out
            have := HLB.out
            exact ⟨t + 1, _, by rw [w64 (by omega) (by omega)]; rfl, ⟨by omega⟩, ⟨by omega⟩, ⟨I.out.put HLS.out (by rw [HLEN.out]; exact HTL.out)⟩⟩
        · obtain rfl : t = len := by have := HT.out; omega
          have d1 : decide ((t : Int) < (t : Int)) = false := decide_eq_false (by omega)
          clear htl
          go_wp2_with (fail)
          go_roundg (n - (i + 1))
          case measure => have := HG.out; have := HLT.out; omega
          case rel => exact ⟨i + 1, ys', by go_num, ⟨by have := HLT.out; omega⟩, ⟨by omega⟩, ⟨by have := I.out; rw [← HLEN.out] at this; exact this.next⟩⟩
    · obtain rfl : n = i := by have := HI.out; omega
      have c1 : decide ((n : Int) < (n : Int)) = false := decide_eq_false (by omega)
      clear hlt
      have hnn := HNN.out
      have hmk := run_make_row' (P := Try.prog) 63 22 (.slice none 0 0) 24 Try.underlying63 info22 rfl .i64 .i64 n (by omega) (by omega)
      obtain ⟨I⟩ := I
      have hp := I.made (T2 := 22) (mk2 := fun j => -2000 - (j : Int)) (madeCells #[Value.slice none 0 0] n) (by have h1 : (madeCells #[Value.slice none 0 0] n).size = n := (by simp [madeCells]); have := HN.out; have := HL.out.len; omega) (by have := I.below.size; omega)
      have P := Aside0.mk hp
      have I1 := Aside0.mk I
      clear I hp
      go_wp2_with (fail)
      have HYL := Aside0.mk (show ∀ y ∈ ys, y.length ≤ 1048576 by
        intro y hy
        obtain ⟨j, hj, e⟩ := List.mem_iff_getElem.1 hy
        have h1 := I1.out.lens j
        rw [List.getD_eq_getElem?_getD, List.getElem?_eq_getElem hj, List.getD_eq_getElem?_getD] at h1
        simp only [Option.getD_some, e] at h1
        rw [h1]
        cases e2 : xs[j]? with
        | none => simp
        | some z => exact HX.out z (List.mem_of_getElem? e2))
      have HNL := Aside0.mk (show ls.length = n by have := HN.out; have := HL.out.len; omega)
      have HNB := HNN.out
      clear hnn hmk HI HG c1 HN HL HNN
      obtain ⟨gm, hgm⟩ : ∃ gm, wr.heap.size = gm := ⟨_, rfl⟩
      rw [hgm] at P
      rw [hgm]
      clear hgm
      go_loopg [42] n (fun gq v42 wq => ∃ (i : Nat) (hs : List Value) (gs : Array Value), v42 = .int .i64 i ∧ Aside0 (i ≤ n) ∧ Aside0 (n - i ≤ gq) ∧ Aside0 (Ap2 okr .i64 w wq base 3 22 gm A ls hs ys gs (fun j => -2000 - (j : Int)) (fun j => if j < i then 8 else 0)) ∧
        Aside0 (∀ j, i ≤ j → hs[j]? = ls[j]?) ∧ Aside0 (∀ j, j < i → gs[j]? = hs[j]?))
      case atStart => exact ⟨0, ls, _, rfl, ⟨Nat.zero_le _⟩, ⟨by omega⟩, ⟨P.out.cnt_eq (fun j _ => by simp)⟩, ⟨fun _ _ => rfl⟩, ⟨fun j hj => absurd hj (by omega)⟩⟩
      case round =>
        obtain ⟨i, hs, gs, rfl, HI, HG, P, HR, HD⟩ := hrel
        by_cases hlt : i < n
        · have c1 : decide ((i : Int) < (n : Int)) = true := decide_eq_true (by omega)
          have c2 : (0 : Int) ≤ (i : Int) := Int.natCast_nonneg i
          have c3 : (i : Int) < (n : Int) := by omega
          have hil : i < ls.length := by have := HNL.out; omega
          obtain ⟨g, Al, cl, x, rfl, hne, hgl, hls, hx, hcell, hgd⟩ := P.out.at_ hil
          have hhs : hs[i]? = some (.slice Al x.length cl) := by rw [HR.out i (Nat.le_refl _)]; exact hls
          have hgs : i < gs.size := by have := P.out.gsz; omega
          have HX2 := Aside0.mk hx
          have HIL := Aside0.mk hil
          have HGS := Aside0.mk hgs
          have Q := Aside0.mk (P.out.go hhs)
          have HLT := Aside0.mk hlt
          have i1 : (i : Int) ≤ 4194304 := by omega
          have hw1 : wrap64 (-1000 - (i : Int)) = -1000 - (i : Int) := w64 (by omega) (by omega)
          have hw2 : wrap64 (-2000 - (i : Int)) = -2000 - (i : Int) := w64 (by omega) (by omega)
          have hw3 : IntKind.i64.wrap (-1000 - (i : Int)) = -1000 - (i : Int) := (i64_w _).trans hw1
          have hw4 : IntKind.i64.wrap (-2000 - (i : Int)) = -2000 - (i : Int) := (i64_w _).trans hw2
          clear hil hls hx hgd hgs hhs hlt P
          go_wp2_with (fail)
          go_loopg [9, 48] 8 (fun gq v9 v48 wq => ∃ (m : Nat) (u : Value), u = v9 ∧ v48 = .int .i64 m ∧ Aside0 (m ≤ 8) ∧ Aside0 (8 - m ≤ gq) ∧ Aside0 (Ap2 okr .i64 w wq base 3 22 gm (some ⟨g, 0, none⟩) ls (hs.set i u) ys gs (fun j => -2000 - (j : Int)) (fun j => if j = i then 0 + m else if j < i then 8 else 0)))
          case atStart => exact ⟨0, _, rfl, rfl, ⟨Nat.zero_le _⟩, ⟨by omega⟩, Q⟩
          case round =>
            clear Q
            obtain ⟨m, u, rfl, rfl, HM, HG2, Q⟩ := hrel
            by_cases hm : m < 8
            · have d1 : decide ((m : Int) < 8) = true := decide_eq_true (by omega)
              have HM8 := Aside0.mk hm
              have hr := Q.out.rowi HIL.out HX2.out
              have HRW := Aside0.mk hr
              clear hr hm
              go_wp2_with ((with_reducible refine gate_builtin (b := .append) (xs := #[.tmp 50, .tmp 53]) rfl ?_); at_builtin; go_loud (refine Kd.R_app_int (k := .i64) base rfl (.tmp 50) (.tmp 53) 22 3 8 rfl Try.underlying22 info3 (by omega) u (x ++ List.replicate (0 + m) (-2000 - (i : Int))) [-2000 - (i : Int)] (some ⟨wr.heap.size, 0, none⟩) 1 1 (fun _ => True) rfl rfl trivial ?HO ?HR ?base ?hl ?_; (case HO => exact Kd.R_alloc HRW.out _); (case HR => exact C_lit .i64 wr [-2000 - (i : Int)] 3 (by simp)); (case base => have := Q.out.below.size; have h2 := (World.grownBy_alloc wr (.cells #[Value.int .i64 (-2000 - (i : Int))] 3) none).size; omega); (case hl => have h1 := HYL.out _ (List.mem_of_getElem? HX2.out); have h2 := HM8.out; simp only [List.length_append, List.length_replicate]; omega); intro v1 w1 hr1 hg1 hat1; have Q1 := Aside0.mk ((Q.out.grow (World.grownBy_alloc wr (.cells #[Value.int .i64 (-2000 - (i : Int))] 3) none)).one (a := 1) HIL.out HX2.out hr1 hg1 hat1); clear hr1 hg1 hat1))
              go_roundg (8 - (m + 1))
              case measure => have := HG2.out; have := HM8.out; omega
              case rel => exact ⟨m + 1, _, rfl, by have := HM8.out; rw [w64 (by omega) (by omega)]; rfl, ⟨by have := HM8.out; omega⟩, ⟨by omega⟩, ⟨Q1.out.cnt_eq (fun j _ => by rw [Nat.add_assoc])⟩⟩
            · obtain rfl : m = 8 := by have := HM.out; omega
              have d1 : decide ((8 : Int) < 8) = false := rfl
              clear hm
              have e1 := (blk_cell Q.out.more i).trans (Array.getElem?_eq_getElem HGS.out)
              have e2 := blk_frozen Q.out.more i
              obtain ⟨Ar, ql, cr, rfl⟩ : ∃ Ar ql cr, u = .slice Ar ql cr := by obtain ⟨Ar, cr, rfl, -⟩ := Kd.R_reads (Q.out.rowi HIL.out HX2.out); exact ⟨_, _, _, rfl⟩
              go_wp2_with (fail)
              go_roundg (n - (i + 1))
              case measure => have := HG.out; have := HLT.out; omega
              case rel => exact ⟨i + 1, hs.set i _, gs.setIfInBounds i _, by go_num, ⟨by have := HLT.out; omega⟩, ⟨by omega⟩, ⟨Q.out.came rfl⟩, ⟨rest_set HR.out⟩, ⟨laid_set HD.out HGS.out (by have := Q.out.grown.lenh; rw [List.length_set] at this; have := HIL.out; omega)⟩⟩
        · obtain rfl : n = i := by have := HI.out; omega
          have c1 : decide ((n : Int) < (n : Int)) = false := decide_eq_false (by omega)
          clear hlt HG HI
          have HD := Aside0.mk (show ∀ j : Nat, gs[j]? = hs[j]? from fun j => by
            by_cases hj : j < n
            · exact HD.out j hj
            · have h1 := P.out.gsz
              have h2 := P.out.grown.lenh
              have h3 := HNL.out
              rw [Array.getElem?_eq_none (by omega), List.getElem?_eq_none (by omega)])
          have P := Aside0.mk (P.out.cnt_eq (cnt' := fun j => if j < 0 then 108 else 8) (fun j hj => by have := HNL.out; simp [show j < n from by omega]))
          clear HR
          go_wp2_with (fail)
          go_loopg [63] n (fun gq v63 wq => ∃ (i : Nat) (hs : List Value) (gs : Array Value), v63 = .int .i64 i ∧ Aside0 (i ≤ n) ∧ Aside0 (n - i ≤ gq) ∧ Aside0 (Ap2 okr .i64 w wq base 3 22 gm A ls hs ys gs (fun j => -2000 - (j : Int)) (fun j => if j < i then 108 else 8)) ∧
            Aside0 (∀ j : Nat, gs[j]? = hs[j]?))
          case atStart => exact ⟨0, hs, gs, rfl, ⟨Nat.zero_le _⟩, ⟨by omega⟩, P, HD⟩
          case round =>
            clear P HD
            obtain ⟨i, hs, gs, rfl, HI, HG, P, HD⟩ := hrel
            by_cases hlt : i < n
            · have c1 : decide ((i : Int) < (n : Int)) = true := decide_eq_true (by omega)
              have c2 : (0 : Int) ≤ (i : Int) := Int.natCast_nonneg i
              have c3 : (i : Int) < (n : Int) := by omega
              have hil : i < ls.length := by have := HNL.out; omega
              obtain ⟨g, Al, cl, x, rfl, hne, hgl, hls, hx, hcell, hgd⟩ := P.out.at_ hil
              have hih : i < hs.length := by have := P.out.grown.lenh; omega
              obtain ⟨u0, hu0⟩ : ∃ u0, hs[i]? = some u0 := ⟨_, List.getElem?_eq_getElem hih⟩
              obtain ⟨A0, q0, c0, rfl⟩ : ∃ A0 q0 c0, u0 = .slice A0 q0 c0 := by obtain ⟨A0, c0, rfl, -⟩ := Kd.R_reads (P.out.row hil hu0 hx); exact ⟨_, _, _, rfl⟩
              have e0 := (blk_cell P.out.more i).trans ((HD.out i).trans hu0)
              have hgs : i < gs.size := by have := P.out.gsz; omega
              have HX2 := Aside0.mk hx
              have HIL := Aside0.mk hil
              have HGS := Aside0.mk hgs
              have Q := Aside0.mk (P.out.go hu0)
              have HLT := Aside0.mk hlt
              have i1 : (i : Int) ≤ 4194304 := by omega
              have hw1 : wrap64 (-1000 - (i : Int)) = -1000 - (i : Int) := w64 (by omega) (by omega)
              have hw2 : wrap64 (-2000 - (i : Int)) = -2000 - (i : Int) := w64 (by omega) (by omega)
              have hw3 : IntKind.i64.wrap (-1000 - (i : Int)) = -1000 - (i : Int) := (i64_w _).trans hw1
              have hw4 : IntKind.i64.wrap (-2000 - (i : Int)) = -2000 - (i : Int) := (i64_w _).trans hw2
              clear hil hls hx hgd hgs hu0 hlt hih hcell P
              have hmk2 := run_make_row' (P := Try.prog) 22 3 (.int .i64 0) 8 Try.underlying22 info3 rfl .i64 .i64 100 (by omega) (by omega)
              simp only [show ((100 : Nat) : Int) = 100 from rfl] at hmk2
              go_wp2_with (fail)
              have W0s := Q.out.below.size
              obtain ⟨gt, hgt⟩ : ∃ gt, wr.heap.size = gt := ⟨_, rfl⟩
              have QG := Aside0.mk (fun (W' : World) (hb : Below gt wr W') => Q.out.grow (W1 := W') (grown_of_below (by rw [hgt]; exact hb) none))
              have hst : Below gt wr (wr.alloc (.cells (madeCells #[.int .i64 0] 100) 3)) := by rw [← hgt]; exact below_alloc (Below.refl _ _) _
              have hnw : (wr.alloc (.cells (madeCells #[.int .i64 0] 100) 3)).heap[gt]? = some (.cells (madeCells #[.int .i64 0] 100) 3 (0, 0)) := by rw [← hgt]; exact blk_new _ _
              rw [hgt]
              clear hgt Q hmk2
              go_loopg [71] 100 (fun gq v71 wq => ∃ (t : Nat) (arr : Array Value), v71 = .int .i64 t ∧ Aside0 (t ≤ 100) ∧ Aside0 (100 - t ≤ gq) ∧ Aside0 (Below gt wr wq) ∧ Aside0 (wq.heap[gt]? = some (.cells arr 3 (0, 0))) ∧ Aside0 (arr.size = 100) ∧ Aside0 (∀ j, j < t → arr[j]? = some (.int .i64 (-2000 - (i : Int)))))
              case atStart => exact ⟨0, _, rfl, ⟨Nat.zero_le _⟩, ⟨by omega⟩, ⟨hst⟩, ⟨hnw⟩, ⟨by simp [madeCells]⟩, ⟨fun j hj => absurd hj (by omega)⟩⟩
              case round =>
                clear e0 hst hnw
                obtain ⟨t, arr, rfl, HT, HG2, HB, HA, HS, HC2⟩ := hrel
                by_cases ht : t < 100
                · have d1 : decide ((t : Int) < 100) = true := decide_eq_true (by omega)
                  have d2 : (0 : Int) ≤ (t : Int) := Int.natCast_nonneg t
                  have d3 : (t : Int) < 100 := by omega
                  have HTL := Aside0.mk ht
                  obtain ⟨fu, f1⟩ : ∃ u, wr.cell? ⟨gt, t, none⟩ = some u := ⟨_, (blk_cell HA.out t).trans (Array.getElem?_eq_getElem (by have := HS.out; omega))⟩
                  have f2 := blk_frozen HA.out t
                  clear ht
                  go_wp2_with (fail)
                  go_roundg (100 - (t + 1))
                  case measure => have := HG2.out; have := HTL.out; omega
                  case rel => exact ⟨t + 1, arr.setIfInBounds t (.int .i64 (-2000 - (i : Int))), rfl, ⟨by have := HTL.out; omega⟩, ⟨by omega⟩, ⟨HB.out.setCell (Nat.le_refl _) _⟩, ⟨blk_set HA.out t _⟩, ⟨by rw [Array.size_setIfInBounds]; exact HS.out⟩, ⟨fun j hj => by
                      rw [Array.getElem?_setIfInBounds]
                      have := HS.out
                      have := HTL.out
                      by_cases e : t = j
                      · subst e; rw [if_pos rfl, if_pos (by omega)]
                      · rw [if_neg e]; exact HC2.out j (by omega)⟩⟩
                · obtain rfl : t = 100 := by have := HT.out; omega
                  have d1 : decide ((100 : Int) < 100) = false := rfl
                  clear ht
                  have HTC := Aside0.mk (tail_reads HA.out HS.out HC2.out)
                  have Q := Aside0.mk (QG.out _ HB.out)
                  have HRW := Aside0.mk (Q.out.rowi HIL.out HX2.out)
                  go_wp2_with (first
                    | ((with_reducible refine gate_builtin (b := .append) (xs := #[.tmp 82, .tmp 83]) rfl ?_); at_builtin; go_loud (refine Kd.R_app_int (k := .i64) base rfl (.tmp 82) (.tmp 83) 22 3 8 rfl Try.underlying22 info3 (by omega) (.slice A0 q0 c0) (x ++ List.replicate (8 + 0) (-2000 - (i : Int))) (List.replicate 100 (-2000 - (i : Int))) (some ⟨gt, 0, none⟩) 100 100 (fun _ => True) rfl rfl trivial HRW.out ?HR ?base ?hl ?_; (case HR => exact HTC.out); (case base => have := Q.out.below.size; omega); (case hl => have h1 := HYL.out _ (List.mem_of_getElem? HX2.out); simp only [List.length_append, List.length_replicate]; omega); intro v1 w1 hr1 hg1 hat1; have Q1 := Aside0.mk (Q.out.one (a := 100) HIL.out HX2.out hr1 hg1 hat1); obtain ⟨Ar, ql, cr, rfl⟩ : ∃ Ar ql cr, v1 = .slice Ar ql cr := (by obtain ⟨Ar, cr, rfl, -⟩ := Kd.R_reads hr1; exact ⟨_, _, _, rfl⟩); have e1 := (blk_cell Q1.out.more i).trans (Array.getElem?_eq_getElem HGS.out); have e2 := blk_frozen Q1.out.more i; clear hr1 hg1 hat1)))
                  go_roundg (n - (i + 1))
                  case measure => have := HG.out; have := HLT.out; omega
                  case rel => exact ⟨i + 1, hs.set i _, gs.setIfInBounds i _, by go_num, ⟨by have := HLT.out; omega⟩, ⟨by omega⟩, ⟨(Q1.out.cnt_eq (cnt' := fun j => if j = i then 8 + 100 else if j < i then 108 else 8) (fun j _ => by simp)).came rfl⟩, ⟨laid_all HD.out⟩⟩
            · obtain rfl : n = i := by have := HI.out; omega
              have c1 : decide ((n : Int) < (n : Int)) = false := decide_eq_false (by omega)
              clear hlt HG HI
              have P := Aside0.mk (P.out.cnt_eq (cnt' := fun _ => 108) (fun j hj => by have := HNL.out; simp [show j < n from by omega]))
              have HY := Aside0.mk (show ∀ (i : Nat) (x : List Int), i < n → ys[i]? = some x → x = List.replicate x.length (-1000 - (i : Int)) from fun i x hi hx => by
                have h1 := I1.out.done i hi
                have h2 : ys.getD i [] = x := by rw [List.getD_eq_getElem?_getD, hx]; rfl
                rw [h2] at h1
                rw [h1, List.length_replicate])
              clear I1
              go_wp2_with (fail)
              go_loopg [89] n (fun gq v89 wq => ∃ (i : Nat), v89 = .int .i64 i ∧ Aside0 (i ≤ n) ∧ Aside0 (n - i ≤ gq) ∧ Aside0 (Ap2 okr .i64 w wq base 3 22 gm A ls hs ys gs (fun j => -2000 - (j : Int)) (fun _ => 108)))
              case atStart => exact ⟨0, rfl, ⟨Nat.zero_le _⟩, ⟨by omega⟩, P⟩
              case round =>
                clear P
                obtain ⟨i, rfl, HI, HG, P⟩ := hrel
                by_cases hlt : i < n
                · have c1 : decide ((i : Int) < (n : Int)) = true := decide_eq_true (by omega)
                  have c2 : (0 : Int) ≤ (i : Int) := Int.natCast_nonneg i
                  have c3 : (i : Int) < (n : Int) := by omega
                  have hil : i < ls.length := by have := HNL.out; omega
                  obtain ⟨g, Al, cl, x, rfl, hne, hgl, hls, hx, hcell, hgd⟩ := P.out.at_ hil
                  have hih : i < hs.length := by have := P.out.grown.lenh; omega
                  obtain ⟨u0, hu0⟩ : ∃ u0, hs[i]? = some u0 := ⟨_, List.getElem?_eq_getElem hih⟩
                  have hxr := HY.out i x hlt hx
                  obtain ⟨len, hlen⟩ : ∃ len, x.length = len := ⟨_, rfl⟩
                  have hlb : len ≤ 1048576 := by rw [← hlen]; exact HYL.out x (List.mem_of_getElem? hx)
                  rw [hlen] at hxr hls hcell
                  subst hxr
                  clear hlen
                  obtain ⟨ga, c0, rfl, -⟩ := P.out.look hil hu0 hx rfl (t := 0) (by omega)
                  have e0 := (blk_cell P.out.more i).trans ((HD.out i).trans hu0)
                  have HX2 := Aside0.mk hx
                  have HIL := Aside0.mk hil
                  have HU0 := Aside0.mk hu0
                  have HLS := Aside0.mk hls
                  have HLT := Aside0.mk hlt
                  have HLB := Aside0.mk hlb
                  have i1 : (i : Int) ≤ 4194304 := by omega
                  have hw1 : wrap64 (-1000 - (i : Int)) = -1000 - (i : Int) := w64 (by omega) (by omega)
                  have hw2 : wrap64 (-2000 - (i : Int)) = -2000 - (i : Int) := w64 (by omega) (by omega)
                  have hw3 : IntKind.i64.wrap (-1000 - (i : Int)) = -1000 - (i : Int) := (i64_w _).trans hw1
                  have hw4 : IntKind.i64.wrap (-2000 - (i : Int)) = -2000 - (i : Int) := (i64_w _).trans hw2
                  clear hil hls hx hgd hu0 hlt hih hlb
                  go_wp2_with (fail)
                  go_loopg [99] (len + 108) (fun gq v99 wq => ∃ (t : Nat), v99 = .int .i64 t ∧ Aside0 (t ≤ len + 108) ∧ Aside0 (len + 108 - t ≤ gq) ∧ Aside0 (Ap2 okr .i64 w wq base 3 22 gm (some ⟨g, 0, none⟩) ls hs ys gs (fun j => -2000 - (j : Int)) (fun _ => 108)))
                  case atStart => exact ⟨0, rfl, ⟨Nat.zero_le _⟩, ⟨by omega⟩, P⟩
                  case round =>
                    clear P e0 hcell
                    obtain ⟨t, rfl, HT, HG2, P⟩ := hrel
                    by_cases ht : t < len + 108
                    · have d1 : decide ((t : Int) < (len : Int) + 108) = true := decide_eq_true (by omega)
                      have d2 : (0 : Int) ≤ (t : Int) := Int.natCast_nonneg t
                      have d3 : (t : Int) < (len : Int) + 108 := by omega
                      obtain ⟨g', c', e, hc1⟩ := P.out.look HIL.out HU0.out HX2.out rfl ht
                      injection e with e e2 e3
                      injection e with e
                      injection e with e
                      subst e
                      subst e3
                      have HTL := Aside0.mk ht
                      by_cases htl : t < len
                      · have t1 : decide ((t : Int) < (len : Int)) = true := decide_eq_true (by omega)
                        have t2 : decide ((t : Int) ≥ (len : Int)) = false := decide_eq_false (by omega)
                        have t3 : decide ((len : Int) ≤ (t : Int)) = false := decide_eq_false (by omega)
                        have t4 : (t : Int) < (len : Int) := by omega
                        rw [if_pos htl] at hc1
                        obtain ⟨ad, rfl, hc2⟩ := Kd.at_int (P.out.list HLS.out HX2.out) (t : Int) d2 (by simpa using t4)
                        have hrd : rd (List.replicate len (-1000 - (i : Int))) (t : Int) = -1000 - (i : Int) := by simp [rd, List.getD_eq_getElem?_getD, htl]
                        rw [hrd] at hc2
                        simp only [Int.toNat_natCast] at hc2
                        clear ht htl hrd
                        go_wp2_with (fail)
                        go_roundg (len + 108 - (t + 1))
                        case measure => have := HG2.out; have := HTL.out; omega
                        case rel => exact ⟨t + 1, by have := HTL.out; have := HLB.out; rw [w64 (by omega) (by omega)]; rfl, ⟨by have := HTL.out; omega⟩, ⟨by omega⟩, P⟩
                      · have t1 : decide ((t : Int) < (len : Int)) = false := decide_eq_false (by omega)
                        have t2 : decide ((t : Int) ≥ (len : Int)) = true := decide_eq_true (by omega)
                        have t3 : decide ((len : Int) ≤ (t : Int)) = true := decide_eq_true (by omega)
                        have t4 : (len : Int) ≤ (t : Int) := by omega
                        rw [if_neg htl] at hc1
                        clear ht htl
                        go_wp2_with (fail)
                        go_roundg (len + 108 - (t + 1))
                        case measure => have := HG2.out; have := HTL.out; omega
                        case rel => exact ⟨t + 1, by have := HTL.out; have := HLB.out; rw [w64 (by omega) (by omega)]; rfl, ⟨by have := HTL.out; omega⟩, ⟨by omega⟩, P⟩
                    · obtain rfl : t = len + 108 := by have := HT.out; omega
                      have d1 : decide (((len + 108 : Nat) : Int) < (len : Int) + 108) = false := decide_eq_false (by omega)
                      clear ht
                      go_wp2_with (fail)
                      go_roundg (n - (i + 1))
                      case measure => have := HG.out; have := HLT.out; omega
                      case rel => exact ⟨i + 1, by go_num, ⟨by have := HLT.out; omega⟩, ⟨by omega⟩, P⟩
                · obtain rfl : n = i := by have := HI.out; omega
                  have c1 : decide ((n : Int) < (n : Int)) = false := decide_eq_false (by omega)
                  clear hlt
                  go_wp2_with (fail)
                  go_ret
                  exact ⟨rfl, P.out.below, P.out.kept⟩
section
variable {P : Program} {ops : Array Oper} {rest : List Oper} {o : Oper} {a : Act} {Q : Exit → Act → World → Prop} {Kc : Act → World → Prop}
/-- A literal, told by its cells. -/
theorem cells_lit {W : World} (base e : Nat) (hgd : o.guard = none) {N : Tmp} (_hd : o.dst = some N) {inner : List Value} (hrun : (execOp a.eval o).run P W = .ok (.value (.slice (some ⟨W.heap.size, 0, none⟩) inner.length inner.length)) (W.alloc (.cells inner.toArray e)))
    (hbase : base ≤ W.heap.size) (hm : inner.length ≤ 9223372036854775807)
    (h : ∀ v1 w1, w1.ownsRow base e 1 v1 inner.length inner → W.grownBy w1 none → v1.ownBlock = some W.heap.size → wpList P ops Q rest (a.put o.dst v1) w1) : wpList P ops Q (o :: rest) a W := by
  refine Kd.event_run hgd hrun (h _ _ ?_ (World.grownBy_alloc W _ none) (by simp [Value.ownBlock]))
  have h2 := World.ownsRow_lit (base := base) (e := e) (size := 1) W inner.toArray inner.length hbase (by simpa [maxLen] using hm) (by simp)
  simpa using h2
/-- An append, told by its cells. -/
theorem wp_cells_app {W : World} (base : Nat) (s x : Operand) (t e : TypeId) (z : Value) (bytes : Nat)
    (ho : o.op = .call { callee := .builtin .append, args := #[s, x], argTypes := #[t, t] })
    (ht : P.underlying t = some (.slice e)) (hinfo : (P.info? e).map (fun i => (i.zero, i.size, i.bytes)) = some (some z, 1, bytes)) (hzs : z.cells.size = 1) (hb0 : 0 < bytes)
    (v : Value) (xs ys : List Value) (A : Option Addr) (m c : Nat) (hs : a.eval s = v) (hx : a.eval x = .slice A m c) (HO : W.ownsRow base e 1 v xs.length xs) (hm : ys.length = m)
    (hy : ∀ j u, ys[j]? = some u → ∃ g, A = some ⟨g, 0, none⟩ ∧ W.cell? ⟨g, j, none⟩ = some u) (h1 : ∀ u ∈ ys, u.oneCell' = true) (hbase : base ≤ W.heap.size) (hl : (xs.length + m) * bytes ≤ 140737488355328)
    (h : ∀ v1 w1, w1.ownsRow base e 1 v1 (xs.length + m) (xs ++ ys) → W.grownBy w1 v.ownBlock → (v1.ownBlock = v.ownBlock ∨ (v1.ownBlock = some W.heap.size ∧ W.grownBy w1 none)) → Kc (a.put o.dst v1) w1) : o.wp P a W Kc Q := by
  obtain ⟨i0, hi, hzz⟩ := Option.map_eq_some_iff.1 hinfo
  simp only [Prod.mk.injEq] at hzz
  obtain ⟨hz0, hz1, hz2⟩ := hzz
  have hlen : xs.length + m ≤ 140737488355328 := Nat.le_trans (Nat.le_mul_of_pos_right _ hb0) hl
  obtain ⟨v1, w1, hr, h2, h3, h5⟩ : ∃ v1 w1, (Builtin.append_ #[t, t] o.type #[v, .slice A m c]).run P W = .ok v1 w1 ∧ w1.ownsRow base e 1 v1 (xs.length + m) (xs ++ ys) ∧ W.grownBy w1 v.ownBlock ∧ (v1.ownBlock = v.ownBlock ∨ (v1.ownBlock = some W.heap.size ∧ W.grownBy w1 none)) := by
    rcases A with _ | ad
    · obtain rfl : ys = [] := by
        cases ys with
        | nil => rfl
        | cons y ys => obtain ⟨g, e, -⟩ := hy 0 y rfl; cases e
      obtain rfl : m = 0 := by simpa using hm.symm
      refine ⟨v, W, ?_, by simpa using HO, World.grownBy.refl W _, .inl rfl⟩
      rcases HO.2 with ⟨rfl, hn⟩ | ⟨g, cap, cur, rfl, _, _, hnc, _⟩
      · simp [Builtin.append_, run_underlying ht, sizeOf, typeInfo, hi, Builtin.lenOf, Builtin.firstCells]
      · simp [Builtin.append_, run_underlying ht, sizeOf, typeInfo, hi, Builtin.lenOf, Builtin.firstCells, hnc, storeCells]
    · refine run_append_keep (P := P) W base t o.type e i0 z bytes ht hi hz0 hz1 hz2 hzs v xs.length xs HO ad m c ys (by omega) ?_ h1 (by simp only [maxLen]; omega) hl hbase
      intro j u hu
      obtain ⟨g, e, hc⟩ := hy j u hu
      injection e with e
      subst e
      rw [show ((⟨g, 0, none⟩ : Addr).add j) = ⟨g, j, none⟩ from by simp [Addr.add]; omega]
      exact hc
  unfold Oper.wp execOp
  simp only [ho, resolve, invoke, builtin, Sem.run_bind, Sem.run_pure, Result.andThen_ok, List.map_toArray, List.map_cons, List.map_nil, hs, hx, hr]
  exact h v1 w1 h2 h3 h5
/-- An append, told by its cells. -/
theorem cells_app {W : World} (base : Nat) (hgd : o.guard = none) (s x : Operand) (t e : TypeId) (z : Value) (bytes : Nat)
    (ho : o.op = .call { callee := .builtin .append, args := #[s, x], argTypes := #[t, t] })
    (ht : P.underlying t = some (.slice e)) (hinfo : (P.info? e).map (fun i => (i.zero, i.size, i.bytes)) = some (some z, 1, bytes)) (hzs : z.cells.size = 1) (hb0 : 0 < bytes)
    (v : Value) (xs ys : List Value) (A : Option Addr) (m c : Nat) (hs : a.eval s = v) (hx : a.eval x = .slice A m c) (HO : W.ownsRow base e 1 v xs.length xs) (hm : ys.length = m)
    (hy : ∀ j u, ys[j]? = some u → ∃ g, A = some ⟨g, 0, none⟩ ∧ W.cell? ⟨g, j, none⟩ = some u) (h1 : ∀ u ∈ ys, u.oneCell' = true) (hbase : base ≤ W.heap.size) (hl : (xs.length + m) * bytes ≤ 140737488355328)
    (h : ∀ v1 w1, w1.ownsRow base e 1 v1 (xs.length + m) (xs ++ ys) → W.grownBy w1 v.ownBlock → (v1.ownBlock = v.ownBlock ∨ (v1.ownBlock = some W.heap.size ∧ W.grownBy w1 none)) → wpList P ops Q rest (a.put o.dst v1) w1) : wpList P ops Q (o :: rest) a W :=
  wpList_plain hgd fun K hK => wp_cells_app base s x t e z bytes ho ht hinfo hzs hb0 v xs ys A m c hs hx HO hm hy h1 hbase hl (fun v1 w1 h2 h3 h5 => hK _ _ (h v1 w1 h2 h3 h5))
/-- The same inside a region that draws its order. -/
theorem step_cells_app {E : Prop} {W : World} (base : Nat) (hw : Region.wanted o (yielded ops a.tmps) = true) (s x : Operand) (t e : TypeId) (z : Value) (bytes : Nat)
    (ho : o.op = .call { callee := .builtin .append, args := #[s, x], argTypes := #[t, t] })
    (ht : P.underlying t = some (.slice e)) (hinfo : (P.info? e).map (fun i => (i.zero, i.size, i.bytes)) = some (some z, 1, bytes)) (hzs : z.cells.size = 1) (hb0 : 0 < bytes)
    (v : Value) (xs ys : List Value) (A : Option Addr) (m c : Nat) (hs : a.eval s = v) (hx : a.eval x = .slice A m c) (HO : W.ownsRow base e 1 v xs.length xs) (hm : ys.length = m)
    (hy : ∀ j u, ys[j]? = some u → ∃ g, A = some ⟨g, 0, none⟩ ∧ W.cell? ⟨g, j, none⟩ = some u) (h1 : ∀ u ∈ ys, u.oneCell' = true) (hbase : base ≤ W.heap.size) (hl : (xs.length + m) * bytes ≤ 140737488355328)
    (h : ∀ v1 w1, w1.ownsRow base e 1 v1 (xs.length + m) (xs ++ ys) → W.grownBy w1 v.ownBlock → (v1.ownBlock = v.ownBlock ∨ (v1.ownBlock = some W.heap.size ∧ W.grownBy w1 none)) → Kc (a.put o.dst v1) w1) :
    if Region.wanted o (yielded ops a.tmps) = true then Oper.wp P o a W Kc Q else E := by
  rw [if_pos hw]
  exact wp_cells_app base s x t e z bytes ho ht hinfo hzs hb0 v xs ys A m c hs hx HO hm hy h1 hbase hl h
end
section
variable {k : IntKind} {W W1 : World} {base T e n c : Nat} {okr ok1 ok2 : Nat → Prop} {ls ls' : List Value} {xs xs' : List (List Int)} {v : Value} {x : List Int} {A : Option Addr} {inner : List Value}
/-- Cells of a row of one's own, as 'apart' reads them. -/
theorem own_cells (h : W.ownsRow base e 1 v n inner) : ∃ A c, v = .slice A n c ∧ n = inner.length ∧ n ≤ c ∧ (∀ g, A = some ⟨g, 0, none⟩ → base ≤ g ∧ g < W.heap.size) ∧ ∀ (j : Nat) (u : Value), inner[j]? = some u → ∃ g, A = some ⟨g, 0, none⟩ ∧ W.cell? ⟨g, j, none⟩ = some u := by
  have hl := h.1
  rcases h.2 with ⟨rfl, rfl⟩ | ⟨g, cap, cur, rfl, hbg, hg, hnc, hcm, hcs, htake⟩
  · refine ⟨none, 0, rfl, by simpa using hl.symm, Nat.le_refl _, fun g e => (by cases e), fun j u hu => ?_⟩
    have : inner = [] := List.eq_nil_of_length_eq_zero (by simpa using hl)
    subst this
    simp at hu
  · refine ⟨_, cap, rfl, by simpa using hl.symm, hnc, ?_, ?_⟩
    · intro g' e
      injection e with e
      injection e with e
      subst e
      exact ⟨hbg, blk_lt hg⟩
    · intro j u hu
      refine ⟨g, rfl, ?_⟩
      have := World.ownsRow.cells h (g := g) rfl j u hu
      rwa [show ((⟨g, 0, none⟩ : Addr).add j) = ⟨g, j, none⟩ from by simp [Addr.add]; omega] at this
theorem Lists.mono (h : Lists k W base T ok1 ls xs) (hm : ∀ b, ok1 b → ok2 b) : Lists k W base T ok2 ls xs :=
  ⟨h.len, fun j v x hv hx => Kd.R_mono (h.row j v x hv hx) hm, h.two⟩
theorem Lists.step (h : Lists k W base T okr ls xs) (hs : ∀ b, okr b → b < W.heap.size → W1.heap[b]? = W.heap[b]?) : Lists k W1 base T okr ls xs :=
  ⟨h.len, fun j v x hv hx => Kd.R_step (h.row j v x hv hx) hs, h.two⟩
theorem Lists.nil (k : IntKind) (W : World) (base T : Nat) (okr : Nat → Prop) : Lists k W base T okr [] [] := ⟨rfl, fun j v x hv => by simp at hv, fun i j u v _ hu => by simp at hu⟩
theorem Lists.cons (h : Lists k W base T okr ls xs) (hr : Kd.R (Kd.int k) T W base okr v x) (ha : ∀ u, u ∈ ls → ∀ b, v.ownBlock = some b → u.ownBlock ≠ some b) : Lists k W base T okr (v :: ls) (x :: xs) := by
  refine ⟨by simp [h.len], ?_, ?_⟩
  · intro j v' x' hv hx
    cases j with
    | zero =>
      simp only [List.getElem?_cons_zero, Option.some.injEq] at hv hx
      rw [← hv, ← hx]
      exact hr
    | succ j => exact h.row j v' x' (by simpa using hv) (by simpa using hx)
  · intro i j u v' hij hu hv b hb hb2
    cases i with
    | zero =>
      simp only [List.getElem?_cons_zero, Option.some.injEq] at hu
      subst hu
      cases j with
      | zero => exact hij rfl
      | succ j => exact ha v' (List.mem_of_getElem? (show ls[j]? = some v' by simpa using hv)) b hb hb2
    | succ i =>
      cases j with
      | zero =>
        simp only [List.getElem?_cons_zero, Option.some.injEq] at hv
        subst hv
        exact ha u (List.mem_of_getElem? (show ls[i]? = some u by simpa using hu)) b hb2 hb
      | succ j => exact h.two i j u v' (by omega) (by simpa using hu) (by simpa using hv) b hb hb2
/-- Lists whose rows lie in two far stretches. -/
theorem Lists.append (h : Lists k W base T ok1 ls xs) (h' : Lists k W base T ok2 ls' xs') (hf : ∀ b, ok1 b → ¬ ok2 b) : Lists k W base T (fun b => ok1 b ∨ ok2 b) (ls ++ ls') (xs ++ xs') := by
  have hl := h.len
  have in1 : ∀ (j : Nat) (u : Value), ls[j]? = some u → ∀ b, u.ownBlock = some b → ok1 b := fun j u hu => by
    have hj := (List.getElem?_eq_some_iff.1 hu).1
    exact (h.row j u _ hu (List.getElem?_eq_getElem (by omega))).1
  have in2 : ∀ (j : Nat) (u : Value), ls'[j]? = some u → ∀ b, u.ownBlock = some b → ok2 b := fun j u hu => by
    have hj := (List.getElem?_eq_some_iff.1 hu).1
    exact (h'.row j u _ hu (List.getElem?_eq_getElem (by have := h'.len; omega))).1
  refine ⟨by simp [h.len, h'.len], ?_, ?_⟩
  · intro j v x hv hx
    rw [List.getElem?_append] at hv hx
    by_cases hj : j < ls.length
    · rw [if_pos hj] at hv
      rw [if_pos (by omega)] at hx
      exact Kd.R_mono (h.row j v x hv hx) (fun b hb => .inl hb)
    · rw [if_neg hj] at hv
      rw [if_neg (by omega), ← hl] at hx
      exact Kd.R_mono (h'.row _ v x hv hx) (fun b hb => .inr hb)
  · intro i j u v hij hu hv b hb hb2
    rw [List.getElem?_append] at hu hv
    by_cases hi : i < ls.length
    · rw [if_pos hi] at hu
      by_cases hj : j < ls.length
      · rw [if_pos hj] at hv
        exact h.two i j u v hij hu hv b hb hb2
      · rw [if_neg hj] at hv
        exact hf b (in1 i u hu b hb) (in2 _ v hv b hb2)
    · rw [if_neg hi] at hu
      by_cases hj : j < ls.length
      · rw [if_pos hj] at hv
        exact hf b (in1 j v hv b hb2) (in2 _ u hu b hb)
      · rw [if_neg hj] at hv
        exact h'.two _ _ u v (by omega) hu hv b hb hb2
end
/-- A row of numbers whose block lies from lo on, ahead of hi. -/
def RB (W : World) (lo hi : Nat) (v : Value) (xs : List Int) : Prop := Kd.R (Kd.int .i64) 3 W lo (fun k => lo ≤ k ∧ k < hi) v xs
section
variable {w W W1 : World} {lo hi lo2 hi2 : Nat} {v : Value} {xs : List Int} {ls : List Value} {xss : List (List Int)}
theorem RB.made {w' : World} (h : Kd.R (Kd.int .i64) 3 w' w.heap.size (fun _ => True) v xs) : RB w' w.heap.size w'.heap.size v xs := Kd.R_mono (Kd.R_bound h) (fun k hk => ⟨hk.2.1, hk.2.2.1⟩)
theorem RB.below (h : RB W lo hi v xs) (hb : Below W.heap.size W W1) : RB W1 lo hi v xs := Kd.R_step h (fun k _ hlt => hb.block k hlt)
theorem RB.keep {B : Nat} (h : RB W lo hi v xs) (hb : Below B W W1) (hh : hi ≤ B) : RB W1 lo hi v xs := Kd.R_step h (fun k hk _ => hb.block k (by have := hk.2; omega))
theorem RB.lit (h : RB W lo hi v xs) : ∃ A c, v = .slice A xs.length c := by
  obtain ⟨A, c, rfl, -⟩ := Kd.R_reads h
  exact ⟨_, _, rfl⟩
theorem RB.reads {A : Option Addr} {n c : Nat} (h : RB W lo hi (.slice A n c) xs) : Kd.C (Kd.int .i64) W A xs.length xs ∧ xs.length ≤ c := by
  obtain ⟨rfl, a, b⟩ := Kd.R_reads' h
  exact ⟨b, a⟩
theorem Lists.consB {base : Nat} (h : Lists .i64 W base 3 (fun k => lo2 ≤ k ∧ k < hi2) ls xss) (r : RB W lo hi v xs) (h1 : hi ≤ lo2) (h2 : lo ≤ hi) (h3 : hi ≤ hi2) (hb : base ≤ lo) : Lists .i64 W base 3 (fun k => lo ≤ k ∧ k < hi2) (v :: ls) (xs :: xss) := by
  have hm : Lists .i64 W base 3 (fun k => lo ≤ k ∧ k < hi2) ls xss := h.mono (fun b hb => ⟨by have := hb.1; omega, hb.2⟩)
  refine hm.cons (Kd.R_lower (Kd.R_mono r (fun k hk => ⟨hk.1, by have := hk.2; omega⟩)) hb) (fun u hu b hv hu2 => ?_)
  obtain ⟨j, hj, e⟩ := List.mem_iff_getElem.1 hu
  have := (h.row j u _ (by rw [List.getElem?_eq_getElem hj, e]) (List.getElem?_eq_getElem (by rw [← h.len]; exact hj))).1 b hu2
  have h4 := (r.1 b hv).2
  have h5 := this.1
  omega
end
theorem same12_calls (k : Nat) (A0 : Option Addr) (c0 : Nat) (l0 : List Int) (A1 : Option Addr) (c1 : Nat) (l1 : List Int) (w : World) (hr0 : Kd.C (Kd.int .i64) w A0 l0.length l0 ∧ l0.length ≤ c0) (hr1 : Kd.C (Kd.int .i64) w A1 l1.length l1 ∧ l1.length ≤ c1) (h : churnlaw12_same.f k l0 l1 = some true) :
    Calls Try.prog 21 #[.slice A0 l0.length c0, .slice A1 l1.length c1] w fun e w' => e = .returned (.bool true) ∧ Below w.heap.size w w' := by
  refine (churnlaw12_same.calls k A0 c0 l0 A1 c1 l1 true w hr0.1 hr0.2 hr1.1 hr1.2 h).mono ?_
  rintro e w' ⟨rfl, ⟨q, rfl⟩⟩
  exact ⟨rfl, pw_below_drewN (Below.refl _ _) q⟩
set_option maxHeartbeats 1000000 in
set_option maxRecDepth 100000 in
theorem sizes_calls (n c : Int) (k1 k2 k3 k4 k5 k6 k7 : Nat) (S Bd : List Int) (er : Int) (w : World)
    (hk1 : braid_Sizes.f k1 n c = some (S, er)) (hk2 : churnref12_Sizes.f k2 n c = some (S, er)) (hk3 : churnref12_Bounds.f k3 n = some Bd) (hk4 : braid_Bounds.f k4 n = some Bd) (hk5 : churnlaw12_same.f k5 S S = some true) (hk6 : churnlaw12_same.f k6 Bd Bd = some true) (hk7 : churnlaw12_awake.f k7 = some true)
    (hs : S.length ≤ 1048576) (hbd : Bd.length ≤ 1048576) :
    Calls Try.prog 4 #[.int .i64 n, .int .i64 c] w fun e w' => e = .returned (.bool true) ∧ Below w.heap.size w w' := by
  have HK1 := Aside0.mk hk1
  have HK2 := Aside0.mk hk2
  have HK3 := Aside0.mk hk3
  have HK4 := Aside0.mk hk4
  have HK5 := Aside0.mk hk5
  have HK6 := Aside0.mk hk6
  have HK7 := Aside0.mk hk7
  have HS := Aside0.mk hs
  have HBD := Aside0.mk hbd
  clear hk1 hk2 hk3 hk4 hk5 hk6 hk7 hs hbd
  go_enter Try.func4, Try.ntmps4
  go_wp2_with (fail)
  with_reducible refine (churnlaw12_awake.calls k7 true w HK7.out).mono ?_
  rintro e w1 ⟨rfl, hb1⟩
  have HB1 := Aside0.mk hb1
  clear hb1
  go_wp2_with (fail)
  with_reducible refine (churnref12_Sizes.calls k2 n c S er w1 HK2.out).mono ?_
  rintro e w2 ⟨q0, rfl, hq, hb⟩
  have RW := Aside0.mk (RB.made hq)
  have HB2 := Aside0.mk (below_step HB1.out hb)
  have Z2 := Aside0.mk hb.size
  clear hq hb
  obtain ⟨Q0, cq0, rfl⟩ := RW.out.lit
  go_wp2_with (fail)
  with_reducible refine (churnref12_Bounds.calls k3 n Bd w2 HK3.out).mono ?_
  rintro e w3 ⟨q1, rfl, hq, hb⟩
  have RD := Aside0.mk (RB.made hq)
  have RW := Aside0.mk (RW.out.below hb)
  have HB3 := Aside0.mk (below_step HB2.out hb)
  have Z3 := Aside0.mk hb.size
  clear hq hb
  obtain ⟨Q1, cq1, rfl⟩ := RD.out.lit
  go_wp2_with (fail)
  with_reducible refine (braid_Sizes.calls k1 n c S er w3 HK1.out).mono ?_
  rintro e w4 ⟨q2, rfl, hq, hb⟩
  have Ra := Aside0.mk (RB.made hq)
  have RW := Aside0.mk (RW.out.below hb)
  have RD := Aside0.mk (RD.out.below hb)
  have HB4 := Aside0.mk (below_step HB3.out hb)
  have Z4 := Aside0.mk hb.size
  clear hq hb
  obtain ⟨A4, c4, rfl⟩ := Ra.out.lit
  go_wp2_with (fail)
  with_reducible refine (braid_Sizes.calls k1 n c S er w4 HK1.out).mono ?_
  rintro e w5 ⟨q3, rfl, hq, hb⟩
  have Rb := Aside0.mk (RB.made hq)
  have Ra := Aside0.mk (Ra.out.below hb)
  have RW := Aside0.mk (RW.out.below hb)
  have RD := Aside0.mk (RD.out.below hb)
  have HB5 := Aside0.mk (below_step HB4.out hb)
  have Z5 := Aside0.mk hb.size
  clear hq hb
  obtain ⟨A5, c5, rfl⟩ := Rb.out.lit
  go_wp2_with (fail)
  with_reducible refine (braid_Bounds.calls k4 n Bd w5 HK4.out).mono ?_
  rintro e w6 ⟨q4, rfl, hq, hb⟩
  have Rc := Aside0.mk (RB.made hq)
  have Rb := Aside0.mk (Rb.out.below hb)
  have Ra := Aside0.mk (Ra.out.below hb)
  have RW := Aside0.mk (RW.out.below hb)
  have RD := Aside0.mk (RD.out.below hb)
  have HB6 := Aside0.mk (below_step HB5.out hb)
  have Z6 := Aside0.mk hb.size
  clear hq hb
  obtain ⟨A6, c6, rfl⟩ := Rc.out.lit
  go_wp2_with (fail)
  with_reducible refine (braid_Bounds.calls k4 n Bd w6 HK4.out).mono ?_
  rintro e w7 ⟨q5, rfl, hq, hb⟩
  have Rd := Aside0.mk (RB.made hq)
  have Rc := Aside0.mk (Rc.out.below hb)
  have Rb := Aside0.mk (Rb.out.below hb)
  have Ra := Aside0.mk (Ra.out.below hb)
  have RW := Aside0.mk (RW.out.below hb)
  have RD := Aside0.mk (RD.out.below hb)
  have HB7 := Aside0.mk (below_step HB6.out hb)
  have Z7 := Aside0.mk hb.size
  clear hq hb HB1 HB2 HB4 HB5 HB6
  obtain ⟨A7, c7, rfl⟩ := Rd.out.lit
  obtain ⟨h7, hh7⟩ : ∃ h7, w7.heap.size = h7 := ⟨_, rfl⟩
  rw [hh7] at Rd Z7
  have Y7 := Aside0.mk (show h7 ≤ w7.heap.size by omega)
  clear hh7
  go_wp2_with (fail)
  with_reducible refine (same12_calls k5 _ _ _ _ _ _ w7 Ra.out.reads RW.out.reads HK5.out).mono ?_
  rintro e w8 ⟨rfl, hb⟩
  have Ra := Aside0.mk (Ra.out.below hb)
  have Rb := Aside0.mk (Rb.out.below hb)
  have Rc := Aside0.mk (Rc.out.below hb)
  have Rd := Aside0.mk (Rd.out.below hb)
  have RW := Aside0.mk (RW.out.below hb)
  have RD := Aside0.mk (RD.out.below hb)
  have HB7 := Aside0.mk (below_step HB7.out hb)
  have Y7 := Aside0.mk (Nat.le_trans Y7.out hb.size)
  clear hb
  go_wp2_with (fail)
  with_reducible refine (same12_calls k5 _ _ _ _ _ _ w8 Rb.out.reads RW.out.reads HK5.out).mono ?_
  rintro e w9 ⟨rfl, hb⟩
  have Ra := Aside0.mk (Ra.out.below hb)
  have Rb := Aside0.mk (Rb.out.below hb)
  have Rc := Aside0.mk (Rc.out.below hb)
  have Rd := Aside0.mk (Rd.out.below hb)
  have RW := Aside0.mk (RW.out.below hb)
  have RD := Aside0.mk (RD.out.below hb)
  have HB7 := Aside0.mk (below_step HB7.out hb)
  have Y7 := Aside0.mk (Nat.le_trans Y7.out hb.size)
  clear hb
  go_wp2_with (fail)
  with_reducible refine (same12_calls k6 _ _ _ _ _ _ w9 Rc.out.reads RD.out.reads HK6.out).mono ?_
  rintro e w10 ⟨rfl, hb⟩
  have Ra := Aside0.mk (Ra.out.below hb)
  have Rb := Aside0.mk (Rb.out.below hb)
  have Rc := Aside0.mk (Rc.out.below hb)
  have Rd := Aside0.mk (Rd.out.below hb)
  have RW := Aside0.mk (RW.out.below hb)
  have RD := Aside0.mk (RD.out.below hb)
  have HB7 := Aside0.mk (below_step HB7.out hb)
  have Y7 := Aside0.mk (Nat.le_trans Y7.out hb.size)
  clear hb
  go_wp2_with (fail)
  with_reducible refine (same12_calls k6 _ _ _ _ _ _ w10 Rd.out.reads RD.out.reads HK6.out).mono ?_
  rintro e w11 ⟨rfl, hb⟩
  have Ra := Aside0.mk (Ra.out.below hb)
  have Rb := Aside0.mk (Rb.out.below hb)
  have Rc := Aside0.mk (Rc.out.below hb)
  have Rd := Aside0.mk (Rd.out.below hb)
  have RW := Aside0.mk (RW.out.below hb)
  have RD := Aside0.mk (RD.out.below hb)
  have HB7 := Aside0.mk (below_step HB7.out hb)
  have Y7 := Aside0.mk (Nat.le_trans Y7.out hb.size)
  clear hb
  go_wp2_with ((with_reducible refine gate_dst (N := 77) rfl ?_); (try (refine gate_guard (by rfl) ?_; dsimp only)); go_loud (refine cells_lit w11.heap.size 22 ?hg (N := 77) ?hd (inner := [.slice A4 S.length c4, .slice A5 S.length c5, .slice A6 Bd.length c6, .slice A7 Bd.length c7]) ?hr (Nat.le_refl _) (by simp) ?_; (case hd => rfl); (case hg => rfl); (case hr => first | (go_simp; done) | (go_simp; rfl)); intro v77 w77 ho77 hg77 he77; obtain ⟨A77, c77, rfl, -, -, hbs77, hc77⟩ := own_cells ho77; have HC77 := Aside0.mk hc77; have HS77 := Aside0.mk hbs77; have HG77 := Aside0.mk (Below.grown (Below.refl w11.heap.size w11) hg77 (Nat.le_refl _) (fun k hk => by cases hk)); clear ho77 hg77 he77 hc77 hbs77))
  have z4 := Z4.out
  have z5 := Z5.out
  have z6 := Z6.out
  have z7 := Z7.out
  have y7 := Y7.out
  have g77 := HG77.out.size
  have LL := ((((Lists.nil .i64 w77 w3.heap.size 3 (fun k => h7 ≤ k ∧ k < h7)).consB (Rd.out.below HG77.out) (by omega) (by omega) (by omega) (by omega)).consB (Rc.out.below HG77.out) (by omega) (by omega) (by omega) (by omega)).consB (Rb.out.below HG77.out) (by omega) (by omega) (by omega) (by omega)).consB (Ra.out.below HG77.out) (by omega) (by omega) (by omega) (by omega)
  have hap := apart_calls A77 4 c77 w3.heap.size _ _ _ w77 LL rfl HC77.out (fun g e hg => by have h1 := (HS77.out g e).1; have h2 := hg.2; omega) (by omega) (by omega) (fun x hx => by
    simp only [List.mem_cons, List.not_mem_nil, or_false] at hx
    rcases hx with rfl | rfl | rfl | rfl
    · exact HS.out
    · exact HS.out
    · exact HBD.out
    · exact HBD.out)
  with_reducible refine hap.mono ?_
  rintro e w78 ⟨rfl, hb78, -⟩
  have RW := Aside0.mk ((RW.out.below HG77.out).keep hb78 (Nat.le_trans Z3.out (Nat.le_refl _)))
  have RD := Aside0.mk ((RD.out.below HG77.out).keep hb78 (Nat.le_refl _))
  have HB8 := Aside0.mk ((below_step HB7.out HG77.out).trans (hb78.mono (show w.heap.size ≤ w3.heap.size from HB3.out.size)))
  clear LL hap Ra Rb Rc Rd HC77 HS77 HG77 hb78 HB7 HB3 z4 z5 z6 z7 y7 g77
  go_wp2_with (fail)
  with_reducible refine (braid_Sizes.calls k1 n c S er w78 HK1.out).mono ?_
  rintro e w79 ⟨q6, rfl, hq, hb⟩
  have Ra := Aside0.mk (RB.made hq)
  have RW := Aside0.mk (RW.out.below hb)
  have RD := Aside0.mk (RD.out.below hb)
  have HB8 := Aside0.mk (below_step HB8.out hb)
  clear hq hb
  obtain ⟨A9, c9, rfl⟩ := Ra.out.lit
  go_wp2_with (fail)
  with_reducible refine (same12_calls k5 _ _ _ _ _ _ w79 Ra.out.reads RW.out.reads HK5.out).mono ?_
  rintro e w80 ⟨rfl, hb⟩
  have RD := Aside0.mk (RD.out.below hb)
  have HB8 := Aside0.mk (below_step HB8.out hb)
  clear hb
  go_wp2_with (fail)
  with_reducible refine (braid_Bounds.calls k4 n Bd w80 HK4.out).mono ?_
  rintro e w81 ⟨q7, rfl, hq, hb⟩
  have Rc := Aside0.mk (RB.made hq)
  have RD := Aside0.mk (RD.out.below hb)
  have HB8 := Aside0.mk (below_step HB8.out hb)
  clear hq hb
  obtain ⟨A10, c10, rfl⟩ := Rc.out.lit
  go_wp2_with (fail)
  with_reducible refine (same12_calls k6 _ _ _ _ _ _ w81 Rc.out.reads RD.out.reads HK6.out).mono ?_
  rintro e w82 ⟨rfl, hb⟩
  have HB8 := Aside0.mk (below_step HB8.out hb)
  clear hb
  go_wp2_with (fail)
  go_ret
  exact ⟨rfl, HB8.out⟩
end
/-- The program's and the document's answers are the same, and small. -/
def churnlaw12_BraidSizes.Told (a0 a1 : Int) : Prop := ∃ (k1 k2 k3 k4 k5 k6 k7 : Nat) (S Bd : List Int) (er : Int), braid_Sizes.f k1 a0 a1 = some (S, er) ∧ churnref12_Sizes.f k2 a0 a1 = some (S, er) ∧ churnref12_Bounds.f k3 a0 = some Bd ∧ braid_Bounds.f k4 a0 = some Bd ∧ churnlaw12_same.f k5 S S = some true ∧ churnlaw12_same.f k6 Bd Bd = some true ∧ churnlaw12_awake.f k7 = some true ∧ S.length ≤ 1048576 ∧ Bd.length ≤ 1048576
noncomputable section
open Classical in
def churnlaw12_BraidSizes.f (a0 : Int) (a1 : Int) : Option (Bool) := if churnlaw12_BraidSizes.Told a0 a1 then some true else none
end
theorem churnlaw12_BraidSizes.calls (a0 : Int) (a1 : Int) (r : Bool) (w : World) (hr_ : r = true) (h : churnlaw12_BraidSizes.f a0 a1 = some r) :
    Calls Try.prog 4 #[.int .i64 a0, .int .i64 a1] w fun e w' => e = .returned (.bool r) ∧ Below w.heap.size w w' := by
  subst hr_
  unfold churnlaw12_BraidSizes.f at h
  by_cases hc : churnlaw12_BraidSizes.Told a0 a1
  · obtain ⟨k1, k2, k3, k4, k5, k6, k7, S, Bd, er, h1, h2, h3, h4, h5, h6, h7, h8, h9⟩ := hc
    exact sizes_calls a0 a1 k1 k2 k3 k4 k5 k6 k7 S Bd er w h1 h2 h3 h4 h5 h6 h7 h8 h9
  · rw [if_neg hc] at h
    cases h

end Go.Proofs.Ytiefmocfgneldaa.Q
