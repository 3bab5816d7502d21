/- Functions of the program as plain Lean functions, each with a proof that its call comes to just these answers, or the row that joins them to the given statement; no condition beside the statement's own. Written for this claim by pf.py, this session's program over the kit's print. -/
import Derived.Test.YtangepklgeikkaaQx0
import Derived.Test.YtangepklgeikkaaQx1
import Derived.Test.YtangepklgeikkaaQx3
import Derived.Test.YtangepklgeikkaaQx6
import Derived.Test.YtangepklgeikkaaQx7
import Derived.Test.YtangepklgeikkaaQx8
import Derived.Test.YtangepklgeikkaaQx9
import Derived.Test.YtangepklgeikkaaQx10
namespace Go.Proofs.Ytangepklgeikkaa.Q
open Go.RowKit Go.Proofs.YtangepklgeikkaaW.PrintWords Go.Proofs.YtangepklgeikkaaW.PrintLast Go.Proofs.YtangepklgeikkaaW.PrintMore
attribute [local go_sem] max2_int min2_int max_two min_two max_three min_three max_four min_four   -- for this text's walks alone
set_option linter.unusedVariables false
set_option linter.unusedSimpArgs false

/-! ### churnlaw09_TapeSplits: function 5 -/
/- own text -/
section
open Go.Proofs.Ytangepklgeikkaa.Pl
section
variable {W W1 : World} {base T n cl : Nat} {k : IntKind} {g v v1 : Value} {xs ys x y zs : List Int} {ok ok' : Nat → Prop} {Al : Option Addr}
/-- Two rows that begin in one block begin at one address. -/
theorem apt_addr (h : Kd.R (Kd.int k) T W base ok v xs) (h1 : Kd.R (Kd.int k) T W1 base ok' v1 ys) (e : v1.ownBlock = v.ownBlock) : ∃ A n c n' c', v = .slice A n c ∧ v1 = .slice A n' c' := by
  obtain ⟨A, c, rfl, -⟩ := Kd.R_reads h
  obtain ⟨A', c', rfl, -⟩ := Kd.R_reads h1
  refine ⟨A, xs.length, c, ys.length, c', rfl, ?_⟩
  cases A with
  | none => cases A' with
    | none => rfl
    | some b => simp [Value.ownBlock] at e
  | some a => cases A' with
    | none => simp [Value.ownBlock] at e
    | some b =>
      obtain ⟨p, rfl⟩ := Kd.R_head h
      obtain ⟨q, rfl⟩ := Kd.R_head h1
      simp only [Value.ownBlock, Option.some.injEq] at e
      rw [e]
/-- g was grown out of the list at Al: it lies there still, or the list lies apart from it. -/
structure LG (k : IntKind) (W : World) (base T : Nat) (Al : Option Addr) (g : Value) (x y : List Int) : Prop where
  row : Kd.R (Kd.int k) T W base (fun _ => True) g (x ++ y)
  was : (∃ n c, g = .slice Al n c) ∨ Kd.F (Kd.int k) W (fun b => some b ≠ g.ownBlock ∧ Al.map (·.block) = some b) Al x.length x
theorem LG.start (h : Kd.R (Kd.int k) T W base ok (.slice Al n cl) x) : LG k W base T Al (.slice Al n cl) x [] :=
  ⟨by rw [List.append_nil]; exact Kd.R_mono h (fun _ _ => trivial), .inl ⟨_, _, rfl⟩⟩
theorem LG.app (h : LG k W base T Al g x y) (hr : Kd.R (Kd.int k) T W1 base (fun _ => True) v1 ((x ++ y) ++ zs)) (hg : W.grownBy W1 g.ownBlock) (hc : v1.ownBlock = g.ownBlock ∨ (v1.ownBlock = some W.heap.size ∧ W.grownBy W1 none)) : LG k W1 base T Al v1 x (y ++ zs) := by
  refine ⟨by rw [← List.append_assoc]; exact hr, ?_⟩
  rcases hc with e | ⟨e, hn⟩
  · rcases h.was with ⟨n, c, rfl⟩ | hF
    · obtain ⟨A, n1, c1, n2, c2, e1, e2⟩ := apt_addr h.row hr e
      injection e1 with e1
      exact .inl ⟨n2, c2, by rw [e2, e1]⟩
    · refine .inr (Kd.F_mono (Kd.F_grown hF hg (fun b hb => hb.1)) (fun b hb => ⟨by rw [e]; exact hb.1, hb.2⟩))
  · rcases h.was with ⟨n, c, rfl⟩ | hF
    · have hF := Kd.R_F (Kd.R_tight rfl h.row)
      obtain rfl := (Kd.R_reads' h.row).1
      have hF := Kd.F_take (m := x.length) (Kd.F_bound hF) (by simp)
      rw [List.take_left] at hF
      refine .inr (Kd.F_mono (Kd.F_grown hF hn (fun b hb => by simp)) (fun b hb => ⟨?_, ?_⟩))
      · rw [e]; intro x; injection x with x; have := hb.2; omega
      · have h1 := hb.1
        cases Al with
        | none => simp [Value.ownBlock] at h1
        | some a => simp only [Value.ownBlock, Option.some.injEq] at h1; simp [h1]
    · refine .inr (Kd.F_mono (Kd.F_grown (Kd.F_bound hF) hn (fun b hb => by simp)) (fun b hb => ⟨?_, hb.1.2⟩))
      rw [e]; intro x; injection x with x; have := hb.2; omega
/-- A step that leaves both blocks as they were. -/
theorem LG.step (h : LG k W base T Al g x y) (hs : ∀ b, (some b = g.ownBlock ∨ Al.map (·.block) = some b) → b < W.heap.size → W1.heap[b]? = W.heap[b]?) : LG k W1 base T Al g x y := by
  refine ⟨Kd.R_mono (Kd.R_step (Kd.R_tight rfl h.row) (fun b hb hlt => hs b (.inl hb) hlt)) (fun _ _ => trivial), ?_⟩
  rcases h.was with h1 | hF
  · exact .inl h1
  · exact .inr (Kd.F_step hF (fun b hb hlt => hs b (.inr hb.2) hlt))
/-- What the list reads. -/
theorem LG.reads (h : LG k W base T Al g x y) : Kd.C (Kd.int k) W Al x.length x := by
  rcases h.was with ⟨n, c, rfl⟩ | hF
  · have hF := Kd.R_F h.row
    obtain rfl := (Kd.R_reads' h.row).1
    have hF := Kd.F_take (m := x.length) hF (by simp)
    rw [List.take_left] at hF
    exact Kd.F_now hF
  · exact Kd.F_now hF
end
section
variable {W W1 : World} {base T T2 n cl : Nat} {k : IntKind} {ok : Nat → Prop} {A : Option Addr} {xs : List (List Int)}
/-- The lists of a row whose inner rows lie apart: their values, their rows, and that no two share a block. -/
structure Lists (k : IntKind) (W : World) (base T : Nat) (okr : Nat → Prop) (ls : List Value) (xs : List (List Int)) : Prop where
  len : ls.length = xs.length
  row : ∀ (j : Nat) (v : Value) (x : List Int), ls[j]? = some v → xs[j]? = some x → Kd.R (Kd.int k) T W base okr v x
  two : ∀ (i j : Nat) (u v : Value), i ≠ j → ls[i]? = some u → ls[j]? = some v → ∀ b, u.ownBlock = some b → v.ownBlock ≠ some b
theorem lists_of (h : Kd.S (Kd.slice T (Kd.int k)) T2 W base ok (.slice A n cl) xs) :
    ∃ ls : List Value, Lists k W base T (fun b => ok b ∧ some b ≠ (Value.slice A n cl).ownBlock) ls xs ∧ n = xs.length ∧ ∀ (j : Nat) (v : Value), ls[j]? = some v → ∃ g, A = some ⟨g, 0, none⟩ ∧ W.cell? ⟨g, j, none⟩ = some v := by
  have hn := (Kd.S_reads' h).1
  obtain ⟨f, h0, inner, ho, hr⟩ := h
  rw [List.length_zipIdx] at ho
  have hl : inner.length = xs.length := by have h := ho.1; have h : inner.length = xs.length * 1 := h; omega
  have hat : ∀ (j : Nat) (v : Value) (x : List Int), inner[j]? = some v → xs[j]? = some x → Kd.R (Kd.int k) T W base (fun b => (ok b ∧ some b ≠ (Value.slice A n cl).ownBlock) ∧ f b = j) v x := by
    intro j v x hv hx
    obtain ⟨u, e, hu⟩ := hr.2 j (x, j) (Kd.zip_at hx)
    have e : (inner.drop (j * 1)).take 1 = [u] := e
    have hu : Kd.R (Kd.int k) T W base (fun b => (ok b ∧ some b ≠ (Value.slice A n cl).ownBlock) ∧ f b = j) u x := hu
    have e2 : inner[j]? = some u := by
      have := congrArg (fun l : List Value => l[0]?) e
      rw [Nat.mul_one] at this
      simpa [List.getElem?_take, List.getElem?_drop] using this
    rw [hv] at e2
    injection e2 with e2
    rw [e2]
    exact hu
  refine ⟨inner, ⟨hl, fun j v x hv hx => Kd.R_mono (hat j v x hv hx) (fun b hb => hb.1), ?_⟩, hn, ?_⟩
  · intro i j u v hij hu hv b hb hb2
    have hi : i < xs.length := by rw [← hl]; exact (List.getElem?_eq_some_iff.1 hu).1
    have hj : j < xs.length := by rw [← hl]; exact (List.getElem?_eq_some_iff.1 hv).1
    have h1 := (hat i u _ hu (List.getElem?_eq_getElem hi)).1 b hb
    have h2 := (hat j v _ hv (List.getElem?_eq_getElem hj)).1 b hb2
    exact hij (h1.2.symm.trans h2.2)
  · intro j v hv
    have hj : j < xs.length := by rw [← hl]; exact (List.getElem?_eq_some_iff.1 hv).1
    rcases ho.2 with ⟨_, e0⟩ | ⟨g, cap, cur, e, -, hb, -, -, -, ht⟩
    · omega
    · injection e with e
      refine ⟨g, e, (blk_cell hb j).trans ?_⟩
      rw [← ht] at hv
      rw [List.getElem?_take] at hv
      split at hv
      · simpa using hv
      · cases hv
/-- A store into one of the lists. -/
theorem Lists.put {okr : Nat → Prop} {ls : List Value} {i j g c m : Nat} {x : List Int} {z : Int} (h : Lists k W base T okr ls xs) (hv : ls[i]? = some (.slice (some ⟨g, 0, none⟩) m c)) (hx : xs[i]? = some x) :
    Lists k (W.setCell ⟨g, j, none⟩ (.int k z)) base T okr ls (xs.set i (x.set j z)) ∧ W.grownBy (W.setCell ⟨g, j, none⟩ (.int k z)) (some g) := by
  have hR := h.row i _ x hv hx
  obtain ⟨hp, hg⟩ := Kd.R_putg hR (j : Int) z
  simp only [Int.toNat_natCast] at hp hg
  refine ⟨⟨by rw [List.length_set]; exact h.len, ?_, h.two⟩, hg⟩
  intro j' v' x' hv' hx'
  by_cases e : j' = i
  · subst e
    rw [hv] at hv'
    injection hv' with hv'
    have hi := (List.getElem?_eq_some_iff.1 hx).1
    rw [List.getElem?_set_self hi] at hx'
    injection hx' with hx'
    rw [← hv', ← hx']
    exact hp
  · rw [List.getElem?_set_ne (fun e2 => e e2.symm)] at hx'
    refine Kd.R_grown2 (h.row j' v' x' hv' hx') rfl hg ?_
    intro b hb hb2
    exact h.two j' i v' _ e hv' hv b hb2.symm (by injection hb with hb; rw [← hb]; rfl)
/-- Phase one: the lists before i bear their marks, list i bears it up to t. -/
structure Ap1 (k : IntKind) (w W : World) (base T : Nat) (okr : Nat → Prop) (A : Option Addr) (ls : List Value) (xs ys : List (List Int)) (mk : Nat → Int) (i t : Nat) : Prop where
  below : Below base w W
  lists : Lists k W base T okr ls ys
  lens : ∀ j : Nat, (ys.getD j []).length = (xs.getD j []).length
  done : ∀ j : Nat, j < i → ys.getD j [] = List.replicate (xs.getD j []).length (mk j)
  part : (ys.getD i []).take t = List.replicate t (mk i)
  outer : ∀ (j : Nat) (v : Value), ls[j]? = some v → ∃ g, A = some ⟨g, 0, none⟩ ∧ W.cell? ⟨g, j, none⟩ = some v
  far : ∀ g, A = some ⟨g, 0, none⟩ → ¬ okr g
  kept : ∀ b, b < w.heap.size → ¬ okr b → W.heap[b]? = w.heap[b]?
section
variable {w : World} {okr : Nat → Prop} {ls : List Value} {ys : List (List Int)} {mk : Nat → Int} {i t : Nat}
theorem Ap1.at_ (h : Ap1 k w W base T okr A ls xs ys mk i t) (hi : i < xs.length) (hls : ls.length = xs.length) : ∃ (g : Nat) (Ai : Option Addr) (ci : Nat), A = some ⟨g, 0, none⟩ ∧ ls[i]? = some (.slice Ai (xs.getD i []).length ci) ∧ W.cell? ⟨g, i, none⟩ = some (.slice Ai (xs.getD i []).length ci) ∧
      (0 < (xs.getD i []).length → ∃ gi, Ai = some ⟨gi, 0, none⟩) ∧ ∀ gi, Ai = some ⟨gi, 0, none⟩ → ∀ j, j < (xs.getD i []).length → (∃ u, W.cell? ⟨gi, j, none⟩ = some (.int k u)) ∧ W.frozen? ⟨gi, j, none⟩ = false := by
  have hy : i < ys.length := by have := h.lists.len; omega
  have hl : i < ls.length := by omega
  obtain ⟨g, e, hc⟩ := h.outer i _ (List.getElem?_eq_getElem hl)
  have hR := h.lists.row i _ _ (List.getElem?_eq_getElem hl) (List.getElem?_eq_getElem hy)
  have hlen := h.lens i
  rw [List.getD_eq_getElem?_getD, List.getElem?_eq_getElem hy] at hlen
  simp only [Option.getD_some] at hlen
  obtain ⟨Ai, ci, e1, hcap, hC⟩ := Kd.R_reads hR
  rw [e1, hlen] at hR
  refine ⟨g, Ai, ci, e, by rw [List.getElem?_eq_getElem hl, e1, hlen], by rw [hc, e1, hlen], ?_, ?_⟩
  · intro h0
    obtain ⟨ad, ea, -⟩ := hC.2.2 (by omega)
    subst ea
    obtain ⟨p, rfl⟩ := Kd.R_head hR
    exact ⟨p, rfl⟩
  · rintro gi rfl j hj
    rw [← hlen] at hR
    have := Kd.R_cell (0 : Int) hR (j : Int) (by omega) (by omega)
    simp only [Int.toNat_natCast] at this
    exact ⟨⟨_, this.1⟩, this.2⟩
theorem take_set {x : List Int} {t : Nat} {z : Int} (ht : t < x.length) (h : x.take t = List.replicate t z) : (x.set t z).take (t + 1) = List.replicate (t + 1) z := by
  rw [List.take_succ_eq_append_getElem (by simpa using ht), List.getElem_set_self, List.take_set_of_le (Nat.le_refl _), h]
  simp [List.replicate_succ']
section
variable {w : World} {okr : Nat → Prop} {ls : List Value} {ys : List (List Int)} {mk : Nat → Int} {i t : Nat}
theorem Ap1.put {gi m ci : Nat} (h : Ap1 k w W base T okr A ls xs ys mk i t) (hv : ls[i]? = some (.slice (some ⟨gi, 0, none⟩) m ci)) (ht : t < (xs.getD i []).length) :
    Ap1 k w (W.setCell ⟨gi, t, none⟩ (.int k (mk i))) base T okr A ls xs (ys.set i ((ys.getD i []).set t (mk i))) mk i (t + 1) := by
  have hl : i < ls.length := (List.getElem?_eq_some_iff.1 hv).1
  have hy : i < ys.length := by have := h.lists.len; omega
  have hlen := h.lens i
  have hyg : ys.getD i [] = ys[i] := by rw [List.getD_eq_getElem?_getD, List.getElem?_eq_getElem hy]; rfl
  have hR := h.lists.row i _ _ hv (List.getElem?_eq_getElem hy)
  obtain ⟨hL, hg⟩ := h.lists.put (j := t) (z := mk i) hv (List.getElem?_eq_getElem hy)
  have hgi : okr gi := hR.1 gi rfl
  have hgb : base ≤ gi := Kd.R_base hR gi rfl
  have hset : ∀ j : Nat, (ys.set i ((ys.getD i []).set t (mk i))).getD j [] = if j = i then (ys.getD i []).set t (mk i) else ys.getD j [] := by
    intro j
    rw [List.getD_eq_getElem?_getD]
    by_cases e : j = i
    · subst e; rw [if_pos rfl, List.getElem?_set_self hy]; rfl
    · rw [if_neg e, List.getElem?_set_ne (fun e2 => e e2.symm), ← List.getD_eq_getElem?_getD]
  refine { below := h.below.setCell hgb _, lists := by rw [hyg]; exact hL, lens := ?_, done := ?_, part := ?_, outer := ?_, far := h.far, kept := fun b hb hn => (Below.heap_setCell W ⟨gi, t, none⟩ (.int k (mk i)) b (fun e => hn (e ▸ hgi))).trans (h.kept b hb hn) }
  · intro j
    rw [hset]
    split
    · rename_i e; rw [List.length_set, e]; exact hlen
    · exact h.lens j
  · intro j hj
    rw [hset, if_neg (by omega)]
    exact h.done j hj
  · rw [hset, if_pos rfl]
    exact take_set (by omega) h.part
  · intro j v hj
    obtain ⟨g, e, hc⟩ := h.outer j v hj
    refine ⟨g, e, ?_⟩
    exact cell_kept hc (W2 := W.setCell ⟨gi, t, none⟩ (.int k (mk i))) (S := fun b => some b = some gi) ⟨hg.size, fun b hb hs => hg.block b hb hs⟩ (fun e2 => h.far g e (by injection e2 with e2; have e2 : g = gi := e2; rw [e2]; exact hgi))
theorem Ap1.next (h : Ap1 k w W base T okr A ls xs ys mk i (xs.getD i []).length) : Ap1 k w W base T okr A ls xs ys mk (i + 1) 0 := by
  refine { h with done := ?_, part := by simp }
  intro j hj
  by_cases e : j = i
  · subst e
    have := h.part
    rw [← h.lens j, List.take_length] at this
    rw [this, h.lens j]
  · exact h.done j (by omega)
end
end
/-- A list's blocks: its own, and that of what was grown out of it. -/
def Blk (ls hs : List Value) (j b : Nat) : Prop := (∃ v, ls[j]? = some v ∧ v.ownBlock = some b) ∨ (∃ u, hs[j]? = some u ∧ u.ownBlock = some b)
/-- Lists and what was grown out of them: no two pairs share a block, and none lies in 'no'. -/
structure Grown (k : IntKind) (W : World) (base T : Nat) (no : Nat → Prop) (ls hs : List Value) (xs ys : List (List Int)) : Prop where
  lenh : hs.length = ls.length
  lenx : xs.length = ls.length
  leny : ys.length = ls.length
  row : ∀ (j : Nat) (v u : Value) (x y : List Int), ls[j]? = some v → hs[j]? = some u → xs[j]? = some x → ys[j]? = some y → ∃ Al c, v = .slice Al x.length c ∧ LG k W base T Al u x y
  two : ∀ (i j : Nat), i ≠ j → ∀ b, Blk ls hs i b → ¬ Blk ls hs j b
  away : ∀ (j b : Nat), Blk ls hs j b → ¬ no b
  here : ∀ (j b : Nat), Blk ls hs j b → b < W.heap.size
section
variable {no : Nat → Prop} {ls hs : List Value} {ys : List (List Int)} {i : Nat} {u v1 : Value} {x y zs : List Int}
theorem Grown.app (h : Grown k W base T no ls hs xs ys) (hu : hs[i]? = some u) (hx : xs[i]? = some x) (hy : ys[i]? = some y) (hr : Kd.R (Kd.int k) T W1 base (fun _ => True) v1 ((x ++ y) ++ zs)) (hg : W.grownBy W1 u.ownBlock)
    (hc : v1.ownBlock = u.ownBlock ∨ (v1.ownBlock = some W.heap.size ∧ W.grownBy W1 none)) (hno : ∀ b, no b → b < W.heap.size) : Grown k W1 base T no ls (hs.set i v1) xs (ys.set i (y ++ zs)) := by
  have hi : i < hs.length := (List.getElem?_eq_some_iff.1 hu).1
  have hiy : i < ys.length := (List.getElem?_eq_some_iff.1 hy).1
  have hv1 : ∀ b, v1.ownBlock = some b → b < W1.heap.size := Kd.R_lt hr
  have blk : ∀ j b, Blk ls (hs.set i v1) j b → Blk ls hs j b ∨ (j = i ∧ b = W.heap.size) := by
    rintro j b (e | ⟨q, hq, hb⟩)
    · exact .inl (.inl e)
    · by_cases e : j = i
      · subst e
        rw [List.getElem?_set_self hi] at hq
        injection hq with hq
        subst hq
        rcases hc with e | ⟨e, -⟩
        · exact .inl (.inr ⟨u, hu, by rw [← e]; exact hb⟩)
        · rw [e] at hb; injection hb with hb; exact .inr ⟨rfl, hb.symm⟩
      · rw [List.getElem?_set_ne (fun e2 => e e2.symm)] at hq
        exact .inl (.inr ⟨q, hq, hb⟩)
  refine { lenh := by rw [List.length_set]; exact h.lenh, lenx := h.lenx, leny := by rw [List.length_set]; exact h.leny, row := ?_, two := ?_, away := ?_, here := ?_ }
  · intro j v q x' y' h1 h2 h3 h4
    by_cases e : j = i
    · subst e
      rw [List.getElem?_set_self hi] at h2
      rw [List.getElem?_set_self hiy] at h4
      injection h2 with h2
      injection h4 with h4
      subst h2 h4
      rw [hx] at h3
      injection h3 with h3
      subst h3
      obtain ⟨Al, c, e1, hL⟩ := h.row j v u x y h1 hu hx hy
      exact ⟨Al, c, e1, hL.app hr hg hc⟩
    · rw [List.getElem?_set_ne (fun e2 => e e2.symm)] at h2 h4
      obtain ⟨Al, c, e1, hL⟩ := h.row j v q x' y' h1 h2 h3 h4
      refine ⟨Al, c, e1, hL.step (fun b hb hlt => hg.block b hlt (fun e2 => ?_))⟩
      refine h.two j i e b ?_ (.inr ⟨u, hu, e2.symm⟩)
      rcases hb with hb | hb
      · exact .inr ⟨q, h2, hb.symm⟩
      · refine .inl ⟨v, h1, ?_⟩
        rw [e1]
        cases Al with
        | none => simp at hb
        | some a => simpa [Value.ownBlock] using hb
  · intro a j e b hb hb2
    rcases blk a b hb with h1 | ⟨e1, e2⟩
    · rcases blk j b hb2 with h2 | ⟨e3, e4⟩
      · exact h.two a j e b h1 h2
      · have := h.here a b h1; omega
    · rcases blk j b hb2 with h2 | ⟨e3, e4⟩
      · have := h.here j b h2; omega
      · omega
  · intro j b hb hn
    rcases blk j b hb with h1 | ⟨e1, e2⟩
    · exact h.away j b h1 hn
    · have := hno b hn; omega
  · intro j b hb
    have := hg.size
    rcases hb with e | ⟨q, hq, hb⟩
    · have := h.here j b (.inl e); omega
    · by_cases e : j = i
      · subst e
        rw [List.getElem?_set_self hi] at hq
        injection hq with hq
        subst hq
        exact hv1 b hb
      · rw [List.getElem?_set_ne (fun e2 => e e2.symm)] at hq
        have := h.here j b (.inr ⟨q, hq, hb⟩); omega
end
section
variable {no okr : Nat → Prop} {ls hs : List Value} {ys : List (List Int)}
theorem Grown.step (h : Grown k W base T no ls hs xs ys) (hs_ : ∀ b, ¬ no b → b < W.heap.size → W1.heap[b]? = W.heap[b]?) (hsz : W.heap.size ≤ W1.heap.size) : Grown k W1 base T no ls hs xs ys := by
  refine { h with row := ?_, here := fun j b hb => Nat.lt_of_lt_of_le (h.here j b hb) hsz }
  intro j v q x y h1 h2 h3 h4
  obtain ⟨Al, c, e1, hL⟩ := h.row j v q x y h1 h2 h3 h4
  refine ⟨Al, c, e1, hL.step (fun b hb hlt => hs_ b (h.away j b ?_) hlt)⟩
  rcases hb with hb | hb
  · exact .inr ⟨q, h2, hb.symm⟩
  · refine .inl ⟨v, h1, ?_⟩
    rw [e1]
    cases Al with
    | none => simp at hb
    | some a => simpa [Value.ownBlock] using hb
theorem Lists.grown (h : Lists k W base T okr ls xs) (hno : ∀ b, no b → okr b → W.heap.size ≤ b) : Grown k W base T no ls ls xs (List.replicate ls.length []) := by
  have row : ∀ (j : Nat) (v : Value), ls[j]? = some v → ∃ x, xs[j]? = some x ∧ Kd.R (Kd.int k) T W base okr v x := by
    intro j v hv
    have hj : j < xs.length := by rw [← h.len]; exact (List.getElem?_eq_some_iff.1 hv).1
    exact ⟨_, List.getElem?_eq_getElem hj, h.row j v _ hv (List.getElem?_eq_getElem hj)⟩
  have one : ∀ j b, Blk ls ls j b → ∃ v, ls[j]? = some v ∧ v.ownBlock = some b := by
    rintro j b (e | e) <;> exact e
  refine { lenh := rfl, lenx := h.len.symm, leny := List.length_replicate, row := ?_, two := ?_, away := ?_, here := ?_ }
  · intro j v u x y h1 h2 h3 h4
    rw [h1] at h2
    injection h2 with h2
    subst h2
    have hR := h.row j v x h1 h3
    obtain ⟨A, c, rfl, -⟩ := Kd.R_reads hR
    have hy : y = [] := by
      rw [List.getElem?_replicate] at h4
      split at h4
      · injection h4 with h4; exact h4.symm
      · cases h4
    subst hy
    exact ⟨A, c, rfl, LG.start hR⟩
  · intro i j e b hb hb2
    obtain ⟨u, hu, e1⟩ := one i b hb
    obtain ⟨v, hv, e2⟩ := one j b hb2
    exact h.two i j u v e hu hv b e1 e2
  · intro j b hb hn
    obtain ⟨v, hv, e1⟩ := one j b hb
    obtain ⟨x, hx, hR⟩ := row j v hv
    have := hno b hn (hR.1 b e1)
    have := Kd.R_lt hR b e1
    omega
  · intro j b hb
    obtain ⟨v, hv, e1⟩ := one j b hb
    obtain ⟨x, hx, hR⟩ := row j v hv
    exact Kd.R_lt hR b e1
end
/-- What was grown onto each list: cnt j of its marks. -/
def tails (n : Nat) (cnt : Nat → Nat) (mk : Nat → Int) : List (List Int) := (List.range n).map fun j => List.replicate (cnt j) (mk j)
theorem tails_at {n j : Nat} {cnt : Nat → Nat} {mk : Nat → Int} (h : j < n) : (tails n cnt mk)[j]? = some (List.replicate (cnt j) (mk j)) := by
  simp [tails, h]
theorem tails_none (n : Nat) (mk : Nat → Int) : tails n (fun _ => 0) mk = List.replicate n [] := by
  apply List.ext_getElem? 
  intro j
  by_cases h : j < n
  · rw [tails_at h, List.getElem?_replicate, if_pos h]; rfl
  · rw [List.getElem?_replicate, if_neg h]; simp [tails]; omega
theorem tails_set {n i a : Nat} {cnt : Nat → Nat} {mk : Nat → Int} (h : i < n) : (tails n cnt mk).set i (List.replicate (cnt i) (mk i) ++ List.replicate a (mk i)) = tails n (fun j => if j = i then cnt i + a else cnt j) mk := by
  apply List.ext_getElem?
  intro j
  by_cases hj : j < n
  · rw [tails_at hj]
    by_cases e : j = i
    · subst e
      rw [List.getElem?_set_self (by simpa [tails] using hj), if_pos rfl, List.replicate_append_replicate]
    · rw [List.getElem?_set_ne (fun e2 => e e2.symm), tails_at hj, if_neg e]
  · have h1 : ∀ c : Nat → Nat, (tails n c mk)[j]? = none := fun c => by simp [tails]; omega
    rw [h1, List.getElem?_set_ne (by omega), h1]
/-- Phases two and three: the lists with what was grown onto them, and the block of `more`. -/
structure Ap2 (okr : Nat → Prop) (k : IntKind) (w W : World) (base T T2 gm : Nat) (A : Option Addr) (ls hs : List Value) (xs : List (List Int)) (gs : Array Value) (mk2 : Nat → Int) (cnt : Nat → Nat) : Prop where
  below : Below base w W
  grown : Grown k W base T (fun b => A = some ⟨b, 0, none⟩ ∨ b = gm) ls hs xs (tails ls.length cnt mk2)
  more : W.heap[gm]? = some (.cells gs T2 (0, 0))
  gsz : gs.size = ls.length
  gmb : base ≤ gm
  outer : ∀ (j : Nat) (v : Value), ls[j]? = some v → ∃ g, A = some ⟨g, 0, none⟩ ∧ g ≠ gm ∧ W.cell? ⟨g, j, none⟩ = some v
  kept : ∀ b, b < w.heap.size → ¬ okr b → W.heap[b]? = w.heap[b]?
  home : ∀ j b, Blk ls hs j b → okr b ∨ w.heap.size ≤ b
  gmw : w.heap.size ≤ gm
theorem Ap1.made {w : World} {okr : Nat → Prop} {ls : List Value} {ys : List (List Int)} {mk mk2 : Nat → Int} {m : Nat} (h : Ap1 k w W base T okr A ls xs ys mk m 0) (cells : Array Value) (hc : cells.size = ls.length) (hbase : base ≤ W.heap.size) :
    Ap2 okr k w (W.alloc (.cells cells T2)) base T T2 W.heap.size A ls ls ys cells mk2 (fun _ => 0) := by
  have hb : Below W.heap.size W (W.alloc (.cells cells T2)) := (Below.refl _ _).alloc (Nat.le_refl _) _
  have hG := h.lists.grown (no := fun b => A = some ⟨b, 0, none⟩ ∨ b = W.heap.size) (by
    rintro b (e | e) hk
    · exact absurd hk (h.far b e)
    · omega)
  refine { below := h.below.alloc hbase _, grown := ?_, more := blk_new _ _, gsz := hc, gmb := hbase, outer := ?_, kept := fun b hlt hn => (hb.block b (Nat.lt_of_lt_of_le hlt h.below.size)).trans (h.kept b hlt hn), home := ?_, gmw := h.below.size }
  · rw [tails_none]
    exact hG.step (fun b _ hlt => hb.block b hlt) hb.size
  · intro j v hv
    obtain ⟨g, e, hcell⟩ := h.outer j v hv
    have hlt : g < W.heap.size := World.block_lt_of_cell? W ⟨g, j, none⟩ hcell
    exact ⟨g, e, by omega, cell_kept (S := fun _ => False) hcell ⟨hb.size, fun b hlt _ => hb.block b hlt⟩ (fun h => h)⟩
  · rintro j b (⟨v, hv, e⟩ | ⟨v, hv, e⟩) <;>
    exact .inl ((h.lists.row j v _ hv (List.getElem?_eq_getElem (by have := h.lists.len; have := (List.getElem?_eq_some_iff.1 hv).1; omega))).1 b e)
section
variable {okr : Nat → Prop} {w : World} {gm i a : Nat} {ls hs : List Value} {gs : Array Value} {mk2 : Nat → Int} {cnt : Nat → Nat} {u v1 : Value} {x : List Int}
theorem Ap2.grow (h : Ap2 okr k w W base T T2 gm A ls hs xs gs mk2 cnt) (hg : W.grownBy W1 none) : Ap2 okr k w W1 base T T2 gm A ls hs xs gs mk2 cnt := by
  have hlt := blk_lt h.more
  have hgb := h.gmb
  refine { h with below := h.below.grown hg (by omega) (fun k hk => by simp at hk), grown := h.grown.step (fun b _ hb => hg.block b hb (by simp)) hg.size, more := blk_grown h.more hg (by simp), outer := ?_, kept := fun b hlt hn => (hg.block b (Nat.lt_of_lt_of_le hlt h.below.size) (by simp)).trans (h.kept b hlt hn) }
  intro j v hv
  obtain ⟨g, e, hne, hcell⟩ := h.outer j v hv
  exact ⟨g, e, hne, cell_kept (S := fun _ => False) hcell ⟨hg.size, fun b hlt _ => hg.block b hlt (by simp)⟩ (fun h => h)⟩
theorem Ap2.row (h : Ap2 okr k w W base T T2 gm A ls hs xs gs mk2 cnt) (hi : i < ls.length) (hu : hs[i]? = some u) (hx : xs[i]? = some x) : Kd.R (Kd.int k) T W base (fun _ => True) u (x ++ List.replicate (cnt i) (mk2 i)) := by
  obtain ⟨Al, c, -, hL⟩ := h.grown.row i _ u x _ (List.getElem?_eq_getElem hi) hu hx (tails_at hi)
  exact hL.row
theorem Ap2.app (h : Ap2 okr k w W base T T2 gm A ls hs xs gs mk2 cnt) (hi : i < ls.length) (hu : hs[i]? = some u) (hx : xs[i]? = some x) (hr : Kd.R (Kd.int k) T W1 base (fun _ => True) v1 ((x ++ List.replicate (cnt i) (mk2 i)) ++ List.replicate a (mk2 i)))
    (hg : W.grownBy W1 u.ownBlock) (hc : v1.ownBlock = u.ownBlock ∨ (v1.ownBlock = some W.heap.size ∧ W.grownBy W1 none)) (hA : ∀ g, A = some ⟨g, 0, none⟩ → g < W.heap.size) : Ap2 okr k w W1 base T T2 gm A ls (hs.set i v1) xs gs mk2 (fun j => if j = i then cnt i + a else cnt j) := by
  have hlt := blk_lt h.more
  have hgb := h.gmb
  have hub : ∀ b, u.ownBlock = some b → base ≤ b := Kd.R_base (h.row hi hu hx)
  have haw : ∀ b, u.ownBlock = some b → ¬ (A = some ⟨b, 0, none⟩ ∨ b = gm) := fun b hb => h.grown.away i b (.inr ⟨u, hu, hb⟩)
  refine { below := h.below.grown hg (by omega) hub, grown := ?_, more := blk_grown h.more hg (fun e => haw gm e.symm (.inr rfl)), gsz := h.gsz, gmb := hgb, outer := ?_, kept := ?_, home := ?_, gmw := h.gmw }
  · have := h.grown.app hu hx (tails_at hi) hr hg hc (by
      rintro b (e | e)
      · exact hA b e
      · omega)
    rw [tails_set hi] at this
    exact this
  · intro j v hv
    obtain ⟨g, e, hne, hcell⟩ := h.outer j v hv
    exact ⟨g, e, hne, cell_kept (S := fun b => some b = u.ownBlock) hcell ⟨hg.size, fun b hlt hs => hg.block b hlt hs⟩ (fun e2 => haw g e2.symm (.inl e))⟩
  · intro b hlt hn
    refine (hg.block b (Nat.lt_of_lt_of_le hlt h.below.size) (fun e => ?_)).trans (h.kept b hlt hn)
    rcases h.home i b (.inr ⟨u, hu, e.symm⟩) with h1 | h1
    · exact hn h1
    · omega
  · have hil : i < hs.length := (List.getElem?_eq_some_iff.1 hu).1
    rintro j b (e | ⟨q, hq, hb⟩)
    · exact h.home j b (.inl e)
    · by_cases e : j = i
      · subst e
        rw [List.getElem?_set_self hil] at hq
        injection hq with hq
        subst hq
        rcases hc with e | ⟨e, -⟩
        · exact h.home j b (.inr ⟨u, hu, by rw [← e]; exact hb⟩)
        · rw [e] at hb; injection hb with hb; exact .inr (by have := h.below.size; omega)
      · rw [List.getElem?_set_ne (fun e2 => e e2.symm)] at hq
        exact h.home j b (.inr ⟨q, hq, hb⟩)
end
theorem Ap2.store {okr : Nat → Prop} {w : World} {gm : Nat} {ls hs : List Value} {gs : Array Value} {mk2 : Nat → Int} {cnt : Nat → Nat} (h : Ap2 okr k w W base T T2 gm A ls hs xs gs mk2 cnt) (i : Nat) (v : Value) :
    Ap2 okr k w (W.setCell ⟨gm, i, none⟩ v) base T T2 gm A ls hs xs (gs.setIfInBounds i v) mk2 cnt := by
  have hs : ∀ b, b ≠ gm → (W.setCell ⟨gm, i, none⟩ v).heap[b]? = W.heap[b]? := fun b hb => Below.heap_setCell W ⟨gm, i, none⟩ v b hb
  have hb : Below base w (W.setCell ⟨gm, i, none⟩ v) := h.below.setCell h.gmb _
  have hsz : W.heap.size ≤ (W.setCell ⟨gm, i, none⟩ v).heap.size := by simp
  refine { below := hb, grown := h.grown.step (fun b hn _ => hs b (fun e => hn (.inr e))) hsz, more := by apply blk_set; exact h.more, gsz := by rw [Array.size_setIfInBounds]; exact h.gsz, gmb := h.gmb, outer := ?_, kept := fun b hlt hn => (hs b (by have := h.gmw; omega)).trans (h.kept b hlt hn), home := h.home, gmw := h.gmw }
  intro j v' hv
  obtain ⟨g, e, hne, hcell⟩ := h.outer j v' hv
  exact ⟨g, e, hne, cell_kept (S := fun b => b = gm) hcell ⟨hsz, fun b _ hb => hs b hb⟩ hne⟩
end
/-- A literal's cells. -/
theorem C_lit (k : IntKind) (W : World) (xs : List Int) (e : Nat) (hm : xs.length ≤ 9223372036854775807) : (Kd.int k).C (W.alloc (.cells (xs.map (Value.int k)).toArray e)) (some ⟨W.heap.size, 0, none⟩) xs.length xs := by
  refine Kd.C_of_reads (d := (0 : Int)) ⟨rfl, hm, fun _ => ⟨_, rfl, fun j hj => ?_⟩⟩
  have h := blk_cell (blk_new W (.cells (xs.map (Value.int k)).toArray e)) j
  rw [show ((⟨W.heap.size, 0, none⟩ : Addr).add j) = ⟨W.heap.size, j, none⟩ from by simp [Addr.add]; omega]
  rw [h]
  simp [List.getD_eq_getElem?_getD, List.getElem?_eq_getElem hj]
section
variable {okr : Nat → Prop} {W W1 : World} {base T T2 : Nat} {k : IntKind} {A : Option Addr} {xs : List (List Int)} {w : World} {gm i q a : Nat} {ls hs : List Value} {gs : Array Value} {mk2 : Nat → Int} {cnt cnt' : Nat → Nat} {u v1 : Value} {x : List Int}
theorem Ap2.cnt_eq (h : Ap2 okr k w W base T T2 gm A ls hs xs gs mk2 cnt) (e : ∀ j, j < ls.length → cnt j = cnt' j) : Ap2 okr k w W base T T2 gm A ls hs xs gs mk2 cnt' := by
  have e1 : tails ls.length cnt mk2 = tails ls.length cnt' mk2 := by
    apply List.ext_getElem?
    intro j
    by_cases hj : j < ls.length
    · rw [tails_at hj, tails_at hj, e j hj]
    · have h1 : ∀ c : Nat → Nat, (tails ls.length c mk2)[j]? = none := fun c => by simp [tails]; omega
      rw [h1, h1]
  have := h.grown
  rw [e1] at this
  exact { h with grown := this }
theorem Ap2.at_ (h : Ap2 okr k w W base T T2 gm A ls hs xs gs mk2 cnt) (hi : i < ls.length) : ∃ (g : Nat) (Al : Option Addr) (c : Nat) (x : List Int), A = some ⟨g, 0, none⟩ ∧ g ≠ gm ∧ g < W.heap.size ∧ ls[i]? = some (.slice Al x.length c) ∧ xs[i]? = some x ∧ W.cell? ⟨g, i, none⟩ = some (.slice Al x.length c) ∧ xs.getD i [] = x := by
  have hh : i < hs.length := by rw [h.grown.lenh]; exact hi
  have hx : i < xs.length := by rw [h.grown.lenx]; exact hi
  obtain ⟨Al, c, e, hL⟩ := h.grown.row i _ _ _ _ (List.getElem?_eq_getElem hi) (List.getElem?_eq_getElem hh) (List.getElem?_eq_getElem hx) (tails_at hi)
  obtain ⟨g, eA, hne, hcell⟩ := h.outer i _ (List.getElem?_eq_getElem hi)
  refine ⟨g, Al, c, xs[i], eA, hne, World.block_lt_of_cell? W ⟨g, i, none⟩ hcell, by rw [List.getElem?_eq_getElem hi, e], List.getElem?_eq_getElem hx, by rw [hcell, e], by rw [List.getD_eq_getElem?_getD, List.getElem?_eq_getElem hx]; rfl⟩
/-- One append to what was grown out of list i. -/
theorem Ap2.one (h : Ap2 okr k w W base T T2 gm A ls (hs.set i u) xs gs mk2 (fun j => if j = i then q else cnt j)) (hi : i < ls.length) (hx : xs[i]? = some x) (hr : Kd.R (Kd.int k) T W1 base (fun _ => True) v1 ((x ++ List.replicate q (mk2 i)) ++ List.replicate a (mk2 i)))
    (hg : W.grownBy W1 u.ownBlock) (hc : v1.ownBlock = u.ownBlock ∨ (v1.ownBlock = some W.heap.size ∧ W.grownBy W1 none)) : Ap2 okr k w W1 base T T2 gm A ls (hs.set i v1) xs gs mk2 (fun j => if j = i then q + a else cnt j) := by
  have hh : i < hs.length := by have := h.grown.lenh; rw [List.length_set] at this; omega
  obtain ⟨g, Al, c, x', eA, -, hlt, -⟩ := h.at_ hi
  have := h.app hi (List.getElem?_set_self hh) hx (a := a) (v1 := v1) (by simpa using hr) hg hc (by intro g' e; rw [eA] at e; injection e with e; injection e with e; omega)
  rw [List.set_set] at this
  refine this.cnt_eq (fun j _ => ?_)
  by_cases e : j = i
  · simp [e]
  · simp [e]
theorem Ap2.rowi (h : Ap2 okr k w W base T T2 gm A ls (hs.set i u) xs gs mk2 (fun j => if j = i then q else cnt j)) (hi : i < ls.length) (hx : xs[i]? = some x) : Kd.R (Kd.int k) T W base (fun _ => True) u (x ++ List.replicate q (mk2 i)) := by
  have hh : i < hs.length := by have := h.grown.lenh; rw [List.length_set] at this; omega
  have := h.row hi (List.getElem?_set_self hh) hx
  simpa using this
theorem set_held {α : Type} {l : List α} {i : Nat} {u : α} (h : l[i]? = some u) : l.set i u = l := by
  apply List.ext_getElem?
  intro j
  rw [List.getElem?_set]
  split
  · rename_i e; subst e; rw [h]; have := (List.getElem?_eq_some_iff.1 h).1; simp [this]
  · rfl
/-- List i's growth goes on from u. -/
theorem Ap2.go {b c : Nat} (h : Ap2 okr k w W base T T2 gm A ls hs xs gs mk2 (fun j => if j < i then b else c)) (hu : hs[i]? = some u) : Ap2 okr k w W base T T2 gm A ls (hs.set i u) xs gs mk2 (fun j => if j = i then c + 0 else if j < i then b else c) := by
  rw [set_held hu]
  refine h.cnt_eq (fun j _ => ?_)
  by_cases e : j = i
  · simp [e]
  · simp [e]
theorem Ap2.came {b c d : Nat} (h : Ap2 okr k w W base T T2 gm A ls (hs.set i u) xs gs mk2 (fun j => if j = i then c + d else if j < i then b else c)) (hb : c + d = b) : Ap2 okr k w (W.setCell ⟨gm, i, none⟩ u) base T T2 gm A ls (hs.set i u) xs (gs.setIfInBounds i u) mk2 (fun j => if j < i + 1 then b else c) := by
  refine (h.store i u).cnt_eq (fun j _ => ?_)
  by_cases e : j = i
  · simp [e]; omega
  · by_cases e2 : j < i
    · simp [e, e2, show j < i + 1 from by omega]
    · simp [e, e2, show ¬ j < i + 1 from by omega]
theorem laid_set (hd : ∀ j, j < i → gs[j]? = hs[j]?) (hg : i < gs.size) (hl : i < hs.length) : ∀ j, j < i + 1 → (gs.setIfInBounds i u)[j]? = (hs.set i u)[j]? := by
  intro j hj
  rw [Array.getElem?_setIfInBounds, List.getElem?_set]
  by_cases e : i = j
  · subst e; simp [hg, hl]
  · rw [if_neg e, if_neg e]; exact hd j (by omega)
theorem laid_all (hd : ∀ j : Nat, gs[j]? = hs[j]?) : ∀ j : Nat, (gs.setIfInBounds i u)[j]? = (hs.set i u)[j]? := by
  have hsz : gs.size = hs.length := by
    have h1 := hd gs.size
    have h2 := hd hs.length
    simp at h1 h2
    omega
  intro j
  rw [Array.getElem?_setIfInBounds, List.getElem?_set]
  by_cases e : i = j
  · subst e; simp [hsz]
  · rw [if_neg e, if_neg e]; exact hd j
theorem rest_set (hr : ∀ j, i ≤ j → hs[j]? = ls[j]?) : ∀ j, i + 1 ≤ j → (hs.set i u)[j]? = ls[j]? := by
  intro j hj
  rw [List.getElem?_set_ne (by omega)]
  exact hr j (by omega)
/-- What list i itself reads. -/
theorem Ap2.list {Al : Option Addr} {c n : Nat} (h : Ap2 okr k w W base T T2 gm A ls hs xs gs mk2 cnt) (hv : ls[i]? = some (.slice Al n c)) (hx : xs[i]? = some x) : Kd.C (Kd.int k) W Al x.length x := by
  have hi : i < ls.length := (List.getElem?_eq_some_iff.1 hv).1
  have hh : i < hs.length := by rw [h.grown.lenh]; exact hi
  obtain ⟨Al', c', e, hL⟩ := h.grown.row i _ _ _ _ hv (List.getElem?_eq_getElem hh) hx (tails_at hi)
  injection e with e
  rw [e]
  exact hL.reads
/-- What a list behind its marks reads at place t. -/
theorem rd_marks {n q t : Nat} {a b : Int} (ht : t < n + q) : (List.replicate n a ++ List.replicate q b).getD t 0 = if t < n then a else b := by
  rw [List.getD_eq_getElem?_getD, List.getElem?_append]
  by_cases h : t < n
  · simp [h]
  · simp [h, show t - n < q from by omega]
theorem Ap2.look {n q t : Nat} {a : Int} (h : Ap2 okr k w W base T T2 gm A ls hs xs gs mk2 cnt) (hi : i < ls.length) (hu : hs[i]? = some u) (hx : xs[i]? = some (List.replicate n a)) (hc : cnt i = q) (ht : t < n + q) : ∃ g c, u = .slice (some ⟨g, 0, none⟩) (n + q) c ∧ W.cell? ⟨g, t, none⟩ = some (.int k (if t < n then a else mk2 i)) := by
  have hr := h.row hi hu hx
  rw [hc] at hr
  obtain ⟨Au, cu, rfl, hcap, hC⟩ := Kd.R_reads hr
  have hl : (List.replicate n a ++ List.replicate q (mk2 i)).length = n + q := by simp
  obtain ⟨ad, rfl, -⟩ := hC.2.2 (by rw [hl]; omega)
  obtain ⟨p, rfl⟩ := Kd.R_head hr
  have := (Kd.R_cell (0 : Int) hr (t : Int) (by omega) (by rw [hl]; omega)).1
  simp only [Int.toNat_natCast, rdOf, rd_marks ht] at this
  exact ⟨p, cu, by rw [hl], this⟩
end
set_option maxHeartbeats 1000000 in
set_option maxRecDepth 100000 in
theorem apart_calls (A : Option Addr) (n c base : Nat) (okr : Nat → Prop) (ls : List Value) (xs : List (List Int)) (w : World) (hL : Lists .u8 w base 5 okr ls xs) (hN : n = xs.length)
    (hC : ∀ (j : Nat) (v : Value), ls[j]? = some v → ∃ g, A = some ⟨g, 0, none⟩ ∧ w.cell? ⟨g, j, none⟩ = some v) (hfar : ∀ g, A = some ⟨g, 0, none⟩ → ¬ okr g) (hb : base ≤ w.heap.size) (hn : n ≤ 4194304) (hx : ∀ x ∈ xs, x.length ≤ 140737488351232) :
    Calls Try.prog 20 #[.slice A n c] w fun e w' => e = .returned (.bool true) ∧ Below base w w' ∧ ∀ b, b < w.heap.size → ¬ okr b → w'.heap[b]? = w.heap[b]? := by
  have HL := Aside0.mk hL
  have HN := Aside0.mk hN
  have HC := Aside0.mk hC
  have HX := Aside0.mk hx
  have HNN := Aside0.mk hn
  clear hL hN hC hx hn
  go_enter Try.func20, Try.ntmps20
  go_wp2_with (fail)
  go_loopg [18] n (fun gq v18 wr => ∃ (i : Nat) (ys : List (List Int)), v18 = .int .i64 i ∧ Aside0 (i ≤ n) ∧ Aside0 (n - i ≤ gq) ∧ Aside0 (Ap1 .u8 w wr base 5 okr A ls xs ys (fun i => (i : Int) % 256) i 0))
  case atStart =>
    refine ⟨0, xs, rfl, ⟨Nat.zero_le _⟩, ⟨by omega⟩, ⟨{ below := Below.refl _ _, lists := HL.out, lens := fun _ => rfl, done := fun j hj => absurd hj (by omega), part := by simp, outer := HC.out, far := hfar, kept := fun _ _ _ => rfl }⟩⟩
  case round =>
    obtain ⟨i, ys, rfl, HI, HG, I⟩ := hrel
    by_cases hlt : i < n
    · have c1 : decide ((i : Int) < (n : Int)) = true := decide_eq_true (by omega)
      have c2 : (0 : Int) ≤ (i : Int) := Int.natCast_nonneg i
      have c3 : (i : Int) < (n : Int) := by omega
      obtain ⟨g, Ai, ci, rfl, hls, hcell, hhead, hrow⟩ := I.out.at_ (by have := HN.out; omega) (by have := I.out.lists.len; have := HL.out.len; omega)
      obtain ⟨len, hlen⟩ : ∃ len, (xs.getD i []).length = len := ⟨_, rfl⟩
      rw [hlen] at hls hcell hhead hrow
      have hlb : len ≤ 140737488351232 := by rw [← hlen, List.getD_eq_getElem?_getD]; cases e : xs[i]? with | none => simp | some x => exact HX.out x (List.mem_of_getElem? e)
      have HLB := Aside0.mk hlb
      clear hlb
      have HLS := Aside0.mk hls
      have HHD := Aside0.mk hhead
      have HLEN := Aside0.mk hlen
      have HLT := Aside0.mk hlt
      have i1 : (i : Int) ≤ 4194304 := by have := HNN.out; omega
      clear hrow hls hhead hlen hlt
      go_wp2_with (fail)
      have I0 := I
      clear I
      go_loopg [25] len (fun gq v25 wq => ∃ (t : Nat) (ys : List (List Int)), v25 = .int .i64 t ∧ Aside0 (t ≤ len) ∧ Aside0 (len - t ≤ gq) ∧ Aside0 (Ap1 .u8 w wq base 5 okr (some ⟨g, 0, none⟩) ls xs ys (fun i => (i : Int) % 256) i t))
      case atStart => exact ⟨0, ys, rfl, ⟨Nat.zero_le _⟩, ⟨by omega⟩, I0⟩
      case round =>
        clear I0 hcell
        obtain ⟨t, ys', rfl, HT, HG2, I⟩ := hrel
        by_cases htl : t < len
        · have d1 : decide ((t : Int) < (len : Int)) = true := decide_eq_true (by omega)
          have d2 : (0 : Int) ≤ (t : Int) := Int.natCast_nonneg t
          have d3 : (t : Int) < (len : Int) := by omega
          obtain ⟨g', A', c', e1, e2, -, -, hrow⟩ := I.out.at_ (by have := HN.out; have := HLT.out; omega) (by have := I.out.lists.len; have := HL.out.len; omega)
          rw [HLS.out] at e2
          injection e2 with e2
          injection e2 with e2 e3 e4
          obtain ⟨gi, rfl⟩ := HHD.out (by omega)
          obtain ⟨⟨u, hu⟩, hz⟩ := hrow gi e2.symm t (by rw [HLEN.out]; exact htl)
          have HTL := Aside0.mk htl
          clear e1 e2 e3 e4 hrow htl
          go_wp2_with (fail)
          go_roundg (len - (t + 1))
          case measure => have := HG2.out; have := HTL.out; omega
          case rel =>
            have := HTL.out
            have := HLB.out
            exact ⟨t + 1, _, by rw [w64 (by omega) (by omega)]; rfl, ⟨by omega⟩, ⟨by omega⟩, ⟨I.out.put HLS.out (by rw [HLEN.out]; exact HTL.out)⟩⟩
        · obtain rfl : t = len := by have := HT.out; omega
          have d1 : decide ((t : Int) < (t : Int)) = false := decide_eq_false (by omega)
          clear htl
          go_wp2_with (fail)
          go_roundg (n - (i + 1))
          case measure => have := HG.out; have := HLT.out; omega
          case rel => exact ⟨i + 1, ys', by go_num, ⟨by have := HLT.out; omega⟩, ⟨by omega⟩, ⟨by have := I.out; rw [← HLEN.out] at this; exact this.next⟩⟩
    · obtain rfl : n = i := by have := HI.out; omega
      have c1 : decide ((n : Int) < (n : Int)) = false := decide_eq_false (by omega)
      clear hlt
      have hnn := HNN.out
      have hmk := run_make_row' (P := Try.prog) 48 27 (.slice none 0 0) 24 Try.underlying48 info27 rfl .i64 .i64 n (by omega) (by omega)
      obtain ⟨I⟩ := I
      have hp := I.made (T2 := 27) (mk2 := fun j => ((j : Int) + 140) % 256) (madeCells #[Value.slice none 0 0] n) (by have h1 : (madeCells #[Value.slice none 0 0] n).size = n := (by simp [madeCells]); have := HN.out; have := HL.out.len; omega) (by have := I.below.size; omega)
      have P := Aside0.mk hp
      have I1 := Aside0.mk I
      clear I hp
      go_wp2_with (fail)
      have HYL := Aside0.mk (show ∀ y ∈ ys, y.length ≤ 140737488351232 by
        intro y hy
        obtain ⟨j, hj, e⟩ := List.mem_iff_getElem.1 hy
        have h1 := I1.out.lens j
        rw [List.getD_eq_getElem?_getD, List.getElem?_eq_getElem hj, List.getD_eq_getElem?_getD] at h1
        simp only [Option.getD_some, e] at h1
        rw [h1]
        cases e2 : xs[j]? with
        | none => simp
        | some z => exact HX.out z (List.mem_of_getElem? e2))
      have HNL := Aside0.mk (show ls.length = n by have := HN.out; have := HL.out.len; omega)
      have HNB := HNN.out
      clear hnn hmk HI HG c1 HN HL HNN
      obtain ⟨gm, hgm⟩ : ∃ gm, wr.heap.size = gm := ⟨_, rfl⟩
      rw [hgm] at P
      rw [hgm]
      clear hgm
      go_loopg [40] n (fun gq v40 wq => ∃ (i : Nat) (hs : List Value) (gs : Array Value), v40 = .int .i64 i ∧ Aside0 (i ≤ n) ∧ Aside0 (n - i ≤ gq) ∧ Aside0 (Ap2 okr .u8 w wq base 5 27 gm A ls hs ys gs (fun j => ((j : Int) + 140) % 256) (fun j => if j < i then 8 else 0)) ∧
        Aside0 (∀ j, i ≤ j → hs[j]? = ls[j]?) ∧ Aside0 (∀ j, j < i → gs[j]? = hs[j]?))
      case atStart => exact ⟨0, ls, _, rfl, ⟨Nat.zero_le _⟩, ⟨by omega⟩, ⟨P.out.cnt_eq (fun j _ => by simp)⟩, ⟨fun _ _ => rfl⟩, ⟨fun j hj => absurd hj (by omega)⟩⟩
      case round =>
        obtain ⟨i, hs, gs, rfl, HI, HG, P, HR, HD⟩ := hrel
        by_cases hlt : i < n
        · have c1 : decide ((i : Int) < (n : Int)) = true := decide_eq_true (by omega)
          have c2 : (0 : Int) ≤ (i : Int) := Int.natCast_nonneg i
          have c3 : (i : Int) < (n : Int) := by omega
          have hil : i < ls.length := by have := HNL.out; omega
          obtain ⟨g, Al, cl, x, rfl, hne, hgl, hls, hx, hcell, hgd⟩ := P.out.at_ hil
          have hhs : hs[i]? = some (.slice Al x.length cl) := by rw [HR.out i (Nat.le_refl _)]; exact hls
          have hgs : i < gs.size := by have := P.out.gsz; omega
          have HX2 := Aside0.mk hx
          have HIL := Aside0.mk hil
          have HGS := Aside0.mk hgs
          have Q := Aside0.mk (P.out.go hhs)
          have HLT := Aside0.mk hlt
          have i1 : (i : Int) ≤ 4194304 := by omega
          clear hil hls hx hgd hgs hhs hlt P
          go_wp2_with (fail)
          go_loopg [9, 46] 8 (fun gq v9 v46 wq => ∃ (m : Nat) (u : Value), u = v9 ∧ v46 = .int .i64 m ∧ Aside0 (m ≤ 8) ∧ Aside0 (8 - m ≤ gq) ∧ Aside0 (Ap2 okr .u8 w wq base 5 27 gm (some ⟨g, 0, none⟩) ls (hs.set i u) ys gs (fun j => ((j : Int) + 140) % 256) (fun j => if j = i then 0 + m else if j < i then 8 else 0)))
          case atStart => exact ⟨0, _, rfl, rfl, ⟨Nat.zero_le _⟩, ⟨by omega⟩, Q⟩
          case round =>
            clear Q
            obtain ⟨m, u, rfl, rfl, HM, HG2, Q⟩ := hrel
            by_cases hm : m < 8
            · have d1 : decide ((m : Int) < 8) = true := decide_eq_true (by omega)
              have HM8 := Aside0.mk hm
              have hr := Q.out.rowi HIL.out HX2.out
              have HRW := Aside0.mk hr
              clear hr hm
              go_wp2_with ((with_reducible refine gate_builtin (b := .append) (xs := #[.tmp 48, .tmp 52]) rfl ?_); at_builtin; go_loud (refine Kd.R_app_int (k := .u8) base rfl (.tmp 48) (.tmp 52) 27 5 1 rfl Try.underlying27 info5 (by omega) u (x ++ List.replicate (0 + m) (((i : Int) + 140) % 256)) [((i : Int) + 140) % 256] (some ⟨wr.heap.size, 0, none⟩) 1 1 (fun _ => True) rfl rfl trivial ?HO ?HR ?base ?hl ?_; (case HO => exact Kd.R_alloc HRW.out _); (case HR => exact C_lit .u8 wr [((i : Int) + 140) % 256] 5 (by simp)); (case base => have := Q.out.below.size; have h2 := (World.grownBy_alloc wr (.cells #[Value.int .u8 (((i : Int) + 140) % 256)] 5) none).size; omega); (case hl => have h1 := HYL.out _ (List.mem_of_getElem? HX2.out); have h2 := HM8.out; simp only [List.length_append, List.length_replicate]; omega); intro v1 w1 hr1 hg1 hat1; have Q1 := Aside0.mk ((Q.out.grow (World.grownBy_alloc wr (.cells #[Value.int .u8 (((i : Int) + 140) % 256)] 5) none)).one (a := 1) HIL.out HX2.out hr1 hg1 hat1); clear hr1 hg1 hat1))
              go_roundg (8 - (m + 1))
              case measure => have := HG2.out; have := HM8.out; omega
              case rel => exact ⟨m + 1, _, rfl, by have := HM8.out; rw [w64 (by omega) (by omega)]; rfl, ⟨by have := HM8.out; omega⟩, ⟨by omega⟩, ⟨Q1.out.cnt_eq (fun j _ => by rw [Nat.add_assoc])⟩⟩
            · obtain rfl : m = 8 := by have := HM.out; omega
              have d1 : decide ((8 : Int) < 8) = false := rfl
              clear hm
              have e1 := (blk_cell Q.out.more i).trans (Array.getElem?_eq_getElem HGS.out)
              have e2 := blk_frozen Q.out.more i
              obtain ⟨Ar, ql, cr, rfl⟩ : ∃ Ar ql cr, u = .slice Ar ql cr := by obtain ⟨Ar, cr, rfl, -⟩ := Kd.R_reads (Q.out.rowi HIL.out HX2.out); exact ⟨_, _, _, rfl⟩
              go_wp2_with (fail)
              go_roundg (n - (i + 1))
              case measure => have := HG.out; have := HLT.out; omega
              case rel => exact ⟨i + 1, hs.set i _, gs.setIfInBounds i _, by go_num, ⟨by have := HLT.out; omega⟩, ⟨by omega⟩, ⟨Q.out.came rfl⟩, ⟨rest_set HR.out⟩, ⟨laid_set HD.out HGS.out (by have := Q.out.grown.lenh; rw [List.length_set] at this; have := HIL.out; omega)⟩⟩
        · obtain rfl : n = i := by have := HI.out; omega
          have c1 : decide ((n : Int) < (n : Int)) = false := decide_eq_false (by omega)
          clear hlt HG HI
          have HD := Aside0.mk (show ∀ j : Nat, gs[j]? = hs[j]? from fun j => by
            by_cases hj : j < n
            · exact HD.out j hj
            · have h1 := P.out.gsz
              have h2 := P.out.grown.lenh
              have h3 := HNL.out
              rw [Array.getElem?_eq_none (by omega), List.getElem?_eq_none (by omega)])
          have P := Aside0.mk (P.out.cnt_eq (cnt' := fun j => if j < 0 then 128 else 8) (fun j hj => by have := HNL.out; simp [show j < n from by omega]))
          clear HR
          go_wp2_with (fail)
          go_loopg [62] n (fun gq v62 wq => ∃ (i : Nat) (hs : List Value) (gs : Array Value), v62 = .int .i64 i ∧ Aside0 (i ≤ n) ∧ Aside0 (n - i ≤ gq) ∧ Aside0 (Ap2 okr .u8 w wq base 5 27 gm A ls hs ys gs (fun j => ((j : Int) + 140) % 256) (fun j => if j < i then 128 else 8)) ∧
            Aside0 (∀ j : Nat, gs[j]? = hs[j]?))
          case atStart => exact ⟨0, hs, gs, rfl, ⟨Nat.zero_le _⟩, ⟨by omega⟩, P, HD⟩
          case round =>
            clear P HD
            obtain ⟨i, hs, gs, rfl, HI, HG, P, HD⟩ := hrel
            by_cases hlt : i < n
            · have c1 : decide ((i : Int) < (n : Int)) = true := decide_eq_true (by omega)
              have c2 : (0 : Int) ≤ (i : Int) := Int.natCast_nonneg i
              have c3 : (i : Int) < (n : Int) := by omega
              have hil : i < ls.length := by have := HNL.out; omega
              obtain ⟨g, Al, cl, x, rfl, hne, hgl, hls, hx, hcell, hgd⟩ := P.out.at_ hil
              have hih : i < hs.length := by have := P.out.grown.lenh; omega
              obtain ⟨u0, hu0⟩ : ∃ u0, hs[i]? = some u0 := ⟨_, List.getElem?_eq_getElem hih⟩
              obtain ⟨A0, q0, c0, rfl⟩ : ∃ A0 q0 c0, u0 = .slice A0 q0 c0 := by obtain ⟨A0, c0, rfl, -⟩ := Kd.R_reads (P.out.row hil hu0 hx); exact ⟨_, _, _, rfl⟩
              have e0 := (blk_cell P.out.more i).trans ((HD.out i).trans hu0)
              have hgs : i < gs.size := by have := P.out.gsz; omega
              have HX2 := Aside0.mk hx
              have HIL := Aside0.mk hil
              have HGS := Aside0.mk hgs
              have Q := Aside0.mk (P.out.go hu0)
              have HLT := Aside0.mk hlt
              have i1 : (i : Int) ≤ 4194304 := by omega
              clear hil hls hx hgd hgs hu0 hlt hih hcell P
              go_wp2_with (fail)
              go_loopg [11, 67] 40 (fun gq v11 v67 wq => ∃ (m : Nat) (u : Value), u = v11 ∧ v67 = .int .i64 m ∧ Aside0 (m ≤ 40) ∧ Aside0 (40 - m ≤ gq) ∧ Aside0 (Ap2 okr .u8 w wq base 5 27 gm (some ⟨g, 0, none⟩) ls (hs.set i u) ys gs (fun j => ((j : Int) + 140) % 256) (fun j => if j = i then 8 + 3 * m else if j < i then 128 else 8)))
              case atStart => exact ⟨0, _, rfl, rfl, ⟨Nat.zero_le _⟩, ⟨by omega⟩, Q⟩
              case round =>
                clear Q e0
                obtain ⟨m, u, rfl, rfl, HM, HG2, Q⟩ := hrel
                by_cases hm : m < 40
                · have d1 : decide ((m : Int) < 40) = true := decide_eq_true (by omega)
                  have HM8 := Aside0.mk hm
                  have hr := Q.out.rowi HIL.out HX2.out
                  have HRW := Aside0.mk hr
                  clear hr hm
                  go_wp2_with ((with_reducible refine gate_builtin (b := .append) (xs := #[.tmp 69, .tmp 79]) rfl ?_); at_builtin; go_loud (refine Kd.R_app_int (k := .u8) base rfl (.tmp 69) (.tmp 79) 27 5 1 rfl Try.underlying27 info5 (by omega) u (x ++ List.replicate (8 + 3 * m) (((i : Int) + 140) % 256)) [((i : Int) + 140) % 256, ((i : Int) + 140) % 256, ((i : Int) + 140) % 256] (some ⟨wr.heap.size, 0, none⟩) 3 3 (fun _ => True) rfl rfl trivial ?HO ?HR ?base ?hl ?_; (case HO => exact Kd.R_alloc HRW.out _); (case HR => exact C_lit .u8 wr [((i : Int) + 140) % 256, ((i : Int) + 140) % 256, ((i : Int) + 140) % 256] 5 (by simp)); (case base => have := Q.out.below.size; have h2 := (World.grownBy_alloc wr (.cells #[Value.int .u8 (((i : Int) + 140) % 256), Value.int .u8 (((i : Int) + 140) % 256), Value.int .u8 (((i : Int) + 140) % 256)] 5) none).size; omega); (case hl => have h1 := HYL.out _ (List.mem_of_getElem? HX2.out); have h2 := HM8.out; simp only [List.length_append, List.length_replicate]; omega); intro v1 w1 hr1 hg1 hat1; have Q1 := Aside0.mk ((Q.out.grow (World.grownBy_alloc wr (.cells #[Value.int .u8 (((i : Int) + 140) % 256), Value.int .u8 (((i : Int) + 140) % 256), Value.int .u8 (((i : Int) + 140) % 256)] 5) none)).one (a := 3) HIL.out HX2.out hr1 hg1 hat1); clear hr1 hg1 hat1))
                  go_roundg (40 - (m + 1))
                  case measure => have := HG2.out; have := HM8.out; omega
                  case rel => exact ⟨m + 1, _, rfl, by have := HM8.out; rw [w64 (by omega) (by omega)]; rfl, ⟨by have := HM8.out; omega⟩, ⟨by omega⟩, ⟨Q1.out.cnt_eq (fun j _ => by rw [show 8 + 3 * (m + 1) = 8 + 3 * m + 3 from by omega])⟩⟩
                · obtain rfl : m = 40 := by have := HM.out; omega
                  have d1 : decide ((40 : Int) < 40) = false := rfl
                  clear hm
                  have e1 := (blk_cell Q.out.more i).trans (Array.getElem?_eq_getElem HGS.out)
                  have e2 := blk_frozen Q.out.more i
                  obtain ⟨Ar, ql, cr, rfl⟩ : ∃ Ar ql cr, u = .slice Ar ql cr := by obtain ⟨Ar, cr, rfl, -⟩ := Kd.R_reads (Q.out.rowi HIL.out HX2.out); exact ⟨_, _, _, rfl⟩
                  go_wp2_with (fail)
                  go_roundg (n - (i + 1))
                  case measure => have := HG.out; have := HLT.out; omega
                  case rel => exact ⟨i + 1, hs.set i _, gs.setIfInBounds i _, by go_num, ⟨by have := HLT.out; omega⟩, ⟨by omega⟩, ⟨Q.out.came rfl⟩, ⟨laid_all HD.out⟩⟩
            · obtain rfl : n = i := by have := HI.out; omega
              have c1 : decide ((n : Int) < (n : Int)) = false := decide_eq_false (by omega)
              clear hlt HG HI
              have P := Aside0.mk (P.out.cnt_eq (cnt' := fun _ => 128) (fun j hj => by have := HNL.out; simp [show j < n from by omega]))
              have HY := Aside0.mk (show ∀ (i : Nat) (x : List Int), i < n → ys[i]? = some x → x = List.replicate x.length ((i : Int) % 256) from fun i x hi hx => by
                have h1 := I1.out.done i hi
                have h2 : ys.getD i [] = x := by rw [List.getD_eq_getElem?_getD, hx]; rfl
                rw [h2] at h1
                rw [h1, List.length_replicate])
              clear I1
              go_wp2_with (fail)
              go_loopg [89] n (fun gq v89 wq => ∃ (i : Nat), v89 = .int .i64 i ∧ Aside0 (i ≤ n) ∧ Aside0 (n - i ≤ gq) ∧ Aside0 (Ap2 okr .u8 w wq base 5 27 gm A ls hs ys gs (fun j => ((j : Int) + 140) % 256) (fun _ => 128)))
              case atStart => exact ⟨0, rfl, ⟨Nat.zero_le _⟩, ⟨by omega⟩, P⟩
              case round =>
                clear P
                obtain ⟨i, rfl, HI, HG, P⟩ := hrel
                by_cases hlt : i < n
                · have c1 : decide ((i : Int) < (n : Int)) = true := decide_eq_true (by omega)
                  have c2 : (0 : Int) ≤ (i : Int) := Int.natCast_nonneg i
                  have c3 : (i : Int) < (n : Int) := by omega
                  have hil : i < ls.length := by have := HNL.out; omega
                  obtain ⟨g, Al, cl, x, rfl, hne, hgl, hls, hx, hcell, hgd⟩ := P.out.at_ hil
                  have hih : i < hs.length := by have := P.out.grown.lenh; omega
                  obtain ⟨u0, hu0⟩ : ∃ u0, hs[i]? = some u0 := ⟨_, List.getElem?_eq_getElem hih⟩
                  have hxr := HY.out i x hlt hx
                  obtain ⟨len, hlen⟩ : ∃ len, x.length = len := ⟨_, rfl⟩
                  have hlb : len ≤ 140737488351232 := by rw [← hlen]; exact HYL.out x (List.mem_of_getElem? hx)
                  rw [hlen] at hxr hls hcell
                  subst hxr
                  clear hlen
                  obtain ⟨ga, c0, rfl, -⟩ := P.out.look hil hu0 hx rfl (t := 0) (by omega)
                  have e0 := (blk_cell P.out.more i).trans ((HD.out i).trans hu0)
                  have HX2 := Aside0.mk hx
                  have HIL := Aside0.mk hil
                  have HU0 := Aside0.mk hu0
                  have HLS := Aside0.mk hls
                  have HLT := Aside0.mk hlt
                  have HLB := Aside0.mk hlb
                  have i1 : (i : Int) ≤ 4194304 := by omega
                  clear hil hls hx hgd hu0 hlt hih hlb
                  go_wp2_with (fail)
                  go_loopg [99] (len + 128) (fun gq v99 wq => ∃ (t : Nat), v99 = .int .i64 t ∧ Aside0 (t ≤ len + 128) ∧ Aside0 (len + 128 - t ≤ gq) ∧ Aside0 (Ap2 okr .u8 w wq base 5 27 gm (some ⟨g, 0, none⟩) ls hs ys gs (fun j => ((j : Int) + 140) % 256) (fun _ => 128)))
                  case atStart => exact ⟨0, rfl, ⟨Nat.zero_le _⟩, ⟨by omega⟩, P⟩
                  case round =>
                    clear P e0 hcell
                    obtain ⟨t, rfl, HT, HG2, P⟩ := hrel
                    by_cases ht : t < len + 128
                    · have d1 : decide ((t : Int) < (len : Int) + 128) = true := decide_eq_true (by omega)
                      have d2 : (0 : Int) ≤ (t : Int) := Int.natCast_nonneg t
                      have d3 : (t : Int) < (len : Int) + 128 := by omega
                      obtain ⟨g', c', e, hc1⟩ := P.out.look HIL.out HU0.out HX2.out rfl ht
                      injection e with e e2 e3
                      injection e with e
                      injection e with e
                      subst e
                      subst e3
                      have HTL := Aside0.mk ht
                      by_cases htl : t < len
                      · have t1 : decide ((t : Int) < (len : Int)) = true := decide_eq_true (by omega)
                        have t2 : decide ((t : Int) ≥ (len : Int)) = false := decide_eq_false (by omega)
                        have t3 : decide ((len : Int) ≤ (t : Int)) = false := decide_eq_false (by omega)
                        have t4 : (t : Int) < (len : Int) := by omega
                        rw [if_pos htl] at hc1
                        obtain ⟨ad, rfl, hc2⟩ := Kd.at_int (P.out.list HLS.out HX2.out) (t : Int) d2 (by simpa using t4)
                        have hrd : rd (List.replicate len ((i : Int) % 256)) (t : Int) = (i : Int) % 256 := by simp [rd, List.getD_eq_getElem?_getD, htl]
                        rw [hrd] at hc2
                        simp only [Int.toNat_natCast] at hc2
                        clear ht htl hrd
                        go_wp2_with (fail)
                        go_roundg (len + 128 - (t + 1))
                        case measure => have := HG2.out; have := HTL.out; omega
                        case rel => exact ⟨t + 1, by have := HTL.out; have := HLB.out; rw [w64 (by omega) (by omega)]; rfl, ⟨by have := HTL.out; omega⟩, ⟨by omega⟩, P⟩
                      · have t1 : decide ((t : Int) < (len : Int)) = false := decide_eq_false (by omega)
                        have t2 : decide ((t : Int) ≥ (len : Int)) = true := decide_eq_true (by omega)
                        have t3 : decide ((len : Int) ≤ (t : Int)) = true := decide_eq_true (by omega)
                        have t4 : (len : Int) ≤ (t : Int) := by omega
                        rw [if_neg htl] at hc1
                        clear ht htl
                        go_wp2_with (fail)
                        go_roundg (len + 128 - (t + 1))
                        case measure => have := HG2.out; have := HTL.out; omega
                        case rel => exact ⟨t + 1, by have := HTL.out; have := HLB.out; rw [w64 (by omega) (by omega)]; rfl, ⟨by have := HTL.out; omega⟩, ⟨by omega⟩, P⟩
                    · obtain rfl : t = len + 128 := by have := HT.out; omega
                      have d1 : decide (((len + 128 : Nat) : Int) < (len : Int) + 128) = false := decide_eq_false (by omega)
                      clear ht
                      go_wp2_with (fail)
                      go_roundg (n - (i + 1))
                      case measure => have := HG.out; have := HLT.out; omega
                      case rel => exact ⟨i + 1, by go_num, ⟨by have := HLT.out; omega⟩, ⟨by omega⟩, P⟩
                · obtain rfl : n = i := by have := HI.out; omega
                  have c1 : decide ((n : Int) < (n : Int)) = false := decide_eq_false (by omega)
                  clear hlt
                  go_wp2_with (fail)
                  go_ret
                  exact ⟨rfl, P.out.below, P.out.kept⟩
section
variable {P : Program} {ops : Array Oper} {rest : List Oper} {o : Oper} {a : Act} {Q : Exit → Act → World → Prop} {Kc : Act → World → Prop}
/-- A literal, told by its cells. -/
theorem cells_lit {W : World} (base e : Nat) (hgd : o.guard = none) {N : Tmp} (_hd : o.dst = some N) {inner : List Value} (hrun : (execOp a.eval o).run P W = .ok (.value (.slice (some ⟨W.heap.size, 0, none⟩) inner.length inner.length)) (W.alloc (.cells inner.toArray e)))
    (hbase : base ≤ W.heap.size) (hm : inner.length ≤ 9223372036854775807)
    (h : ∀ v1 w1, w1.ownsRow base e 1 v1 inner.length inner → W.grownBy w1 none → v1.ownBlock = some W.heap.size → wpList P ops Q rest (a.put o.dst v1) w1) : wpList P ops Q (o :: rest) a W := by
  refine Kd.event_run hgd hrun (h _ _ ?_ (World.grownBy_alloc W _ none) (by simp [Value.ownBlock]))
  have h2 := World.ownsRow_lit (base := base) (e := e) (size := 1) W inner.toArray inner.length hbase (by simpa [maxLen] using hm) (by simp)
  simpa using h2
/-- An append, told by its cells. -/
theorem wp_cells_app {W : World} (base : Nat) (s x : Operand) (t e : TypeId) (z : Value) (bytes : Nat)
    (ho : o.op = .call { callee := .builtin .append, args := #[s, x], argTypes := #[t, t] })
    (ht : P.underlying t = some (.slice e)) (hinfo : (P.info? e).map (fun i => (i.zero, i.size, i.bytes)) = some (some z, 1, bytes)) (hzs : z.cells.size = 1) (hb0 : 0 < bytes)
    (v : Value) (xs ys : List Value) (A : Option Addr) (m c : Nat) (hs : a.eval s = v) (hx : a.eval x = .slice A m c) (HO : W.ownsRow base e 1 v xs.length xs) (hm : ys.length = m)
    (hy : ∀ j u, ys[j]? = some u → ∃ g, A = some ⟨g, 0, none⟩ ∧ W.cell? ⟨g, j, none⟩ = some u) (h1 : ∀ u ∈ ys, u.oneCell' = true) (hbase : base ≤ W.heap.size) (hl : (xs.length + m) * bytes ≤ 140737488355328)
    (h : ∀ v1 w1, w1.ownsRow base e 1 v1 (xs.length + m) (xs ++ ys) → W.grownBy w1 v.ownBlock → (v1.ownBlock = v.ownBlock ∨ (v1.ownBlock = some W.heap.size ∧ W.grownBy w1 none)) → Kc (a.put o.dst v1) w1) : o.wp P a W Kc Q := by
  obtain ⟨i0, hi, hzz⟩ := Option.map_eq_some_iff.1 hinfo
  simp only [Prod.mk.injEq] at hzz
  obtain ⟨hz0, hz1, hz2⟩ := hzz
  have hlen : xs.length + m ≤ 140737488355328 := Nat.le_trans (Nat.le_mul_of_pos_right _ hb0) hl
  obtain ⟨v1, w1, hr, h2, h3, h5⟩ : ∃ v1 w1, (Builtin.append_ #[t, t] o.type #[v, .slice A m c]).run P W = .ok v1 w1 ∧ w1.ownsRow base e 1 v1 (xs.length + m) (xs ++ ys) ∧ W.grownBy w1 v.ownBlock ∧ (v1.ownBlock = v.ownBlock ∨ (v1.ownBlock = some W.heap.size ∧ W.grownBy w1 none)) := by
    rcases A with _ | ad
    · obtain rfl : ys = [] := by
        cases ys with
        | nil => rfl
        | cons y ys => obtain ⟨g, e, -⟩ := hy 0 y rfl; cases e
      obtain rfl : m = 0 := by simpa using hm.symm
      refine ⟨v, W, ?_, by simpa using HO, World.grownBy.refl W _, .inl rfl⟩
      rcases HO.2 with ⟨rfl, hn⟩ | ⟨g, cap, cur, rfl, _, _, hnc, _⟩
      · simp [Builtin.append_, run_underlying ht, sizeOf, typeInfo, hi, Builtin.lenOf, Builtin.firstCells]
      · simp [Builtin.append_, run_underlying ht, sizeOf, typeInfo, hi, Builtin.lenOf, Builtin.firstCells, hnc, storeCells]
    · refine run_append_keep (P := P) W base t o.type e i0 z bytes ht hi hz0 hz1 hz2 hzs v xs.length xs HO ad m c ys (by omega) ?_ h1 (by simp only [maxLen]; omega) hl hbase
      intro j u hu
      obtain ⟨g, e, hc⟩ := hy j u hu
      injection e with e
      subst e
      rw [show ((⟨g, 0, none⟩ : Addr).add j) = ⟨g, j, none⟩ from by simp [Addr.add]; omega]
      exact hc
  unfold Oper.wp execOp
  simp only [ho, resolve, invoke, builtin, Sem.run_bind, Sem.run_pure, Result.andThen_ok, List.map_toArray, List.map_cons, List.map_nil, hs, hx, hr]
  exact h v1 w1 h2 h3 h5
/-- An append, told by its cells. -/
theorem cells_app {W : World} (base : Nat) (hgd : o.guard = none) (s x : Operand) (t e : TypeId) (z : Value) (bytes : Nat)
    (ho : o.op = .call { callee := .builtin .append, args := #[s, x], argTypes := #[t, t] })
    (ht : P.underlying t = some (.slice e)) (hinfo : (P.info? e).map (fun i => (i.zero, i.size, i.bytes)) = some (some z, 1, bytes)) (hzs : z.cells.size = 1) (hb0 : 0 < bytes)
    (v : Value) (xs ys : List Value) (A : Option Addr) (m c : Nat) (hs : a.eval s = v) (hx : a.eval x = .slice A m c) (HO : W.ownsRow base e 1 v xs.length xs) (hm : ys.length = m)
    (hy : ∀ j u, ys[j]? = some u → ∃ g, A = some ⟨g, 0, none⟩ ∧ W.cell? ⟨g, j, none⟩ = some u) (h1 : ∀ u ∈ ys, u.oneCell' = true) (hbase : base ≤ W.heap.size) (hl : (xs.length + m) * bytes ≤ 140737488355328)
    (h : ∀ v1 w1, w1.ownsRow base e 1 v1 (xs.length + m) (xs ++ ys) → W.grownBy w1 v.ownBlock → (v1.ownBlock = v.ownBlock ∨ (v1.ownBlock = some W.heap.size ∧ W.grownBy w1 none)) → wpList P ops Q rest (a.put o.dst v1) w1) : wpList P ops Q (o :: rest) a W :=
  wpList_plain hgd fun K hK => wp_cells_app base s x t e z bytes ho ht hinfo hzs hb0 v xs ys A m c hs hx HO hm hy h1 hbase hl (fun v1 w1 h2 h3 h5 => hK _ _ (h v1 w1 h2 h3 h5))
/-- The same inside a region that draws its order. -/
theorem step_cells_app {E : Prop} {W : World} (base : Nat) (hw : Region.wanted o (yielded ops a.tmps) = true) (s x : Operand) (t e : TypeId) (z : Value) (bytes : Nat)
    (ho : o.op = .call { callee := .builtin .append, args := #[s, x], argTypes := #[t, t] })
    (ht : P.underlying t = some (.slice e)) (hinfo : (P.info? e).map (fun i => (i.zero, i.size, i.bytes)) = some (some z, 1, bytes)) (hzs : z.cells.size = 1) (hb0 : 0 < bytes)
    (v : Value) (xs ys : List Value) (A : Option Addr) (m c : Nat) (hs : a.eval s = v) (hx : a.eval x = .slice A m c) (HO : W.ownsRow base e 1 v xs.length xs) (hm : ys.length = m)
    (hy : ∀ j u, ys[j]? = some u → ∃ g, A = some ⟨g, 0, none⟩ ∧ W.cell? ⟨g, j, none⟩ = some u) (h1 : ∀ u ∈ ys, u.oneCell' = true) (hbase : base ≤ W.heap.size) (hl : (xs.length + m) * bytes ≤ 140737488355328)
    (h : ∀ v1 w1, w1.ownsRow base e 1 v1 (xs.length + m) (xs ++ ys) → W.grownBy w1 v.ownBlock → (v1.ownBlock = v.ownBlock ∨ (v1.ownBlock = some W.heap.size ∧ W.grownBy w1 none)) → Kc (a.put o.dst v1) w1) :
    if Region.wanted o (yielded ops a.tmps) = true then Oper.wp P o a W Kc Q else E := by
  rw [if_pos hw]
  exact wp_cells_app base s x t e z bytes ho ht hinfo hzs hb0 v xs ys A m c hs hx HO hm hy h1 hbase hl h
end
section
variable {k : IntKind} {W W1 : World} {base T e n c : Nat} {okr ok1 ok2 : Nat → Prop} {ls ls' : List Value} {xs xs' : List (List Int)} {v : Value} {x : List Int} {A : Option Addr} {inner : List Value}
/-- Cells of a row of one's own, as 'apart' reads them. -/
theorem own_cells (h : W.ownsRow base e 1 v n inner) : ∃ A c, v = .slice A n c ∧ n = inner.length ∧ n ≤ c ∧ (∀ g, A = some ⟨g, 0, none⟩ → base ≤ g ∧ g < W.heap.size) ∧ ∀ (j : Nat) (u : Value), inner[j]? = some u → ∃ g, A = some ⟨g, 0, none⟩ ∧ W.cell? ⟨g, j, none⟩ = some u := by
  have hl := h.1
  rcases h.2 with ⟨rfl, rfl⟩ | ⟨g, cap, cur, rfl, hbg, hg, hnc, hcm, hcs, htake⟩
  · refine ⟨none, 0, rfl, by simpa using hl.symm, Nat.le_refl _, fun g e => (by cases e), fun j u hu => ?_⟩
    have : inner = [] := List.eq_nil_of_length_eq_zero (by simpa using hl)
    subst this
    simp at hu
  · refine ⟨_, cap, rfl, by simpa using hl.symm, hnc, ?_, ?_⟩
    · intro g' e
      injection e with e
      injection e with e
      subst e
      exact ⟨hbg, blk_lt hg⟩
    · intro j u hu
      refine ⟨g, rfl, ?_⟩
      have := World.ownsRow.cells h (g := g) rfl j u hu
      rwa [show ((⟨g, 0, none⟩ : Addr).add j) = ⟨g, j, none⟩ from by simp [Addr.add]; omega] at this
theorem Lists.mono (h : Lists k W base T ok1 ls xs) (hm : ∀ b, ok1 b → ok2 b) : Lists k W base T ok2 ls xs :=
  ⟨h.len, fun j v x hv hx => Kd.R_mono (h.row j v x hv hx) hm, h.two⟩
theorem Lists.step (h : Lists k W base T okr ls xs) (hs : ∀ b, okr b → b < W.heap.size → W1.heap[b]? = W.heap[b]?) : Lists k W1 base T okr ls xs :=
  ⟨h.len, fun j v x hv hx => Kd.R_step (h.row j v x hv hx) hs, h.two⟩
theorem Lists.nil (k : IntKind) (W : World) (base T : Nat) (okr : Nat → Prop) : Lists k W base T okr [] [] := ⟨rfl, fun j v x hv => by simp at hv, fun i j u v _ hu => by simp at hu⟩
theorem Lists.cons (h : Lists k W base T okr ls xs) (hr : Kd.R (Kd.int k) T W base okr v x) (ha : ∀ u, u ∈ ls → ∀ b, v.ownBlock = some b → u.ownBlock ≠ some b) : Lists k W base T okr (v :: ls) (x :: xs) := by
  refine ⟨by simp [h.len], ?_, ?_⟩
  · intro j v' x' hv hx
    cases j with
    | zero =>
      simp only [List.getElem?_cons_zero, Option.some.injEq] at hv hx
      rw [← hv, ← hx]
      exact hr
    | succ j => exact h.row j v' x' (by simpa using hv) (by simpa using hx)
  · intro i j u v' hij hu hv b hb hb2
    cases i with
    | zero =>
      simp only [List.getElem?_cons_zero, Option.some.injEq] at hu
      subst hu
      cases j with
      | zero => exact hij rfl
      | succ j => exact ha v' (List.mem_of_getElem? (show ls[j]? = some v' by simpa using hv)) b hb hb2
    | succ i =>
      cases j with
      | zero =>
        simp only [List.getElem?_cons_zero, Option.some.injEq] at hv
        subst hv
        exact ha u (List.mem_of_getElem? (show ls[i]? = some u by simpa using hu)) b hb2 hb
      | succ j => exact h.two i j u v' (by omega) (by simpa using hu) (by simpa using hv) b hb hb2
/-- Lists whose rows lie in two far stretches. -/
theorem Lists.append (h : Lists k W base T ok1 ls xs) (h' : Lists k W base T ok2 ls' xs') (hf : ∀ b, ok1 b → ¬ ok2 b) : Lists k W base T (fun b => ok1 b ∨ ok2 b) (ls ++ ls') (xs ++ xs') := by
  have hl := h.len
  have in1 : ∀ (j : Nat) (u : Value), ls[j]? = some u → ∀ b, u.ownBlock = some b → ok1 b := fun j u hu => by
    have hj := (List.getElem?_eq_some_iff.1 hu).1
    exact (h.row j u _ hu (List.getElem?_eq_getElem (by omega))).1
  have in2 : ∀ (j : Nat) (u : Value), ls'[j]? = some u → ∀ b, u.ownBlock = some b → ok2 b := fun j u hu => by
    have hj := (List.getElem?_eq_some_iff.1 hu).1
    exact (h'.row j u _ hu (List.getElem?_eq_getElem (by have := h'.len; omega))).1
  refine ⟨by simp [h.len, h'.len], ?_, ?_⟩
  · intro j v x hv hx
    rw [List.getElem?_append] at hv hx
    by_cases hj : j < ls.length
    · rw [if_pos hj] at hv
      rw [if_pos (by omega)] at hx
      exact Kd.R_mono (h.row j v x hv hx) (fun b hb => .inl hb)
    · rw [if_neg hj] at hv
      rw [if_neg (by omega), ← hl] at hx
      exact Kd.R_mono (h'.row _ v x hv hx) (fun b hb => .inr hb)
  · intro i j u v hij hu hv b hb hb2
    rw [List.getElem?_append] at hu hv
    by_cases hi : i < ls.length
    · rw [if_pos hi] at hu
      by_cases hj : j < ls.length
      · rw [if_pos hj] at hv
        exact h.two i j u v hij hu hv b hb hb2
      · rw [if_neg hj] at hv
        exact hf b (in1 i u hu b hb) (in2 _ v hv b hb2)
    · rw [if_neg hi] at hu
      by_cases hj : j < ls.length
      · rw [if_pos hj] at hv
        exact hf b (in1 j v hv b hb2) (in2 _ u hu b hb)
      · rw [if_neg hj] at hv
        exact h'.two _ _ u v (by omega) hu hv b hb hb2
end
theorem Lists.lower {k : IntKind} {W : World} {base base' T : Nat} {okr : Nat → Prop} {ls : List Value} {xs : List (List Int)} (h : Lists k W base T okr ls xs) (hb : base' ≤ base) : Lists k W base' T okr ls xs :=
  ⟨h.len, fun j v x hv hx => Kd.R_lower (h.row j v x hv hx) hb, h.two⟩
/-- Parts in a box g; all that they lead to lies from lo on, ahead of g. -/
structure Tri (W : World) (lo g : Nat) (q0 q1 q2 : Value) (N B : List Int) (Cs : List (List Int)) : Prop where
  box : W.heap[g]? = some (.cells #[q0, q1, q2] 50 (0, 0))
  r0 : Kd.R (Kd.int .u8) 5 W lo (fun k => k < g ∧ some k ≠ q1.ownBlock) q0 N
  r1 : Kd.R (Kd.int .u8) 5 W lo (fun k => k < g ∧ some k ≠ q0.ownBlock) q1 B
  r2 : Kd.S (Kd.slice 5 (Kd.int .u8)) 27 W lo (fun k => k < g ∧ some k ≠ q0.ownBlock ∧ some k ≠ q1.ownBlock) q2 Cs
  log : lo ≤ g
section
variable {W W1 : World} {lo g : Nat} {q0 q1 q2 : Value} {N B : List Int} {Cs : List (List Int)} {A0 A1 A2 : Option Addr} {n0 n1 n2 c0 c1 c2 : Nat}
theorem Tri.step (h : Tri W lo g q0 q1 q2 N B Cs) (hs : ∀ b, lo ≤ b → b ≤ g → b < W.heap.size → W1.heap[b]? = W.heap[b]?) : Tri W1 lo g q0 q1 q2 N B Cs := by
  have hg := blk_lt h.box
  refine ⟨(hs g h.log (Nat.le_refl _) hg).trans h.box, ?_, ?_, ?_, h.log⟩
  · exact Kd.R_mono (Kd.R_step (Kd.R_mono (Kd.R_bound h.r0) (fun k hk => (⟨hk.1, hk.2.1⟩ : (k < g ∧ some k ≠ q1.ownBlock) ∧ lo ≤ k))) (fun b hb hlt => hs b hb.2 (Nat.le_of_lt hb.1.1) hlt)) (fun _ hk => hk.1)
  · exact Kd.R_mono (Kd.R_step (Kd.R_mono (Kd.R_bound h.r1) (fun k hk => (⟨hk.1, hk.2.1⟩ : (k < g ∧ some k ≠ q0.ownBlock) ∧ lo ≤ k))) (fun b hb hlt => hs b hb.2 (Nat.le_of_lt hb.1.1) hlt)) (fun _ hk => hk.1)
  · exact Kd.S_mono (Kd.S_step (Kd.S_mono (Kd.S_bound h.r2) (fun k hk => (⟨hk.1, hk.2.1⟩ : (k < g ∧ some k ≠ q0.ownBlock ∧ some k ≠ q1.ownBlock) ∧ lo ≤ k))) (fun b hb hlt => hs b hb.2 (Nat.le_of_lt hb.1.1) hlt)) (fun _ hk => hk.1)
theorem Tri.below (h : Tri W lo g q0 q1 q2 N B Cs) (hb : Below W.heap.size W W1) : Tri W1 lo g q0 q1 q2 N B Cs := h.step (fun b _ _ hlt => hb.block b hlt)
theorem Tri.cells (h : Tri W lo g q0 q1 q2 N B Cs) : W.cell? ⟨g, 0, none⟩ = some q0 ∧ W.cell? ⟨g, 1, none⟩ = some q1 ∧ W.cell? ⟨g, 2, none⟩ = some q2 :=
  ⟨(blk_cell h.box 0).trans rfl, (blk_cell h.box 1).trans rfl, (blk_cell h.box 2).trans rfl⟩
theorem Tri.lit (h : Tri W lo g q0 q1 q2 N B Cs) : ∃ (A0 A1 A2 : Option Addr) (c0 c1 c2 : Nat), q0 = .slice A0 N.length c0 ∧ q1 = .slice A1 B.length c1 ∧ q2 = .slice A2 Cs.length c2 := by
  obtain ⟨A0, c0, rfl, -⟩ := Kd.R_reads h.r0
  obtain ⟨A1, c1, rfl, -⟩ := Kd.R_reads h.r1
  obtain ⟨A2, c2, rfl, -⟩ := Kd.S_reads h.r2
  exact ⟨_, _, _, _, _, _, rfl, rfl, rfl⟩
theorem Tri.reads (h : Tri W lo g (.slice A0 n0 c0) (.slice A1 n1 c1) (.slice A2 n2 c2) N B Cs) :
    (Kd.C (Kd.int .u8) W A0 N.length N ∧ N.length ≤ c0) ∧ (Kd.C (Kd.int .u8) W A1 B.length B ∧ B.length ≤ c1) ∧ (Kd.C (Kd.slice 5 (Kd.int .u8)) W A2 Cs.length Cs ∧ Cs.length ≤ c2) := by
  obtain ⟨rfl, a, b⟩ := Kd.R_reads' h.r0
  obtain ⟨rfl, c, d⟩ := Kd.R_reads' h.r1
  obtain ⟨rfl, e, f⟩ := Kd.S_reads' h.r2
  exact ⟨⟨b, a⟩, ⟨d, c⟩, ⟨f, e⟩⟩
/-- The parts as lists that lie apart. -/
theorem Tri.lists (h : Tri W lo g q0 q1 (.slice A2 n2 c2) N B Cs) : ∃ inner : List Value, inner.length = Cs.length ∧ Lists .u8 W lo 5 (fun k => lo ≤ k ∧ k < g) ([q0, q1] ++ inner) ([N, B] ++ Cs) ∧ (∀ u ∈ inner, u.oneCell' = true) ∧
    ∀ (j : Nat) (u : Value), inner[j]? = some u → ∃ g, A2 = some ⟨g, 0, none⟩ ∧ W.cell? ⟨g, j, none⟩ = some u := by
  obtain ⟨inner, hL, hn, hC⟩ := lists_of h.r2
  have hbd : ∀ (j : Nat) (v : Value) (x : List Int), inner[j]? = some v → Cs[j]? = some x → Kd.R (Kd.int .u8) 5 W lo (fun k => lo ≤ k ∧ k < g) v x := fun j v x hv hx =>
    Kd.R_mono (Kd.R_bound (hL.row j v x hv hx)) (fun k hk => ⟨hk.2.1, hk.1.1.1⟩)
  have hin : ∀ u ∈ inner, ∃ (j : Nat) (x : List Int), inner[j]? = some u ∧ Cs[j]? = some x := by
    intro u hu
    obtain ⟨j, hj, e⟩ := List.mem_iff_getElem.1 hu
    exact ⟨j, Cs[j]'(by rw [← hL.len]; exact hj), by rw [List.getElem?_eq_getElem hj, e], List.getElem?_eq_getElem _⟩
  have hne : ∀ u ∈ inner, ∀ b, u.ownBlock = some b → some b ≠ q0.ownBlock ∧ some b ≠ q1.ownBlock := by
    intro u hu b hb
    obtain ⟨j, x, hj, hx⟩ := hin u hu
    exact ((hL.row j u x hj hx).1 b hb).1.2
  refine ⟨inner, hL.len, ?_, ?_, hC⟩
  · have h0 : Lists .u8 W lo 5 (fun k => lo ≤ k ∧ k < g) inner Cs := ⟨hL.len, hbd, hL.two⟩
    have h1 := h0.cons (Kd.R_mono (Kd.R_bound h.r1) (fun k hk => (⟨hk.2.1, hk.1.1⟩ : lo ≤ k ∧ k < g))) (fun u hu b hb e => (hne u hu b e).2 hb.symm)
    refine h1.cons (Kd.R_mono (Kd.R_bound h.r0) (fun k hk => (⟨hk.2.1, hk.1.1⟩ : lo ≤ k ∧ k < g))) (fun u hu b hb e => ?_)
    rcases List.mem_cons.1 hu with rfl | hu
    · exact (h.r0.1 b hb).2 e.symm
    · exact (hne u hu b e).1 hb.symm
  · intro u hu
    obtain ⟨j, x, hj, hx⟩ := hin u hu
    obtain ⟨A, c, rfl, -⟩ := Kd.R_reads (hL.row j u x hj hx)
    rfl
/-- A call that answered parts, and the box they were put into. -/
theorem Tri.made {w w' : World} (h0 : Kd.R (Kd.int .u8) 5 w' w.heap.size (fun k => some k ≠ q1.ownBlock) q0 N) (h1 : Kd.R (Kd.int .u8) 5 w' w.heap.size (fun k => some k ≠ q0.ownBlock) q1 B)
    (h2 : Kd.S (Kd.slice 5 (Kd.int .u8)) 27 w' w.heap.size (fun k => some k ≠ q0.ownBlock ∧ some k ≠ q1.ownBlock) q2 Cs) (hs : w.heap.size ≤ w'.heap.size)
    (hb : Below w'.heap.size w' W) (hbox : W.heap[w'.heap.size]? = some (.cells #[q0, q1, q2] 50 (0, 0))) : Tri W w.heap.size w'.heap.size q0 q1 q2 N B Cs := by
  refine ⟨hbox, ?_, ?_, ?_, hs⟩
  · exact Kd.R_mono (Kd.R_step (Kd.R_bound h0) (fun b _ hlt => hb.block b hlt)) (fun k hk => ⟨hk.2.2.1, hk.1⟩)
  · exact Kd.R_mono (Kd.R_step (Kd.R_bound h1) (fun b _ hlt => hb.block b hlt)) (fun k hk => ⟨hk.2.2.1, hk.1⟩)
  · exact Kd.S_mono (Kd.S_step (Kd.S_bound h2) (fun b _ hlt => hb.block b hlt)) (fun k hk => ⟨hk.2.2.1, hk.1⟩)
end
/-- All that stands behind the two Splits: the list that was handed in (block below L), and three parts one behind the other. -/
structure TS (w W : World) (L g1 lo2 g2 lo3 g3 : Nat) (vin : Value) (ys : List Int) (q0 q1 q2 a0 a1 a2 b0 b1 b2 : Value) (N B : List Int) (Cs : List (List Int)) : Prop where
  below : Below w.heap.size w W
  inn : Kd.R (Kd.int .u8) 5 W w.heap.size (fun k => k < L) vin ys
  want : Tri W L g1 q0 q1 q2 N B Cs
  a : Tri W lo2 g2 a0 a1 a2 N B Cs
  b : Tri W lo3 g3 b0 b1 b2 N B Cs
  wL : w.heap.size ≤ L
  l2 : g1 < lo2
  l3 : g2 < lo3
section
variable {w W W1 : World} {L g1 lo2 g2 lo3 g3 : Nat} {vin : Value} {ys : List Int} {q0 q1 q2 a0 a1 a2 b0 b1 b2 : Value} {N B : List Int} {Cs : List (List Int)}
theorem TS.next (h : TS w W L g1 lo2 g2 lo3 g3 vin ys q0 q1 q2 a0 a1 a2 b0 b1 b2 N B Cs) (hb : Below W.heap.size W W1) : TS w W1 L g1 lo2 g2 lo3 g3 vin ys q0 q1 q2 a0 a1 a2 b0 b1 b2 N B Cs :=
  { h with below := below_then h.below h.below.size hb, inn := Kd.R_step h.inn (fun b _ hlt => hb.block b hlt), want := h.want.below hb, a := h.a.below hb, b := h.b.below hb }
theorem TS.drew (h : TS w W L g1 lo2 g2 lo3 g3 vin ys q0 q1 q2 a0 a1 a2 b0 b1 b2 N B Cs) : TS w W.drew L g1 lo2 g2 lo3 g3 vin ys q0 q1 q2 a0 a1 a2 b0 b1 b2 N B Cs := h.next (below_drew (Below.refl _ _))
theorem TS.drewN (h : TS w W L g1 lo2 g2 lo3 g3 vin ys q0 q1 q2 a0 a1 a2 b0 b1 b2 N B Cs) (n : Nat) : TS w (W.drewN n) L g1 lo2 g2 lo3 g3 vin ys q0 q1 q2 a0 a1 a2 b0 b1 b2 N B Cs := h.next (pw_below_drewN (Below.refl _ _) n)
/-- A store into what was handed in. -/
theorem TS.put {g n c : Nat} (h : TS w W L g1 lo2 g2 lo3 g3 (.slice (some ⟨g, 0, none⟩) n c) ys q0 q1 q2 a0 a1 a2 b0 b1 b2 N B Cs) (j : Nat) (z : Int) : TS w (W.setCell ⟨g, j, none⟩ (.int .u8 z)) L g1 lo2 g2 lo3 g3 (.slice (some ⟨g, 0, none⟩) n c) (ys.set j z) q0 q1 q2 a0 a1 a2 b0 b1 b2 N B Cs := by
  obtain ⟨hp, hg⟩ := Kd.R_putg h.inn (j : Int) z
  simp only [Int.toNat_natCast] at hp hg
  have hgL : g < L := h.inn.1 g rfl
  have hgw : w.heap.size ≤ g := Kd.R_base h.inn g rfl
  have far : ∀ b, L ≤ b → b < W.heap.size → (W.setCell ⟨g, j, none⟩ (.int .u8 z)).heap[b]? = W.heap[b]? := fun b hb hlt => hg.block b hlt (fun e => by injection e with e; omega)
  have h1 := h.want.log
  have h2 := h.a.log
  have h3 := h.l2
  have h4 := h.l3
  exact { h with below := h.below.setCell hgw _, inn := hp, want := h.want.step (fun b hb _ hlt => far b hb hlt), a := h.a.step (fun b hb _ hlt => far b (by omega) hlt), b := h.b.step (fun b hb _ hlt => far b (by omega) hlt) }
end
namespace Sp
/-- Part j of q things. -/
def piece (l : List Int) (q j : Nat) : List Int := (l.take ((j + 1) * q)).drop (j * q)
def pieces (l : List Int) (q c : Nat) : List (List Int) := (List.range c).map (piece l q)
def noiseOf (p : List Int) : List Int := p.take 18
def restOf (p : List Int) : List Int := (p.drop 18).drop ((p.length - 18) / 2)
def braidOf (p : List Int) : List Int := (p.drop 18).take ((p.length - 18) / 2)
def qOf (p : List Int) (c : Nat) : Nat := (restOf p).length / c
theorem restOf_len (p : List Int) : (restOf p).length = (p.length - 18) - (p.length - 18) / 2 := by simp [restOf]; omega
theorem qmul_le (p : List Int) (c j : Nat) (hj : j ≤ c) : j * qOf p c ≤ (restOf p).length :=
  Nat.le_trans (Nat.mul_le_mul_right _ hj) (by rw [Nat.mul_comm]; exact Nat.div_mul_le_self _ _)
theorem piece_len (p : List Int) (c j : Nat) (hj : j < c) : (piece (restOf p) (qOf p c) j).length = qOf p c := by
  have := qmul_le p c (j + 1) hj
  unfold piece
  rw [List.length_drop, List.length_take, Nat.min_eq_left this, Nat.succ_mul]
  omega
theorem pieces_succ (l : List Int) (q c : Nat) : pieces l q (c + 1) = pieces l q c ++ [piece l q c] := by
  unfold pieces
  rw [List.range_succ, List.map_append]
  rfl
/-- What Split answers. -/
def splitS (p : List Int) (c : Int) : List Int × List Int × (List (List Int)) × Int :=
  if c < 1 ∨ c > 64 then ([], [], [], 2) else if p.length < 18 then ([], [], [], 3) else (noiseOf p, braidOf p, pieces (restOf p) (qOf p c.toNat) c.toNat, 0)
theorem clone_val (l : List Int) (h : l.length < 140737488355328) : slices_Clone_byte_byte.f l = some l := by
  unfold slices_Clone_byte_byte.f
  rw [if_pos h]
theorem split_ev (p : List Int) (c : Int) (hp : p.length ≤ 140737488351232) : Ev (fun k => tape_Split.f k p c) (splitS p c) := by
  unfold tape_Split.f splitS
  by_cases h1 : c < 1
  · rw [if_pos (by omega)]
    exact ev_pos h1 (Ev.step (f := fun _ => some ([], [], [], 2)) (fun k => by rw [tape_Split.j0, if_pos rfl]) (Ev.now _))
  · refine ev_neg h1 ?_
    by_cases h2 : c > 64
    · rw [if_pos (by omega)]
      exact Ev.step (f := fun _ => some ([], [], [], 2)) (fun k => by rw [tape_Split.j0, if_pos (by simpa using h2)]) (Ev.now _)
    · rw [if_neg (by omega)]
      by_cases h3 : p.length < 18
      · rw [if_pos h3]
        exact Ev.step (f := fun _ => some ([], [], [], 3)) (fun k => by rw [tape_Split.j0, if_neg (by simp; omega), if_pos (by omega)]) (Ev.now _)
      · rw [if_neg h3]
        obtain ⟨n, rfl⟩ := Int.eq_ofNat_of_zero_le (show 0 ≤ c by omega)
        simp only [Int.toNat_natCast]
        have hrl := restOf_len p
        have key : ∀ (d j : Nat), j + d = n → Ev (fun k => tape_Split.l0 k (restOf p) (qOf p n : Int) (n : Int) (j : Int) (noiseOf p) (braidOf p) (pieces (restOf p) (qOf p n) j)) (noiseOf p, braidOf p, pieces (restOf p) (qOf p n) n, 0) := by
          intro d
          induction d with
          | zero =>
            intro j hj
            have : j = n := by omega
            subst this
            exact Ev.step (f := fun _ => some (noiseOf p, braidOf p, pieces (restOf p) (qOf p j) j, 0)) (fun k => by rw [tape_Split.l0, if_neg (by omega)]) (Ev.now _)
          | succ d ih =>
            intro j hj
            have a1 := qmul_le p n (j + 1) (by omega)
            have a2 : j * qOf p n ≤ (j + 1) * qOf p n := Nat.mul_le_mul_right _ (by omega)
            have hpl := piece_len p n j (by omega)
            have hql : qOf p n ≤ (restOf p).length := Nat.div_le_self _ _
            have hcl := clone_val (piece (restOf p) (qOf p n) j) (by omega)
            have b1 : (j : Int) < (n : Int) := by omega
            have b2 : (0 : Int) ≤ ((j * qOf p n : Nat) : Int) := by omega
            have b3 : ((j * qOf p n : Nat) : Int) ≤ (((j + 1) * qOf p n : Nat) : Int) := by omega
            have b4 : (((j + 1) * qOf p n : Nat) : Int) ≤ ((restOf p).length : Int) := by omega
            have b5 : j * qOf p n ≤ 9223372036854775807 := by omega
            have b6 : (j + 1) * qOf p n ≤ 9223372036854775807 := by omega
            have b8 : (pieces (restOf p) (qOf p n) j).length < 5864062014805 := by simp [pieces]; omega
            have b10 : j + 1 ≤ 9223372036854775807 := by omega
            have b9 : j + 1 + d = n := by omega
            have b7 : wrap64 ((j : Int) + 1) = ((j + 1 : Nat) : Int) := w64n (x := j + 1) b10
            have e1 : wrap64 ((j : Int) * (qOf p n : Int)) = ((j * qOf p n : Nat) : Int) := by rw [← Int.natCast_mul]; exact w64n b5
            have e2 : wrap64 (wrap64 ((j : Int) + 1) * (qOf p n : Int)) = (((j + 1) * qOf p n : Nat) : Int) := by
              rw [b7, ← Int.natCast_mul]
              exact w64n b6
            refine Ev.step (fun k => ?_) (ih (j + 1) b9)
            rw [tape_Split.l0, if_pos b1, e1, e2, if_pos b2, if_pos b3, if_pos b4, Int.toNat_natCast, Int.toNat_natCast, show ((restOf p).take ((j + 1) * qOf p n)).drop (j * qOf p n) = piece (restOf p) (qOf p n) j from rfl, hcl, Option.bind_some,
              if_pos b8, b7, pieces_succ]
        have h0 := key n 0 (by omega)
        have hd : (p.drop 18).length = p.length - 18 := by simp
        have g1 : ¬ ((p.length : Int) < 18) := by omega
        have g2 : (18 : Int) ≤ (p.length : Int) := by omega
        have g3 : (0 : Int) ≤ (((p.length - 18) / 2 : Nat) : Int) := by omega
        have g4 : (((p.length - 18) / 2 : Nat) : Int) ≤ ((p.drop 18).length : Int) := by rw [hd]; omega
        have g5 : (p.take 18).length < 140737488355328 := by simp; omega
        have g6 : ((p.drop 18).take ((p.length - 18) / 2)).length < 140737488355328 := by simp; omega
        have g7 : ¬ ((n : Int) = 0) := by omega
        have g8 : ¬ (decide ((n : Int) > 64) = true) := by simpa using h2
        have g9 : (restOf p).length ≤ 9223372036854775807 := by omega
        have hw : wrap64 (((p.drop 18).length : Int) / 2) = (((p.length - 18) / 2 : Nat) : Int) := by rw [hd, w64 (by omega) (by omega)]; omega
        refine Ev.step (fun k => ?_) h0
        have hq : wrap64 (((restOf p).length : Int) / (n : Int)) = (qOf p n : Int) := by
          rw [← Int.natCast_ediv]
          exact w64n (Nat.le_trans (Nat.div_le_self _ _) g9)
        rw [tape_Split.j0, if_neg g8, if_neg g1, if_pos g2, Option.bind_some, hw, clone_val _ g5, Option.bind_some, if_pos g3, if_pos g4, Int.toNat_natCast, clone_val _ g6, Option.bind_some, Option.bind_some, if_neg g7]
        show tape_Split.l0 k (restOf p) (wrap64 (((restOf p).length : Int) / (n : Int))) _ _ _ _ _ = _
        rw [hq]
        rfl
end Sp
open Sp
set_option maxHeartbeats 1000000 in
set_option maxRecDepth 100000 in
theorem lists_raw (w : World) (A0 A1 A2 : Option Addr) (n0 c0 n1 c1 c2 : Nat) (inner : List Value) (hin : ∀ (j : Nat) (u : Value), inner[j]? = some u → ∃ g, A2 = some ⟨g, 0, none⟩ ∧ w.cell? ⟨g, j, none⟩ = some u) (h1 : ∀ u ∈ inner, u.oneCell' = true) (hl : inner.length ≤ 4194304) :
    Calls Try.prog 21 #[.agg #[.slice A0 n0 c0, .slice A1 n1 c1, .slice A2 inner.length c2]] w fun e w' => ∃ v, e = .returned v ∧ w'.ownsRow w.heap.size 27 1 v (2 + inner.length) ([.slice A0 n0 c0, .slice A1 n1 c1] ++ inner) ∧ Below w.heap.size w w' := by
  have hu50 := Try.underlying50
  have HIN := Aside0.mk hin
  have H1 := Aside0.mk h1
  have HL := Aside0.mk hl
  clear hin h1 hl
  go_enter Try.func21, Try.ntmps21
  go_wp2_with (first
    | ((with_reducible refine gate_dst (N := 1) rfl ?_); refine box_event ?hg (N := 1) ?hd (cs := #[.slice A0 n0 c0, .slice A1 n1 c1, .slice A2 inner.length c2]) (t := 50) ?hr ?_; (case hd => rfl); (case hg => rfl); (case hr => first | (go_simp; done) | (go_simp; rfl)); intro gb hg w3 hbox hb; have HB3 := Aside0.mk hb; have HG3 := Aside0.mk hg; have HBX := Aside0.mk hbox; clear hb hbox hg; have hcz0 : w3.cell? ⟨gb, 0, none⟩ = some (.slice A0 n0 c0) := (blk_cell HBX.out 0).trans rfl; have hcz1 : w3.cell? ⟨gb, 1, none⟩ = some (.slice A1 n1 c1) := (blk_cell HBX.out 1).trans rfl; have hcz2 : w3.cell? ⟨gb, 2, none⟩ = some (.slice A2 inner.length c2) := (blk_cell HBX.out 2).trans rfl)
    | ((with_reducible refine gate_dst (N := 7) rfl ?_); refine cells_lit w.heap.size 27 ?hg (N := 7) ?hd (inner := [.slice A0 n0 c0, .slice A1 n1 c1]) ?hr ?hb ?hm ?_; (case hd => rfl); (case hg => rfl); (case hr => first | (go_simp; done) | (go_simp; rfl)); (case hb => exact HB3.out.size); (case hm => simp); intro v4 w4 ho4 hg4 he4; have HO4 := Aside0.mk ho4; have HB4 := Aside0.mk (HB3.out.grown hg4 HB3.out.size (fun k hk => by cases hk)); have hcz2 : w4.cell? ⟨gb, 2, none⟩ = some (.slice A2 inner.length c2) := (blk_cell (blk_grown HBX.out hg4 (by simp)) 2).trans rfl; clear ho4 hg4 he4)
    | ((with_reducible refine gate_builtin (b := .append) (xs := #[.tmp 7, .tmp 9]) rfl ?_); at_builtin; go_loud (refine cells_app w.heap.size rfl (.tmp 7) (.tmp 9) 48 27 (.slice none 0 0) 24 rfl Try.underlying48 info27 rfl (by decide) v4 [.slice A0 n0 c0, .slice A1 n1 c1] inner A2 inner.length c2 rfl rfl HO4.out rfl ?hy H1.out ?hbase ?hl ?_; (case hbase => exact HB4.out.size); (case hl => have := HL.out; simp; omega); (case hy => intro j u hu; obtain ⟨g, e, hc⟩ := HIN.out j u hu; have hlt := World.block_lt_of_cell? w ⟨g, j, none⟩ hc; exact ⟨g, e, cell_kept (S := fun _ => False) hc ⟨HB4.out.size, fun b hlt _ => HB4.out.block b hlt⟩ (fun h => h)⟩); intro v5 w5 ho5 hg5 he5; have HO5 := Aside0.mk ho5; have HB5 := Aside0.mk (HB4.out.grown hg5 HB4.out.size (fun k hk => (HO4.out.lt k hk).1)); clear ho5 hg5 he5)))
  go_ret
  exact ⟨_, rfl, HO5.out, HB5.out⟩
theorem apart_parts {W : World} {lo2 g2 lo3 g3 n c S : Nat} {innA innB : List Value} {a0 a1 b0 b1 : Value} {N B : List Int} {Cs : List (List Int)} {A : Option Addr} (LA : Lists .u8 W lo2 5 (fun k => lo2 ≤ k ∧ k < g2) ([a0, a1] ++ innA) ([N, B] ++ Cs)) (LB : Lists .u8 W lo3 5 (fun k => lo3 ≤ k ∧ k < g3) ([b0, b1] ++ innB) ([N, B] ++ Cs))
    (OC : ∀ (j : Nat) (u : Value), (([a0, a1] ++ innA) ++ ([b0, b1] ++ innB))[j]? = some u → ∃ g, A = some ⟨g, 0, none⟩ ∧ W.cell? ⟨g, j, none⟩ = some u) (OB : ∀ g, A = some ⟨g, 0, none⟩ → S ≤ g ∧ g < W.heap.size)
    (h0 : lo2 ≤ g2) (h1 : g2 < lo3) (h2 : lo3 ≤ g3) (h3 : g3 < S) (h4 : S ≤ W.heap.size) (hA : innA.length = Cs.length) (hn : ([a0, a1] ++ innA).length + (2 + Cs.length) = n) (hcs : Cs.length ≤ 64) (hxs : ∀ x ∈ [N, B] ++ Cs, x.length ≤ 140737488351232) :
    Calls Try.prog 20 #[.slice A n c] W fun e w' => e = .returned (.bool true) ∧ Below lo2 W w' ∧ ∀ b, b < W.heap.size → ¬ ((lo2 ≤ b ∧ b < g2) ∨ (lo3 ≤ b ∧ b < g3)) → w'.heap[b]? = W.heap[b]? := by
  have e1 : n = (([N, B] ++ Cs) ++ ([N, B] ++ Cs)).length := by
    rw [← hn]
    simp only [List.length_append, List.length_cons, List.length_nil]
    omega
  have hl : n ≤ 4194304 := by
    rw [e1]
    simp only [List.length_append, List.length_cons, List.length_nil]
    omega
  refine apart_calls A n c lo2 _ _ _ W (LA.append (LB.lower (by omega)) ?_) e1 OC ?_ (by omega) hl ?_
  · intro b p q
    have p2 := p.2
    have q1 := q.1
    omega
  · intro g e hg
    have := (OB g e).1
    rcases hg with hg | hg
    · have := hg.2; omega
    · have := hg.2; omega
  · intro x hx
    rcases List.mem_append.1 hx with h | h <;> exact hxs x h
set_option maxHeartbeats 1000000 in
set_option maxRecDepth 100000 in
theorem splits_calls (A0 : Option Addr) (c0 : Nat) (l0 : List Int) (a1 : Int) (k1 k2 k3 : Nat) (N B : List Int) (Cs : List (List Int)) (er : Int) (w : World) (hr0 : Kd.C (Kd.int .u8) w A0 l0.length l0) (hc0 : l0.length ≤ c0)
    (hk1 : tape_Split.f k1 l0 a1 = some (N, B, Cs, er)) (hk2 : churnref09_Split.f k2 l0 a1 = some (N, B, Cs, er)) (hk3 : churnlaw09_alike.f k3 N B Cs N B Cs = some true) (hlen : l0.length ≤ 140737488351232) (hcs : Cs.length ≤ 64) (hxs : ∀ x ∈ [N, B] ++ Cs, x.length ≤ 140737488351232) :
    Calls Try.prog 5 #[.slice A0 l0.length c0, .int .i64 a1] w fun e w' => e = .returned (.bool true) ∧ Below w.heap.size w w' := by
  have HR0 := Aside0.mk hr0
  have HC0 := Aside0.mk hc0
  have HK1 := Aside0.mk hk1
  have HK2 := Aside0.mk hk2
  have HK3 := Aside0.mk hk3
  have HLEN := Aside0.mk hlen
  have HCS := Aside0.mk hcs
  have HXS := Aside0.mk hxs
  clear hr0 hc0 hk1 hk2 hk3 hlen hcs hxs
  have hu50 := Try.underlying50
  go_enter Try.func5, Try.ntmps5
  go_wp2_with (first
    | (go_at_call 7; (refine (churnlaw09_awake.calls true _ (by decide +kernel)).mono ?_); rintro e w1 ⟨rfl, hb1⟩; have HB1 := Aside0.mk hb1; clear hb1)
    | ((with_reducible refine gate_dst (N := 17) rfl ?_); refine Kd.R_lit (Kd.int .u8) w.heap.size 5 ?hg (N := 17) ?hd (xs := ([] : List Int)) (inner := []) (ok := fun _ => True) (okp := fun _ => True) ?hr ?hp (fun _ hk => hk) trivial HB1.out HB1.out.size (by simp) ?_; (case hd => rfl); (case hg => rfl); (case hr => first | (go_simp; done) | (go_simp; rfl)); (case hp => exact (Reps.none _ _)); intro v17 w17 ho17 hb17 hg17 hn17; have HB17 := Aside0.mk hb17; have HO17 := Aside0.mk ho17; clear hb17 ho17 hg17 hn17)
    | ((with_reducible refine gate_builtin (b := .append) (xs := #[.tmp 17, .tmp 18]) rfl ?_); at_builtin; go_loud (refine Kd.R_app_int (k := .u8) w.heap.size rfl (.tmp 17) (.tmp 18) 27 5 1 rfl Try.underlying27 info5 (by omega) v17 [] l0 A0 l0.length c0 (fun _ => True) rfl rfl trivial HO17.out (Kd.C_below HR0.out HB17.out) HB17.out.size ?hl ?_; (case hl => have h1 := HLEN.out; simp only [List.length_nil]; omega); intro v19 w19 hr19 hg19 hat19; have HB19 := Aside0.mk (HB17.out.grown hg19 HB17.out.size (Kd.R_base HO17.out)); have HO19 := Aside0.mk hr19; clear hr19 hg19 hat19))
    | ((with_reducible refine gate_builtin (b := .append) (xs := #[.tmp 19, .tmp 20]) rfl ?_); at_builtin; go_loud (refine Kd.R_app_int (k := .u8) w.heap.size rfl (.tmp 19) (.tmp 20) 27 5 1 rfl Try.underlying27 info5 (by omega) v19 ([] ++ l0) [7, 8, 9] (some ⟨w19.heap.size, 0, none⟩) 3 3 (fun _ => True) rfl rfl trivial (Kd.R_alloc HO19.out _) (C_lit .u8 w19 [7, 8, 9] 5 (by simp)) ?hbs ?hl ?_; (case hbs => exact (HB19.out.alloc HB19.out.size _).size); (case hl => have h1 := HLEN.out; simp; omega); intro v21 w21 hr21 hg21 hat21; have HB21 := Aside0.mk ((HB19.out.alloc HB19.out.size _).grown hg21 (HB19.out.alloc HB19.out.size _).size (Kd.R_base HO19.out)); have hr21 : Kd.R (Kd.int .u8) 5 w21 w.heap.size (fun _ => True) v21 (l0 ++ [7, 8, 9]) := hr21; obtain ⟨A21, c21, rfl, hc21, -⟩ := Kd.R_reads hr21; have hl21 : (l0 ++ [7, 8, 9]).length = l0.length + 3 := (by simp); rw [hl21] at hr21 hc21; try rw [hl21]; have HO21 := Aside0.mk hr21; have HC21 := Aside0.mk hc21; clear hr21 hg21 hat21 hl21 hc21; obtain ⟨i5, hi05, -, -, -⟩ := info_parts info5; have hcut := cut_to (P := Try.prog) 27 5 .i64 Try.underlying27 hi05 A21 (l0.length + 3) c21 (l0.length : Int) (by omega) (by omega) HC21.out; simp only [Int.toNat_natCast] at hcut; clear hi05))
    | (go_at_call 17; go_loud (refine (churnref09_Split.calls k2 A0 c0 l0 a1 N B Cs er _ (Kd.C_below HR0.out HB21.out) HC0.out HK2.out).mono ?_; rintro e w22 ⟨q0, q1, q2, rfl, hq0, hq1, hq2, hb22⟩; obtain ⟨Q0, cq0, rfl, -⟩ := Kd.R_reads hq0; obtain ⟨Q1, cq1, rfl, -⟩ := Kd.R_reads hq1; obtain ⟨Q2, cq2, rfl, -⟩ := Kd.S_reads hq2; have HQ0 := Aside0.mk hq0; have HQ1 := Aside0.mk hq1; have HQ2 := Aside0.mk hq2; have HB22 := Aside0.mk hb22; clear hq0 hq1 hq2 hb22)))
  generalize hW23 : World.alloc w22 _ = W23
  have hb23 : Below w22.heap.size w22 W23 := by rw [← hW23]; exact below_alloc (Below.refl _ _) _
  have hbox23 : W23.heap[w22.heap.size]? = some (.cells #[.slice Q0 N.length cq0, .slice Q1 B.length cq1, .slice Q2 Cs.length cq2] 50 (0, 0)) := by rw [← hW23]; exact blk_new _ _
  have TW := Aside0.mk (Tri.made HQ0.out HQ1.out HQ2.out HB22.out.size hb23 hbox23)
  have HB23 := Aside0.mk (below_step (below_step HB21.out HB22.out) hb23)
  have HI23 := Aside0.mk (Kd.R_mono (Kd.R_step (Kd.R_bound HO21.out) (fun b _ hlt => (below_step HB22.out hb23).block b hlt)) (fun k hk => (hk.2.2.1 : k < w21.heap.size)))
  have SZ := Aside0.mk (show w.heap.size ≤ w21.heap.size from HB21.out.size)
  have SW := Aside0.mk (show w22.heap.size < W23.heap.size from blk_lt hbox23)
  clear hW23 hb23 hbox23 HQ0 HQ1 HQ2 HB22 HB21 HO21 HB17 HB19 HO17 HO19 HB1
  have hC : ∀ W : World, Kd.R (Kd.int .u8) 5 W w.heap.size (fun k => k < w21.heap.size) (.slice A21 (l0.length + 3) c21) (l0 ++ [7, 8, 9]) → Kd.C (Kd.int .u8) W A21 l0.length l0 := fun W h => by
    have := Kd.C_take (m := l0.length) (Kd.R_reads' h).2.2 (by simp)
    simpa using this
  with_reducible refine (tape_Split.calls k1 A21 c21 l0 a1 N B Cs er W23 (hC _ HI23.out) (by have := HC21.out; omega) HK1.out).mono ?_
  rintro e w24 ⟨a0, a1_, a2, rfl, ha0, ha1, ha2, hb24⟩
  obtain ⟨D0, e0, rfl, -⟩ := Kd.R_reads ha0
  obtain ⟨D1, e1, rfl, -⟩ := Kd.R_reads ha1
  obtain ⟨D2, e2, rfl, -⟩ := Kd.S_reads ha2
  have HA0 := Aside0.mk ha0
  have HA1 := Aside0.mk ha1
  have HA2 := Aside0.mk ha2
  have HB24 := Aside0.mk hb24
  clear ha0 ha1 ha2 hb24
  go_wp2_with (fail)
  generalize hW25 : World.alloc w24 _ = W25
  have hb25 : Below w24.heap.size w24 W25 := by rw [← hW25]; exact below_alloc (Below.refl _ _) _
  have hbox25 : W25.heap[w24.heap.size]? = some (.cells #[.slice D0 N.length e0, .slice D1 B.length e1, .slice D2 Cs.length e2] 50 (0, 0)) := by rw [← hW25]; exact blk_new _ _
  have TA := Aside0.mk (Tri.made HA0.out HA1.out HA2.out HB24.out.size hb25 hbox25)
  have B5 := Aside0.mk (below_step HB24.out hb25)
  have SA := Aside0.mk (show w24.heap.size < W25.heap.size from blk_lt hbox25)
  clear hW25 hb25 hbox25 HA0 HA1 HA2 HB24
  have HI25 := Aside0.mk (Kd.R_step HI23.out (fun b _ hlt => B5.out.block b hlt))
  have HB25 := Aside0.mk (below_step HB23.out B5.out)
  have TW := Aside0.mk (TW.out.below B5.out)
  clear B5 HI23 HB23
  with_reducible refine (tape_Split.calls k1 A21 c21 l0 a1 N B Cs er W25 (hC _ HI25.out) (by have := HC21.out; omega) HK1.out).mono ?_
  rintro e w26 ⟨b0, b1, b2, rfl, ha0, ha1, ha2, hb26⟩
  obtain ⟨F0, f0, rfl, -⟩ := Kd.R_reads ha0
  obtain ⟨F1, f1, rfl, -⟩ := Kd.R_reads ha1
  obtain ⟨F2, f2, rfl, -⟩ := Kd.S_reads ha2
  have HA0 := Aside0.mk ha0
  have HA1 := Aside0.mk ha1
  have HA2 := Aside0.mk ha2
  have HB26 := Aside0.mk hb26
  have TW26 := Aside0.mk (TW.out.below hb26)
  have TA26 := Aside0.mk (TA.out.below hb26)
  have HI26 := Aside0.mk (Kd.R_step HI25.out (fun b _ hlt => hb26.block b hlt))
  clear ha0 ha1 ha2 hb26 TW TA HI25
  obtain ⟨W27, hW27⟩ : ∃ W, W = w26.alloc (.cells #[.slice F0 N.length f0, .slice F1 B.length f1, .slice F2 Cs.length f2] 50) := ⟨_, rfl⟩
  have hb27 : Below w26.heap.size w26 W27 := by rw [hW27]; exact below_alloc (Below.refl _ _) _
  have hbox27 : W27.heap[w26.heap.size]? = some (.cells #[.slice F0 N.length f0, .slice F1 B.length f1, .slice F2 Cs.length f2] 50 (0, 0)) := by rw [hW27]; exact blk_new _ _
  have T := Aside0.mk (show TS w W27 w21.heap.size w22.heap.size W23.heap.size w24.heap.size W25.heap.size w26.heap.size _ _ _ _ _ _ _ _ _ _ _ _ _ _ from { below := below_step (below_step HB25.out HB26.out) hb27, inn := Kd.R_step HI26.out (fun b _ hlt => hb27.block b hlt), want := TW26.out.below hb27, a := TA26.out.below hb27, b := Tri.made HA0.out HA1.out HA2.out HB26.out.size hb27 hbox27, wL := SZ.out, l2 := SW.out, l3 := SA.out })
  clear hb27 hbox27 TW26 TA26 HA0 HA1 HA2 HB26 HB25 HI26
  obtain ⟨x0, x1, x2⟩ := T.out.want.cells
  obtain ⟨y0, y1, y2⟩ := T.out.a.cells
  obtain ⟨z0, z1, z2⟩ := T.out.b.cells
  rw [hW27] at x0 x1 x2 y0 y1 y2 z0 z1 z2
  go_wp2_with (fail)
  rw [← hW27] at *
  clear hW27
  with_reducible refine (churnlaw09_alike.calls k3 _ _ N _ _ B _ _ Cs _ _ N _ _ B _ _ Cs true _ T.out.a.reads.1.1 T.out.a.reads.1.2 T.out.a.reads.2.1.1 T.out.a.reads.2.1.2 T.out.a.reads.2.2.1 T.out.a.reads.2.2.2 T.out.want.reads.1.1 T.out.want.reads.1.2 T.out.want.reads.2.1.1 T.out.want.reads.2.1.2 T.out.want.reads.2.2.1 T.out.want.reads.2.2.2 HK3.out).mono ?_
  rintro e w28 ⟨rfl, hb28⟩
  have T := Aside0.mk (T.out.next hb28)
  clear hb28 x0 x1 x2 y0 y1 y2 z0 z1 z2
  obtain ⟨x0, x1, x2⟩ := T.out.want.cells
  obtain ⟨y0, y1, y2⟩ := T.out.a.cells
  obtain ⟨z0, z1, z2⟩ := T.out.b.cells
  go_wp2_with (fail)
  with_reducible refine (churnlaw09_alike.calls k3 _ _ N _ _ B _ _ Cs _ _ N _ _ B _ _ Cs true _ T.out.b.reads.1.1 T.out.b.reads.1.2 T.out.b.reads.2.1.1 T.out.b.reads.2.1.2 T.out.b.reads.2.2.1 T.out.b.reads.2.2.2 T.out.want.reads.1.1 T.out.want.reads.1.2 T.out.want.reads.2.1.1 T.out.want.reads.2.1.2 T.out.want.reads.2.2.1 T.out.want.reads.2.2.2 HK3.out).mono ?_
  rintro e w29 ⟨rfl, hb29⟩
  have T := Aside0.mk (T.out.next hb29)
  clear hb29 x0 x1 x2 y0 y1 y2 z0 z1 z2
  obtain ⟨x0, x1, x2⟩ := T.out.want.cells
  obtain ⟨y0, y1, y2⟩ := T.out.a.cells
  obtain ⟨z0, z1, z2⟩ := T.out.b.cells
  have HC29 := Aside0.mk (Kd.C_below HR0.out T.out.below)
  go_wp2_with (first
    | ((with_reducible refine gate_dst (N := 68) rfl ?_); (try (refine gate_guard (by rfl) ?_; dsimp only)); refine Kd.R_lit (Kd.int .u8) w29.heap.size 5 ?hg (N := 68) ?hd (xs := ([] : List Int)) (inner := []) (ok := fun _ => True) (okp := fun _ => True) ?hr ?hp (fun _ hk => hk) trivial (Below.refl _ _) (Nat.le_refl _) (by simp) ?_; (case hd => rfl); (case hg => rfl); (case hr => first | (go_simp; done) | (go_simp; rfl)); (case hp => exact (Reps.none _ _)); intro v68 w68 ho68 hb68 hg68 hn68; have HB68 := Aside0.mk hb68; have HO68 := Aside0.mk ho68; clear hb68 ho68 hg68 hn68)
    | ((with_reducible refine gate_builtin (b := .append) (xs := #[.tmp 68, .tmp 69]) rfl ?_); at_builtin; (try (refine gate_guard (by rfl) ?_; dsimp only)); go_loud (refine Kd.R_app_int (k := .u8) w29.heap.size rfl (.tmp 68) (.tmp 69) 27 5 1 rfl Try.underlying27 info5 (by omega) v68 [] l0 A0 l0.length c0 (fun _ => True) rfl rfl trivial HO68.out (Kd.C_below HC29.out HB68.out) HB68.out.size ?hl ?_; (case hl => have h1 := HLEN.out; simp only [List.length_nil]; omega); intro v70 w70 hr70 hg70 hat70; have HB70 := Aside0.mk (HB68.out.grown hg70 HB68.out.size (Kd.R_base HO68.out)); have HO70 := Aside0.mk hr70; clear hr70 hg70 hat70))
    | ((with_reducible refine gate_builtin (b := .append) (xs := #[.tmp 70, .tmp 71]) rfl ?_); at_builtin; (try (refine gate_guard (by rfl) ?_; dsimp only)); go_loud (refine Kd.R_app_int (k := .u8) w29.heap.size rfl (.tmp 70) (.tmp 71) 27 5 1 rfl Try.underlying27 info5 (by omega) v70 ([] ++ l0) [7, 8, 9] (some ⟨w70.heap.size, 0, none⟩) 3 3 (fun _ => True) rfl rfl trivial (Kd.R_alloc HO70.out _) (C_lit .u8 w70 [7, 8, 9] 5 (by simp)) ?hbs ?hl ?_; (case hbs => exact (HB70.out.alloc HB70.out.size _).size); (case hl => have h1 := HLEN.out; simp; omega); intro v72 w72 hr72 hg72 hat72; have HB72 := Aside0.mk ((HB70.out.alloc HB70.out.size _).grown hg72 (HB70.out.alloc HB70.out.size _).size (Kd.R_base HO70.out)); have hr72 : Kd.R (Kd.int .u8) 5 w72 w29.heap.size (fun _ => True) v72 (l0 ++ [7, 8, 9]) := hr72; obtain ⟨A72, c72, rfl, hc72, -⟩ := Kd.R_reads hr72; have HO72 := Aside0.mk hr72; have HC72 := Aside0.mk hc72; clear hr72 hg72 hat72 hc72)))
  have T := Aside0.mk (T.out.next HB72.out)
  clear x0 x1 x2 y0 y1 y2 z0 z1 z2 HO68 HB68 HB70 HO70
  obtain ⟨x0, x1, x2⟩ := T.out.want.cells
  obtain ⟨y0, y1, y2⟩ := T.out.a.cells
  obtain ⟨z0, z1, z2⟩ := T.out.b.cells
  have hl21 : (l0 ++ [7, 8, 9]).length = l0.length + 3 := by simp
  have hsm := churnlaw09_same.calls A21 c21 (l0 ++ [7, 8, 9]) A72 c72 (l0 ++ [7, 8, 9]) true w72 (Kd.R_reads' T.out.inn).2.2 (by rw [hl21]; exact HC21.out) (Kd.R_reads' HO72.out).2.2 HC72.out (by simp [churnlaw09_same.f])
  rw [hl21] at hsm
  with_reducible refine hsm.mono ?_
  rintro e w73 ⟨rfl, ⟨qd, rfl⟩⟩
  obtain ⟨W74, hW74⟩ : ∃ W, W = World.drewN w72 qd := ⟨_, rfl⟩
  have T := Aside0.mk (T.out.drewN qd)
  rw [← hW74] at T ⊢
  clear hW74 x0 x1 x2 y0 y1 y2 z0 z1 z2 hsm HB72 HO72 HC72 hcut
  obtain ⟨gi, rfl⟩ : ∃ gi, A21 = some ⟨gi, 0, none⟩ := by
    obtain ⟨ad, rfl, -⟩ := Kd.at_int (Kd.R_reads' T.out.inn).2.2 0 (by omega) (by rw [hl21]; omega)
    obtain ⟨p, rfl⟩ := Kd.R_head T.out.inn
    exact ⟨p, rfl⟩
  go_wp2_with (fail)
  obtain ⟨n3, hn3⟩ : ∃ n3, l0.length + 3 = n3 := ⟨_, rfl⟩
  rw [hn3] at T hl21
  have T := Aside0.mk (show ∃ ys : List Int, ys.length = n3 ∧ TS w W74 w21.heap.size w22.heap.size W23.heap.size w24.heap.size W25.heap.size w26.heap.size (.slice (some ⟨gi, 0, none⟩) n3 c21) ys (.slice Q0 N.length cq0) (.slice Q1 B.length cq1) (.slice Q2 Cs.length cq2) (.slice D0 N.length e0) (.slice D1 B.length e1) (.slice D2 Cs.length e2) (.slice F0 N.length f0) (.slice F1 B.length f1) (.slice F2 Cs.length f2) N B Cs from ⟨_, hl21, T.out⟩)
  have HN3 := Aside0.mk hn3
  clear hl21 hn3
  go_loopg [78] n3 (fun gq v78 wr => ∃ (i : Nat) (ys : List Int), v78 = .int .i64 i ∧ Aside0 (i ≤ n3) ∧ Aside0 (n3 - i ≤ gq) ∧ Aside0 (ys.length = n3) ∧ Aside0 (TS w wr w21.heap.size w22.heap.size W23.heap.size w24.heap.size W25.heap.size w26.heap.size (.slice (some ⟨gi, 0, none⟩) n3 c21) ys (.slice Q0 N.length cq0) (.slice Q1 B.length cq1) (.slice Q2 Cs.length cq2) (.slice D0 N.length e0) (.slice D1 B.length e1) (.slice D2 Cs.length e2) (.slice F0 N.length f0) (.slice F1 B.length f1) (.slice F2 Cs.length f2) N B Cs))
  case atStart => obtain ⟨ys, hy, T⟩ := T.out; exact ⟨0, ys, rfl, ⟨Nat.zero_le _⟩, ⟨by omega⟩, ⟨hy⟩, ⟨T⟩⟩
  case round =>
    clear T
    obtain ⟨i, ys, rfl, HI, HG, HY, T⟩ := hrel
    by_cases hlt : i < n3
    · have c1 : decide ((i : Int) < (l0.length : Int) + 3) = true := decide_eq_true (by have := HN3.out; omega)
      have c2 : (0 : Int) ≤ (i : Int) := Int.natCast_nonneg i
      have c3 : (i : Int) < (l0.length : Int) + 3 := by have := HN3.out; omega
      obtain ⟨hc1, hc2⟩ := Kd.R_celln (0 : Int) T.out.inn (i : Int) c2 (by have := HY.out; omega)
      simp only [Int.toNat_natCast] at hc1 hc2
      obtain ⟨x, hx⟩ : ∃ x, rdOf (0 : Int) ys (i : Int) = x := ⟨_, rfl⟩
      rw [hx] at hc1
      have HLT := Aside0.mk hlt
      clear hx hlt
      go_wp2_with (fail)
      go_roundg (n3 - (i + 1))
      case measure => have := HG.out; have := HLT.out; omega
      case rel => exact ⟨i + 1, _, by have := HLT.out; have := HN3.out; have := HLEN.out; rw [w64 (by omega) (by omega)]; rfl, ⟨by have := HLT.out; omega⟩, ⟨by omega⟩, ⟨by rw [List.length_set]; exact HY.out⟩, ⟨T.out.put i _⟩⟩
    · obtain rfl : n3 = i := by have := HI.out; omega
      have c1 : decide ((n3 : Int) < (l0.length : Int) + 3) = false := decide_eq_false (by have := HN3.out; omega)
      clear hlt
      obtain ⟨x0, x1, x2⟩ := T.out.want.cells
      obtain ⟨y0, y1, y2⟩ := T.out.a.cells
      obtain ⟨z0, z1, z2⟩ := T.out.b.cells
      go_wp2_with (fail)
      have T := Aside0.mk T.out.drew
      go_region_held3 (fun W => W.cell? ⟨w22.heap.size, 0, none⟩ = some (.slice Q0 N.length cq0) ∧ W.cell? ⟨w22.heap.size, 1, none⟩ = some (.slice Q1 B.length cq1) ∧ W.cell? ⟨w22.heap.size, 2, none⟩ = some (.slice Q2 Cs.length cq2) ∧
        W.cell? ⟨w24.heap.size, 0, none⟩ = some (.slice D0 N.length e0) ∧ W.cell? ⟨w24.heap.size, 1, none⟩ = some (.slice D1 B.length e1) ∧ W.cell? ⟨w24.heap.size, 2, none⟩ = some (.slice D2 Cs.length e2) ∧
        W.cell? ⟨w26.heap.size, 0, none⟩ = some (.slice F0 N.length f0) ∧ W.cell? ⟨w26.heap.size, 1, none⟩ = some (.slice F1 B.length f1) ∧ W.cell? ⟨w26.heap.size, 2, none⟩ = some (.slice F2 Cs.length f2)) (first | exact ⟨x0, x1, x2, y0, y1, y2, z0, z1, z2⟩ | go_keep)
        (first
          | ((go_at_call 19; go_loud (with_reducible refine (churnlaw09_alike.calls k3 _ _ N _ _ B _ _ Cs _ _ N _ _ B _ _ Cs true _ T.out.a.reads.1.1 T.out.a.reads.1.2 T.out.a.reads.2.1.1 T.out.a.reads.2.1.2 T.out.a.reads.2.2.1 T.out.a.reads.2.2.2 T.out.want.reads.1.1 T.out.want.reads.1.2 T.out.want.reads.2.1.1 T.out.want.reads.2.1.2 T.out.want.reads.2.2.1 T.out.want.reads.2.2.2 HK3.out).mono ?_); rintro e w90 ⟨rfl, hb90⟩; (have T := Aside0.mk (T.out.next hb90)); clear hb90 x0 x1 x2 y0 y1 y2 z0 z1 z2; obtain ⟨x0, x1, x2⟩ := T.out.want.cells; obtain ⟨y0, y1, y2⟩ := T.out.a.cells; obtain ⟨z0, z1, z2⟩ := T.out.b.cells))
          | ((go_at_call 19; go_loud (with_reducible refine (churnlaw09_alike.calls k3 _ _ N _ _ B _ _ Cs _ _ N _ _ B _ _ Cs true _ T.out.b.reads.1.1 T.out.b.reads.1.2 T.out.b.reads.2.1.1 T.out.b.reads.2.1.2 T.out.b.reads.2.2.1 T.out.b.reads.2.2.2 T.out.want.reads.1.1 T.out.want.reads.1.2 T.out.want.reads.2.1.1 T.out.want.reads.2.1.2 T.out.want.reads.2.2.1 T.out.want.reads.2.2.2 HK3.out).mono ?_); rintro e w95 ⟨rfl, hb95⟩; (have T := Aside0.mk (T.out.next hb95)); clear hb95 x0 x1 x2 y0 y1 y2 z0 z1 z2; obtain ⟨x0, x1, x2⟩ := T.out.want.cells; obtain ⟨y0, y1, y2⟩ := T.out.a.cells; obtain ⟨z0, z1, z2⟩ := T.out.b.cells))
          | ((go_at_call 21; obtain ⟨innA, hlA, LA, hoA, hcA⟩ := T.out.a.lists; (have hlr := lists_raw _ D0 D1 D2 N.length e0 B.length e1 e2 innA hcA hoA (by rw [hlA]; have := HCS.out; omega)); rw [hlA] at hlr; go_loud (with_reducible refine hlr.mono ?_); rintro e w100 ⟨v100, rfl, ho100, hb100⟩; (have SB := Aside0.mk (blk_lt T.out.b.box)); (have OA := Aside0.mk ho100); (have LA := Aside0.mk (LA.step (fun b _ hlt => hb100.block b hlt))); (have HOA := Aside0.mk hoA); (have HLA := Aside0.mk hlA); (have BL := Aside0.mk hb100); (have T95 := T); (have T := Aside0.mk (T95.out.next hb100)); clear hlA hoA hcA hlr ho100 hb100; clear x0 x1 x2 y0 y1 y2 z0 z1 z2; obtain ⟨x0, x1, x2⟩ := T.out.want.cells; obtain ⟨y0, y1, y2⟩ := T.out.a.cells; obtain ⟨z0, z1, z2⟩ := T.out.b.cells))
          | ((go_at_call 21; obtain ⟨innB, hlB, LB, hoB, hcB⟩ := T.out.b.lists; (have hlr := lists_raw _ F0 F1 F2 N.length f0 B.length f1 f2 innB hcB hoB (by rw [hlB]; have := HCS.out; omega)); rw [hlB] at hlr; go_loud (with_reducible refine hlr.mono ?_); rintro e w102 ⟨v102, rfl, ho102, hb102⟩; (have OA := Aside0.mk (OA.out.kept (grown_of_below hb102 none) (by cases v100.ownBlock <;> simp))); (have LA := Aside0.mk (LA.out.step (fun b _ hlt => hb102.block b hlt))); (have LB := Aside0.mk (LB.step (fun b _ hlt => hb102.block b hlt))); (have HOB := Aside0.mk hoB); (have HLB := Aside0.mk hlB); (have BL := Aside0.mk (below_step BL.out hb102)); (have T := Aside0.mk (T95.out.next BL.out)); obtain ⟨A102, c102, rfl, -, -, -, hc102⟩ := own_cells ho102; (have OC := Aside0.mk hc102); clear hlB hoB hcB hlr ho102 hb102 hc102; clear x0 x1 x2 y0 y1 y2 z0 z1 z2; obtain ⟨x0, x1, x2⟩ := T.out.want.cells; obtain ⟨y0, y1, y2⟩ := T.out.a.cells; obtain ⟨z0, z1, z2⟩ := T.out.b.cells))
          | (go_loud (refine step_cells_app w95.heap.size (by rfl) (.tmp 100) (.tmp 102) 48 27 (.slice none 0 0) 24 rfl Try.underlying48 info27 rfl (by decide) v100 ([.slice D0 N.length e0, .slice D1 B.length e1] ++ innA) ([.slice F0 N.length f0, .slice F1 B.length f1] ++ innB) A102 (2 + Cs.length) c102 rfl rfl ?HO ?hm OC.out ?h1 BL.out.size ?hl ?_; (case HO => (have e1 : ([Value.slice D0 N.length e0, .slice D1 B.length e1] ++ innA).length = 2 + Cs.length := (by have := HLA.out; simp; omega)); rw [e1]; exact OA.out); (case hm => have := HLB.out; simp; omega); (case h1 => intro u hu; rcases List.mem_append.1 hu with hu | hu; (simp only [List.mem_cons, List.not_mem_nil, or_false] at hu; rcases hu with rfl | rfl <;> rfl); exact HOB.out u hu); (case hl => have := HLA.out; have := HCS.out; simp; omega); intro v103 w103 ho103 hg103 hat103; (generalize hn103' : ([Value.slice D0 N.length e0, .slice D1 B.length e1] ++ innA).length + (2 + Cs.length) = n103 at ho103); (have HN103 := Aside0.mk hn103'); clear hn103'; obtain ⟨A103, c103, rfl, hn103, -, hbs103, hc103⟩ := own_cells ho103; (have LG1 := T.out.b.log); (have hs1 := SB.out); (have hs2 := SA.out); (have LA := Aside0.mk (LA.out.step (fun b hb hlt => hg103.block b hlt (fun e => by have h1 := (OA.out.lt b e.symm).1; have h2 := hb.2; omega)))); (have LB := Aside0.mk (LB.out.step (fun b hb hlt => hg103.block b hlt (fun e => by have h1 := (OA.out.lt b e.symm).1; have h2 := hb.2; omega)))); (have BL := Aside0.mk (BL.out.grown hg103 BL.out.size (fun k hk => (OA.out.lt k hk).1))); (have T := Aside0.mk (T95.out.next BL.out)); (have OC := Aside0.mk hc103); (have OB := Aside0.mk hbs103); clear ho103 hg103 hat103 hn103 hbs103 hc103 LG1 hs1 hs2; clear x0 x1 x2 y0 y1 y2 z0 z1 z2; obtain ⟨x0, x1, x2⟩ := T.out.want.cells; obtain ⟨y0, y1, y2⟩ := T.out.a.cells; obtain ⟨z0, z1, z2⟩ := T.out.b.cells))
          | ((go_at_call 20; (have hs1 := T.out.a.log); (have hs2 := SA.out); (have hs3 := T.out.b.log); (have hap := apart_parts (c := c103) LA.out LB.out OC.out OB.out hs1 hs2 hs3 SB.out BL.out.size HLA.out HN103.out HCS.out HXS.out); go_loud (with_reducible refine hap.mono ?_); rintro e w104 ⟨rfl, hb104, hk104⟩; (have HB104 := Aside0.mk hb104); (have HK104 := Aside0.mk hk104); clear hap hb104 hk104 hs1 hs2 hs3;
              (have c22 := (HK104.out w22.heap.size (blk_lt T.out.want.box) (by have h1 := SW.out; have h2 := T.out.a.log; have h3 := SA.out; have h4 := T.out.l2; omega)).trans T.out.want.box); (have c24 := (HK104.out w24.heap.size (blk_lt T.out.a.box) (by have h1 := SW.out; have h2 := T.out.a.log; have h3 := SA.out; have h4 := T.out.l2; omega)).trans T.out.a.box); (have c26 := (HK104.out w26.heap.size (blk_lt T.out.b.box) (by have h1 := SW.out; have h2 := T.out.a.log; have h3 := SA.out; have h4 := T.out.l2; have h5 := T.out.b.log; omega)).trans T.out.b.box); clear x0 x1 x2 y0 y1 y2 z0 z1 z2; (have x0 := (blk_cell c22 0).trans rfl); (have x1 := (blk_cell c22 1).trans rfl); (have x2 := (blk_cell c22 2).trans rfl); (have y0 := (blk_cell c24 0).trans rfl); (have y1 := (blk_cell c24 1).trans rfl); (have y2 := (blk_cell c24 2).trans rfl); (have z0 := (blk_cell c26 0).trans rfl); (have z1 := (blk_cell c26 1).trans rfl); (have z2 := (blk_cell c26 2).trans rfl); clear c22 c24 c26)))
      have WT := Aside0.mk (T.out.want.step (W1 := w104) (fun b h1 h2 hlt => HB104.out.block b (by have := SW.out; omega)))
      have HBE := Aside0.mk (T.out.below.trans (HB104.out.mono (show w.heap.size ≤ W23.heap.size by have h1 := SW.out; have h2 := SZ.out; have h3 := T.out.want.log; omega)))
      clear T T95 LA LB OA OB OC HB104 HK104 y0 y1 y2 z0 z1 z2 BL SB HN103 HLA HLB HOA HOB
      go_wp2_with (fail)
      with_reducible refine (tape_Split.calls k1 A0 c0 l0 a1 N B Cs er w104 (Kd.C_below HR0.out HBE.out) HC0.out HK1.out).mono ?_
      rintro e w106 ⟨d0, d1, d2, rfl, ha0, ha1, ha2, hb106⟩
      obtain ⟨G0, h0, rfl, -⟩ := Kd.R_reads ha0
      obtain ⟨G1, h1, rfl, -⟩ := Kd.R_reads ha1
      obtain ⟨G2, h2, rfl, -⟩ := Kd.S_reads ha2
      obtain ⟨W107, hW107⟩ : ∃ W, W = w106.alloc (.cells #[.slice G0 N.length h0, .slice G1 B.length h1, .slice G2 Cs.length h2] 50) := ⟨_, rfl⟩
      have hb107 : Below w106.heap.size w106 W107 := by rw [hW107]; exact below_alloc (Below.refl _ _) _
      have hbox107 : W107.heap[w106.heap.size]? = some (.cells #[.slice G0 N.length h0, .slice G1 B.length h1, .slice G2 Cs.length h2] 50 (0, 0)) := by rw [hW107]; exact blk_new _ _
      have TC := Aside0.mk (Tri.made ha0 ha1 ha2 hb106.size hb107 hbox107)
      have WT := Aside0.mk (WT.out.below (below_step hb106 hb107))
      have HBE := Aside0.mk (below_step HBE.out (below_step hb106 hb107))
      clear hb106 hb107 hbox107 ha0 ha1 ha2 x0 x1 x2
      obtain ⟨x0, x1, x2⟩ := WT.out.cells
      obtain ⟨y0, y1, y2⟩ := TC.out.cells
      rw [hW107] at x0 x1 x2 y0 y1 y2
      go_wp2_with (fail)
      rw [← hW107] at *
      clear hW107
      with_reducible refine (churnlaw09_alike.calls k3 _ _ N _ _ B _ _ Cs _ _ N _ _ B _ _ Cs true _ TC.out.reads.1.1 TC.out.reads.1.2 TC.out.reads.2.1.1 TC.out.reads.2.1.2 TC.out.reads.2.2.1 TC.out.reads.2.2.2 WT.out.reads.1.1 WT.out.reads.1.2 WT.out.reads.2.1.1 WT.out.reads.2.1.2 WT.out.reads.2.2.1 WT.out.reads.2.2.2 HK3.out).mono ?_
      rintro e w108 ⟨rfl, hb108⟩
      have HBE := Aside0.mk (below_step HBE.out hb108)
      clear hb108
      go_wp2_with (fail)
      go_ret
      exact ⟨rfl, HBE.out⟩
theorem copied_val (l : List Int) (h : l.length < 140737488355328) : churnref09_copied.f l = some l := by
  unfold churnref09_copied.f
  rw [if_pos (by simpa using h)]
  rfl
theorem ref_ev (p : List Int) (c : Int) (hp : p.length ≤ 140737488351232) : Ev (fun k => churnref09_Split.f k p c) (splitS p c) := by
  unfold churnref09_Split.f splitS
  by_cases h1 : c < 1
  · rw [if_pos (by omega)]
    exact ev_pos h1 (Ev.step (f := fun _ => some ([], [], [], 2)) (fun k => by rw [churnref09_Split.j0, if_pos rfl]) (Ev.now _))
  · refine ev_neg h1 ?_
    by_cases h2 : c > 64
    · rw [if_pos (by omega)]
      exact Ev.step (f := fun _ => some ([], [], [], 2)) (fun k => by rw [churnref09_Split.j0, if_pos (by simpa using h2)]) (Ev.now _)
    · rw [if_neg (by omega)]
      by_cases h3 : p.length < 18
      · rw [if_pos h3]
        exact Ev.step (f := fun _ => some ([], [], [], 3)) (fun k => by rw [churnref09_Split.j0, if_neg (by simp; omega), if_pos (by omega)]) (Ev.now _)
      · rw [if_neg h3]
        obtain ⟨n, rfl⟩ := Int.eq_ofNat_of_zero_le (show 0 ≤ c by omega)
        simp only [Int.toNat_natCast]
        have hrl := restOf_len p
        have key : ∀ (d j : Nat), j + d = n → Ev (fun k => churnref09_Split.l0 k (n : Int) (restOf p) (qOf p n : Int) (j : Int) (noiseOf p) (braidOf p) (pieces (restOf p) (qOf p n) j)) (noiseOf p, braidOf p, pieces (restOf p) (qOf p n) n, 0) := by
          intro d
          induction d with
          | zero =>
            intro j hj
            have : j = n := by omega
            subst this
            exact Ev.step (f := fun _ => some (noiseOf p, braidOf p, pieces (restOf p) (qOf p j) j, 0)) (fun k => by rw [churnref09_Split.l0, if_neg (by omega)]) (Ev.now _)
          | succ d ih =>
            intro j hj
            have a1 := qmul_le p n (j + 1) (by omega)
            have a2 : j * qOf p n ≤ (j + 1) * qOf p n := Nat.mul_le_mul_right _ (by omega)
            have a3 : (j + 1) * qOf p n = j * qOf p n + qOf p n := Nat.succ_mul _ _
            have hpl := piece_len p n j (by omega)
            have hql : qOf p n ≤ (restOf p).length := Nat.div_le_self _ _
            have hcl := copied_val (piece (restOf p) (qOf p n) j) (by omega)
            have b1 : (j : Int) < (n : Int) := by omega
            have b2 : (0 : Int) ≤ ((j * qOf p n : Nat) : Int) := by omega
            have b3 : ((j * qOf p n : Nat) : Int) ≤ (((j + 1) * qOf p n : Nat) : Int) := by omega
            have b4 : (((j + 1) * qOf p n : Nat) : Int) ≤ ((restOf p).length : Int) := by omega
            have b5 : j * qOf p n ≤ 9223372036854775807 := by omega
            have b6 : (j + 1) * qOf p n ≤ 9223372036854775807 := by omega
            have b8 : (pieces (restOf p) (qOf p n) j).length < 5864062014805 := by simp [pieces]; omega
            have b10 : j + 1 ≤ 9223372036854775807 := by omega
            have b9 : j + 1 + d = n := by omega
            have b7 : wrap64 ((j : Int) + 1) = ((j + 1 : Nat) : Int) := w64n (x := j + 1) b10
            have e1 : wrap64 ((j : Int) * (qOf p n : Int)) = ((j * qOf p n : Nat) : Int) := by rw [← Int.natCast_mul]; exact w64n b5
            have e2 : wrap64 (((j * qOf p n : Nat) : Int) + (qOf p n : Int)) = (((j + 1) * qOf p n : Nat) : Int) := by
              rw [← Int.natCast_add, ← a3]
              exact w64n b6
            refine Ev.step (fun k => ?_) (ih (j + 1) b9)
            rw [churnref09_Split.l0, if_pos b1, e1, e2, if_pos b2, if_pos b3, if_pos b4, Int.toNat_natCast, Int.toNat_natCast, show ((restOf p).take ((j + 1) * qOf p n)).drop (j * qOf p n) = piece (restOf p) (qOf p n) j from rfl, hcl, Option.bind_some,
              if_pos b8, b7, pieces_succ]
        have h0 := key n 0 (by omega)
        have hd : (p.drop 18).length = p.length - 18 := by simp
        have g1 : ¬ ((p.length : Int) < 18) := by omega
        have g2 : (18 : Int) ≤ (p.length : Int) := by omega
        have g3 : (0 : Int) ≤ (((p.length - 18) / 2 : Nat) : Int) := by omega
        have g4 : (((p.length - 18) / 2 : Nat) : Int) ≤ ((p.drop 18).length : Int) := by rw [hd]; omega
        have g5 : (p.take 18).length < 140737488355328 := by simp; omega
        have g6 : ((p.drop 18).take ((p.length - 18) / 2)).length < 140737488355328 := by simp; omega
        have g7 : ¬ ((n : Int) = 0) := by omega
        have g8 : ¬ (decide ((n : Int) > 64) = true) := by simpa using h2
        have g9 : (restOf p).length ≤ 9223372036854775807 := by omega
        have hw : wrap64 (((p.drop 18).length : Int) / 2) = (((p.length - 18) / 2 : Nat) : Int) := by rw [hd, w64 (by omega) (by omega)]; omega
        refine Ev.step (fun k => ?_) h0
        have hq : wrap64 (((restOf p).length : Int) / (n : Int)) = (qOf p n : Int) := by
          rw [← Int.natCast_ediv]
          exact w64n (Nat.le_trans (Nat.div_le_self _ _) g9)
        rw [churnref09_Split.j0, if_neg g8, if_neg g1, if_pos g2, copied_val _ g5, Option.bind_some, Option.bind_some, hw, if_pos g3, if_pos g4, Int.toNat_natCast, copied_val _ g6, Option.bind_some, Option.bind_some, if_neg g7]
        show churnref09_Split.l0 k _ (restOf p) (wrap64 (((restOf p).length : Int) / (n : Int))) _ _ _ _ = _
        rw [hq]
        rfl
theorem bytes_same (a : List Int) : churnlaw09_same.f a a = some true := by simp [churnlaw09_same.f]
theorem alike_ev (N B : List Int) (Cs : List (List Int)) (h : Cs.length ≤ 64) : Ev (fun k => churnlaw09_alike.f k N B Cs N B Cs) true := by
  unfold churnlaw09_alike.f
  rw [bytes_same]
  refine ev_bind0 rfl (ev_pos rfl ?_)
  rw [bytes_same]
  refine ev_bind0 rfl (ev_pos rfl ?_)
  have key : ∀ (d i : Nat), i + d = Cs.length → Ev (fun k => churnlaw09_alike.l0 k (Cs.length : Int) (i : Int) N B Cs N B Cs) true := by
    intro d
    induction d with
    | zero =>
      intro i hi
      exact Ev.step (f := fun _ => some true) (fun k => by rw [churnlaw09_alike.l0, if_neg (by omega)]) (Ev.now _)
    | succ d ih =>
      intro i hi
      have b1 : (i : Int) < (Cs.length : Int) := by omega
      have b2 : (0 : Int) ≤ (i : Int) := by omega
      have b7 : wrap64 ((i : Int) + 1) = ((i + 1 : Nat) : Int) := w64n (x := i + 1) (by omega)
      refine Ev.step (fun k => ?_) (ih (i + 1) (by omega))
      rw [churnlaw09_alike.l0, if_pos b1, if_pos b2, if_pos b1, if_pos b1, bytes_same, Option.bind_some, if_pos rfl, b7]
  refine Ev.step (fun k => ?_) (key Cs.length 0 (by omega))
  rw [churnlaw09_alike.j0, if_neg (by simp)]
  rfl
theorem split_small (p : List Int) (c : Int) (hp : p.length ≤ 140737488351232) : (splitS p c).2.2.1.length ≤ 64 ∧ ∀ x ∈ [(splitS p c).1, (splitS p c).2.1] ++ (splitS p c).2.2.1, x.length ≤ 140737488351232 := by
  unfold splitS
  split
  · simp
  · split
    · simp
    · rename_i h1 h2
      have hrl := restOf_len p
      refine ⟨by simp [pieces]; omega, ?_⟩
      intro x hx
      simp only [List.mem_append, List.mem_cons, List.not_mem_nil, or_false] at hx
      rcases hx with (rfl | rfl) | hx
      · simp [noiseOf]; omega
      · simp [braidOf]; omega
      · simp only [pieces, List.mem_map, List.mem_range] at hx
        obtain ⟨j, hj, rfl⟩ := hx
        rw [piece_len p c.toNat j hj]
        have : qOf p c.toNat ≤ (restOf p).length := Nat.div_le_self _ _
        omega
end
def churnlaw09_TapeSplits.f (l0 : List Int) (a1 : Int) : Option (Bool) := if l0.length ≤ 140737488351232 then some true else none
open Sp Go.Proofs.Ytangepklgeikkaa.Pl in
theorem churnlaw09_TapeSplits.calls (A0 : Option Addr) (c0 : Nat) (l0 : List Int) (a1 : Int) (r : Bool) (w : World) (hr0 : Kd.C (Kd.int .u8) w A0 l0.length l0) (hc0 : l0.length ≤ c0) (hr_ : r = true) (h : churnlaw09_TapeSplits.f l0 a1 = some r) :
    Calls Try.prog 5 #[.slice A0 l0.length c0, .int .i64 a1] w fun e w' => e = .returned (.bool r) ∧ Below w.heap.size w w' := by
  subst hr_
  unfold churnlaw09_TapeSplits.f at h
  split at h
  · rename_i hl
    obtain ⟨h1, h2⟩ := split_small l0 a1 hl
    obtain ⟨k1, hk1⟩ := Ev.rounds (split_ev l0 a1 hl)
    obtain ⟨k2, hk2⟩ := Ev.rounds (ref_ev l0 a1 hl)
    obtain ⟨k3, hk3⟩ := Ev.rounds (alike_ev (splitS l0 a1).1 (splitS l0 a1).2.1 (splitS l0 a1).2.2.1 h1)
    exact splits_calls A0 c0 l0 a1 k1 k2 k3 _ _ _ _ w hr0 hc0 hk1 hk2 hk3 hl h1 h2
  · cases h

end Go.Proofs.Ytangepklgeikkaa.Q
