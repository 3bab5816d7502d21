/- apart: a list and what was grown out of it. The first part of the contract of 'apart': plain lemmas over rows; no walk yet. -/
import Derived.Test.YtmbkgepfpfeahaaQx0
set_option linter.unusedVariables false
set_option linter.unusedSimpArgs false
namespace Go.Proofs.Ytmbkgepfpfeahaa.Q
open Go.RowKit Go.Proofs.YtmbkgepfpfeahaaW.PrintWords Go.Proofs.YtmbkgepfpfeahaaW.PrintLast Go.Proofs.YtmbkgepfpfeahaaW.PrintMore Go.Proofs.Ytmbkgepfpfeahaa.Pl
section
variable {W W1 : World} {base T n cl : Nat} {k : IntKind} {g v v1 : Value} {xs ys x y zs : List Int} {ok ok' : Nat → Prop} {Al : Option Addr}
/-- Two rows that begin in one block begin at one address. -/
theorem apt_addr (h : Kd.R (Kd.int k) T W base ok v xs) (h1 : Kd.R (Kd.int k) T W1 base ok' v1 ys) (e : v1.ownBlock = v.ownBlock) : ∃ A n c n' c', v = .slice A n c ∧ v1 = .slice A n' c' := by
  obtain ⟨A, c, rfl, -⟩ := Kd.R_reads h
  obtain ⟨A', c', rfl, -⟩ := Kd.R_reads h1
  refine ⟨A, xs.length, c, ys.length, c', rfl, ?_⟩
  cases A with
  | none => cases A' with
    | none => rfl
    | some b => simp [Value.ownBlock] at e
  | some a => cases A' with
    | none => simp [Value.ownBlock] at e
    | some b =>
      obtain ⟨p, rfl⟩ := Kd.R_head h
      obtain ⟨q, rfl⟩ := Kd.R_head h1
      simp only [Value.ownBlock, Option.some.injEq] at e
      rw [e]
/-- g was grown out of the list at Al: it lies there still, or the list lies apart from it. -/
structure LG (k : IntKind) (W : World) (base T : Nat) (Al : Option Addr) (g : Value) (x y : List Int) : Prop where
  row : Kd.R (Kd.int k) T W base (fun _ => True) g (x ++ y)
  was : (∃ n c, g = .slice Al n c) ∨ Kd.F (Kd.int k) W (fun b => some b ≠ g.ownBlock ∧ Al.map (·.block) = some b) Al x.length x
theorem LG.start (h : Kd.R (Kd.int k) T W base ok (.slice Al n cl) x) : LG k W base T Al (.slice Al n cl) x [] :=
  ⟨by rw [List.append_nil]; exact Kd.R_mono h (fun _ _ => trivial), .inl ⟨_, _, rfl⟩⟩
theorem LG.app (h : LG k W base T Al g x y) (hr : Kd.R (Kd.int k) T W1 base (fun _ => True) v1 ((x ++ y) ++ zs)) (hg : W.grownBy W1 g.ownBlock) (hc : v1.ownBlock = g.ownBlock ∨ (v1.ownBlock = some W.heap.size ∧ W.grownBy W1 none)) : LG k W1 base T Al v1 x (y ++ zs) := by
  refine ⟨by rw [← List.append_assoc]; exact hr, ?_⟩
  rcases hc with e | ⟨e, hn⟩
  · rcases h.was with ⟨n, c, rfl⟩ | hF
    · obtain ⟨A, n1, c1, n2, c2, e1, e2⟩ := apt_addr h.row hr e
      injection e1 with e1
      exact .inl ⟨n2, c2, by rw [e2, e1]⟩
    · refine .inr (Kd.F_mono (Kd.F_grown hF hg (fun b hb => hb.1)) (fun b hb => ⟨by rw [e]; exact hb.1, hb.2⟩))
  · rcases h.was with ⟨n, c, rfl⟩ | hF
    · have hF := Kd.R_F (Kd.R_tight rfl h.row)
      obtain rfl := (Kd.R_reads' h.row).1
      have hF := Kd.F_take (m := x.length) (Kd.F_bound hF) (by simp)
      rw [List.take_left] at hF
      refine .inr (Kd.F_mono (Kd.F_grown hF hn (fun b hb => by simp)) (fun b hb => ⟨?_, ?_⟩))
      · rw [e]; intro x; injection x with x; have := hb.2; omega
      · have h1 := hb.1
        cases Al with
        | none => simp [Value.ownBlock] at h1
        | some a => simp only [Value.ownBlock, Option.some.injEq] at h1; simp [h1]
    · refine .inr (Kd.F_mono (Kd.F_grown (Kd.F_bound hF) hn (fun b hb => by simp)) (fun b hb => ⟨?_, hb.1.2⟩))
      rw [e]; intro x; injection x with x; have := hb.2; omega
/-- A step that leaves both blocks as they were. -/
theorem LG.step (h : LG k W base T Al g x y) (hs : ∀ b, (some b = g.ownBlock ∨ Al.map (·.block) = some b) → b < W.heap.size → W1.heap[b]? = W.heap[b]?) : LG k W1 base T Al g x y := by
  refine ⟨Kd.R_mono (Kd.R_step (Kd.R_tight rfl h.row) (fun b hb hlt => hs b (.inl hb) hlt)) (fun _ _ => trivial), ?_⟩
  rcases h.was with h1 | hF
  · exact .inl h1
  · exact .inr (Kd.F_step hF (fun b hb hlt => hs b (.inr hb.2) hlt))
/-- What the list reads. -/
theorem LG.reads (h : LG k W base T Al g x y) : Kd.C (Kd.int k) W Al x.length x := by
  rcases h.was with ⟨n, c, rfl⟩ | hF
  · have hF := Kd.R_F h.row
    obtain rfl := (Kd.R_reads' h.row).1
    have hF := Kd.F_take (m := x.length) hF (by simp)
    rw [List.take_left] at hF
    exact Kd.F_now hF
  · exact Kd.F_now hF
end
section
variable {W W1 : World} {base T T2 n cl : Nat} {k : IntKind} {ok : Nat → Prop} {A : Option Addr} {xs : List (List Int)}
/-- The lists of a row whose inner rows lie apart: their values, their rows, and that no two share a block. -/
structure Lists (k : IntKind) (W : World) (base T : Nat) (okr : Nat → Prop) (ls : List Value) (xs : List (List Int)) : Prop where
  len : ls.length = xs.length
  row : ∀ (j : Nat) (v : Value) (x : List Int), ls[j]? = some v → xs[j]? = some x → Kd.R (Kd.int k) T W base okr v x
  two : ∀ (i j : Nat) (u v : Value), i ≠ j → ls[i]? = some u → ls[j]? = some v → ∀ b, u.ownBlock = some b → v.ownBlock ≠ some b
theorem lists_of (h : Kd.S (Kd.slice T (Kd.int k)) T2 W base ok (.slice A n cl) xs) :
    ∃ ls : List Value, Lists k W base T (fun b => ok b ∧ some b ≠ (Value.slice A n cl).ownBlock) ls xs ∧ n = xs.length ∧ ∀ (j : Nat) (v : Value), ls[j]? = some v → ∃ g, A = some ⟨g, 0, none⟩ ∧ W.cell? ⟨g, j, none⟩ = some v := by
  have hn := (Kd.S_reads' h).1
  obtain ⟨f, h0, inner, ho, hr⟩ := h
  rw [List.length_zipIdx] at ho
  have hl : inner.length = xs.length := by have h := ho.1; have h : inner.length = xs.length * 1 := h; omega
  have hat : ∀ (j : Nat) (v : Value) (x : List Int), inner[j]? = some v → xs[j]? = some x → Kd.R (Kd.int k) T W base (fun b => (ok b ∧ some b ≠ (Value.slice A n cl).ownBlock) ∧ f b = j) v x := by
    intro j v x hv hx
    obtain ⟨u, e, hu⟩ := hr.2 j (x, j) (Kd.zip_at hx)
    have e : (inner.drop (j * 1)).take 1 = [u] := e
    have hu : Kd.R (Kd.int k) T W base (fun b => (ok b ∧ some b ≠ (Value.slice A n cl).ownBlock) ∧ f b = j) u x := hu
    have e2 : inner[j]? = some u := by
      have := congrArg (fun l : List Value => l[0]?) e
      rw [Nat.mul_one] at this
      simpa [List.getElem?_take, List.getElem?_drop] using this
    rw [hv] at e2
    injection e2 with e2
    rw [e2]
    exact hu
  refine ⟨inner, ⟨hl, fun j v x hv hx => Kd.R_mono (hat j v x hv hx) (fun b hb => hb.1), ?_⟩, hn, ?_⟩
  · intro i j u v hij hu hv b hb hb2
    have hi : i < xs.length := by rw [← hl]; exact (List.getElem?_eq_some_iff.1 hu).1
    have hj : j < xs.length := by rw [← hl]; exact (List.getElem?_eq_some_iff.1 hv).1
    have h1 := (hat i u _ hu (List.getElem?_eq_getElem hi)).1 b hb
    have h2 := (hat j v _ hv (List.getElem?_eq_getElem hj)).1 b hb2
    exact hij (h1.2.symm.trans h2.2)
  · intro j v hv
    have hj : j < xs.length := by rw [← hl]; exact (List.getElem?_eq_some_iff.1 hv).1
    rcases ho.2 with ⟨_, e0⟩ | ⟨g, cap, cur, e, -, hb, -, -, -, ht⟩
    · omega
    · injection e with e
      refine ⟨g, e, (blk_cell hb j).trans ?_⟩
      rw [← ht] at hv
      rw [List.getElem?_take] at hv
      split at hv
      · simpa using hv
      · cases hv
/-- A store into one of the lists. -/
theorem Lists.put {okr : Nat → Prop} {ls : List Value} {i j g c m : Nat} {x : List Int} {z : Int} (h : Lists k W base T okr ls xs) (hv : ls[i]? = some (.slice (some ⟨g, 0, none⟩) m c)) (hx : xs[i]? = some x) :
    Lists k (W.setCell ⟨g, j, none⟩ (.int k z)) base T okr ls (xs.set i (x.set j z)) ∧ W.grownBy (W.setCell ⟨g, j, none⟩ (.int k z)) (some g) := by
  have hR := h.row i _ x hv hx
  obtain ⟨hp, hg⟩ := Kd.R_putg hR (j : Int) z
  simp only [Int.toNat_natCast] at hp hg
  refine ⟨⟨by rw [List.length_set]; exact h.len, ?_, h.two⟩, hg⟩
  intro j' v' x' hv' hx'
  by_cases e : j' = i
  · subst e
    rw [hv] at hv'
    injection hv' with hv'
    have hi := (List.getElem?_eq_some_iff.1 hx).1
    rw [List.getElem?_set_self hi] at hx'
    injection hx' with hx'
    rw [← hv', ← hx']
    exact hp
  · rw [List.getElem?_set_ne (fun e2 => e e2.symm)] at hx'
    refine Kd.R_grown2 (h.row j' v' x' hv' hx') rfl hg ?_
    intro b hb hb2
    exact h.two j' i v' _ e hv' hv b hb2.symm (by injection hb with hb; rw [← hb]; rfl)
/-- Phase one: the lists before i bear their marks, list i bears it up to t. -/
structure Ap1 (k : IntKind) (w W : World) (base T : Nat) (okr : Nat → Prop) (A : Option Addr) (ls : List Value) (xs ys : List (List Int)) (mk : Nat → Int) (i t : Nat) : Prop where
  below : Below base w W
  lists : Lists k W base T okr ls ys
  lens : ∀ j : Nat, (ys.getD j []).length = (xs.getD j []).length
  done : ∀ j : Nat, j < i → ys.getD j [] = List.replicate (xs.getD j []).length (mk j)
  part : (ys.getD i []).take t = List.replicate t (mk i)
  outer : ∀ (j : Nat) (v : Value), ls[j]? = some v → ∃ g, A = some ⟨g, 0, none⟩ ∧ W.cell? ⟨g, j, none⟩ = some v
  far : ∀ g, A = some ⟨g, 0, none⟩ → ¬ okr g
  kept : ∀ b, b < w.heap.size → ¬ okr b → W.heap[b]? = w.heap[b]?
section
variable {w : World} {okr : Nat → Prop} {ls : List Value} {ys : List (List Int)} {mk : Nat → Int} {i t : Nat}
theorem Ap1.at_ (h : Ap1 k w W base T okr A ls xs ys mk i t) (hi : i < xs.length) (hls : ls.length = xs.length) : ∃ (g : Nat) (Ai : Option Addr) (ci : Nat), A = some ⟨g, 0, none⟩ ∧ ls[i]? = some (.slice Ai (xs.getD i []).length ci) ∧ W.cell? ⟨g, i, none⟩ = some (.slice Ai (xs.getD i []).length ci) ∧
      (0 < (xs.getD i []).length → ∃ gi, Ai = some ⟨gi, 0, none⟩) ∧ ∀ gi, Ai = some ⟨gi, 0, none⟩ → ∀ j, j < (xs.getD i []).length → (∃ u, W.cell? ⟨gi, j, none⟩ = some (.int k u)) ∧ W.frozen? ⟨gi, j, none⟩ = false := by
  have hy : i < ys.length := by have := h.lists.len; omega
  have hl : i < ls.length := by omega
  obtain ⟨g, e, hc⟩ := h.outer i _ (List.getElem?_eq_getElem hl)
  have hR := h.lists.row i _ _ (List.getElem?_eq_getElem hl) (List.getElem?_eq_getElem hy)
  have hlen := h.lens i
  rw [List.getD_eq_getElem?_getD, List.getElem?_eq_getElem hy] at hlen
  simp only [Option.getD_some] at hlen
  obtain ⟨Ai, ci, e1, hcap, hC⟩ := Kd.R_reads hR
  rw [e1, hlen] at hR
  refine ⟨g, Ai, ci, e, by rw [List.getElem?_eq_getElem hl, e1, hlen], by rw [hc, e1, hlen], ?_, ?_⟩
  · intro h0
    obtain ⟨ad, ea, -⟩ := hC.2.2 (by omega)
    subst ea
    obtain ⟨p, rfl⟩ := Kd.R_head hR
    exact ⟨p, rfl⟩
  · rintro gi rfl j hj
    rw [← hlen] at hR
    have := Kd.R_cell (0 : Int) hR (j : Int) (by omega) (by omega)
    simp only [Int.toNat_natCast] at this
    exact ⟨⟨_, this.1⟩, this.2⟩
theorem take_set {x : List Int} {t : Nat} {z : Int} (ht : t < x.length) (h : x.take t = List.replicate t z) : (x.set t z).take (t + 1) = List.replicate (t + 1) z := by
  rw [List.take_succ_eq_append_getElem (by simpa using ht), List.getElem_set_self, List.take_set_of_le (Nat.le_refl _), h]
  simp [List.replicate_succ']
section
variable {w : World} {okr : Nat → Prop} {ls : List Value} {ys : List (List Int)} {mk : Nat → Int} {i t : Nat}
theorem Ap1.put {gi m ci : Nat} (h : Ap1 k w W base T okr A ls xs ys mk i t) (hv : ls[i]? = some (.slice (some ⟨gi, 0, none⟩) m ci)) (ht : t < (xs.getD i []).length) :
    Ap1 k w (W.setCell ⟨gi, t, none⟩ (.int k (mk i))) base T okr A ls xs (ys.set i ((ys.getD i []).set t (mk i))) mk i (t + 1) := by
  have hl : i < ls.length := (List.getElem?_eq_some_iff.1 hv).1
  have hy : i < ys.length := by have := h.lists.len; omega
  have hlen := h.lens i
  have hyg : ys.getD i [] = ys[i] := by rw [List.getD_eq_getElem?_getD, List.getElem?_eq_getElem hy]; rfl
  have hR := h.lists.row i _ _ hv (List.getElem?_eq_getElem hy)
  obtain ⟨hL, hg⟩ := h.lists.put (j := t) (z := mk i) hv (List.getElem?_eq_getElem hy)
  have hgi : okr gi := hR.1 gi rfl
  have hgb : base ≤ gi := Kd.R_base hR gi rfl
  have hset : ∀ j : Nat, (ys.set i ((ys.getD i []).set t (mk i))).getD j [] = if j = i then (ys.getD i []).set t (mk i) else ys.getD j [] := by
    intro j
    rw [List.getD_eq_getElem?_getD]
    by_cases e : j = i
    · subst e; rw [if_pos rfl, List.getElem?_set_self hy]; rfl
    · rw [if_neg e, List.getElem?_set_ne (fun e2 => e e2.symm), ← List.getD_eq_getElem?_getD]
  refine { below := h.below.setCell hgb _, lists := by rw [hyg]; exact hL, lens := ?_, done := ?_, part := ?_, outer := ?_, far := h.far, kept := fun b hb hn => (Below.heap_setCell W ⟨gi, t, none⟩ (.int k (mk i)) b (fun e => hn (e ▸ hgi))).trans (h.kept b hb hn) }
  · intro j
    rw [hset]
    split
    · rename_i e; rw [List.length_set, e]; exact hlen
    · exact h.lens j
  · intro j hj
    rw [hset, if_neg (by omega)]
    exact h.done j hj
  · rw [hset, if_pos rfl]
    exact take_set (by omega) h.part
  · intro j v hj
    obtain ⟨g, e, hc⟩ := h.outer j v hj
    refine ⟨g, e, ?_⟩
    exact cell_kept hc (W2 := W.setCell ⟨gi, t, none⟩ (.int k (mk i))) (S := fun b => some b = some gi) ⟨hg.size, fun b hb hs => hg.block b hb hs⟩ (fun e2 => h.far g e (by injection e2 with e2; have e2 : g = gi := e2; rw [e2]; exact hgi))
theorem Ap1.next (h : Ap1 k w W base T okr A ls xs ys mk i (xs.getD i []).length) : Ap1 k w W base T okr A ls xs ys mk (i + 1) 0 := by
  refine { h with done := ?_, part := by simp }
  intro j hj
  by_cases e : j = i
  · subst e
    have := h.part
    rw [← h.lens j, List.take_length] at this
    rw [this, h.lens j]
  · exact h.done j (by omega)
end
end
/-- A list's blocks: its own, and that of what was grown out of it. -/
def Blk (ls hs : List Value) (j b : Nat) : Prop := (∃ v, ls[j]? = some v ∧ v.ownBlock = some b) ∨ (∃ u, hs[j]? = some u ∧ u.ownBlock = some b)
/-- Lists and what was grown out of them: no two pairs share a block, and none lies in 'no'. -/
structure Grown (k : IntKind) (W : World) (base T : Nat) (no : Nat → Prop) (ls hs : List Value) (xs ys : List (List Int)) : Prop where
  lenh : hs.length = ls.length
  lenx : xs.length = ls.length
  leny : ys.length = ls.length
  row : ∀ (j : Nat) (v u : Value) (x y : List Int), ls[j]? = some v → hs[j]? = some u → xs[j]? = some x → ys[j]? = some y → ∃ Al c, v = .slice Al x.length c ∧ LG k W base T Al u x y
  two : ∀ (i j : Nat), i ≠ j → ∀ b, Blk ls hs i b → ¬ Blk ls hs j b
  away : ∀ (j b : Nat), Blk ls hs j b → ¬ no b
  here : ∀ (j b : Nat), Blk ls hs j b → b < W.heap.size
section
variable {no : Nat → Prop} {ls hs : List Value} {ys : List (List Int)} {i : Nat} {u v1 : Value} {x y zs : List Int}
theorem Grown.app (h : Grown k W base T no ls hs xs ys) (hu : hs[i]? = some u) (hx : xs[i]? = some x) (hy : ys[i]? = some y) (hr : Kd.R (Kd.int k) T W1 base (fun _ => True) v1 ((x ++ y) ++ zs)) (hg : W.grownBy W1 u.ownBlock)
    (hc : v1.ownBlock = u.ownBlock ∨ (v1.ownBlock = some W.heap.size ∧ W.grownBy W1 none)) (hno : ∀ b, no b → b < W.heap.size) : Grown k W1 base T no ls (hs.set i v1) xs (ys.set i (y ++ zs)) := by
  have hi : i < hs.length := (List.getElem?_eq_some_iff.1 hu).1
  have hiy : i < ys.length := (List.getElem?_eq_some_iff.1 hy).1
  have hv1 : ∀ b, v1.ownBlock = some b → b < W1.heap.size := Kd.R_lt hr
  have blk : ∀ j b, Blk ls (hs.set i v1) j b → Blk ls hs j b ∨ (j = i ∧ b = W.heap.size) := by
    rintro j b (e | ⟨q, hq, hb⟩)
    · exact .inl (.inl e)
    · by_cases e : j = i
      · subst e
        rw [List.getElem?_set_self hi] at hq
        injection hq with hq
        subst hq
        rcases hc with e | ⟨e, -⟩
        · exact .inl (.inr ⟨u, hu, by rw [← e]; exact hb⟩)
        · rw [e] at hb; injection hb with hb; exact .inr ⟨rfl, hb.symm⟩
      · rw [List.getElem?_set_ne (fun e2 => e e2.symm)] at hq
        exact .inl (.inr ⟨q, hq, hb⟩)
  refine { lenh := by rw [List.length_set]; exact h.lenh, lenx := h.lenx, leny := by rw [List.length_set]; exact h.leny, row := ?_, two := ?_, away := ?_, here := ?_ }
  · intro j v q x' y' h1 h2 h3 h4
    by_cases e : j = i
    · subst e
      rw [List.getElem?_set_self hi] at h2
      rw [List.getElem?_set_self hiy] at h4
      injection h2 with h2
      injection h4 with h4
      subst h2 h4
      rw [hx] at h3
      injection h3 with h3
      subst h3
      obtain ⟨Al, c, e1, hL⟩ := h.row j v u x y h1 hu hx hy
      exact ⟨Al, c, e1, hL.app hr hg hc⟩
    · rw [List.getElem?_set_ne (fun e2 => e e2.symm)] at h2 h4
      obtain ⟨Al, c, e1, hL⟩ := h.row j v q x' y' h1 h2 h3 h4
      refine ⟨Al, c, e1, hL.step (fun b hb hlt => hg.block b hlt (fun e2 => ?_))⟩
      refine h.two j i e b ?_ (.inr ⟨u, hu, e2.symm⟩)
      rcases hb with hb | hb
      · exact .inr ⟨q, h2, hb.symm⟩
      · refine .inl ⟨v, h1, ?_⟩
        rw [e1]
        cases Al with
        | none => simp at hb
        | some a => simpa [Value.ownBlock] using hb
  · intro a j e b hb hb2
    rcases blk a b hb with h1 | ⟨e1, e2⟩
    · rcases blk j b hb2 with h2 | ⟨e3, e4⟩
      · exact h.two a j e b h1 h2
      · have := h.here a b h1; omega
    · rcases blk j b hb2 with h2 | ⟨e3, e4⟩
      · have := h.here j b h2; omega
      · omega
  · intro j b hb hn
    rcases blk j b hb with h1 | ⟨e1, e2⟩
    · exact h.away j b h1 hn
    · have := hno b hn; omega
  · intro j b hb
    have := hg.size
    rcases hb with e | ⟨q, hq, hb⟩
    · have := h.here j b (.inl e); omega
    · by_cases e : j = i
      · subst e
        rw [List.getElem?_set_self hi] at hq
        injection hq with hq
        subst hq
        exact hv1 b hb
      · rw [List.getElem?_set_ne (fun e2 => e e2.symm)] at hq
        have := h.here j b (.inr ⟨q, hq, hb⟩); omega
end
section
variable {no okr : Nat → Prop} {ls hs : List Value} {ys : List (List Int)}
theorem Grown.step (h : Grown k W base T no ls hs xs ys) (hs_ : ∀ b, ¬ no b → b < W.heap.size → W1.heap[b]? = W.heap[b]?) (hsz : W.heap.size ≤ W1.heap.size) : Grown k W1 base T no ls hs xs ys := by
  refine { h with row := ?_, here := fun j b hb => Nat.lt_of_lt_of_le (h.here j b hb) hsz }
  intro j v q x y h1 h2 h3 h4
  obtain ⟨Al, c, e1, hL⟩ := h.row j v q x y h1 h2 h3 h4
  refine ⟨Al, c, e1, hL.step (fun b hb hlt => hs_ b (h.away j b ?_) hlt)⟩
  rcases hb with hb | hb
  · exact .inr ⟨q, h2, hb.symm⟩
  · refine .inl ⟨v, h1, ?_⟩
    rw [e1]
    cases Al with
    | none => simp at hb
    | some a => simpa [Value.ownBlock] using hb
theorem Lists.grown (h : Lists k W base T okr ls xs) (hno : ∀ b, no b → okr b → W.heap.size ≤ b) : Grown k W base T no ls ls xs (List.replicate ls.length []) := by
  have row : ∀ (j : Nat) (v : Value), ls[j]? = some v → ∃ x, xs[j]? = some x ∧ Kd.R (Kd.int k) T W base okr v x := by
    intro j v hv
    have hj : j < xs.length := by rw [← h.len]; exact (List.getElem?_eq_some_iff.1 hv).1
    exact ⟨_, List.getElem?_eq_getElem hj, h.row j v _ hv (List.getElem?_eq_getElem hj)⟩
  have one : ∀ j b, Blk ls ls j b → ∃ v, ls[j]? = some v ∧ v.ownBlock = some b := by
    rintro j b (e | e) <;> exact e
  refine { lenh := rfl, lenx := h.len.symm, leny := List.length_replicate, row := ?_, two := ?_, away := ?_, here := ?_ }
  · intro j v u x y h1 h2 h3 h4
    rw [h1] at h2
    injection h2 with h2
    subst h2
    have hR := h.row j v x h1 h3
    obtain ⟨A, c, rfl, -⟩ := Kd.R_reads hR
    have hy : y = [] := by
      rw [List.getElem?_replicate] at h4
      split at h4
      · injection h4 with h4; exact h4.symm
      · cases h4
    subst hy
    exact ⟨A, c, rfl, LG.start hR⟩
  · intro i j e b hb hb2
    obtain ⟨u, hu, e1⟩ := one i b hb
    obtain ⟨v, hv, e2⟩ := one j b hb2
    exact h.two i j u v e hu hv b e1 e2
  · intro j b hb hn
    obtain ⟨v, hv, e1⟩ := one j b hb
    obtain ⟨x, hx, hR⟩ := row j v hv
    have := hno b hn (hR.1 b e1)
    have := Kd.R_lt hR b e1
    omega
  · intro j b hb
    obtain ⟨v, hv, e1⟩ := one j b hb
    obtain ⟨x, hx, hR⟩ := row j v hv
    exact Kd.R_lt hR b e1
end
/-- What was grown onto each list: cnt j of its marks. -/
def tails (n : Nat) (cnt : Nat → Nat) (mk : Nat → Int) : List (List Int) := (List.range n).map fun j => List.replicate (cnt j) (mk j)
theorem tails_at {n j : Nat} {cnt : Nat → Nat} {mk : Nat → Int} (h : j < n) : (tails n cnt mk)[j]? = some (List.replicate (cnt j) (mk j)) := by
  simp [tails, h]
theorem tails_none (n : Nat) (mk : Nat → Int) : tails n (fun _ => 0) mk = List.replicate n [] := by
  apply List.ext_getElem? 
  intro j
  by_cases h : j < n
  · rw [tails_at h, List.getElem?_replicate, if_pos h]; rfl
  · rw [List.getElem?_replicate, if_neg h]; simp [tails]; omega
theorem tails_set {n i a : Nat} {cnt : Nat → Nat} {mk : Nat → Int} (h : i < n) : (tails n cnt mk).set i (List.replicate (cnt i) (mk i) ++ List.replicate a (mk i)) = tails n (fun j => if j = i then cnt i + a else cnt j) mk := by
  apply List.ext_getElem?
  intro j
  by_cases hj : j < n
  · rw [tails_at hj]
    by_cases e : j = i
    · subst e
      rw [List.getElem?_set_self (by simpa [tails] using hj), if_pos rfl, List.replicate_append_replicate]
    · rw [List.getElem?_set_ne (fun e2 => e e2.symm), tails_at hj, if_neg e]
  · have h1 : ∀ c : Nat → Nat, (tails n c mk)[j]? = none := fun c => by simp [tails]; omega
    rw [h1, List.getElem?_set_ne (by omega), h1]
/-- Phases two and three: the lists with what was grown onto them, and the block of `more`. -/
structure Ap2 (okr : Nat → Prop) (k : IntKind) (w W : World) (base T T2 gm : Nat) (A : Option Addr) (ls hs : List Value) (xs : List (List Int)) (gs : Array Value) (mk2 : Nat → Int) (cnt : Nat → Nat) : Prop where
  below : Below base w W
  grown : Grown k W base T (fun b => A = some ⟨b, 0, none⟩ ∨ b = gm) ls hs xs (tails ls.length cnt mk2)
  more : W.heap[gm]? = some (.cells gs T2 (0, 0))
  gsz : gs.size = ls.length
  gmb : base ≤ gm
  outer : ∀ (j : Nat) (v : Value), ls[j]? = some v → ∃ g, A = some ⟨g, 0, none⟩ ∧ g ≠ gm ∧ W.cell? ⟨g, j, none⟩ = some v
  kept : ∀ b, b < w.heap.size → ¬ okr b → W.heap[b]? = w.heap[b]?
  home : ∀ j b, Blk ls hs j b → okr b ∨ w.heap.size ≤ b
  gmw : w.heap.size ≤ gm
theorem Ap1.made {w : World} {okr : Nat → Prop} {ls : List Value} {ys : List (List Int)} {mk mk2 : Nat → Int} {m : Nat} (h : Ap1 k w W base T okr A ls xs ys mk m 0) (cells : Array Value) (hc : cells.size = ls.length) (hbase : base ≤ W.heap.size) :
    Ap2 okr k w (W.alloc (.cells cells T2)) base T T2 W.heap.size A ls ls ys cells mk2 (fun _ => 0) := by
  have hb : Below W.heap.size W (W.alloc (.cells cells T2)) := (Below.refl _ _).alloc (Nat.le_refl _) _
  have hG := h.lists.grown (no := fun b => A = some ⟨b, 0, none⟩ ∨ b = W.heap.size) (by
    rintro b (e | e) hk
    · exact absurd hk (h.far b e)
    · omega)
  refine { below := h.below.alloc hbase _, grown := ?_, more := blk_new _ _, gsz := hc, gmb := hbase, outer := ?_, kept := fun b hlt hn => (hb.block b (Nat.lt_of_lt_of_le hlt h.below.size)).trans (h.kept b hlt hn), home := ?_, gmw := h.below.size }
  · rw [tails_none]
    exact hG.step (fun b _ hlt => hb.block b hlt) hb.size
  · intro j v hv
    obtain ⟨g, e, hcell⟩ := h.outer j v hv
    have hlt : g < W.heap.size := World.block_lt_of_cell? W ⟨g, j, none⟩ hcell
    exact ⟨g, e, by omega, cell_kept (S := fun _ => False) hcell ⟨hb.size, fun b hlt _ => hb.block b hlt⟩ (fun h => h)⟩
  · rintro j b (⟨v, hv, e⟩ | ⟨v, hv, e⟩) <;>
    exact .inl ((h.lists.row j v _ hv (List.getElem?_eq_getElem (by have := h.lists.len; have := (List.getElem?_eq_some_iff.1 hv).1; omega))).1 b e)
section
variable {okr : Nat → Prop} {w : World} {gm i a : Nat} {ls hs : List Value} {gs : Array Value} {mk2 : Nat → Int} {cnt : Nat → Nat} {u v1 : Value} {x : List Int}
theorem Ap2.grow (h : Ap2 okr k w W base T T2 gm A ls hs xs gs mk2 cnt) (hg : W.grownBy W1 none) : Ap2 okr k w W1 base T T2 gm A ls hs xs gs mk2 cnt := by
  have hlt := blk_lt h.more
  have hgb := h.gmb
  refine { h with below := h.below.grown hg (by omega) (fun k hk => by simp at hk), grown := h.grown.step (fun b _ hb => hg.block b hb (by simp)) hg.size, more := blk_grown h.more hg (by simp), outer := ?_, kept := fun b hlt hn => (hg.block b (Nat.lt_of_lt_of_le hlt h.below.size) (by simp)).trans (h.kept b hlt hn) }
  intro j v hv
  obtain ⟨g, e, hne, hcell⟩ := h.outer j v hv
  exact ⟨g, e, hne, cell_kept (S := fun _ => False) hcell ⟨hg.size, fun b hlt _ => hg.block b hlt (by simp)⟩ (fun h => h)⟩
theorem Ap2.row (h : Ap2 okr k w W base T T2 gm A ls hs xs gs mk2 cnt) (hi : i < ls.length) (hu : hs[i]? = some u) (hx : xs[i]? = some x) : Kd.R (Kd.int k) T W base (fun _ => True) u (x ++ List.replicate (cnt i) (mk2 i)) := by
  obtain ⟨Al, c, -, hL⟩ := h.grown.row i _ u x _ (List.getElem?_eq_getElem hi) hu hx (tails_at hi)
  exact hL.row
theorem Ap2.app (h : Ap2 okr k w W base T T2 gm A ls hs xs gs mk2 cnt) (hi : i < ls.length) (hu : hs[i]? = some u) (hx : xs[i]? = some x) (hr : Kd.R (Kd.int k) T W1 base (fun _ => True) v1 ((x ++ List.replicate (cnt i) (mk2 i)) ++ List.replicate a (mk2 i)))
    (hg : W.grownBy W1 u.ownBlock) (hc : v1.ownBlock = u.ownBlock ∨ (v1.ownBlock = some W.heap.size ∧ W.grownBy W1 none)) (hA : ∀ g, A = some ⟨g, 0, none⟩ → g < W.heap.size) : Ap2 okr k w W1 base T T2 gm A ls (hs.set i v1) xs gs mk2 (fun j => if j = i then cnt i + a else cnt j) := by
  have hlt := blk_lt h.more
  have hgb := h.gmb
  have hub : ∀ b, u.ownBlock = some b → base ≤ b := Kd.R_base (h.row hi hu hx)
  have haw : ∀ b, u.ownBlock = some b → ¬ (A = some ⟨b, 0, none⟩ ∨ b = gm) := fun b hb => h.grown.away i b (.inr ⟨u, hu, hb⟩)
  refine { below := h.below.grown hg (by omega) hub, grown := ?_, more := blk_grown h.more hg (fun e => haw gm e.symm (.inr rfl)), gsz := h.gsz, gmb := hgb, outer := ?_, kept := ?_, home := ?_, gmw := h.gmw }
  · have := h.grown.app hu hx (tails_at hi) hr hg hc (by
      rintro b (e | e)
      · exact hA b e
      · omega)
    rw [tails_set hi] at this
    exact this
  · intro j v hv
    obtain ⟨g, e, hne, hcell⟩ := h.outer j v hv
    exact ⟨g, e, hne, cell_kept (S := fun b => some b = u.ownBlock) hcell ⟨hg.size, fun b hlt hs => hg.block b hlt hs⟩ (fun e2 => haw g e2.symm (.inl e))⟩
  · intro b hlt hn
    refine (hg.block b (Nat.lt_of_lt_of_le hlt h.below.size) (fun e => ?_)).trans (h.kept b hlt hn)
    rcases h.home i b (.inr ⟨u, hu, e.symm⟩) with h1 | h1
    · exact hn h1
    · omega
  · have hil : i < hs.length := (List.getElem?_eq_some_iff.1 hu).1
    rintro j b (e | ⟨q, hq, hb⟩)
    · exact h.home j b (.inl e)
    · by_cases e : j = i
      · subst e
        rw [List.getElem?_set_self hil] at hq
        injection hq with hq
        subst hq
        rcases hc with e | ⟨e, -⟩
        · exact h.home j b (.inr ⟨u, hu, by rw [← e]; exact hb⟩)
        · rw [e] at hb; injection hb with hb; exact .inr (by have := h.below.size; omega)
      · rw [List.getElem?_set_ne (fun e2 => e e2.symm)] at hq
        exact h.home j b (.inr ⟨q, hq, hb⟩)
end
theorem Ap2.store {okr : Nat → Prop} {w : World} {gm : Nat} {ls hs : List Value} {gs : Array Value} {mk2 : Nat → Int} {cnt : Nat → Nat} (h : Ap2 okr k w W base T T2 gm A ls hs xs gs mk2 cnt) (i : Nat) (v : Value) :
    Ap2 okr k w (W.setCell ⟨gm, i, none⟩ v) base T T2 gm A ls hs xs (gs.setIfInBounds i v) mk2 cnt := by
  have hs : ∀ b, b ≠ gm → (W.setCell ⟨gm, i, none⟩ v).heap[b]? = W.heap[b]? := fun b hb => Below.heap_setCell W ⟨gm, i, none⟩ v b hb
  have hb : Below base w (W.setCell ⟨gm, i, none⟩ v) := h.below.setCell h.gmb _
  have hsz : W.heap.size ≤ (W.setCell ⟨gm, i, none⟩ v).heap.size := by simp
  refine { below := hb, grown := h.grown.step (fun b hn _ => hs b (fun e => hn (.inr e))) hsz, more := by apply blk_set; exact h.more, gsz := by rw [Array.size_setIfInBounds]; exact h.gsz, gmb := h.gmb, outer := ?_, kept := fun b hlt hn => (hs b (by have := h.gmw; omega)).trans (h.kept b hlt hn), home := h.home, gmw := h.gmw }
  intro j v' hv
  obtain ⟨g, e, hne, hcell⟩ := h.outer j v' hv
  exact ⟨g, e, hne, cell_kept (S := fun b => b = gm) hcell ⟨hsz, fun b _ hb => hs b hb⟩ hne⟩
end
/-- A literal's cells. -/
theorem C_lit (k : IntKind) (W : World) (xs : List Int) (e : Nat) (hm : xs.length ≤ 9223372036854775807) : (Kd.int k).C (W.alloc (.cells (xs.map (Value.int k)).toArray e)) (some ⟨W.heap.size, 0, none⟩) xs.length xs := by
  refine Kd.C_of_reads (d := (0 : Int)) ⟨rfl, hm, fun _ => ⟨_, rfl, fun j hj => ?_⟩⟩
  have h := blk_cell (blk_new W (.cells (xs.map (Value.int k)).toArray e)) j
  rw [show ((⟨W.heap.size, 0, none⟩ : Addr).add j) = ⟨W.heap.size, j, none⟩ from by simp [Addr.add]; omega]
  rw [h]
  simp [List.getD_eq_getElem?_getD, List.getElem?_eq_getElem hj]
section
variable {okr : Nat → Prop} {W W1 : World} {base T T2 : Nat} {k : IntKind} {A : Option Addr} {xs : List (List Int)} {w : World} {gm i q a : Nat} {ls hs : List Value} {gs : Array Value} {mk2 : Nat → Int} {cnt cnt' : Nat → Nat} {u v1 : Value} {x : List Int}
theorem Ap2.cnt_eq (h : Ap2 okr k w W base T T2 gm A ls hs xs gs mk2 cnt) (e : ∀ j, j < ls.length → cnt j = cnt' j) : Ap2 okr k w W base T T2 gm A ls hs xs gs mk2 cnt' := by
  have e1 : tails ls.length cnt mk2 = tails ls.length cnt' mk2 := by
    apply List.ext_getElem?
    intro j
    by_cases hj : j < ls.length
    · rw [tails_at hj, tails_at hj, e j hj]
    · have h1 : ∀ c : Nat → Nat, (tails ls.length c mk2)[j]? = none := fun c => by simp [tails]; omega
      rw [h1, h1]
  have := h.grown
  rw [e1] at this
  exact { h with grown := this }
theorem Ap2.at_ (h : Ap2 okr k w W base T T2 gm A ls hs xs gs mk2 cnt) (hi : i < ls.length) : ∃ (g : Nat) (Al : Option Addr) (c : Nat) (x : List Int), A = some ⟨g, 0, none⟩ ∧ g ≠ gm ∧ g < W.heap.size ∧ ls[i]? = some (.slice Al x.length c) ∧ xs[i]? = some x ∧ W.cell? ⟨g, i, none⟩ = some (.slice Al x.length c) ∧ xs.getD i [] = x := by
  have hh : i < hs.length := by rw [h.grown.lenh]; exact hi
  have hx : i < xs.length := by rw [h.grown.lenx]; exact hi
  obtain ⟨Al, c, e, hL⟩ := h.grown.row i _ _ _ _ (List.getElem?_eq_getElem hi) (List.getElem?_eq_getElem hh) (List.getElem?_eq_getElem hx) (tails_at hi)
  obtain ⟨g, eA, hne, hcell⟩ := h.outer i _ (List.getElem?_eq_getElem hi)
  refine ⟨g, Al, c, xs[i], eA, hne, World.block_lt_of_cell? W ⟨g, i, none⟩ hcell, by rw [List.getElem?_eq_getElem hi, e], List.getElem?_eq_getElem hx, by rw [hcell, e], by rw [List.getD_eq_getElem?_getD, List.getElem?_eq_getElem hx]; rfl⟩
/-- One append to what was grown out of list i. -/
theorem Ap2.one (h : Ap2 okr k w W base T T2 gm A ls (hs.set i u) xs gs mk2 (fun j => if j = i then q else cnt j)) (hi : i < ls.length) (hx : xs[i]? = some x) (hr : Kd.R (Kd.int k) T W1 base (fun _ => True) v1 ((x ++ List.replicate q (mk2 i)) ++ List.replicate a (mk2 i)))
    (hg : W.grownBy W1 u.ownBlock) (hc : v1.ownBlock = u.ownBlock ∨ (v1.ownBlock = some W.heap.size ∧ W.grownBy W1 none)) : Ap2 okr k w W1 base T T2 gm A ls (hs.set i v1) xs gs mk2 (fun j => if j = i then q + a else cnt j) := by
  have hh : i < hs.length := by have := h.grown.lenh; rw [List.length_set] at this; omega
  obtain ⟨g, Al, c, x', eA, -, hlt, -⟩ := h.at_ hi
  have := h.app hi (List.getElem?_set_self hh) hx (a := a) (v1 := v1) (by simpa using hr) hg hc (by intro g' e; rw [eA] at e; injection e with e; injection e with e; omega)
  rw [List.set_set] at this
  refine this.cnt_eq (fun j _ => ?_)
  by_cases e : j = i
  · simp [e]
  · simp [e]
theorem Ap2.rowi (h : Ap2 okr k w W base T T2 gm A ls (hs.set i u) xs gs mk2 (fun j => if j = i then q else cnt j)) (hi : i < ls.length) (hx : xs[i]? = some x) : Kd.R (Kd.int k) T W base (fun _ => True) u (x ++ List.replicate q (mk2 i)) := by
  have hh : i < hs.length := by have := h.grown.lenh; rw [List.length_set] at this; omega
  have := h.row hi (List.getElem?_set_self hh) hx
  simpa using this
theorem set_held {α : Type} {l : List α} {i : Nat} {u : α} (h : l[i]? = some u) : l.set i u = l := by
  apply List.ext_getElem?
  intro j
  rw [List.getElem?_set]
  split
  · rename_i e; subst e; rw [h]; have := (List.getElem?_eq_some_iff.1 h).1; simp [this]
  · rfl
/-- List i's growth goes on from u. -/
theorem Ap2.go {b c : Nat} (h : Ap2 okr k w W base T T2 gm A ls hs xs gs mk2 (fun j => if j < i then b else c)) (hu : hs[i]? = some u) : Ap2 okr k w W base T T2 gm A ls (hs.set i u) xs gs mk2 (fun j => if j = i then c + 0 else if j < i then b else c) := by
  rw [set_held hu]
  refine h.cnt_eq (fun j _ => ?_)
  by_cases e : j = i
  · simp [e]
  · simp [e]
theorem Ap2.came {b c d : Nat} (h : Ap2 okr k w W base T T2 gm A ls (hs.set i u) xs gs mk2 (fun j => if j = i then c + d else if j < i then b else c)) (hb : c + d = b) : Ap2 okr k w (W.setCell ⟨gm, i, none⟩ u) base T T2 gm A ls (hs.set i u) xs (gs.setIfInBounds i u) mk2 (fun j => if j < i + 1 then b else c) := by
  refine (h.store i u).cnt_eq (fun j _ => ?_)
  by_cases e : j = i
  · simp [e]; omega
  · by_cases e2 : j < i
    · simp [e, e2, show j < i + 1 from by omega]
    · simp [e, e2, show ¬ j < i + 1 from by omega]
theorem laid_set (hd : ∀ j, j < i → gs[j]? = hs[j]?) (hg : i < gs.size) (hl : i < hs.length) : ∀ j, j < i + 1 → (gs.setIfInBounds i u)[j]? = (hs.set i u)[j]? := by
  intro j hj
  rw [Array.getElem?_setIfInBounds, List.getElem?_set]
  by_cases e : i = j
  · subst e; simp [hg, hl]
  · rw [if_neg e, if_neg e]; exact hd j (by omega)
theorem laid_all (hd : ∀ j : Nat, gs[j]? = hs[j]?) : ∀ j : Nat, (gs.setIfInBounds i u)[j]? = (hs.set i u)[j]? := by
  have hsz : gs.size = hs.length := by
    have h1 := hd gs.size
    have h2 := hd hs.length
    simp at h1 h2
    omega
  intro j
  rw [Array.getElem?_setIfInBounds, List.getElem?_set]
  by_cases e : i = j
  · subst e; simp [hsz]
  · rw [if_neg e, if_neg e]; exact hd j
theorem rest_set (hr : ∀ j, i ≤ j → hs[j]? = ls[j]?) : ∀ j, i + 1 ≤ j → (hs.set i u)[j]? = ls[j]? := by
  intro j hj
  rw [List.getElem?_set_ne (by omega)]
  exact hr j (by omega)
/-- What list i itself reads. -/
theorem Ap2.list {Al : Option Addr} {c n : Nat} (h : Ap2 okr k w W base T T2 gm A ls hs xs gs mk2 cnt) (hv : ls[i]? = some (.slice Al n c)) (hx : xs[i]? = some x) : Kd.C (Kd.int k) W Al x.length x := by
  have hi : i < ls.length := (List.getElem?_eq_some_iff.1 hv).1
  have hh : i < hs.length := by rw [h.grown.lenh]; exact hi
  obtain ⟨Al', c', e, hL⟩ := h.grown.row i _ _ _ _ hv (List.getElem?_eq_getElem hh) hx (tails_at hi)
  injection e with e
  rw [e]
  exact hL.reads
/-- What a list behind its marks reads at place t. -/
theorem rd_marks {n q t : Nat} {a b : Int} (ht : t < n + q) : (List.replicate n a ++ List.replicate q b).getD t 0 = if t < n then a else b := by
  rw [List.getD_eq_getElem?_getD, List.getElem?_append]
  by_cases h : t < n
  · simp [h]
  · simp [h, show t - n < q from by omega]
theorem Ap2.look {n q t : Nat} {a : Int} (h : Ap2 okr k w W base T T2 gm A ls hs xs gs mk2 cnt) (hi : i < ls.length) (hu : hs[i]? = some u) (hx : xs[i]? = some (List.replicate n a)) (hc : cnt i = q) (ht : t < n + q) : ∃ g c, u = .slice (some ⟨g, 0, none⟩) (n + q) c ∧ W.cell? ⟨g, t, none⟩ = some (.int k (if t < n then a else mk2 i)) := by
  have hr := h.row hi hu hx
  rw [hc] at hr
  obtain ⟨Au, cu, rfl, hcap, hC⟩ := Kd.R_reads hr
  have hl : (List.replicate n a ++ List.replicate q (mk2 i)).length = n + q := by simp
  obtain ⟨ad, rfl, -⟩ := hC.2.2 (by rw [hl]; omega)
  obtain ⟨p, rfl⟩ := Kd.R_head hr
  have := (Kd.R_cell (0 : Int) hr (t : Int) (by omega) (by rw [hl]; omega)).1
  simp only [Int.toNat_natCast, rdOf, rd_marks ht] at this
  exact ⟨p, cu, by rw [hl], this⟩
end
end Go.Proofs.Ytmbkgepfpfeahaa.Q
