/- BraidWeaves: chunks of things, each in one piece of memory with a mark behind; plain lemmas. -/
import Derived.Test.YtiefmocfgneldaaBvP
set_option linter.unusedVariables false
set_option linter.unusedSimpArgs false
namespace Go.Proofs.Ytiefmocfgneldaa.Q
open Go.RowKit Go.Proofs.YtiefmocfgneldaaW.PrintWords Go.Proofs.YtiefmocfgneldaaW.PrintLast Go.Proofs.YtiefmocfgneldaaW.PrintMore Go.Proofs.Ytiefmocfgneldaa.Pl
theorem infoThing : (Try.prog.info? 40).map (fun i => (i.zero, i.size, i.bytes)) = some (some (.agg #[.int .i64 0, .int .i64 0]), 2, 16) := by kernel_rfl
theorem underThings : Try.prog.underlying 36 = some (.slice 40) := by kernel_rfl
theorem infoThings : (Try.prog.info? 36).map (fun i => (i.zero, i.size, i.bytes)) = some (some (.slice none 0 0), 1, 24) := by kernel_rfl
theorem underThingss : Try.prog.underlying 31 = some (.slice 36) := by kernel_rfl
/-- A chunk: its block, its length, its room. -/
structure Ck where
  g : Nat
  n : Nat
  c : Nat
def ckv (x : Ck) : Value := .slice (some ⟨x.g, 0, none⟩) x.n x.c
/-- What lies in chunk j. -/
def chk (j n : Nat) : List (Int × Int) := (List.range n).map fun (k : Nat) => ((j : Int), (k : Int))
theorem chk_len (j n : Nat) : (chk j n).length = n := by simp [chk]
theorem chk_snoc (j n : Nat) : chk j (n + 1) = chk j n ++ [((j : Int), (n : Int))] := by simp [chk, List.range_succ]
theorem chk_get {j n k : Nat} (h : k < n) : (chk j n)[k]? = some ((j : Int), (k : Int)) := by simp [chk, h]
structure CK (W : World) (lo hi : Nat) (v : Value) (L : List Ck) (cs : List (List (Int × Int))) : Prop where
  out : W.ownsRow lo 36 1 v L.length (L.map ckv)
  ohi : ∀ b, v.ownBlock = some b → b < hi
  len : cs.length = L.length
  own : ∀ (j : Nat) (x : Ck) (p : List (Int × Int)), L[j]? = some x → cs[j]? = some p → p.length = x.n + 1 ∧ x.g < hi ∧ W.ownsRow lo 40 2 (.slice (some ⟨x.g, 0, none⟩) (x.n + 1) x.c) (x.n + 1) (pcells p)
  ne : ∀ (i j : Nat) (x y : Ck), L[i]? = some x → L[j]? = some y → x.g = y.g → i = j
  one : ∀ (j : Nat) (x : Ck), L[j]? = some x → v.ownBlock ≠ some x.g
theorem many_low {W : World} {base b2 T sz n : Nat} {v : Value} {inner : List Value} (h : W.ownsRow base T sz v n inner) (hl : b2 ≤ base) : W.ownsRow b2 T sz v n inner := by
  refine ⟨h.1, ?_⟩
  rcases h.2 with e | ⟨g, cap, cur, e, hb, hr⟩
  · exact .inl e
  · exact .inr ⟨g, cap, cur, e, Nat.le_trans hl hb, hr⟩
theorem row_head {W : World} {base T sz n : Nat} {v : Value} {inner : List Value} (h : W.ownsRow base T sz v (n + 1) inner) : ∃ g c, v = .slice (some ⟨g, 0, none⟩) (n + 1) c ∧ n + 1 ≤ c := by
  rcases h.2 with ⟨-, e⟩ | ⟨g, cap, cur, rfl, hbg, hg, hnc, hr⟩
  · omega
  · exact ⟨g, cap, rfl, hnc⟩
section
variable {W W1 W2 : World} {lo hi hi2 : Nat} {v v1 : Value} {L : List Ck} {cs : List (List (Int × Int))}
theorem CK.has (h : CK W lo hi v L cs) {j : Nat} {x : Ck} (hx : L[j]? = some x) : ∃ p, cs[j]? = some p ∧ p.length = x.n + 1 ∧ lo ≤ x.g ∧ x.g < hi ∧ x.g < W.heap.size ∧ W.ownsRow lo 40 2 (.slice (some ⟨x.g, 0, none⟩) (x.n + 1) x.c) (x.n + 1) (pcells p) := by
  obtain ⟨hj, -⟩ := List.getElem?_eq_some_iff.1 hx
  have hp : cs[j]? = some (cs[j]'(by rw [h.len]; exact hj)) := List.getElem?_eq_getElem _
  obtain ⟨a, b, c⟩ := h.own j x _ hx hp
  exact ⟨_, hp, a, (c.lt x.g rfl).1, b, (c.lt x.g rfl).2, c⟩
theorem CK.keep (h : CK W lo hi v L cs) (hs : ∀ b, lo ≤ b → b < hi → W1.heap[b]? = W.heap[b]?) : CK W1 lo hi v L cs :=
  ⟨many_step h.out (fun b hb => hs b (h.out.lt b hb).1 (h.ohi b hb)), h.ohi, h.len,
    fun j x p hx hp => by
      obtain ⟨a, b, c⟩ := h.own j x p hx hp
      refine ⟨a, b, many_step c (fun k hk => ?_)⟩
      obtain rfl : x.g = k := by simpa [Value.ownBlock] using hk
      exact hs _ (c.lt x.g rfl).1 b,
    h.ne, h.one⟩
theorem CK.up (h : CK W lo hi v L cs) (hh : hi ≤ hi2) : CK W lo hi2 v L cs :=
  ⟨h.out, fun b hb => Nat.lt_of_lt_of_le (h.ohi b hb) hh, h.len, fun j x p hx hp => ⟨(h.own j x p hx hp).1, Nat.lt_of_lt_of_le (h.own j x p hx hp).2.1 hh, (h.own j x p hx hp).2.2⟩, h.ne, h.one⟩
theorem CK.nil (W : World) (lo hi : Nat) : CK W lo hi (.slice none 0 0) [] [] :=
  ⟨World.ownsRow_nil _ _ _ _, fun b hb => by simp [Value.ownBlock] at hb, rfl, fun j x p hx => by simp at hx, fun i j x y hx => by simp at hx, fun j x hx => by simp at hx⟩
theorem snoc_get {α : Type} {L : List α} {x y : α} {j : Nat} (h : (L ++ [x])[j]? = some y) : L[j]? = some y ∨ (j = L.length ∧ y = x) := by
  by_cases hj : j < L.length
  · rw [List.getElem?_append_left hj] at h
    exact .inl h
  · obtain ⟨h1, -⟩ := List.getElem?_eq_some_iff.1 h
    simp only [List.length_append, List.length_cons, List.length_nil] at h1
    obtain rfl : j = L.length := by omega
    simp at h
    exact .inr ⟨rfl, h.symm⟩
/-- One chunk more. -/
theorem CK.snoc {x : Ck} {p : List (Int × Int)} {b : Nat} (h : CK W lo hi v L cs) (hp : p.length = x.n + 1) (hr : W.ownsRow b 40 2 (.slice (some ⟨x.g, 0, none⟩) (x.n + 1) x.c) (x.n + 1) (pcells p)) (hb : hi ≤ b) (hlo : lo ≤ hi)
    (hB : Below W.heap.size W W1) (ho : W2.ownsRow lo 36 1 v1 (L.length + 1) (L.map ckv ++ [ckv x])) (hg : W1.grownBy W2 v.ownBlock) (hc : v1.ownBlock = v.ownBlock ∨ (v1.ownBlock = some W1.heap.size ∧ W1.grownBy W2 none)) :
    CK W2 lo W2.heap.size v1 (L ++ [x]) (cs ++ [p]) := by
  have hxg := hr.lt x.g rfl
  have hz1 := hB.size
  have hz2 := hg.size
  have hgv : v.ownBlock ≠ some x.g := fun e => by have := h.ohi _ e; omega
  have st : ∀ k, k < W.heap.size → v.ownBlock ≠ some k → W2.heap[k]? = W.heap[k]? := fun k hk hn => (hg.block k (by omega) (fun e => hn e.symm)).trans (hB.block k hk)
  have hlow : ∀ (j : Nat) (y : Ck), L[j]? = some y → y.g < hi ∧ y.g < W.heap.size := fun j y hy => by
    obtain ⟨q, -, -, -, a, b2, -⟩ := h.has hy
    exact ⟨a, b2⟩
  refine ⟨by simpa using ho, fun k hk => (ho.lt k hk).2, by simp [h.len], ?_, ?_, ?_⟩
  · intro j y q hy hq
    rcases snoc_get hy with hy | ⟨rfl, rfl⟩
    · obtain ⟨hj, -⟩ := List.getElem?_eq_some_iff.1 hy
      rw [List.getElem?_append_left (by rw [h.len]; exact hj)] at hq
      obtain ⟨a, b2, c⟩ := h.own j y q hy hq
      have := (hlow j y hy).2
      refine ⟨a, by omega, many_step c (fun k hk => ?_)⟩
      obtain rfl : y.g = k := by simpa [Value.ownBlock] using hk
      exact st _ this (h.one j y hy)
    · rw [← h.len] at hq
      simp at hq
      subst hq
      refine ⟨hp, by omega, many_step (many_low hr (by omega)) (fun k hk => ?_)⟩
      obtain rfl : y.g = k := by simpa [Value.ownBlock] using hk
      exact st _ hxg.2 hgv
  · intro i j y z hy hz e
    rcases snoc_get hy with hy1 | ⟨e1, e2⟩ <;> rcases snoc_get hz with hz1 | ⟨e3, e4⟩
    · exact h.ne i j y z hy1 hz1 e
    · subst e4
      have := (hlow i y hy1).1
      omega
    · subst e2
      have := (hlow j z hz1).1
      omega
    · rw [e1, e3]
  · intro j y hy e
    rcases hc with hc | ⟨hc, -⟩
    · rw [hc] at e
      rcases snoc_get hy with hy | ⟨rfl, rfl⟩
      · exact h.one j y hy e
      · exact hgv e
    · rw [hc] at e
      injection e with e
      rcases snoc_get hy with hy | ⟨rfl, rfl⟩
      · have := (hlow j y hy).2
        omega
      · omega
end
/-- The chunks as they are made. -/
structure Chs (L : List Ck) (cs : List (List (Int × Int))) : Prop where
  len : cs.length = L.length
  at_ : ∀ (j : Nat) (x : Ck), L[j]? = some x → cs[j]? = some (chk j x.n ++ [(-1, -1)])
theorem Chs.nil : Chs [] [] := ⟨rfl, fun j x h => by simp at h⟩
theorem Chs.snoc {L : List Ck} {cs : List (List (Int × Int))} (h : Chs L cs) (x : Ck) : Chs (L ++ [x]) (cs ++ [chk L.length x.n ++ [(-1, -1)]]) := by
  refine ⟨by simp [h.len], fun j y hy => ?_⟩
  rcases snoc_get hy with hy | ⟨rfl, rfl⟩
  · obtain ⟨hj, -⟩ := List.getElem?_eq_some_iff.1 hy
    rw [List.getElem?_append_left (by rw [h.len]; exact hj)]
    exact h.at_ j y hy
  · rw [← h.len]
    simp
end Go.Proofs.Ytiefmocfgneldaa.Q
