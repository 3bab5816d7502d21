/- Sizes, Bounds and Weave over lists: what they come to. -/
import Derived.Test.YtiefmocfgneldaaBraid4
import Derived.Test.YtiefmocfgneldaaQx12
import Derived.Test.YtiefmocfgneldaaQx13
import Derived.Test.YtiefmocfgneldaaQx24
set_option linter.unusedVariables false
set_option linter.unusedSimpArgs false
namespace Go.Proofs.Ytiefmocfgneldaa.Pl
open Go.RowKit Go.Proofs.Ytiefmocfgneldaa.Q Go.Proofs.YtiefmocfgneldaaW.PrintWords Go.Proofs.YtiefmocfgneldaaW.PrintLast

def szf (n m j : Nat) : Nat := n / m + (if j < n % m then 1 else 0)
def sz (n m : Nat) : List Int := tab m fun j => (szf n m j : Int)
theorem sz_len (n m : Nat) : (sz n m).length = m := tab_len _ _
theorem sizes_bad (n m : Int) (h : ¬ (0 ≤ n ∧ n ≤ 256 ∧ 1 ≤ m ∧ m ≤ 64)) : Ev (fun k => braid_Sizes.f k n m) ([], 2) := by
  have bad : ∀ b, b = true → Ev (fun k => braid_Sizes.j0 k n m b) ([], 2) := fun b hb => Ev.step (f := fun _ => some ([], 2)) (fun k => by rw [braid_Sizes.j0, if_pos hb]) (Ev.now _)
  unfold braid_Sizes.f
  by_cases h1 : n < 0
  · exact ev_pos h1 (bad _ rfl)
  refine ev_neg h1 ?_
  by_cases h2 : n > 256
  · exact ev_pos h2 (bad _ rfl)
  refine ev_neg h2 ?_
  by_cases h3 : m < 1
  · exact ev_pos h3 (bad _ rfl)
  exact ev_neg h3 (bad _ (by simp; omega))
theorem sizes_good (n m : Nat) (hn : n ≤ 256) (h1 : 1 ≤ m) (h2 : m ≤ 64) : Ev (fun k => braid_Sizes.f k (n : Int) (m : Int)) (sz n m, 0) := by
  unfold braid_Sizes.f
  refine ev_neg (by omega) (ev_neg (by omega) (ev_neg (by omega) ?_))
  refine Ev.step (fun k => by rw [braid_Sizes.j0, if_neg (by simp; omega), if_pos (by omega), if_pos (by omega), Option.bind_some]) ?_
  have hd : n / m ≤ 256 := Nat.le_trans (Nat.div_le_self _ _) hn
  obtain ⟨q, hq⟩ : ∃ q, n / m = q := ⟨_, rfl⟩
  obtain ⟨r, hr0⟩ : ∃ r, n % m = r := ⟨_, rfl⟩
  have t1 : Int.tdiv (n : Int) (m : Int) = (q : Int) := by rw [← hq]; rfl
  have t2 : Int.tmod (n : Int) (m : Int) = (r : Int) := by rw [← hr0]; rfl
  have hz : ∀ j, (szf n m j : Int) = (q : Int) + (if j < r then 1 else 0) := fun j => by unfold szf; rw [hq, hr0]; split <;> simp
  rw [hq] at hd
  have key : ∀ (d i : Nat), i + d = m → Ev (fun k => braid_Sizes.l0 k (n : Int) (m : Int) (tab m fun j => if j < i then (szf n m j : Int) else 0) (m : Int) (i : Int)) (sz n m, 0) := by
    intro d
    induction d with
    | zero =>
      intro i hi
      have e : (tab m fun j => if j < i then (szf n m j : Int) else 0) = sz n m := tab_congr _ _ _ (fun j hj => by rw [if_pos (by omega)])
      rw [e]
      exact Ev.step (f := fun _ => some (sz n m, 0)) (fun k => by rw [braid_Sizes.l0, if_neg (by omega)]) (Ev.now _)
    | succ d ih =>
      intro i hi
      refine Ev.step (fun k => by rw [braid_Sizes.l0, if_pos (by omega), if_neg (by omega), if_pos (by omega), if_pos (by rw [tab_len]; omega), Option.bind_some, t1, t2, Int.toNat_natCast, tab_set, w64 (x := (q : Int)) (by omega) (by omega), w64 (x := (i : Int) + 1) (by omega) (by omega)]) ?_
      have next := ih (i + 1) (by omega)
      by_cases h : i < r
      · refine ev_pos (by omega) ?_
        rw [tab_rd _ _ i (by omega), if_pos rfl, w64 (by omega) (by omega), tab_set]
        have e : (tab m fun j => if j = i then (q : Int) + 1 else if j = i then (q : Int) else if j < i then (szf n m j : Int) else 0) = tab m fun j => if j < i + 1 then (szf n m j : Int) else 0 :=
          tab_congr _ _ _ (fun j hj => by
            by_cases e1 : j = i
            · subst e1
              rw [if_pos rfl, if_pos (by omega)]
              rw [hz]; simp [h]
            · rw [if_neg e1, if_neg e1]
              by_cases e2 : j < i
              · rw [if_pos e2, if_pos (by omega)]
              · rw [if_neg e2, if_neg (by omega)])
        rw [e]
        exact next
      · refine ev_neg (by omega) ?_
        have e : (tab m fun j => if j = i then (q : Int) else if j < i then (szf n m j : Int) else 0) = tab m fun j => if j < i + 1 then (szf n m j : Int) else 0 :=
          tab_congr _ _ _ (fun j hj => by
            by_cases e1 : j = i
            · subst e1
              rw [if_pos rfl, if_pos (by omega)]
              rw [hz]; simp [h]
            · rw [if_neg e1]
              by_cases e2 : j < i
              · rw [if_pos e2, if_pos (by omega)]
              · rw [if_neg e2, if_neg (by omega)])
        rw [e]
        exact next
  have hr : (List.replicate ((m : Int) : Int).toNat (0 : Int)) = tab m fun j => if j < 0 then (szf n m j : Int) else 0 := by
    simp [tab, List.map_const']
  rw [hr, tab_len]
  exact key m 0 (by omega)
theorem tab_succ (m : Nat) (f : Nat → Int) : tab (m + 1) f = tab m f ++ [f m] := by simp [tab, List.range_succ]
def bnd (n : Nat) : List Int := tab n fun i => (n : Int) - i
theorem bounds_good (n : Nat) (hn : n ≤ 256) : Ev (fun k => braid_Bounds.f k (n : Int)) (bnd n) := by
  unfold braid_Bounds.f
  by_cases h : n < 1
  · refine ev_pos (by omega) ?_
    obtain rfl : n = 0 := by omega
    exact Ev.step (f := fun _ => some []) (fun k => by rw [braid_Bounds.j0, if_pos rfl]) (Ev.now _)
  refine ev_neg (by omega) (Ev.step (fun k => by rw [braid_Bounds.j0, if_neg (by simp; omega), if_pos (by omega), if_pos (by omega)]) ?_)
  have key : ∀ (d i : Nat), i + d = n → Ev (fun k => braid_Bounds.l0 k (tab i fun j => (n : Int) - j) ((n : Int) - i)) (bnd n) := by
    intro d
    induction d with
    | zero =>
      intro i hi
      obtain rfl : i = n := by omega
      exact Ev.step (f := fun _ => some (bnd i)) (fun k => by rw [braid_Bounds.l0, if_neg (by omega)]; rfl) (Ev.now _)
    | succ d ih =>
      intro i hi
      have := ih (i + 1) (by omega)
      rw [tab_succ] at this
      have e : wrap64 ((n : Int) - i - 1) = (n : Int) - ((i + 1 : Nat) : Int) := by rw [w64 (by omega) (by omega)]; omega
      exact Ev.step (fun k => by rw [braid_Bounds.l0, if_pos (by omega), if_pos (by rw [tab_len]; omega), e]) this
  have := key n 0 (by omega)
  simpa [tab] using this

theorem sz_get (n m j : Nat) (hj : j < m) : (sz n m)[j]'(by rw [sz_len]; exact hj) = (szf n m j : Int) := by simp [sz, tab]
theorem szf_le (n m j : Nat) (hn : n ≤ 256) (h1 : 1 ≤ m) : szf n m j ≤ 256 := by
  unfold szf
  have h3 := Nat.div_add_mod n m
  by_cases h : j < n % m
  · rw [if_pos h]
    have : m * (n / m) ≥ n / m := Nat.le_mul_of_pos_left _ h1
    omega
  · rw [if_neg h]
    have := Nat.div_le_self n m
    omega
theorem sz_psum (n m : Nat) (h1 : 1 ≤ m) : ∀ j, j ≤ m → psum (sz n m) j = ((j * (n / m) + min j (n % m) : Nat) : Int) := by
  intro j
  induction j with
  | zero => intro _; simp [psum_zero]
  | succ j ih =>
    intro hj
    rw [psum_succ _ _ (by rw [sz_len]; omega), ih (by omega), sz_get _ _ _ (by omega), Nat.succ_mul]
    unfold szf
    by_cases h : j < n % m
    · rw [if_pos h]; omega
    · rw [if_neg h]; omega
theorem sz_total (n m : Nat) (h1 : 1 ≤ m) : total (sz n m) = n := by
  have := sz_psum n m h1 m (Nat.le_refl _)
  rw [psum_all _ _ (by rw [sz_len]; exact Nat.le_refl _)] at this
  rw [this]
  have h3 := Nat.div_add_mod n m
  have h4 := Nat.mod_lt n h1
  omega
theorem sz_ok (n m : Nat) (hn : n ≤ 256) (h1 : 1 ≤ m) (h2 : m ≤ 64) : OkS (sz n m) := by
  refine ⟨by rw [sz_len]; exact h1, by rw [sz_len]; exact h2, fun x hx => ?_, by rw [sz_total n m h1]; omega⟩
  obtain ⟨j, hj, rfl⟩ := List.getElem_of_mem hx
  rw [sz_len] at hj
  rw [sz_get n m j hj]
  have := szf_le n m j hn h1
  omega
theorem szf_anti (n m i j : Nat) (h : i ≤ j) : szf n m j ≤ szf n m i ∧ szf n m i ≤ szf n m j + 1 := by
  unfold szf
  by_cases h1 : i < n % m
  · by_cases h2 : j < n % m
    · rw [if_pos h1, if_pos h2]; omega
    · rw [if_pos h1, if_neg h2]; omega
  · rw [if_neg h1, if_neg (by omega)]; omega

/-! Counting -/
def ints (C : List Nat) : List Int := C.map fun j : Nat => (j : Int)
theorem ints_len (C : List Nat) : (ints C).length = C.length := by simp [ints]
theorem ints_rd (C : List Nat) (i : Nat) (h : i < C.length) : rd (ints C) (i : Int) = (C[i] : Int) := by simp [rd, ints, h]
def cn (C : List Nat) (j i : Nat) : Nat := (C.take i).count j
theorem cn_zero (C : List Nat) (j : Nat) : cn C j 0 = 0 := by simp [cn]
theorem cn_succ (C : List Nat) (j i : Nat) (h : i < C.length) : cn C j (i + 1) = cn C j i + if j = C[i] then 1 else 0 := by
  unfold cn
  rw [List.take_succ_eq_append_getElem h, List.count_append]
  congr 1
  rw [List.count_singleton]
  by_cases e : C[i] = j
  · simp [e]
  · simp [e, show ¬ j = C[i] from fun h => e h.symm]
theorem cn_le (C : List Nat) (j i : Nat) : cn C j i ≤ C.count j := (List.take_sublist i C).count_le j
theorem cn_mono (C : List Nat) (j i t : Nat) (h : i ≤ t) : cn C j i ≤ cn C j t := by
  unfold cn
  have : C.take i = (C.take t).take i := by rw [List.take_take, Nat.min_eq_left h]
  rw [this]
  exact (List.take_sublist i (C.take t)).count_le j
theorem cn_at (C : List Nat) (i : Nat) (h : i < C.length) : cn C C[i] (i + 1) = cn C C[i] i + 1 := by rw [cn_succ C _ i h, if_pos rfl]
theorem cn_lt (C : List Nat) (i : Nat) (h : i < C.length) : cn C C[i] i < C.count C[i] := by
  have := cn_at C i h
  have := cn_le C C[i] (i + 1)
  omega
theorem cn_all (C : List Nat) (j i : Nat) (h : C.length ≤ i) : cn C j i = C.count j := by unfold cn; rw [List.take_of_length_le h]
theorem cn_len (C : List Nat) (j i : Nat) : cn C j i ≤ i := Nat.le_trans List.count_le_length (by simp; omega)

/-! Weaving rows of numbers that stand one behind the other -/
def seg (a : Int) (t : Nat) : List Int := tab t fun i => a + i
theorem seg_len (a : Int) (t : Nat) : (seg a t).length = t := tab_len _ _
def segs (S : Nat → Nat) (p : Nat → Int) (m : Nat) : List (List Int) := (List.range m).map fun j => seg (p j) (S j)
theorem segs_len (S : Nat → Nat) (p : Nat → Int) (m : Nat) : (segs S p m).length = m := by simp [segs]
theorem segs_rd (S : Nat → Nat) (p : Nat → Int) (m j : Nat) (hj : j < m) : rd_L3 (segs S p m) (j : Int) = seg (p j) (S j) := by simp [rd_L3, segs, hj]
theorem segs_succ (S : Nat → Nat) (p : Nat → Int) (m : Nat) : segs S p (m + 1) = segs S p m ++ [seg (p m) (S m)] := by simp [segs, List.range_succ]
def outp (C : List Nat) (p : Nat → Int) (i : Nat) : Int := p (C.getD i 0) + cn C (C.getD i 0) i
theorem weave_ev (C : List Nat) (S : Nat → Nat) (p : Nat → Int) (m : Nat) (hm : m ≤ 64) (hC : C.length ≤ 256) (hj : ∀ j ∈ C, j < m) (hc : ∀ j, j < m → C.count j = S j) (hS : ∀ j, j < m → S j ≤ 256) :
    Ev (fun k => braid_Weave_int.f k (ints C) (segs S p m)) (tab C.length (outp C p), 0) := by
  have hl2 : Ev (fun k => braid_Weave_int.l2 k (segs S p m) (tab m fun j => (cn C j 0 : Int)) (tab 0 (outp C p)) (ints C) (C.length : Int) ((0 : Nat) : Int)) (tab C.length (outp C p), 0) := by
    have key : ∀ (d i : Nat), i + d = C.length → Ev (fun k => braid_Weave_int.l2 k (segs S p m) (tab m fun j => (cn C j i : Int)) (tab i (outp C p)) (ints C) (C.length : Int) (i : Int)) (tab C.length (outp C p), 0) := by
      intro d
      induction d with
      | zero =>
        intro i hi
        obtain rfl : i = C.length := by omega
        exact Ev.step (f := fun _ => some (tab C.length (outp C p), 0)) (fun k => by rw [braid_Weave_int.l2, if_neg (by omega)]) (Ev.now _)
      | succ d ih =>
        intro i hi
        have hi' : i < C.length := by omega
        have hjm : C[i] < m := hj _ (List.getElem_mem hi')
        have hlt := cn_lt C i hi'
        rw [hc _ hjm] at hlt
        have hs := hS _ hjm
        have r2 : rd (tab m fun j => (cn C j i : Int)) (C[i] : Int) = (cn C C[i] i : Int) := tab_rd _ _ _ hjm
        have r3 : rd (seg (p C[i]) (S C[i])) (cn C C[i] i : Int) = outp C p i := by
          rw [seg, tab_rd _ _ _ hlt]
          simp [outp, List.getD_eq_getElem?_getD, hi']
        have e : (tab m fun j => (cn C j i : Int)).set C[i] ((cn C C[i] i : Int) + 1) = tab m fun j => (cn C j (i + 1) : Int) := by
          rw [tab_set]
          refine tab_congr _ _ _ (fun j hj => ?_)
          rw [cn_succ C j i hi']
          by_cases h : j = C[i]
          · rw [if_pos h, if_pos h, h]; omega
          · rw [if_neg h, if_neg h]; omega
        have next := ih (i + 1) (by omega)
        rw [tab_succ, ← e] at next
        refine Ev.step (fun k => ?_) next
        rw [braid_Weave_int.l2, if_pos (by omega), if_pos (by omega), if_pos (by rw [ints_len]; omega), ints_rd C i hi', if_pos (by omega), if_pos (by rw [segs_len]; omega), if_pos (by rw [tab_len]; omega), r2, if_pos (by omega), segs_rd S p m C[i] hjm, if_pos (by rw [seg_len]; omega), if_pos (by rw [tab_len]; omega), r3,
          Int.toNat_natCast, w64 (x := (cn C C[i] i : Int) + 1) (by omega) (by omega), w64 (x := (i : Int) + 1) (by omega) (by omega)]
        rfl
    exact key C.length 0 (by omega)
  have hl1 : Ev (fun k => braid_Weave_int.l1 k (ints C) (segs S p m) (tab m fun j => if j < 0 then 0 else (S j : Int)) (segs S p m) (m : Int) ((0 : Nat) : Int)) (tab C.length (outp C p), 0) := by
    have key : ∀ (d i : Nat), i + d = m → Ev (fun k => braid_Weave_int.l1 k (ints C) (segs S p m) (tab m fun j => if j < i then 0 else (S j : Int)) (segs S p m) (m : Int) (i : Int)) (tab C.length (outp C p), 0) := by
      intro d
      induction d with
      | zero =>
        intro i hi
        have e : (tab m fun j => if j < i then 0 else (S j : Int)) = tab m fun j => (cn C j 0 : Int) := tab_congr _ _ _ (fun j hj => by rw [if_pos (by omega), cn_zero]; rfl)
        rw [e]
        refine Ev.step (fun k => ?_) hl2
        rw [braid_Weave_int.l1, if_neg (by omega), ints_len, if_pos (by omega), if_pos (by omega)]
        rfl
      | succ d ih =>
        intro i hi
        have next := ih (i + 1) (by omega)
        have e : (tab m fun j => if j < i then 0 else (S j : Int)).set i 0 = tab m fun j => if j < i + 1 then 0 else (S j : Int) := by
          rw [tab_set]
          refine tab_congr _ _ _ (fun j hj => ?_)
          by_cases h : j = i
          · rw [if_pos h, if_pos (by omega)]
          · rw [if_neg h]
            by_cases h2 : j < i
            · rw [if_pos h2, if_pos (by omega)]
            · rw [if_neg h2, if_neg (by omega)]
        rw [← e] at next
        refine Ev.step (fun k => ?_) next
        rw [braid_Weave_int.l1, if_pos (by omega), if_pos (by omega), if_pos (by rw [segs_len]; omega), if_pos (by rw [tab_len]; omega), tab_rd _ _ i (by omega), segs_rd S p m i (by omega), if_neg (Nat.lt_irrefl _), if_pos (by rw [seg_len]), Int.toNat_natCast, w64 (by omega) (by omega)]
        rfl
    exact key m 0 (by omega)
  have key : ∀ (d i : Nat), i + d = C.length → Ev (fun k => braid_Weave_int.l0 k (ints C) (segs S p m) (tab m fun j => (cn C j i : Int)) (ints C) (C.length : Int) (i : Int)) (tab C.length (outp C p), 0) := by
    intro d
    induction d with
    | zero =>
      intro i hi
      have e : (tab m fun j => (cn C j i : Int)) = tab m fun j => if j < 0 then 0 else (S j : Int) := tab_congr _ _ _ (fun j hj => by rw [if_neg (by omega), cn_all C j i (by omega), hc j hj])
      rw [e]
      refine Ev.step (fun k => ?_) hl1
      rw [braid_Weave_int.l0, if_neg (by omega), segs_len]
      rfl
    | succ d ih =>
      intro i hi
      have hi' : i < C.length := by omega
      have hjm : C[i] < m := hj _ (List.getElem_mem hi')
      have hlt := cn_len C C[i] i
      have r2 : rd (tab m fun j => (cn C j i : Int)) (C[i] : Int) = (cn C C[i] i : Int) := tab_rd _ _ _ hjm
      have e : (tab m fun j => (cn C j i : Int)).set C[i] ((cn C C[i] i : Int) + 1) = tab m fun j => (cn C j (i + 1) : Int) := by
        rw [tab_set]
        refine tab_congr _ _ _ (fun j hj => ?_)
        rw [cn_succ C j i hi']
        by_cases h : j = C[i]
        · rw [if_pos h, if_pos h, h]; omega
        · rw [if_neg h, if_neg h]; omega
      have next := ih (i + 1) (by omega)
      rw [← e] at next
      refine Ev.step (fun k => ?_) next
      rw [braid_Weave_int.l0, if_pos (by omega), if_pos (by omega), if_pos (by rw [ints_len]; omega), ints_rd C i hi', if_neg (by omega), if_neg (by rw [segs_len]; omega), if_pos (by omega), if_pos (by rw [tab_len]; omega), r2, Int.toNat_natCast, w64 (x := (cn C C[i] i : Int) + 1) (by omega) (by omega), w64 (x := (i : Int) + 1) (by omega) (by omega)]
      rfl
  unfold braid_Weave_int.f
  refine ev_pos (by omega) (ev_pos (by rw [segs_len]; omega) ?_)
  have hr : (List.replicate (((segs S p m).length : Int) : Int).toNat (0 : Int)) = tab m fun j => (cn C j 0 : Int) := by
    rw [segs_len]
    simp [tab, cn_zero, List.map_const']
  rw [hr, ints_len]
  exact key C.length 0 (by omega)
end Go.Proofs.Ytiefmocfgneldaa.Pl
