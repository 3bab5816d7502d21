/- Patterns and draws over lists, without any program: one relation between draws and (chunk, offset) pairs, read either way. -/
import Derived.Test.YtiefmocfgneldaaPlain
set_option linter.unusedVariables false
set_option linter.unusedSimpArgs false
namespace Go.Proofs.Ytiefmocfgneldaa.Pl
open Go.RowKit Go.Proofs.YtiefmocfgneldaaW.PrintWords Go.Proofs.YtiefmocfgneldaaW.PrintLast

/-- The sum of a list, and of its first j. -/
def total : List Int → Int
  | [] => 0
  | x :: l => x + total l
def psum (l : List Int) (j : Nat) : Int := total (l.take j)
theorem total_append (a b : List Int) : total (a ++ b) = total a + total b := by
  induction a with
  | nil => simp [total]
  | cons x a ih => simp [total, ih]; omega
theorem psum_succ (l : List Int) (j : Nat) (h : j < l.length) : psum l (j + 1) = psum l j + l[j] := by
  unfold psum
  rw [List.take_succ_eq_append_getElem h, total_append]
  simp [total]
theorem psum_zero (l : List Int) : psum l 0 = 0 := rfl
theorem psum_all (l : List Int) (j : Nat) (h : l.length ≤ j) : psum l j = total l := by
  unfold psum
  rw [List.take_of_length_le h]
def Nonneg (l : List Int) : Prop := ∀ x ∈ l, 0 ≤ x
theorem Nonneg.at_ {l : List Int} (h : Nonneg l) (j : Nat) (hj : j < l.length) : 0 ≤ l[j] := h _ (List.getElem_mem hj)
theorem psum_mono {l : List Int} (h : Nonneg l) (i : Nat) : ∀ d, psum l i ≤ psum l (i + d) := by
  intro d
  induction d with
  | zero => exact Int.le_refl _
  | succ d ih =>
    by_cases hl : i + d < l.length
    · have := psum_succ l (i + d) hl
      have := h.at_ (i + d) hl
      rw [show i + (d + 1) = i + d + 1 from rfl]
      omega
    · rw [psum_all l (i + d) (by omega)] at ih
      rw [psum_all l (i + (d + 1)) (by omega)]
      exact ih
theorem psum_le {l : List Int} (h : Nonneg l) (i j : Nat) (hij : i ≤ j) : psum l i ≤ psum l j := by
  have := psum_mono h i (j - i)
  rwa [show i + (j - i) = j from by omega] at this
theorem psum_nonneg {l : List Int} (h : Nonneg l) (j : Nat) : 0 ≤ psum l j := by
  have := psum_le h 0 j (Nat.zero_le _)
  rwa [psum_zero] at this
theorem psum_total {l : List Int} (h : Nonneg l) (j : Nat) : psum l j ≤ total l := by
  rcases Nat.lt_or_ge j l.length with hl | hl
  · have := psum_le h j l.length (by omega)
    rwa [psum_all l l.length (Nat.le_refl _)] at this
  · rw [psum_all l j hl]; exact Int.le_refl _
theorem total_nonneg {l : List Int} (h : Nonneg l) : 0 ≤ total l := by
  have := psum_nonneg h l.length
  rwa [psum_all l l.length (Nat.le_refl _)] at this
/-- One place for each draw. -/
theorem place_unique {l : List Int} (h : Nonneg l) {i j : Nat} {o p : Int} (hi : i < l.length) (hj : j < l.length) (ho : 0 ≤ o) (ho' : o < l[i]) (hp : 0 ≤ p) (hp' : p < l[j]) (e : psum l i + o = psum l j + p) : i = j ∧ o = p := by
  rcases Nat.lt_trichotomy i j with hlt | rfl | hgt
  · have := psum_le h (i + 1) j hlt
    rw [psum_succ l i hi] at this
    omega
  · exact ⟨rfl, by omega⟩
  · have := psum_le h (j + 1) i hgt
    rw [psum_succ l j hj] at this
    omega
/-- And there is one. -/
theorem place_exists {l : List Int} (h : Nonneg l) (d : Int) (h0 : 0 ≤ d) (ht : d < total l) : ∃ (j : Nat) (hj : j < l.length) (o : Int), 0 ≤ o ∧ o < l[j] ∧ d = psum l j + o := by
  have key : ∀ n : Nat, n ≤ l.length → (∃ (j : Nat) (hj : j < l.length) (o : Int), 0 ≤ o ∧ o < l[j] ∧ d = psum l j + o) ∨ psum l n ≤ d := by
    intro n
    induction n with
    | zero => intro _; right; rw [psum_zero]; exact h0
    | succ n ih =>
      intro hn
      rcases ih (by omega) with h1 | h1
      · exact .inl h1
      · by_cases h2 : d < psum l (n + 1)
        · left
          rw [psum_succ l n (by omega)] at h2
          exact ⟨n, by omega, d - psum l n, by omega, by omega, by omega⟩
        · right; omega
  rcases key l.length (Nat.le_refl _) with h1 | h1
  · exact h1
  · rw [psum_all l l.length (Nat.le_refl _)] at h1; omega

/-- One thing of chunk j less. -/
def dec (l : List Int) (j : Nat) : List Int := l.set j (l.getD j 0 - 1)
theorem dec_length (l : List Int) (j : Nat) : (dec l j).length = l.length := by simp [dec]
theorem dec_get (l : List Int) (j i : Nat) (hi : i < l.length) : (dec l j)[i]'(by rw [dec_length]; exact hi) = if j = i then l[i] - 1 else l[i] := by
  unfold dec
  rw [List.getElem_set]
  by_cases e : j = i
  · subst e; simp [hi]
  · simp [e]
theorem dec_getD (l : List Int) (j i : Nat) (hi : i < l.length) : (dec l j).getD i 0 = if j = i then l.getD i 0 - 1 else l.getD i 0 := by
  rw [List.getD_eq_getElem?_getD, List.getElem?_eq_getElem (by rw [dec_length]; exact hi), Option.getD_some, dec_get l j i hi]
  simp [List.getD_eq_getElem?_getD, hi]
theorem total_set (l : List Int) (j : Nat) (v : Int) (hj : j < l.length) : total (l.set j v) = total l - l[j] + v := by
  induction l generalizing j with
  | nil => simp at hj
  | cons x l ih =>
    cases j with
    | zero => simp [total]; omega
    | succ j =>
      simp at hj
      simp [total, ih j hj]
      omega
theorem dec_total (l : List Int) (j : Nat) (hj : j < l.length) : total (dec l j) = total l - 1 := by
  unfold dec
  rw [total_set l j _ hj]
  simp [List.getD_eq_getElem?_getD, hj]
  omega
theorem dec_nonneg {l : List Int} (h : Nonneg l) (j : Nat) (hj : j < l.length) (hp : 0 < l[j]) : Nonneg (dec l j) := by
  intro x hx
  obtain ⟨i, hi, rfl⟩ := List.getElem_of_mem hx
  rw [dec_length] at hi
  rw [dec_get l j i hi]
  split
  · rename_i e; subst e; omega
  · exact h.at_ i hi

/-- Draws, and the pairs that they tell. -/
inductive Pat : List Int → List Int → List (Nat × Int) → Prop
  | nil (l : List Int) : Pat l [] []
  | cons {l ds : List Int} {P : List (Nat × Int)} {d o : Int} {j : Nat} (hj : j < l.length) (h0 : 0 ≤ o) (h1 : o < l[j]) (hd : d = psum l j + o) (t : Pat (dec l j) ds P) : Pat l (d :: ds) ((j, o) :: P)

/-- The offsets of one chunk's visits. -/
def vis (j : Nat) (P : List (Nat × Int)) : List Int := (P.filter fun x => x.1 == j).map (·.2)
theorem vis_nil (j : Nat) : vis j [] = [] := rfl
theorem vis_cons (i j : Nat) (o : Int) (P : List (Nat × Int)) : vis i ((j, o) :: P) = if j = i then o :: vis i P else vis i P := by
  unfold vis
  by_cases e : j = i
  · simp [e]
  · simp [e]

theorem Pat.len {l ds : List Int} {P : List (Nat × Int)} (h : Pat l ds P) : P.length = ds.length := by
  induction h with
  | nil => rfl
  | cons => simp_all
theorem Pat.range {l ds : List Int} {P : List (Nat × Int)} (h : Pat l ds P) : ∀ x ∈ P, x.1 < l.length := by
  induction h with
  | nil => simp
  | cons hj h0 h1 hd t ih =>
    intro x hx
    rcases List.mem_cons.1 hx with rfl | hx
    · exact hj
    · have := ih x hx
      rwa [dec_length] at this
theorem Pat.unique {l ds : List Int} {P Q : List (Nat × Int)} (hn : Nonneg l) (h : Pat l ds P) (h' : Pat l ds Q) : P = Q := by
  induction h generalizing Q with
  | nil => cases h'; rfl
  | cons hj h0 h1 hd t ih =>
    cases h' with
    | cons hj' h0' h1' hd' t' =>
      obtain ⟨rfl, rfl⟩ := place_unique hn hj hj' h0 h1 h0' h1' (by omega)
      rw [ih (dec_nonneg hn _ hj (by omega)) t']
theorem Pat.draws {l ds es : List Int} {P : List (Nat × Int)} (h : Pat l ds P) (h' : Pat l es P) : ds = es := by
  induction h generalizing es with
  | nil => cases h'; rfl
  | cons hj h0 h1 hd t ih =>
    cases h' with
    | cons hj' h0' h1' hd' t' => rw [ih t', hd, hd']
/-- Each draw is below what is left. -/
theorem Pat.bound {l ds : List Int} {P : List (Nat × Int)} (hn : Nonneg l) (h : Pat l ds P) : ∀ (i : Nat) (hi : i < ds.length), 0 ≤ ds[i] ∧ ds[i] < total l - i := by
  induction h with
  | nil => intro i hi; simp at hi
  | @cons l ds P d o j hj h0 h1 hd t ih =>
    intro i hi
    have hnn := dec_nonneg hn j hj (by omega)
    cases i with
    | zero =>
      have a := psum_nonneg hn j
      have b := psum_total hn (j + 1)
      rw [psum_succ l j hj] at b
      simp only [List.getElem_cons_zero]
      omega
    | succ i =>
      have := ih hnn i (by simpa using hi)
      rw [dec_total l j hj] at this
      simp only [List.getElem_cons_succ]
      omega
/-- All things are told: each chunk is visited as often as it has things. -/
theorem Pat.count {l ds : List Int} {P : List (Nat × Int)} (hn : Nonneg l) (h : Pat l ds P) (ht : total l = ds.length) : ∀ j : Nat, j < l.length → ((vis j P).length : Int) = l.getD j 0 := by
  induction h with
  | nil l =>
    intro j hj
    have a := psum_le hn (j + 1) l.length (by omega)
    rw [psum_succ l j hj, psum_all l l.length (Nat.le_refl _)] at a
    have b := psum_nonneg hn j
    have c := hn.at_ j hj
    simp at ht
    simp [vis_nil, List.getD_eq_getElem?_getD, hj]
    omega
  | @cons l ds P d o i hi h0 h1 hd t ih =>
    intro j hj
    have hnn := dec_nonneg hn i hi (by omega)
    have := ih hnn (by rw [dec_total l i hi, ht]; simp) j (by rw [dec_length]; exact hj)
    rw [dec_getD l i j hj] at this
    rw [vis_cons]
    by_cases e : i = j
    · simp [e] at this ⊢
      omega
    · simp [e] at this ⊢
      exact this
theorem Pat.count_le {l ds : List Int} {P : List (Nat × Int)} (hn : Nonneg l) (h : Pat l ds P) : ∀ j : Nat, j < l.length → ((vis j P).length : Int) ≤ l.getD j 0 := by
  induction h with
  | nil l =>
    intro j hj
    have c := hn.at_ j hj
    simp [vis_nil, List.getD_eq_getElem?_getD, hj]
    exact c
  | @cons l ds P d o i hi h0 h1 hd t ih =>
    intro j hj
    have hnn := dec_nonneg hn i hi (by omega)
    have := ih hnn j (by rw [dec_length]; exact hj)
    rw [dec_getD l i j hj] at this
    rw [vis_cons]
    by_cases e : i = j
    · simp [e] at this ⊢
      omega
    · simp [e] at this ⊢
      exact this
/-- A chunk's k-th offset lies below what the chunk then has. -/
theorem Pat.offs {l ds : List Int} {P : List (Nat × Int)} (hn : Nonneg l) (h : Pat l ds P) : ∀ (j k : Nat), j < l.length → (hk : k < (vis j P).length) → 0 ≤ (vis j P)[k] ∧ (vis j P)[k] < l.getD j 0 - k := by
  induction h with
  | nil => intro j k hj hk; simp [vis_nil] at hk
  | @cons l ds P d o i hi h0 h1 hd t ih =>
    intro j k hj hk
    have hnn := dec_nonneg hn i hi (by omega)
    have hh := fun k' => ih hnn j k' (by rw [dec_length]; exact hj)
    rw [dec_getD l i j hj] at hh
    by_cases e : i = j
    · subst e
      simp only [vis_cons, if_true] at hk ⊢
      simp only [if_true] at hh
      cases k with
      | zero =>
        simp [List.getD_eq_getElem?_getD, hi]
        omega
      | succ k =>
        have := hh k (by simpa using hk)
        simp only [List.getElem_cons_succ]
        omega
    · simp only [vis_cons, if_neg e] at hk ⊢
      simp only [if_neg e] at hh
      exact hh k hk

/-- Offsets by visits are read by one pointer a chunk. -/
def Rdo (nx : Nat → Nat) (off : List Int) (P : List (Nat × Int)) : Prop := ∀ (j k : Nat), (hk : k < (vis j P).length) → (vis j P)[k] = off.getD (nx j + k) 0
theorem Rdo.cons {nx : Nat → Nat} {off : List Int} {P : List (Nat × Int)} {j : Nat} {o : Int} (ho : o = off.getD (nx j) 0) (h : Rdo (fun i => if i = j then nx j + 1 else nx i) off P) : Rdo nx off ((j, o) :: P) := by
  intro i k hk
  by_cases e : j = i
  · subst e
    simp only [vis_cons, if_true] at hk ⊢
    cases k with
    | zero => simpa using ho
    | succ k =>
      have := h j k (by simpa using hk)
      simp only [if_true] at this
      simp only [List.getElem_cons_succ, this]
      congr 1
      omega
  · simp only [vis_cons, if_neg e] at hk ⊢
    have := h i k hk
    simp only [if_neg (Ne.symm e)] at this
    exact this
theorem Rdo.uncons {nx : Nat → Nat} {off : List Int} {P : List (Nat × Int)} {j : Nat} {o : Int} (h : Rdo nx off ((j, o) :: P)) : o = off.getD (nx j) 0 ∧ Rdo (fun i => if i = j then nx j + 1 else nx i) off P := by
  constructor
  · have := h j 0 (by simp [vis_cons])
    simpa [vis_cons] using this
  · intro i k hk
    by_cases e : i = j
    · subst e
      have := h i (k + 1) (by simp only [vis_cons, if_true, List.length_cons]; omega)
      simp only [vis_cons, if_true, List.getElem_cons_succ] at this
      simp only [if_true, this]
      congr 1
      omega
    · have := h i k (by simpa [vis_cons, Ne.symm e] using hk)
      simp only [vis_cons, if_neg (Ne.symm e)] at this
      simp only [if_neg e]
      exact this

/-- All offsets, one chunk behind the other. -/
def allOff (m : Nat) (P : List (Nat × Int)) : List Int := (List.range m).flatMap fun j => vis j P
theorem allOff_succ (m : Nat) (P : List (Nat × Int)) : allOff (m + 1) P = allOff m P ++ vis m P := by
  unfold allOff
  rw [List.range_succ, List.flatMap_append]
  simp
theorem allOff_len (m : Nat) (P : List (Nat × Int)) (s : List Int) (hm : m ≤ s.length) (hc : ∀ j, j < s.length → ((vis j P).length : Int) = s.getD j 0) : ((allOff m P).length : Int) = psum s m := by
  induction m with
  | zero => simp [allOff, psum_zero]
  | succ m ih =>
    have h1 := ih (by omega)
    have h2 := hc m (by omega)
    have h3 := psum_succ s m (by omega)
    have h4 : s.getD m 0 = s[m] := by simp [List.getD_eq_getElem?_getD, show m < s.length by omega]
    rw [allOff_succ, List.length_append]
    omega
/-- Where a chunk's offsets begin. -/
def start (s : List Int) (j : Nat) : Nat := (psum s j).toNat
theorem allOff_at (m : Nat) (P : List (Nat × Int)) (s : List Int) (hn : Nonneg s) (hm : m ≤ s.length) (hc : ∀ j, j < s.length → ((vis j P).length : Int) = s.getD j 0) (j k : Nat) (hj : j < m) (hk : k < (vis j P).length) :
    (allOff m P).getD (start s j + k) 0 = (vis j P)[k] := by
  induction m with
  | zero => omega
  | succ m ih =>
    have hl := allOff_len m P s (by omega) hc
    rw [allOff_succ, List.getD_eq_getElem?_getD]
    have h0 := psum_nonneg hn j
    by_cases e : j = m
    · subst e
      have hs : start s j = (allOff j P).length := by unfold start; omega
      rw [hs, List.getElem?_append_right (by omega)]
      simp [hk]
    · have hjm : j < m := by omega
      have h1 := psum_le hn (j + 1) m (by omega)
      rw [psum_succ s j (by omega)] at h1
      have h2 := hc j (by omega)
      have h3 : s.getD j 0 = s[j] := by simp [List.getD_eq_getElem?_getD, show j < s.length by omega]
      rw [List.getElem?_append_left (by unfold start; omega), ← List.getD_eq_getElem?_getD]
      exact ih (by omega) hjm
theorem vis_none {l ds : List Int} {P : List (Nat × Int)} (h : ∀ x ∈ P, x.1 < l.length) (j : Nat) (hj : l.length ≤ j) : vis j P = [] := by
  unfold vis
  simp only [List.map_eq_nil_iff, List.filter_eq_nil_iff]
  intro x hx
  have := h x hx
  simp
  omega
/-- What a pattern puts together is read again. -/
theorem rdo_all {s ds : List Int} {P : List (Nat × Int)} (hn : Nonneg s) (h : Pat s ds P) (ht : total s = ds.length) : Rdo (start s) (allOff s.length P) P := by
  intro j k hk
  have hj : j < s.length := by
    rcases Nat.lt_or_ge j s.length with h1 | h1
    · exact h1
    · rw [vis_none (l := s) (ds := ds) h.range j h1] at hk
      simp at hk
  exact (allOff_at s.length P s hn (Nat.le_refl _) (h.count hn ht) j k hj hk).symm
/-- What is read is put together again. -/
theorem all_rdo {s ds off : List Int} {P : List (Nat × Int)} (hn : Nonneg s) (h : Pat s ds P) (ht : total s = ds.length) (ho : off.length = ds.length) (hr : Rdo (start s) off P) : allOff s.length P = off := by
  have hc := h.count hn ht
  have hl := allOff_len s.length P s (Nat.le_refl _) hc
  rw [psum_all s s.length (Nat.le_refl _)] at hl
  apply List.ext_getElem (by omega)
  intro i h1 h2
  obtain ⟨j, hj, o, o0, o1, e⟩ := place_exists hn (i : Int) (by omega) (by omega)
  have h0 := psum_nonneg hn j
  have hcj := hc j hj
  have h3 : s.getD j 0 = s[j] := by simp [List.getD_eq_getElem?_getD, hj]
  have hk : o.toNat < (vis j P).length := by omega
  have hi : i = start s j + o.toNat := by unfold start; omega
  have a := allOff_at s.length P s hn (Nat.le_refl _) hc j o.toNat hj hk
  have b := hr j o.toNat hk
  rw [← hi] at a b
  rw [b] at a
  simpa [List.getD_eq_getElem?_getD, h1, h2] using a
/-- A pattern that is as long as it should be, and offsets that are below what the chunks then have, are told by draws. -/
theorem draws_exist (off : List Int) : ∀ (c : List Nat) (l : List Int) (nx : Nat → Nat), Nonneg l → (∀ j ∈ c, j < l.length) → (∀ j, j < l.length → ((c.filter (· == j)).length : Int) ≤ l.getD j 0) →
    (∀ j k : Nat, j < l.length → (k : Int) < l.getD j 0 → 0 ≤ off.getD (nx j + k) 0 ∧ off.getD (nx j + k) 0 < l.getD j 0 - k) →
    ∃ ds P, Pat l ds P ∧ P.map (·.1) = c ∧ Rdo nx off P := by
  intro c
  induction c with
  | nil => intro l nx hn hr hc ho; exact ⟨[], [], .nil l, rfl, fun j k hk => by simp [vis_nil] at hk⟩
  | cons j c ih =>
    intro l nx hn hr hc ho
    have hj : j < l.length := hr j (by simp)
    have hg : l.getD j 0 = l[j] := by simp [List.getD_eq_getElem?_getD, hj]
    have hp : 0 < l[j] := by
      have := hc j hj
      rw [hg] at this
      simp at this
      omega
    have h0 := ho j 0 hj (by omega)
    simp only [Nat.add_zero] at h0
    obtain ⟨ds, P, h1, h2, h3⟩ := ih (dec l j) (fun i => if i = j then nx j + 1 else nx i) (dec_nonneg hn j hj hp) (fun i hi => by rw [dec_length]; exact hr i (by simp [hi])) (fun i hi => by
      rw [dec_length] at hi
      have := hc i hi
      rw [dec_getD l j i hi]
      by_cases e : j = i
      · simp [e] at this ⊢
        omega
      · simp [e] at this ⊢
        exact this) (fun i k hi hk => by
      rw [dec_length] at hi
      rw [dec_getD l j i hi] at hk ⊢
      by_cases e : j = i
      · subst e
        simp only [if_true] at hk ⊢
        have := ho j (k + 1) hj (by omega)
        rw [show nx j + (k + 1) = nx j + 1 + k from by omega] at this
        omega
      · simp only [if_neg e, if_neg (Ne.symm e)] at hk ⊢
        exact ho i k hi hk)
    refine ⟨(psum l j + off.getD (nx j) 0) :: ds, (j, off.getD (nx j) 0) :: P, .cons hj h0.1 (by omega) rfl h1, by simp [h2], Rdo.cons rfl h3⟩
theorem pat_exists : ∀ (ds l : List Int), Nonneg l → (∀ (i : Nat) (hi : i < ds.length), 0 ≤ ds[i] ∧ ds[i] < total l - i) → ∃ P, Pat l ds P := by
  intro ds
  induction ds with
  | nil => intro l _ _; exact ⟨[], .nil l⟩
  | cons d ds ih =>
    intro l hn h
    have h0 := h 0 (by simp)
    simp only [List.getElem_cons_zero] at h0
    obtain ⟨j, hj, o, o0, o1, e⟩ := place_exists hn d h0.1 (by omega)
    obtain ⟨P, hP⟩ := ih (dec l j) (dec_nonneg hn j hj (by omega)) (fun i hi => by
      have := h (i + 1) (by simpa using hi)
      simp only [List.getElem_cons_succ] at this
      rw [dec_total l j hj]
      omega)
    exact ⟨_, .cons hj o0 o1 e hP⟩
end Go.Proofs.Ytiefmocfgneldaa.Pl
