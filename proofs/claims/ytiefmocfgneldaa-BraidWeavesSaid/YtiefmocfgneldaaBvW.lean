/- BraidWeaves: what is woven out of, as it is read; plain lemmas. -/
import Derived.Test.YtiefmocfgneldaaBvP
import Derived.Test.YtiefmocfgneldaaRcR
set_option linter.unusedVariables false
set_option linter.unusedSimpArgs false
namespace Go.Proofs.Ytiefmocfgneldaa.Pl
open Go.RowKit Go.Proofs.Ytiefmocfgneldaa.Q Go.Proofs.YtiefmocfgneldaaW.PrintWords Go.Proofs.YtiefmocfgneldaaW.PrintLast
theorem cntN_le : ∀ (js next : List Int) (k : Nat), Rng next.length js → rd (cntN next js) (k : Int) ≤ rd next (k : Int) + js.length
  | [], _, _, _ => by simp [cntN]
  | j :: js, next, k, h => by
    obtain ⟨h0, h1⟩ := h j (List.mem_cons_self ..)
    have ih := cntN_le js (next.set j.toNat (rd next j + 1)) k (by rw [List.length_set]; exact fun x hx => h x (List.mem_cons_of_mem _ hx))
    rw [cntN]
    refine Int.le_trans ih ?_
    obtain ⟨m, rfl⟩ := Int.eq_ofNat_of_zero_le h0
    rw [Int.toNat_natCast, bv_rd_set next m k _ (by omega)]
    simp only [List.length_cons]
    split
    · rename_i e; subst e; omega
    · omega
theorem rd_zeros (n k : Nat) : rd (List.replicate n 0) (k : Int) = 0 := by
  simp [rd, List.getD_eq_getElem?_getD, List.getElem?_replicate]
  split <;> rfl
theorem rng_take {n : Nat} {js : List Int} {i : Nat} (h : Rng n js) : Rng n (js.take i) := fun x hx => h x (List.mem_of_mem_take hx)
theorem rng_snoc {n : Nat} {js : List Int} {i : Nat} (hi : i < js.length) (h : Rng n (js.take i)) (h0 : 0 ≤ rd js (i : Int)) (h1 : rd js (i : Int) < (n : Int)) : Rng n (js.take (i + 1)) := by
  rw [take_rd js i hi]
  intro x hx
  rcases List.mem_append.1 hx with hx | hx
  · exact h x hx
  · rw [List.mem_singleton.1 hx]
    exact ⟨h0, h1⟩
theorem bw_rd_mem {l : List Int} {i : Nat} (h : i < l.length) : rd l (i : Int) ∈ l := by
  unfold rd
  rw [Int.toNat_natCast, List.getD_eq_getElem?_getD, List.getElem?_eq_getElem h]
  exact List.getElem_mem h
theorem wvA_rng {chunk lens : List Int} {i : Nat} (hi : i < chunk.length) (h : ¬ (0 ≤ rd chunk (i : Int) ∧ rd chunk (i : Int) < (lens.length : Int))) : wvA chunk lens = ([], 2) := by
  unfold wvA
  exact if_neg (fun hh => h (hh.1 _ (bw_rd_mem hi)))
theorem wvA_eq {chunk lens : List Int} (h : Rng lens.length chunk) (he : cntN (List.replicate lens.length 0) chunk = lens) : wvA chunk lens = (prs (List.replicate lens.length 0) chunk, 0) := by
  unfold wvA
  exact if_pos ⟨h, he⟩
/-- At each step the next one of that chunk is there. -/
theorem step_in {chunk lens : List Int} {i : Nat} (h : Rng lens.length chunk) (he : cntN (List.replicate lens.length 0) chunk = lens) (hi : i < chunk.length) :
    ∃ m k : Nat, rd chunk (i : Int) = m ∧ m < lens.length ∧ rd (cntN (List.replicate lens.length 0) (chunk.take i)) (m : Int) = k ∧ (k : Int) < rd lens (m : Int) := by
  have h1 := okAll_of chunk (List.replicate lens.length 0) (by simp) h he
  have h2 : okAll lens (List.replicate lens.length 0) (chunk.take (i + 1)) := okAll_app _ (chunk.drop (i + 1)) _ (by rw [List.take_append_drop]; exact h1)
  rw [take_rd chunk i hi] at h2
  obtain ⟨-, h3, h4, h5⟩ := (okAll_snoc _ _ _).1 h2
  obtain ⟨m, hm⟩ := Int.eq_ofNat_of_zero_le h3
  rw [hm] at h4 h5
  have h6 := cntN_ge (chunk.take i) (List.replicate lens.length 0) m (by rw [List.length_replicate]; exact rng_take h)
  rw [rd_zeros] at h6
  obtain ⟨k, hk⟩ := Int.eq_ofNat_of_zero_le h6
  rw [hk] at h5
  exact ⟨m, k, hm, by omega, hk, h5⟩
def sumZ (l : List Int) : Int := l.foldr (· + ·) 0
theorem sum_set : ∀ (l : List Int) (m : Nat) (z : Int), m < l.length → sumZ (l.set m z) = sumZ l + z - rd l (m : Int)
  | [], m, z, h => by simp at h
  | x :: l, 0, z, _ => by simp [sumZ, rd]; omega
  | x :: l, m + 1, z, h => by
    have ih := sum_set l m z (by simpa using h)
    have e : rd (x :: l) ((m + 1 : Nat) : Int) = rd l (m : Int) := by simp [rd]
    rw [e, List.set_cons_succ]
    show x + sumZ (l.set m z) = x + sumZ l + z - rd l (m : Int)
    rw [ih]
    omega
theorem sum_le : ∀ (a b : List Int), a.length = b.length → (∀ k : Nat, k < b.length → rd a (k : Int) ≤ rd b (k : Int)) → sumZ a ≤ sumZ b
  | [], [], _, _ => Int.le_refl _
  | [], y :: b, h, _ => by simp at h
  | x :: a, [], h, _ => by simp at h
  | x :: a, y :: b, h, hk => by
    have ih := sum_le a b (by simpa using h) (fun k hb => by
      have h1 := hk (k + 1) (by simpa using hb)
      have e : ∀ (z : Int) (l : List Int), rd (z :: l) ((k + 1 : Nat) : Int) = rd l (k : Int) := fun z l => by simp [rd]
      rwa [e, e] at h1)
    have h0 := hk 0 (by simp)
    have h0' : x ≤ y := by simpa [rd] using h0
    show x + sumZ a ≤ y + sumZ b
    omega
/-- As many steps as there are things, at most. -/
theorem ok_sum {lens : List Int} : ∀ (js next : List Int), next.length = lens.length → (∀ k : Nat, k < lens.length → rd next (k : Int) ≤ rd lens (k : Int)) → okAll lens next js → (js.length : Int) ≤ sumZ lens - sumZ next
  | [], next, hl, hk, _ => by
    have := sum_le next lens hl hk
    simp
    omega
  | j :: js, next, hl, hk, h => by
    obtain ⟨⟨h0, h1, h2⟩, h3⟩ := h
    obtain ⟨m, rfl⟩ := Int.eq_ofNat_of_zero_le h0
    have ih := ok_sum js (next.set ((m : Int)).toNat (rd next (m : Int) + 1)) (by rw [List.length_set]; exact hl) (fun k hb => by
      rw [Int.toNat_natCast, bv_rd_set next m k _ (by omega)]
      split
      · rename_i e; subst e; omega
      · exact hk k hb) h3
    rw [Int.toNat_natCast, sum_set next m _ (by omega)] at ih
    simp only [List.length_cons]
    omega
theorem sum_zeros (n : Nat) : sumZ (List.replicate n 0) = 0 := by
  induction n with
  | zero => rfl
  | succ n ih => show (0 : Int) + sumZ (List.replicate n 0) = 0; omega
theorem ok_len {lens js : List Int} (hn : ∀ x ∈ lens, 0 ≤ x) (h : okAll lens (List.replicate lens.length 0) js) : (js.length : Int) ≤ sumZ lens := by
  have := ok_sum js _ (by simp) (fun k hk => by rw [rd_zeros]; exact hn _ (bw_rd_mem hk)) h
  rw [sum_zeros] at this
  omega
theorem wv_len {chunk lens : List Int} (hn : ∀ x ∈ lens, 0 ≤ x) (h : Rng lens.length chunk) (he : cntN (List.replicate lens.length 0) chunk = lens) : (chunk.length : Int) ≤ sumZ lens := ok_len hn (okAll_of chunk _ (by simp) h he)
/-- The things' cells, place by place. -/
def ecells (E : Nat → Nat → List Value) (ps : List (Int × Int)) : List Value := ps.flatMap fun p => E p.1.toNat p.2.toNat
theorem ecells_app (E : Nat → Nat → List Value) (ps qs : List (Int × Int)) : ecells E (ps ++ qs) = ecells E ps ++ ecells E qs := by simp [ecells]
/-- Chunks as they are read. -/
structure WR (sz : Nat) (w : World) (Ao : Option Addr) (ns : List Int) (E : Nat → Nat → List Value) : Prop where
  len : ∀ j k, (E j k).length = sz
  one : ∀ j k, ∀ u ∈ E j k, u.oneCell' = true
  at_ : ∀ j : Nat, j < ns.length → ∃ go g n c, Ao = some ⟨go, 0, none⟩ ∧ go < w.heap.size ∧ rd ns (j : Int) = ((n : Nat) : Int) ∧ w.cell? ⟨go, j, none⟩ = some (.slice (some ⟨g, 0, none⟩) n c) ∧ n ≤ c ∧ g < w.heap.size ∧
    ∀ k, k < n → ∀ t u, (E j k)[t]? = some u → w.cell? ⟨g, k * sz + t, none⟩ = some u
/-- The part of a list that is set to nothing. -/
theorem zeros_set {N : List Int} {j : Nat} (h : j < N.length) : (List.replicate j 0 ++ N.drop j).set j 0 = List.replicate (j + 1) 0 ++ N.drop (j + 1) := by
  rw [List.set_append_right _ _ (by simp), List.length_replicate, Nat.sub_self, List.drop_eq_getElem_cons h, List.set_cons_zero, List.replicate_succ', List.append_assoc]
  rfl
theorem zeros_rd {N : List Int} {j : Nat} (h : j < N.length) : rd (List.replicate j 0 ++ N.drop j) (j : Int) = rd N (j : Int) := by
  simp [rd, List.getD_eq_getElem?_getD, List.getElem?_append_right]
theorem prs_nn : ∀ (js next : List Int), Rng next.length js → (∀ k : Nat, 0 ≤ rd next (k : Int)) → ∀ p ∈ prs next js, 0 ≤ p.1 ∧ 0 ≤ p.2
  | [], _, _, _, p, hp => by simp [prs] at hp
  | j :: js, next, hr, hn, p, hp => by
    obtain ⟨h0, h1⟩ := hr j (List.mem_cons_self ..)
    obtain ⟨m, rfl⟩ := Int.eq_ofNat_of_zero_le h0
    rcases List.mem_cons.1 hp with rfl | hp
    · exact ⟨h0, hn m⟩
    · refine prs_nn js _ (by rw [List.length_set]; exact fun x hx => hr x (List.mem_cons_of_mem _ hx)) (fun k => ?_) p hp
      rw [Int.toNat_natCast, bv_rd_set next m k _ (by omega)]
      split
      · have := hn m; omega
      · exact hn k
theorem wvA_nn {chunk lens : List Int} : ∀ p ∈ (wvA chunk lens).1, 0 ≤ p.1 ∧ 0 ≤ p.2 := by
  unfold wvA
  split
  · rename_i h
    exact prs_nn _ _ (by rw [List.length_replicate]; exact h.1) (fun k => by rw [rd_zeros]; exact Int.le_refl _)
  · intro p hp
    simp at hp
theorem ecells_things {ps : List (Int × Int)} (h : ∀ p ∈ ps, 0 ≤ p.1 ∧ 0 ≤ p.2) : ecells (fun j k => [.int .i64 (j : Int), .int .i64 (k : Int)]) ps = pcells ps := by
  induction ps with
  | nil => rfl
  | cons p ps ih =>
    obtain ⟨h0, h1⟩ := h p (List.mem_cons_self ..)
    have ih := ih (fun q hq => h q (List.mem_cons_of_mem _ hq))
    simp only [ecells, pcells, List.flatMap_cons] at ih ⊢
    rw [ih, Int.toNat_of_nonneg h0, Int.toNat_of_nonneg h1]

theorem mk_info {P : Program} {e : TypeId} {z : Value} {sz by_ : Nat} (h : (P.info? e).map (fun i => (i.zero, i.size, i.bytes)) = some (some z, sz, by_)) : ∃ i, P.info? e = some i ∧ i.zero = some z ∧ i.size = sz ∧ i.bytes = by_ := by
  obtain ⟨i, hi, h⟩ := Option.map_eq_some_iff.1 h
  simp only [Prod.mk.injEq] at h
  exact ⟨i, hi, h.1, h.2.1, h.2.2⟩
end Go.Proofs.Ytiefmocfgneldaa.Pl
