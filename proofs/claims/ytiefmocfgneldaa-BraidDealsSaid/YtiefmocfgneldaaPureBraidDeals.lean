/- Cut by Sizes and woven by any pattern each thing stands there once, a chunk's in their order (P12.1, P12.4): the printed statement, proved over lists. -/
import Derived.Test.YtiefmocfgneldaaBraid5
import Derived.Test.YtiefmocfgneldaaQx24
set_option linter.unusedVariables false
set_option linter.unusedSimpArgs false
namespace Go.Proofs.Ytiefmocfgneldaa.Pure
open Go.RowKit Go.Proofs.Ytiefmocfgneldaa.Q Go.Proofs.YtiefmocfgneldaaW.PrintWords Go.Proofs.YtiefmocfgneldaaW.PrintLast Go.Proofs.Ytiefmocfgneldaa.Pl

def pl (a b : Int) : Int := if a < 0 then Int.tmod (-(a + 1)) b else Int.tmod a b
theorem pl_ev (a b : Int) (ha : -9223372036854775808 ≤ a ∧ a ≤ 9223372036854775807) (hb : 1 ≤ b) : churnlaw12_place.f a b = some (pl a b) ∧ 0 ≤ pl a b ∧ pl a b < b := by
  unfold churnlaw12_place.f pl
  by_cases h : a < 0
  · rw [if_pos h, if_pos h, if_neg (by omega), w64 (x := a + 1) (by omega) (by omega), w64 (by omega) (by omega)]
    exact ⟨rfl, Int.tmod_nonneg _ (by omega), Int.tmod_lt_of_pos _ (by omega)⟩
  · rw [if_neg h, if_neg h, if_neg (by omega)]
    exact ⟨rfl, Int.tmod_nonneg _ (by omega), Int.tmod_lt_of_pos _ (by omega)⟩
def ownd (n : Nat) (l : List Int) (t : Nat) : Int := if t < l.length then pl (rd l (t : Int)) ((n : Int) - t) else 0

def seenB (C : List Nat) (p : Nat → Int) (n i : Nat) : List Bool := (List.range n).map fun x : Nat => (List.range i).any fun t => outp C p t == (x : Int)
theorem seenB_len (C : List Nat) (p : Nat → Int) (n i : Nat) : (seenB C p n i).length = n := by simp [seenB]
theorem seenB_set (C : List Nat) (p : Nat → Int) (n i X : Nat) (hX : outp C p i = (X : Int)) : (seenB C p n i).set X true = seenB C p n (i + 1) := by
  apply List.ext_getElem
  · simp [seenB]
  · intro x h1 h2
    rw [List.getElem_set]
    simp only [seenB, List.getElem_map, List.getElem_range, List.range_succ, List.any_append, List.any_cons, List.any_nil, Bool.or_false, hX]
    by_cases e : X = x
    · subst e
      simp
    · rw [if_neg e]
      have : ((X : Int) == (x : Int)) = false := by
        rw [beq_eq_false_iff_ne]
        omega
      rw [this, Bool.or_false]
theorem deals_l3 (C : List Nat) (p : Nat → Int) (n m : Nat) (hn : n ≤ 256) (hC : C.length = n) (hj : ∀ j ∈ C, j < m) (hp : ∀ i, i < n → 0 ≤ outp C p i ∧ outp C p i < n) (hinj : ∀ i t, i < n → t < n → outp C p i = outp C p t → i = t) (hp0 : ∀ j, 0 ≤ p j) :
    Ev (fun k => churnlaw12_BraidDeals.l3 k (n : Int) (ints C) (List.replicate n false) (List.replicate m 0) (tab n (outp C p)) (n : Int) 0) true := by
  have key : ∀ (d i : Nat), i + d = n → Ev (fun k => churnlaw12_BraidDeals.l3 k (n : Int) (ints C) (seenB C p n i) (tab m fun j => if cn C j i = 0 then 0 else p j + cn C j i) (tab n (outp C p)) (n : Int) (i : Int)) true := by
    intro d
    induction d with
    | zero =>
      intro i hi
      exact Ev.step (f := fun _ => some true) (fun k => by rw [churnlaw12_BraidDeals.l3, if_neg (by omega)]) (Ev.now _)
    | succ d ih =>
      intro i hi
      have hi' : i < C.length := by omega
      have hjm : C[i] < m := hj _ (List.getElem_mem hi')
      obtain ⟨x0, x1⟩ := hp i (by omega)
      obtain ⟨X, hX⟩ := Int.eq_ofNat_of_zero_le x0
      have hr : rd (tab n (outp C p)) (i : Int) = (X : Int) := by rw [tab_rd _ _ _ (by omega), hX]
      have hXp : (X : Int) = p C[i] + cn C C[i] i := by rw [← hX]; simp [outp, List.getD_eq_getElem?_getD, hi']
      have hseen : ¬ rdOf false (seenB C p n i) (X : Int) = true := by
        have hXn : X < n := by omega
        have : rdOf false (seenB C p n i) (X : Int) = (List.range i).any fun t => outp C p t == (X : Int) := by
          simp [rdOf, seenB, hXn]
        rw [this]
        intro hh
        rw [List.any_eq_true] at hh
        obtain ⟨t, ht, he⟩ := hh
        have ht' := List.mem_range.1 ht
        have := hinj i t (by omega) (by omega) (by rw [hX]; exact (eq_of_beq he).symm)
        omega
      have r2 : rd (tab m fun j => if cn C j i = 0 then 0 else p j + cn C j i) (C[i] : Int) = if cn C C[i] i = 0 then 0 else p C[i] + cn C C[i] i := tab_rd _ _ _ hjm
      have hlast : ¬ (X : Int) + 1 ≤ (if cn C C[i] i = 0 then 0 else p C[i] + cn C C[i] i) := by
        have := hp0 C[i]
        by_cases h : cn C C[i] i = 0
        · rw [if_pos h]; omega
        · rw [if_neg h]; omega
      have e : (tab m fun j => if cn C j i = 0 then 0 else p j + cn C j i).set C[i] ((X : Int) + 1) = tab m fun j => if cn C j (i + 1) = 0 then 0 else p j + cn C j (i + 1) := by
        rw [tab_set]
        refine tab_congr _ _ _ (fun j hj => ?_)
        rw [cn_succ C j i hi']
        by_cases h : j = C[i]
        · rw [if_pos h, if_pos h, if_neg (by omega), h, hXp]; omega
        · rw [if_neg h, if_neg h, Nat.add_zero]
      have next := ih (i + 1) (by omega)
      rw [← e, ← seenB_set C p n i X hX] at next
      refine Ev.step (fun k => ?_) next
      rw [churnlaw12_BraidDeals.l3, if_pos (by omega), if_pos (by omega), if_pos (by rw [tab_len]; omega), hr, if_neg (by omega), if_neg (by omega), if_pos (by omega), if_pos (by rw [seenB_len]; omega), if_neg hseen, if_pos (by rw [ints_len]; omega), ints_rd C i hi', if_pos (by omega), if_pos (by rw [tab_len]; omega), r2,
        w64 (x := (X : Int) + 1) (by omega) (by omega), if_neg hlast, w64 (x := (i : Int) + 1) (by omega) (by omega), Int.toNat_natCast, Int.toNat_natCast]
      rfl
  have h1 : List.replicate n false = seenB C p n 0 := by simp [seenB, List.map_const']
  have h2 : List.replicate m (0 : Int) = tab m fun j => if cn C j 0 = 0 then 0 else p j + cn C j 0 := by simp [tab, cn_zero, List.map_const']
  rw [h1, h2]
  exact key n 0 (by omega)

theorem vis_count (j : Nat) (P : List (Nat × Int)) : (vis j P).length = (P.map (·.1)).count j := by
  unfold vis
  rw [List.length_map, List.count, List.countP_map, List.countP_eq_length_filter]
  rfl
theorem fsts_ints (P : List (Nat × Int)) : fsts P = ints (P.map (·.1)) := by simp [fsts, ints]

theorem deals_end (n m : Nat) (hn : n ≤ 256) (h1 : 1 ≤ m) (h2 : m ≤ 64) (ds : List Int) (hd : ds.length = n) (hb : ∀ (t : Nat) (h : t < ds.length), 0 ≤ ds[t] ∧ ds[t] < (ds.length : Int) - t) :
    Ev (fun k => churnlaw12_BraidDeals.l1 k (n : Int) (m : Int) (sz n m) ds (segs (szf n m) (psum (sz n m)) m) (psum (sz n m) m) (sz n m) (m : Int) ((m : Nat) : Int)) true := by
  have hok := sz_ok n m hn h1 h2
  have htot := sz_total n m h1
  have hnn := hok.nonneg
  have hlen : (ds.length : Int) = total (sz n m) := by rw [htot, hd]
  obtain ⟨P, hP⟩ := pat_exists ds (sz n m) hnn (fun i hi => by have := hb i hi; rw [← hlen]; exact this)
  obtain ⟨C, hC⟩ : ∃ C, P.map (·.1) = C := ⟨_, rfl⟩
  have hlenC : C.length = n := by rw [← hC, List.length_map, hP.len, hd]
  have hjC : ∀ j ∈ C, j < m := by
    intro j hj
    rw [← hC] at hj
    obtain ⟨x, hx, rfl⟩ := List.mem_map.1 hj
    have := hP.range x hx
    rwa [sz_len] at this
  have hcC : ∀ j, j < m → C.count j = szf n m j := by
    intro j hj
    have := hP.count hnn hlen.symm j (by rw [sz_len]; exact hj)
    rw [vis_count, hC] at this
    have h3 : (sz n m).getD j 0 = (szf n m j : Int) := by rw [List.getD_eq_getElem?_getD, List.getElem?_eq_getElem (by rw [sz_len]; exact hj), Option.getD_some, sz_get n m j hj]
    omega
  have hpat : Ev (fun k => braid_Pattern.f k (sz n m) ds) (fsts P, allOff (sz n m).length P, 0) := by
    rcases pattern_good (sz n m) ds hok hlen with ⟨Q, h3, h4⟩ | ⟨h3, _⟩
    · rw [hP.unique hnn h3]; exact h4
    · exact absurd ⟨hok, hlen, hb⟩ h3
  have hout : ∀ i (h : i < n), outp C (psum (sz n m)) i = psum (sz n m) (C[i]'(by omega)) + cn C (C[i]'(by omega)) i := fun i h => by simp [outp, List.getD_eq_getElem?_getD, show i < C.length by omega]
  have hcell : ∀ i (h : i < n), ∃ hj : C[i]'(by omega) < (sz n m).length, (cn C (C[i]'(by omega)) i : Int) < (sz n m)[C[i]'(by omega)] := by
    intro i h
    have hjm := hjC _ (List.getElem_mem (show i < C.length by omega))
    refine ⟨by rw [sz_len]; exact hjm, ?_⟩
    rw [sz_get n m _ hjm]
    have := cn_lt C i (by omega)
    rw [hcC _ hjm] at this
    omega
  have hps : psum (sz n m) m = n := by rw [psum_all _ _ (by rw [sz_len]; exact Nat.le_refl _), htot]
  refine Ev.step (fun k => by rw [churnlaw12_BraidDeals.l1, if_neg (by omega)]) ?_
  refine ev_bind hpat ?_
  have hw := weave_ev C (szf n m) (psum (sz n m)) m h2 (by omega) hjC hcC (fun j _ => szf_le n m j hn h1)
  rw [hlenC, ← hC, ← fsts_ints, hC] at hw
  refine ev_bind hw (ev_pos (by rw [hps]) (ev_pos rfl (ev_pos rfl ?_)))
  simp only
  refine Ev.step (fun k => by rw [churnlaw12_BraidDeals.j5, if_neg (by rw [tab_len]; simp), if_pos (by omega), if_pos (by omega), if_pos (by omega), if_pos (by omega)]) ?_
  have h3 := deals_l3 C (psum (sz n m)) n m hn hlenC hjC (fun i hi => by
      obtain ⟨hj, hlt⟩ := hcell i hi
      rw [hout i hi]
      have a1 := psum_nonneg hnn (C[i]'(by omega))
      have a2 := psum_succ (sz n m) (C[i]'(by omega)) hj
      have a3 := psum_total hnn (C[i]'(by omega) + 1)
      omega) (fun i t hi ht e => by
      obtain ⟨hj, hlt⟩ := hcell i hi
      obtain ⟨hj', hlt'⟩ := hcell t ht
      rw [hout i hi, hout t ht] at e
      obtain ⟨e1, e2⟩ := place_unique hnn hj hj' (by omega) hlt (by omega) hlt' e
      rw [← e1] at e2
      have b1 := cn_at C i (by omega)
      have b2 := cn_at C t (by omega)
      rw [← e1] at b2
      rcases Nat.lt_trichotomy i t with h | h | h
      · have := cn_mono C (C[i]'(by omega)) (i + 1) t (by omega); omega
      · exact h
      · have := cn_mono C (C[i]'(by omega)) (t + 1) i (by omega); omega) (fun j => psum_nonneg hnn j)
  rw [tab_len, fsts_ints, hC]
  exact h3

theorem deals_l1 (n m : Nat) (hn : n ≤ 256) (h1 : 1 ≤ m) (h2 : m ≤ 64) (ds : List Int) (hd : ds.length = n) (hb : ∀ (t : Nat) (h : t < ds.length), 0 ≤ ds[t] ∧ ds[t] < (ds.length : Int) - t) :
    Ev (fun k => churnlaw12_BraidDeals.l1 k (n : Int) (m : Int) (sz n m) ds [] 0 (sz n m) (m : Int) 0) true := by
  have hok := sz_ok n m hn h1 h2
  have hnn := hok.nonneg
  have htot := sz_total n m h1
  have rs : ∀ j : Nat, j < m → rd (sz n m) (j : Int) = (szf n m j : Int) := fun j hj => tab_rd _ _ _ hj
  have rs0 : rd (sz n m) 0 = (szf n m 0 : Int) := rs 0 h1
  have key : ∀ (d i : Nat), i + d = m → Ev (fun k => churnlaw12_BraidDeals.l1 k (n : Int) (m : Int) (sz n m) ds (segs (szf n m) (psum (sz n m)) i) (psum (sz n m) i) (sz n m) (m : Int) (i : Int)) true := by
    intro d
    induction d with
    | zero =>
      intro i hi
      obtain rfl : i = m := by omega
      exact deals_end n i hn h1 h2 ds hd hb
    | succ d ih =>
      intro i hi
      have him : i < m := by omega
      have a1 := szf_anti n m i (m - 1) (by omega)
      have a2 := szf_anti n m 0 i (by omega)
      have a3 := szf_anti n m 0 (m - 1) (by omega)
      have a4 := szf_le n m 0 hn h1
      have a5 := szf_le n m i hn h1
      have a6 := szf_le n m (m - 1) hn h1
      have q1 := psum_nonneg hnn i
      have q2 := psum_succ (sz n m) i (by rw [sz_len]; exact him)
      have q3 := psum_total hnn (i + 1)
      rw [sz_get n m i him] at q2
      rw [htot] at q3
      have next := ih (i + 1) (by omega)
      rw [segs_succ, q2] at next
      have inner : ∀ (d t : Nat), t + d = szf n m i → Ev (fun k => churnlaw12_BraidDeals.l2 k (n : Int) (m : Int) (sz n m) ds (segs (szf n m) (psum (sz n m)) i) (psum (sz n m) i + t) (tab t fun j => psum (sz n m) i + j) (sz n m) (m : Int) (i : Int) (szf n m i : Int) (t : Int)) true := by
        intro d
        induction d with
        | zero =>
          intro t ht
          obtain rfl : t = szf n m i := by omega
          refine Ev.step (fun k => ?_) next
          rw [churnlaw12_BraidDeals.l2, if_neg (by omega), if_pos (by rw [segs_len]; omega), w64 (by omega) (by omega)]
          rfl
        | succ d ih2 =>
          intro t ht
          have n2 := ih2 (t + 1) (by omega)
          rw [tab_succ] at n2
          refine Ev.step (fun k => ?_) n2
          rw [churnlaw12_BraidDeals.l2, if_pos (by omega), if_pos (by rw [tab_len]; omega), w64 (x := psum (sz n m) i + t + 1) (by omega) (by omega), w64 (x := (t : Int) + 1) (by omega) (by omega), Int.add_assoc]
          rfl
      have start := inner (szf n m i) 0 (by omega)
      have j3 : ∀ b, b = false → Ev (fun k => churnlaw12_BraidDeals.j3 k (n : Int) (m : Int) (sz n m) ds (segs (szf n m) (psum (sz n m)) i) (psum (sz n m) i) (szf n m i : Int) (sz n m) (m : Int) (i : Int) b) true := by
        intro b hb
        refine Ev.step (fun k => ?_) start
        rw [churnlaw12_BraidDeals.j3, if_neg (by simp [hb])]
        simp [tab]
      have e1 : wrap64 ((m : Int) - 1) = ((m - 1 : Nat) : Int) := by rw [w64 (by omega) (by omega)]; omega
      by_cases h0 : i = 0
      · refine Ev.step (fun k => ?_) (j3 false rfl)
        rw [churnlaw12_BraidDeals.l1, if_pos (by omega), if_pos (by omega), if_pos (by rw [sz_len]; omega), e1, if_pos (by omega), if_pos (by rw [sz_len]; omega), rs i him, rs (m - 1) (by omega), if_neg (by omega), if_pos (by rw [sz_len]; omega), rs0, if_neg (by omega), w64 (by omega) (by omega), if_neg (by omega), if_neg (by omega)]
      · have a7 := szf_anti n m (i - 1) i (by omega)
        have e2 : wrap64 ((i : Int) - 1) = ((i - 1 : Nat) : Int) := by rw [w64 (by omega) (by omega)]; omega
        refine Ev.step (fun k => ?_) (j3 (decide ((szf n m i : Int) > (szf n m (i - 1) : Int))) (by simp; omega))
        rw [churnlaw12_BraidDeals.l1, if_pos (by omega), if_pos (by omega), if_pos (by rw [sz_len]; omega), e1, if_pos (by omega), if_pos (by rw [sz_len]; omega), rs i him, rs (m - 1) (by omega), if_neg (by omega), if_pos (by rw [sz_len]; omega), rs0, if_neg (by omega), w64 (x := (szf n m 0 : Int) - (szf n m (m - 1) : Int)) (by omega) (by omega), if_neg (by omega), if_pos (by omega), e2, if_pos (by omega), if_pos (by rw [sz_len]; omega), rs (i - 1) (by omega)]
  have := key m 0 (by omega)
  exact this

theorem deals_l0 (n m : Nat) (hn : n ≤ 256) (h1 : 1 ≤ m) (h2 : m ≤ 64) (l : List Int) (hl : ∀ x ∈ l, -9223372036854775808 ≤ x ∧ x ≤ 9223372036854775807) :
    Ev (fun k => churnlaw12_BraidDeals.l0 k (n : Int) (m : Int) l (sz n m) (List.replicate n 0) (bnd n) (n : Int) 0) true := by
  have own : ∀ t : Nat, t < n → 0 ≤ ownd n l t ∧ ownd n l t < (n : Int) - t := by
    intro t ht
    unfold ownd
    by_cases h : t < l.length
    · rw [if_pos h]
      exact (pl_ev _ _ (hl _ (rd_mem l (t : Int) (by simpa using h))) (by omega)).2
    · rw [if_neg h]; omega
  have last := deals_l1 n m hn h1 h2 (tab n (ownd n l)) (tab_len _ _) (fun t h => by
    rw [tab_len] at h ⊢
    have : (tab n (ownd n l))[t]'(by rw [tab_len]; exact h) = ownd n l t := by simp [tab]
    rw [this]
    exact own t h)
  have key : ∀ (d i : Nat), i + d = n → Ev (fun k => churnlaw12_BraidDeals.l0 k (n : Int) (m : Int) l (sz n m) (tab n fun t => if t < i then ownd n l t else 0) (bnd n) (n : Int) (i : Int)) true := by
    intro d
    induction d with
    | zero =>
      intro i hi
      have e : (tab n fun t => if t < i then ownd n l t else 0) = tab n (ownd n l) := tab_congr _ _ _ (fun j hj => by rw [if_pos (by omega)])
      rw [e]
      refine Ev.step (fun k => ?_) last
      rw [churnlaw12_BraidDeals.l0, if_neg (by omega), sz_len]
    | succ d ih =>
      intro i hi
      have next := ih (i + 1) (by omega)
      have rb : rd (bnd n) (i : Int) = (n : Int) - i := tab_rd _ _ _ (by omega)
      have e : (tab n fun t => if t < i then ownd n l t else 0).set i (ownd n l i) = tab n fun t => if t < i + 1 then ownd n l t else 0 := by
        rw [tab_set]
        refine tab_congr _ _ _ (fun j hj => ?_)
        by_cases h : j = i
        · rw [if_pos h, if_pos (by omega), h]
        · rw [if_neg h]
          by_cases h3 : j < i
          · rw [if_pos h3, if_pos (by omega)]
          · rw [if_neg h3, if_neg (by omega)]
      by_cases h : i < l.length
      · have hp := (pl_ev (rd l (i : Int)) ((n : Int) - i) (hl _ (rd_mem l (i : Int) (by simpa using h))) (by omega)).1
        have ho : ownd n l i = pl (rd l (i : Int)) ((n : Int) - i) := by unfold ownd; rw [if_pos h]
        rw [← e, ho] at next
        refine Ev.step (fun k => ?_) next
        rw [churnlaw12_BraidDeals.l0, if_pos (by omega), if_pos (by omega), if_pos (by rw [bnd, tab_len]; omega), rb, if_pos (by rw [w64 (by omega) (by omega)]), if_pos (by omega), hp, Option.bind_some, if_pos (by rw [tab_len]; omega), w64 (x := (i : Int) + 1) (by omega) (by omega), Int.toNat_natCast]
        rfl
      · have ho : ownd n l i = 0 := by unfold ownd; rw [if_neg h]
        have e3 : (tab n fun t => if t < i + 1 then ownd n l t else 0) = tab n fun t => if t < i then ownd n l t else 0 := tab_congr _ _ _ (fun j hj => by
          by_cases h3 : j = i
          · subst h3
            rw [if_pos (by omega), if_neg (by omega), ho]
          · by_cases h4 : j < i
            · rw [if_pos (by omega), if_pos h4]
            · rw [if_neg (by omega), if_neg h4])
        rw [e3] at next
        refine Ev.step (fun k => ?_) next
        rw [churnlaw12_BraidDeals.l0, if_pos (by omega), if_pos (by omega), if_pos (by rw [bnd, tab_len]; omega), rb, if_pos (by rw [w64 (by omega) (by omega)]), if_neg (by omega), w64 (x := (i : Int) + 1) (by omega) (by omega)]
        rfl
  have hr : List.replicate n (0 : Int) = tab n fun t => if t < 0 then ownd n l t else 0 := by simp [tab, List.map_const']
  rw [hr]
  exact key n 0 (by omega)

theorem BraidDeals : churnlaw12_BraidDeals.Pure := by
  intro a b l ha hb hl hl8 hlw
  refine Ev.rounds (g := fun k => churnlaw12_BraidDeals.f k a b l) (r := true) ?_
  unfold churnlaw12_BraidDeals.f
  refine ev_bind awake12 (ev_pos rfl ?_)
  by_cases g : 0 ≤ a ∧ a ≤ 256 ∧ 1 ≤ b ∧ b ≤ 64
  · obtain ⟨g1, g2, g3, g4⟩ := g
    obtain ⟨n, rfl⟩ := Int.eq_ofNat_of_zero_le g1
    obtain ⟨m, rfl⟩ := Int.eq_ofNat_of_zero_le (show 0 ≤ b by omega)
    refine ev_bind (sizes_good n m (by omega) (by omega) (by omega)) (ev_pos (by omega) (ev_pos (by omega) (ev_pos (by omega) ?_)))
    simp only
    refine Ev.step (fun k => by rw [churnlaw12_BraidDeals.j0, if_neg (by simp; omega), if_pos rfl, if_pos (by rw [sz_len])]) ?_
    refine ev_bind (bounds_good n (by omega)) (ev_pos (by rw [bnd, tab_len]) (ev_pos (by omega) (ev_pos (by omega) ?_)))
    have := deals_l0 n m (by omega) (by omega) (by omega) l (fun x hx => wf_i64 (hlw x hx))
    rw [show (bnd n).length = n from tab_len _ _]
    exact this
  · refine ev_bind (sizes_bad a b g) ?_
    have bad : ∀ c, c = false → Ev (fun k => churnlaw12_BraidDeals.j0 k a b l [] 2 c) true := fun c hc => Ev.step (f := fun _ => some true) (fun k => by rw [churnlaw12_BraidDeals.j0]; simp [hc]) (Ev.now _)
    simp only
    by_cases h1 : a ≥ 0
    · refine ev_pos h1 ?_
      by_cases h2 : a ≤ 256
      · refine ev_pos h2 ?_
        by_cases h3 : b ≥ 1
        · exact ev_pos h3 (bad _ (by simp; omega))
        · exact ev_neg h3 (bad _ rfl)
      · exact ev_neg h2 (bad _ rfl)
    · exact ev_neg h1 (bad _ rfl)
end Go.Proofs.Ytiefmocfgneldaa.Pure
