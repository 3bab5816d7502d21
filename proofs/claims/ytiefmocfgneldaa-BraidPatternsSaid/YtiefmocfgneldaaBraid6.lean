/- The document's Sizes, Bounds and Pattern over lists: what they come to; the same as the program's. -/
import Derived.Test.YtiefmocfgneldaaBraid5
import Derived.Test.YtiefmocfgneldaaQx11
import Derived.Test.YtiefmocfgneldaaQx10
import Derived.Test.YtiefmocfgneldaaQx17
import Derived.Test.YtiefmocfgneldaaQx18
set_option linter.unusedVariables false
set_option linter.unusedSimpArgs false
namespace Go.Proofs.Ytiefmocfgneldaa.Pl
open Go.RowKit Go.Proofs.Ytiefmocfgneldaa.Q Go.Proofs.YtiefmocfgneldaaW.PrintWords Go.Proofs.YtiefmocfgneldaaW.PrintLast

theorem ref_sizes_bad (n m : Int) (h : ¬ (0 ≤ n ∧ n ≤ 256 ∧ 1 ≤ m ∧ m ≤ 64)) : Ev (fun k => churnref12_Sizes.f k n m) ([], 2) := by
  have bad : ∀ b, b = true → Ev (fun k => churnref12_Sizes.j0 k n m b) ([], 2) := fun b hb => Ev.step (f := fun _ => some ([], 2)) (fun k => by rw [churnref12_Sizes.j0, if_pos hb]) (Ev.now _)
  unfold churnref12_Sizes.f
  by_cases h1 : n < 0
  · exact ev_pos h1 (bad _ rfl)
  refine ev_neg h1 ?_
  by_cases h2 : n > 256
  · exact ev_pos h2 (bad _ rfl)
  refine ev_neg h2 ?_
  by_cases h3 : m < 1
  · exact ev_pos h3 (bad _ rfl)
  exact ev_neg h3 (bad _ (by simp; omega))
theorem ref_sizes_good (n m : Nat) (hn : n ≤ 256) (h1 : 1 ≤ m) (h2 : m ≤ 64) : Ev (fun k => churnref12_Sizes.f k (n : Int) (m : Int)) (sz n m, 0) := by
  unfold churnref12_Sizes.f
  refine ev_neg (by omega) (ev_neg (by omega) (ev_neg (by omega) ?_))
  refine Ev.step (fun k => by rw [churnref12_Sizes.j0, if_neg (by simp; omega)]) ?_
  have hd : n / m ≤ 256 := Nat.le_trans (Nat.div_le_self _ _) hn
  obtain ⟨q, hq⟩ : ∃ q, n / m = q := ⟨_, rfl⟩
  obtain ⟨r, hr0⟩ : ∃ r, n % m = r := ⟨_, rfl⟩
  have t1 : Int.tdiv (n : Int) (m : Int) = (q : Int) := by rw [← hq]; rfl
  have t2 : Int.tmod (n : Int) (m : Int) = (r : Int) := by rw [← hr0]; rfl
  have hz : ∀ j, (szf n m j : Int) = (q : Int) + (if j < r then 1 else 0) := fun j => by unfold szf; rw [hq, hr0]; split <;> simp
  rw [hq] at hd
  have key : ∀ (d i : Nat), i + d = m → Ev (fun k => churnref12_Sizes.l0 k (n : Int) (m : Int) (tab i fun j => (szf n m j : Int)) (i : Int)) (sz n m, 0) := by
    intro d
    induction d with
    | zero =>
      intro i hi
      obtain rfl : i = m := by omega
      exact Ev.step (f := fun _ => some (sz n i, 0)) (fun k => by rw [churnref12_Sizes.l0, if_neg (by omega)]; rfl) (Ev.now _)
    | succ d ih =>
      intro i hi
      have hlen := tab_len i fun j => (szf n m j : Int)
      refine Ev.step (fun k => ?_) (ih (i + 1) (by omega))
      rw [churnref12_Sizes.l0, if_pos (by omega), if_neg (by omega), t1, t2, tab_succ, hz i, w64 (x := (q : Int)) (by omega) (by omega), w64 (x := (i : Int) + 1) (by omega) (by omega), w64 (x := (q : Int) + 1) (by omega) (by omega)]
      by_cases h : i < r
      · rw [if_pos (by omega), if_pos (by omega), if_pos h]
        rfl
      · rw [if_neg (by omega), if_pos (by omega), if_neg h, Int.add_zero]
        rfl
  exact key m 0 (by omega)
theorem ref_bounds_good (n : Nat) (hn : n ≤ 256) : Ev (fun k => churnref12_Bounds.f k (n : Int)) (bnd n) := by
  unfold churnref12_Bounds.f
  refine ev_neg (by omega) ?_
  have key : ∀ (d i : Nat), i + d = n → Ev (fun k => churnref12_Bounds.l0 k (tab i fun i => (n : Int) - i) ((d : Nat) : Int)) (bnd n) := by
    intro d
    induction d with
    | zero =>
      intro i hi
      obtain rfl : i = n := by omega
      exact Ev.step (f := fun _ => some (bnd i)) (fun k => by rw [churnref12_Bounds.l0, if_neg (by omega)]; rfl) (Ev.now _)
    | succ d ih =>
      intro i hi
      have hlen := tab_len i fun i => (n : Int) - i
      refine Ev.step (fun k => ?_) (ih (i + 1) (by omega))
      rw [churnref12_Bounds.l0, if_pos (by omega), if_pos (by omega), w64 (by omega) (by omega), tab_succ, show ((d + 1 : Nat) : Int) - 1 = (d : Int) by omega, show (n : Int) - (i : Int) = ((d + 1 : Nat) : Int) by omega]
  exact key n 0 (by omega)

/-- The document's total of sizes. -/
theorem ref12_total_ev (s : List Int) (hl : s.length ≤ 9223372036854775000) : ∃ n : Int, Ev (fun k => churnref12_total.f k s) n ∧ (OkS s → n = total s) ∧ (¬ OkS s → n = -1) := by
  unfold churnref12_total.f
  have bad : ∀ b, b = true → Ev (fun k => churnref12_total.j0 k s b) (-1) := fun b hb => Ev.step (f := fun _ => some (-1)) (fun k => by rw [churnref12_total.j0, if_pos hb]) (Ev.now _)
  by_cases h1 : s.length < 1
  · exact ⟨-1, ev_pos (by omega) (bad _ rfl), fun h => by have := h.one; omega, fun _ => rfl⟩
  by_cases h2 : s.length > 64
  · exact ⟨-1, ev_neg (by omega) (bad _ (by simp; omega)), fun h => by have := h.most; omega, fun _ => rfl⟩
  have key : ∀ (d i : Nat), i + d = s.length → (∀ x ∈ s.take i, 0 ≤ x) → psum s i ≤ 256 → ∃ n : Int, Ev (fun k => churnref12_total.l0 k s (psum s i) (i : Int)) n ∧ (OkS s → n = total s) ∧ (¬ OkS s → n = -1) := by
    intro d
    induction d with
    | zero =>
      intro i hi hb hp
      rw [List.take_of_length_le (by omega)] at hb
      refine ⟨psum s i, Ev.step (f := fun _ => some (psum s i)) (fun k => by rw [churnref12_total.l0, if_neg (by omega)]) (Ev.now _), fun _ => psum_all s i (by omega), fun h => absurd ⟨by omega, by omega, fun x hx => ⟨hb x hx, ?_⟩, by rw [← psum_all s i (by omega)]; exact hp⟩ h⟩
      obtain ⟨j, hj, rfl⟩ := List.getElem_of_mem hx
      have hnn : Nonneg s := hb
      have a1 := psum_succ s j hj
      have a2 := psum_nonneg hnn j
      have a3 := psum_total hnn (j + 1)
      rw [psum_all s i (by omega)] at hp
      omega
    | succ d ih =>
      intro i hi hb hp
      have hlt : i < s.length := by omega
      have hm := rd_mem s (i : Int) (by simp; omega)
      have hps : psum s (i + 1) = psum s i + rd s (i : Int) := by rw [psum_succ s i hlt, rd_lt s i hlt]
      have hnn : Nonneg (s.take i) := hb
      have hpp : psum s i = total (s.take i) := rfl
      have h0 : 0 ≤ psum s i := by rw [hpp]; exact total_nonneg hnn
      by_cases c1 : rd s (i : Int) < 0
      · exact ⟨-1, Ev.step (f := fun _ => some (-1)) (fun k => by rw [churnref12_total.l0, if_pos (by omega), if_pos (by omega), if_pos c1]) (Ev.now _), fun h => by have := (h.each _ hm).1; omega, fun _ => rfl⟩
      · by_cases c2 : rd s (i : Int) > 256 - psum s i
        · refine ⟨-1, Ev.step (f := fun _ => some (-1)) (fun k => by rw [churnref12_total.l0, if_pos (by omega), if_pos (by omega), if_neg c1, w64 (by omega) (by omega), if_pos c2]) (Ev.now _), fun h => ?_, fun _ => rfl⟩
          have a1 := psum_total h.nonneg (i + 1)
          have a2 := h.all
          omega
        · have hb' : ∀ x ∈ s.take (i + 1), 0 ≤ x := by
            rw [take_rd s i hlt]
            intro x hx
            rcases List.mem_append.1 hx with hx | hx
            · exact hb x hx
            · have := List.mem_singleton.1 hx; subst this; omega
          obtain ⟨n, e, r⟩ := ih (i + 1) (by omega) hb' (by omega)
          refine ⟨n, Ev.step (fun k => ?_) e, r⟩
          rw [churnref12_total.l0, if_pos (by omega), if_pos (by omega), if_neg c1, w64 (x := 256 - psum s i) (by omega) (by omega), if_neg c2, w64 (by omega) (by omega), w64 (by omega) (by omega), hps]
          rfl
  obtain ⟨n, e, r⟩ := key s.length 0 (by omega) (by simp) (by rw [psum_zero]; omega)
  refine ⟨n, ev_neg (by omega) (Ev.step (fun k => ?_) e), r⟩
  rw [churnref12_total.j0, if_neg (by simp; omega), psum_zero]
  rfl

theorem ref_pat_flat (c : List Int) (m : Nat) (P : List (Nat × Int)) (hm : m ≤ 64) (hP : P.length ≤ 256) : Ev (fun k => churnref12_Pattern.l2 k (visits m P) c [] 0) (c, allOff m P, 0) := by
  have key : ∀ (d i : Nat), i + d = m → Ev (fun k => churnref12_Pattern.l2 k (visits m P) c (allOff i P) (i : Int)) (c, allOff m P, 0) := by
    intro d
    induction d with
    | zero =>
      intro i hi
      have : i = m := by omega
      subst this
      exact Ev.step (f := fun _ => some (c, allOff i P, 0)) (fun k => by rw [churnref12_Pattern.l2, if_neg (by rw [visits_len]; omega)]) (Ev.now _)
    | succ d ih =>
      intro i hi
      have hlen := visits_len m P
      have h1 := vis_le i P
      have h2 := allOff_le P i
      have h3 : i * P.length ≤ 64 * 256 := Nat.mul_le_mul (by omega) hP
      refine Ev.step (fun k => ?_) (ih (i + 1) (by omega))
      rw [churnref12_Pattern.l2, if_pos (by omega), if_pos (by omega), visits_get m P i (by omega), if_pos (by omega), w64 (by omega) (by omega), allOff_succ]
      rfl
  have := key m 0 (by omega)
  simpa [allOff] using this

/-- One draw's search through the chunks. -/
theorem ref_pat_find (x4 : List Int) (left : List Int) (Pd : List (Nat × Int)) (ds : List Int) (i : Nat) (R : List Int × List Int × Int) (hn : Nonneg left) (hm : left.length ≤ 64) (ht : total left ≤ 256) (hx : x4.length ≤ 1000) (hPd : Pd.length ≤ 1000) (hi : i < ds.length) (hds : ds.length ≤ 256)
    (j : Nat) (hj : j < left.length) (o : Int) (o0 : 0 ≤ o) (o1 : o < left[j])
    (next : Ev (fun k => churnref12_Pattern.l0 k ds (ds.length : Int) (dec left j) (visits left.length (Pd ++ [(j, o)])) (x4 ++ [(j : Int)]) ((i + 1 : Nat) : Int)) R) :
    ∀ (t a : Nat), a + t = j → Ev (fun k => churnref12_Pattern.l1 k ds (ds.length : Int) left (visits left.length Pd) x4 (i : Int) (psum left j + o - psum left a) (a : Int)) R := by
  intro t
  induction t with
  | zero =>
    intro a ha
    have : a = j := by omega
    subst this
    have hv := visits_get left.length Pd a hj
    have hvl := vis_le a Pd
    have hr : rd left (a : Int) = left[a] := rd_lt left a hj
    have hlt := psum_total hn (a + 1)
    have hge := psum_nonneg hn a
    rw [psum_succ left a hj] at hlt
    have hpos := hn.at_ a hj
    refine Ev.step (fun k => ?_) next
    have hdec : left.set ((a : Int).toNat) (wrap64 (rd left (a : Int) - 1)) = dec left a := by
      rw [w64 (by rw [hr]; omega) (by rw [hr]; omega), hr]
      simp [dec, List.getD_eq_getElem?_getD, hj]
    rw [churnref12_Pattern.l1, if_pos (by omega), if_pos (by omega), if_neg (by rw [hr]; omega), if_pos (by omega), if_pos (by rw [visits_len]; omega), hv, if_pos (by omega), hdec, w64 (by omega) (by omega),
      show psum left a + o - psum left a = o from by omega, show ((a : Int).toNat) = a from by omega, visits_set left.length Pd a hj o]
    rfl
  | succ t ih =>
    intro a ha
    have hal : a < left.length := by omega
    have hr : rd left (a : Int) = left[a] := rd_lt left a hal
    have h1 := psum_succ left a hal
    have h2 := psum_le hn (a + 1) j (by omega)
    have h3 := psum_total hn (j + 1)
    rw [psum_succ left j hj] at h3
    have h4 := psum_nonneg hn a
    have h5 := hn.at_ a hal
    refine Ev.step (fun k => ?_) (ih (a + 1) (by omega))
    rw [churnref12_Pattern.l1, if_pos (by omega), if_pos (by omega), if_pos (by rw [hr]; omega), w64 (by rw [hr]; omega) (by rw [hr]; omega), w64 (by omega) (by omega), hr, h1,
      show psum left j + o - psum left a - left[a] = psum left j + o - (psum left a + left[a]) from by omega]
    rfl

theorem ref_pat_loop (ds : List Int) (m : Nat) (hm : m ≤ 64) (hds : ds.length ≤ 256) : ∀ (rem i : Nat) (left : List Int) (Pd : List (Nat × Int)), i + rem = ds.length → total left = rem → Nonneg left → left.length = m → Pd.length = i →
    (∃ P, Pat left (ds.drop i) P ∧ Ev (fun k => churnref12_Pattern.l0 k ds (ds.length : Int) left (visits m Pd) (fsts Pd) (i : Int)) (fsts (Pd ++ P), allOff m (Pd ++ P), 0)) ∨
    ((∃ t, i ≤ t ∧ ∃ h : t < ds.length, ds[t] < 0 ∨ (ds.length : Int) - t ≤ ds[t]) ∧ Ev (fun k => churnref12_Pattern.l0 k ds (ds.length : Int) left (visits m Pd) (fsts Pd) (i : Int)) ([], [], 2)) := by
  intro rem
  induction rem with
  | zero =>
    intro i left Pd hi ht hn hl hPd
    left
    refine ⟨[], by rw [List.drop_of_length_le (by omega)]; exact .nil left, ?_⟩
    rw [List.append_nil]
    refine Ev.step (fun k => ?_) (ref_pat_flat (fsts Pd) m Pd hm (by omega))
    rw [churnref12_Pattern.l0, if_neg (by omega)]
  | succ rem ih =>
    intro i left Pd hi ht hn hl hPd
    have hlt : i < ds.length := by omega
    have hr : rd ds (i : Int) = ds[i] := rd_lt ds i hlt
    have hw : wrap64 ((ds.length : Int) - (i : Int)) = (ds.length : Int) - i := w64 (by omega) (by omega)
    have bad : ∀ b, b = true → Ev (fun k => churnref12_Pattern.j2 k ds (ds.length : Int) left (visits m Pd) (fsts Pd) (i : Int) (rd ds (i : Int)) b) ([], [], 2) := fun b hb => Ev.step (f := fun _ => some ([], [], 2)) (fun k => by rw [churnref12_Pattern.j2, if_pos hb]) (Ev.now _)
    by_cases c1 : ds[i] < 0
    · right
      refine ⟨⟨i, by omega, hlt, .inl c1⟩, Ev.step (fun k => ?_) (bad true rfl)⟩
      rw [churnref12_Pattern.l0, if_pos (by omega), if_pos (by omega), if_pos (by omega), if_pos (by rw [hr]; exact c1)]
    · by_cases c2 : (ds.length : Int) - i ≤ ds[i]
      · right
        refine ⟨⟨i, by omega, hlt, .inr c2⟩, Ev.step (fun k => ?_) (bad true rfl)⟩
        rw [churnref12_Pattern.l0, if_pos (by omega), if_pos (by omega), if_pos (by omega), if_neg (by rw [hr]; exact c1), hw, decide_eq_true (show rd ds (i : Int) ≥ (ds.length : Int) - i by rw [hr]; exact c2)]
      · obtain ⟨j, hj, o, o0, o1, e⟩ := place_exists hn ds[i] (by omega) (by omega)
        have hdrop : ds.drop i = ds[i] :: ds.drop (i + 1) := List.drop_eq_getElem_cons hlt
        have hstep : ∀ R, Ev (fun k => churnref12_Pattern.l0 k ds (ds.length : Int) (dec left j) (visits m (Pd ++ [(j, o)])) (fsts (Pd ++ [(j, o)])) ((i + 1 : Nat) : Int)) R →
            Ev (fun k => churnref12_Pattern.l0 k ds (ds.length : Int) left (visits m Pd) (fsts Pd) (i : Int)) R := by
          intro R hR
          subst hl
          have hR' : Ev (fun k => churnref12_Pattern.l0 k ds (ds.length : Int) (dec left j) (visits left.length (Pd ++ [(j, o)])) (fsts Pd ++ [(j : Int)]) ((i + 1 : Nat) : Int)) R := by
            rw [fsts_append] at hR
            exact hR
          have h0 := ref_pat_find (fsts Pd) left Pd ds i R hn (by omega) (by omega) (by simp [fsts]; omega) (by omega) hlt hds j hj o o0 o1 hR' j 0 (by omega)
          refine Ev.step (f := fun k => churnref12_Pattern.j2 k ds (ds.length : Int) left (visits left.length Pd) (fsts Pd) (i : Int) (rd ds (i : Int)) false) (fun k => ?_) (Ev.step (fun k => ?_) h0)
          · rw [churnref12_Pattern.l0, if_pos (by omega), if_pos (by omega), if_pos (by omega), if_neg (by rw [hr]; exact c1), hw, decide_eq_false (show ¬ rd ds (i : Int) ≥ (ds.length : Int) - i by rw [hr]; exact c2)]
          · rw [churnref12_Pattern.j2, if_neg (by simp), hr, e, psum_zero, Int.sub_zero]
            rfl
        rcases ih (i + 1) (dec left j) (Pd ++ [(j, o)]) (by omega) (by rw [dec_total left j hj]; omega) (dec_nonneg hn j hj (by omega)) (by rw [dec_length]; exact hl) (by simp; omega) with ⟨P, hP, hE⟩ | ⟨⟨t, h1, h2, h3⟩, hE⟩
        · left
          refine ⟨(j, o) :: P, by rw [hdrop]; exact .cons hj o0 o1 e hP, ?_⟩
          have := hstep _ hE
          rwa [List.append_assoc, List.singleton_append] at this
        · right
          exact ⟨⟨t, by omega, h2, h3⟩, hstep _ hE⟩
theorem ref_good_or (s ds : List Int) (hs : s.length ≤ 17592186044000) (hd : ds.length ≤ 17592186044000) :
    (∃ P, Good s ds P ∧ Ev (fun k => churnref12_Pattern.f k s ds) (fsts P, allOff s.length P, 0)) ∨ ((¬ ∃ P, Good s ds P) ∧ Ev (fun k => churnref12_Pattern.f k s ds) ([], [], 2)) := by
  obtain ⟨n, e, h1, h2⟩ := ref12_total_ev s (by omega)
  have hend : ∀ (x : Bool), x = true → Ev (fun k => churnref12_Pattern.j0 k s ds n x) ([], [], 2) := fun x hx => Ev.step (f := fun _ => some ([], [], 2)) (fun k => by rw [churnref12_Pattern.j0, if_pos hx]) (Ev.now _)
  by_cases hO : OkS s
  · have hn := h1 hO
    have hnn := total_nonneg hO.nonneg
    have hal := hO.all
    have hm := hO.most
    by_cases hl : (ds.length : Int) = total s
    · have hin : ∀ R, Ev (fun k => churnref12_Pattern.l0 k ds (ds.length : Int) s (visits s.length []) (fsts []) ((0 : Nat) : Int)) R → Ev (fun k => churnref12_Pattern.f k s ds) R := by
        intro R hR
        unfold churnref12_Pattern.f
        refine ev_bind e (ev_neg (by omega) (Ev.step (fun k => ?_) hR))
        rw [churnref12_Pattern.j0, if_neg (by simp; omega)]
        simp only [List.nil_append, List.length_nil]
        rw [if_pos (by omega), if_pos (by omega), if_pos (by omega), visits_nil, show ((s.length : Int).toNat) = s.length from by omega, show n = (ds.length : Int) from by omega]
        rfl
      rcases ref_pat_loop ds s.length hm (by omega) ds.length 0 s [] (by omega) (by omega) hO.nonneg rfl rfl with ⟨P, hP, hE⟩ | ⟨⟨t, t1, t2, t3⟩, hE⟩
      · left
        rw [List.nil_append] at hE
        exact ⟨P, ⟨hO, hl, by simpa using hP⟩, hin _ hE⟩
      · right
        refine ⟨?_, hin _ hE⟩
        rintro ⟨P, g⟩
        have := g.pat.bound g.sizes.nonneg t t2
        rw [← g.len] at this
        omega
    · refine .inr ⟨fun ⟨P, g⟩ => hl g.len, ?_⟩
      unfold churnref12_Pattern.f
      exact ev_bind e (ev_neg (by omega) (hend _ (by rw [bne_iff_ne]; omega)))
  · refine .inr ⟨fun ⟨P, g⟩ => hO g.sizes, ?_⟩
    have hn := h2 hO
    unfold churnref12_Pattern.f
    exact ev_bind e (ev_pos (by omega) (hend _ rfl))
theorem Good.ref {s ds : List Int} {P : List (Nat × Int)} (g : Good s ds P) : Ev (fun k => churnref12_Pattern.f k s ds) (fsts P, allOff s.length P, 0) := by
  have hl := g.le
  have hm := g.sizes.most
  rcases ref_good_or s ds (by omega) (by omega) with ⟨Q, h1, h2⟩ | ⟨h1, _⟩
  · rw [g.pat.unique g.sizes.nonneg h1.pat]
    exact h2
  · exact absurd ⟨P, g⟩ h1
theorem Good.exists {s ds : List Int} (h : OkD s ds) : ∃ P, Good s ds P := by
  obtain ⟨P, hP⟩ := pat_exists ds s h.1.nonneg (fun i hi => by
    have := h.2.2 i hi
    have e := h.2.1
    omega)
  exact ⟨P, h.1, h.2.1, hP⟩
end Go.Proofs.Ytiefmocfgneldaa.Pl
