/- The printed Pattern and Draws of braid, told by the one relation between draws and pairs. -/
import Derived.Test.YtiefmocfgneldaaBraid1
import Derived.Test.YtiefmocfgneldaaQx7
import Derived.Test.YtiefmocfgneldaaQx8
import Derived.Test.YtiefmocfgneldaaQx19
set_option linter.unusedVariables false
set_option linter.unusedSimpArgs false
namespace Go.Proofs.Ytiefmocfgneldaa.Pl
open Go.RowKit Go.Proofs.Ytiefmocfgneldaa.Q Go.Proofs.YtiefmocfgneldaaW.PrintWords Go.Proofs.YtiefmocfgneldaaW.PrintLast

/-- Sizes of chunks. -/
structure OkS (s : List Int) : Prop where
  one : 1 ≤ s.length
  most : s.length ≤ 64
  each : ∀ x ∈ s, 0 ≤ x ∧ x ≤ 256
  all : Go.Proofs.Ytiefmocfgneldaa.Pl.total s ≤ 256
theorem OkS.nonneg {s : List Int} (h : OkS s) : Nonneg s := fun x hx => (h.each x hx).1
theorem psum_up (s : List Int) (hb : ∀ x ∈ s, 0 ≤ x ∧ x ≤ 256) : ∀ i : Nat, i ≤ s.length → 0 ≤ psum s i ∧ psum s i ≤ 256 * i := by
  intro i
  induction i with
  | zero => intro _; simp [psum_zero]
  | succ i ih =>
    intro hi
    have h1 := ih (by omega)
    have h2 := hb _ (List.getElem_mem (show i < s.length by omega))
    have h3 := psum_succ s i (by omega)
    omega
theorem total_ev (s : List Int) (hl : s.length ≤ 9223372036854775000) : ∃ (n : Int) (b : Bool), Ev (fun k => braid_total.f k s) (n, b) ∧ (b = true ↔ OkS s) ∧ (OkS s → n = total s) := by
  unfold braid_total.f
  by_cases h1 : s.length < 1
  · exact ⟨0, false, ev_pos (by omega) (Ev.step (f := fun _ => some (0, false)) (fun k => by rw [braid_total.j0, if_pos rfl]) (Ev.now _)), by simp; intro h; have := h.one; omega, fun h => by have := h.one; omega⟩
  · by_cases h2 : s.length > 64
    · exact ⟨0, false, ev_neg (by omega) (Ev.step (f := fun _ => some (0, false)) (fun k => by rw [braid_total.j0, if_pos (by simp; omega)]) (Ev.now _)), by simp; intro h; have := h.most; omega, fun h => by have := h.most; omega⟩
    · have key : ∀ (d i : Nat), i + d = s.length → (∀ x ∈ s.take i, 0 ≤ x ∧ x ≤ 256) → ∃ (n : Int) (b : Bool), Ev (fun k => braid_total.l0 k (psum s i) s (s.length : Int) (i : Int)) (n, b) ∧ (b = true ↔ OkS s) ∧ (OkS s → n = total s) := by
        intro d
        induction d with
        | zero =>
          intro i hi hb
          rw [List.take_of_length_le (by omega)] at hb
          refine ⟨psum s i, decide (psum s i ≤ 256), Ev.step (f := fun _ => some (psum s i, decide (psum s i ≤ 256))) (fun k => by rw [braid_total.l0, if_neg (by omega)]) (Ev.now _), ?_, fun _ => psum_all s i (by omega)⟩
          rw [psum_all s i (by omega)]
          exact ⟨fun h => ⟨by omega, by omega, hb, by simpa using h⟩, fun h => by simpa using h.all⟩
        | succ d ih =>
          intro i hi hb
          have hm := rd_mem s (i : Int) (by simp; omega)
          have hlt : i < s.length := by omega
          by_cases c1 : rd s (i : Int) < 0
          · exact ⟨0, false, Ev.step (f := fun _ => some (0, false)) (fun k => by rw [braid_total.l0, if_pos (by omega), if_pos (by omega), if_pos (by omega), if_pos c1]) (Ev.now _), by simp; intro h; have := (h.each _ hm).1; omega, fun h => by have := (h.each _ hm).1; omega⟩
          · by_cases c2 : rd s (i : Int) > 256
            · exact ⟨0, false, Ev.step (f := fun _ => some (0, false)) (fun k => by rw [braid_total.l0, if_pos (by omega), if_pos (by omega), if_pos (by omega), if_neg c1, if_pos c2]) (Ev.now _), by simp; intro h; have := (h.each _ hm).2; omega, fun h => by have := (h.each _ hm).2; omega⟩
            · have hb' : ∀ x ∈ s.take (i + 1), 0 ≤ x ∧ x ≤ 256 := by
                rw [take_rd s i hlt]
                intro x hx
                rcases List.mem_append.1 hx with hx | hx
                · exact hb x hx
                · have := List.mem_singleton.1 hx; subst this; omega
              obtain ⟨n, b, e, r⟩ := ih (i + 1) (by omega) hb'
              have hps : psum s (i + 1) = psum s i + rd s (i : Int) := by rw [psum_succ s i hlt, rd_lt s i hlt]
              have hup := psum_up (s.take (i + 1)) hb' (i + 1) (by rw [List.length_take]; omega)
              have hpp : psum (s.take (i + 1)) (i + 1) = psum s (i + 1) := by unfold psum; rw [List.take_take, Nat.min_self]
              rw [hpp] at hup
              have hpos : 0 ≤ psum s i := by
                have := psum_up (s.take (i + 1)) hb' i (by rw [List.length_take]; omega)
                have hq : psum (s.take (i + 1)) i = psum s i := by unfold psum; rw [List.take_take, Nat.min_eq_left (by omega)]
                rw [hq] at this
                exact this.1
              refine ⟨n, b, Ev.step (fun k => ?_) e, r⟩
              rw [braid_total.l0, if_pos (by omega), if_pos (by omega), if_pos (by omega), if_neg c1, if_neg c2, w64 (by omega) (by omega), w64 (by omega) (by omega), hps]
              rfl
      obtain ⟨n, b, e, r⟩ := key s.length 0 (by omega) (by simp)
      refine ⟨n, b, ev_neg (by omega) (Ev.step (fun k => ?_) e), r⟩
      rw [braid_total.j0, if_neg (by simp; omega)]
      simp [psum_zero]

def fsts (P : List (Nat × Int)) : List Int := P.map fun x => (x.1 : Int)
theorem fsts_append (P Q : List (Nat × Int)) : fsts (P ++ Q) = fsts P ++ fsts Q := by simp [fsts]
theorem vis_append (j : Nat) (P Q : List (Nat × Int)) : vis j (P ++ Q) = vis j P ++ vis j Q := by simp [vis]
def visits (m : Nat) (P : List (Nat × Int)) : List (List Int) := (List.range m).map fun j => vis j P
theorem visits_len (m : Nat) (P : List (Nat × Int)) : (visits m P).length = m := by simp [visits]
theorem visits_get (m : Nat) (P : List (Nat × Int)) (j : Nat) (hj : j < m) : rd_L3 (visits m P) (j : Int) = vis j P := by simp [rd_L3, visits, hj]
theorem visits_set (m : Nat) (P : List (Nat × Int)) (j : Nat) (hj : j < m) (o : Int) : (visits m P).set j (vis j P ++ [o]) = visits m (P ++ [(j, o)]) := by
  apply List.ext_getElem
  · simp [visits]
  · intro i h1 h2
    rw [List.getElem_set]
    have hi : i < m := by simpa [visits] using h2
    by_cases e : j = i
    · subst e; simp [visits, vis_append, vis_cons, vis_nil]
    · simp [visits, vis_append, vis_cons, vis_nil, e]
theorem visits_nil (m : Nat) : visits m [] = List.replicate m [] := by
  apply List.ext_getElem
  · simp [visits]
  · intro i h1 h2; simp [visits, vis_nil]
theorem vis_le (j : Nat) (P : List (Nat × Int)) : (vis j P).length ≤ P.length := by
  unfold vis
  rw [List.length_map]
  exact List.length_filter_le _ _
theorem allOff_le (P : List (Nat × Int)) (m : Nat) : (allOff m P).length ≤ m * P.length := by
  induction m with
  | zero => simp [allOff]
  | succ m ih =>
    rw [allOff_succ, List.length_append, Nat.succ_mul]
    have := vis_le m P
    omega

/-- The last loop: the visits, one behind the other. -/
theorem pat_flat (c : List Int) (m : Nat) (P : List (Nat × Int)) (hm : m ≤ 64) (hP : P.length ≤ 256) : Ev (fun k => braid_Pattern.l2 k c [] (visits m P) ((visits m P).length : Int) 0) (c, allOff m P, 0) := by
  have key : ∀ (d i : Nat), i + d = m → Ev (fun k => braid_Pattern.l2 k c (allOff i P) (visits m P) ((visits m P).length : Int) (i : Int)) (c, allOff m P, 0) := by
    intro d
    induction d with
    | zero =>
      intro i hi
      have : i = m := by omega
      subst this
      exact Ev.step (f := fun _ => some (c, allOff i P, 0)) (fun k => by rw [braid_Pattern.l2, if_neg (by rw [visits_len]; omega)]) (Ev.now _)
    | succ d ih =>
      intro i hi
      have hlen := visits_len m P
      have h1 := vis_le i P
      have h2 := allOff_le P i
      have h3 : i * P.length ≤ 64 * 256 := Nat.mul_le_mul (by omega) hP
      refine Ev.step (fun k => ?_) (ih (i + 1) (by omega))
      rw [braid_Pattern.l2, if_pos (by omega), if_pos (by omega), if_pos (by omega), visits_get m P i (by omega), if_pos (by omega), w64 (by omega) (by omega), allOff_succ]
      rfl
  have := key m 0 (by omega)
  simpa [allOff] using this

/-- One draw's search through the chunks. -/
theorem pat_find (x4 : List Int) (n : Int) (left : List Int) (Pd : List (Nat × Int)) (ds : List Int) (i : Nat) (R : List Int × List Int × Int) (hn : Nonneg left) (hm : left.length ≤ 64) (ht : total left ≤ 256) (hx : x4.length ≤ 1000) (hPd : Pd.length ≤ 1000) (hi : i < ds.length) (hds : ds.length ≤ 256)
    (j : Nat) (hj : j < left.length) (o : Int) (o0 : 0 ≤ o) (o1 : o < left[j])
    (next : Ev (fun k => braid_Pattern.l0 k (x4 ++ [(j : Int)]) [] n (dec left j) (visits left.length (Pd ++ [(j, o)])) ds (ds.length : Int) ((i + 1 : Nat) : Int)) R) :
    ∀ (t a : Nat), a + t = j → Ev (fun k => braid_Pattern.l1 k x4 [] n left (visits left.length Pd) (psum left j + o - psum left a) (a : Int) ds (ds.length : Int) (i : Int)) R := by
  intro t
  induction t with
  | zero =>
    intro a ha
    have : a = j := by omega
    subst this
    have hv := visits_get left.length Pd a hj
    have hvl := vis_le a Pd
    have hr : rd left (a : Int) = left[a] := rd_lt left a hj
    have hlt := psum_total hn (a + 1)
    have hge := psum_nonneg hn a
    rw [psum_succ left a hj] at hlt
    have hpos := hn.at_ a hj
    refine Ev.step (fun k => ?_) next
    have hdec : left.set ((a : Int).toNat) (wrap64 (rd left (a : Int) - 1)) = dec left a := by
      rw [w64 (by rw [hr]; omega) (by rw [hr]; omega), hr]
      simp [dec, List.getD_eq_getElem?_getD, hj]
    rw [braid_Pattern.l1, if_pos (by omega), if_pos (by omega), if_neg (by rw [hr]; omega), if_pos (by omega), if_pos (by rw [visits_len]; omega), hv, if_pos (by omega), hdec, w64 (by omega) (by omega),
      show psum left a + o - psum left a = o from by omega, show ((a : Int).toNat) = a from by omega, visits_set left.length Pd a hj o]
    rfl
  | succ t ih =>
    intro a ha
    have hal : a < left.length := by omega
    have hr : rd left (a : Int) = left[a] := rd_lt left a hal
    have h1 := psum_succ left a hal
    have h2 := psum_le hn (a + 1) j (by omega)
    have h3 := psum_total hn (j + 1)
    rw [psum_succ left j hj] at h3
    have h4 := psum_nonneg hn a
    have h5 := hn.at_ a hal
    refine Ev.step (fun k => ?_) (ih (a + 1) (by omega))
    rw [braid_Pattern.l1, if_pos (by omega), if_pos (by omega), if_pos (by rw [hr]; omega), w64 (by rw [hr]; omega) (by rw [hr]; omega), w64 (by omega) (by omega), hr, h1,
      show psum left j + o - psum left a - left[a] = psum left j + o - (psum left a + left[a]) from by omega]
    rfl

theorem pat_loop (ds : List Int) (m : Nat) (hm : m ≤ 64) (hds : ds.length ≤ 256) : ∀ (rem i : Nat) (left : List Int) (Pd : List (Nat × Int)), i + rem = ds.length → total left = rem → Nonneg left → left.length = m → Pd.length = i →
    (∃ P, Pat left (ds.drop i) P ∧ Ev (fun k => braid_Pattern.l0 k (fsts Pd) [] (ds.length : Int) left (visits m Pd) ds (ds.length : Int) (i : Int)) (fsts (Pd ++ P), allOff m (Pd ++ P), 0)) ∨
    ((∃ t, i ≤ t ∧ ∃ h : t < ds.length, ds[t] < 0 ∨ (ds.length : Int) - t ≤ ds[t]) ∧ Ev (fun k => braid_Pattern.l0 k (fsts Pd) [] (ds.length : Int) left (visits m Pd) ds (ds.length : Int) (i : Int)) ([], [], 2)) := by
  intro rem
  induction rem with
  | zero =>
    intro i left Pd hi ht hn hl hPd
    left
    refine ⟨[], by rw [List.drop_of_length_le (by omega)]; exact .nil left, ?_⟩
    rw [List.append_nil]
    refine Ev.step (fun k => ?_) (pat_flat (fsts Pd) m Pd hm (by omega))
    rw [braid_Pattern.l0, if_neg (by omega)]
  | succ rem ih =>
    intro i left Pd hi ht hn hl hPd
    have hlt : i < ds.length := by omega
    have hr : rd ds (i : Int) = ds[i] := rd_lt ds i hlt
    have hw : wrap64 ((ds.length : Int) - (i : Int)) = (ds.length : Int) - i := w64 (by omega) (by omega)
    by_cases c1 : ds[i] < 0
    · right
      refine ⟨⟨i, by omega, hlt, .inl c1⟩, ?_⟩
      refine Ev.step (f := fun k => braid_Pattern.j2 k (fsts Pd) [] (ds.length : Int) left (visits m Pd) (rd ds (i : Int)) ds (ds.length : Int) (i : Int) true) (fun k => ?_) (Ev.step (f := fun _ => some ([], [], 2)) (fun k => by rw [braid_Pattern.j2, if_pos rfl]) (Ev.now _))
      rw [braid_Pattern.l0, if_pos (by omega), if_pos (by omega), if_pos (by omega), if_pos (by rw [hr]; exact c1)]
    · by_cases c2 : (ds.length : Int) - i ≤ ds[i]
      · right
        refine ⟨⟨i, by omega, hlt, .inr c2⟩, ?_⟩
        refine Ev.step (f := fun k => braid_Pattern.j2 k (fsts Pd) [] (ds.length : Int) left (visits m Pd) (rd ds (i : Int)) ds (ds.length : Int) (i : Int) true) (fun k => ?_) (Ev.step (f := fun _ => some ([], [], 2)) (fun k => by rw [braid_Pattern.j2, if_pos rfl]) (Ev.now _))
        rw [braid_Pattern.l0, if_pos (by omega), if_pos (by omega), if_pos (by omega), if_neg (by rw [hr]; exact c1), hw, decide_eq_true (show rd ds (i : Int) ≥ (ds.length : Int) - i by rw [hr]; exact c2)]
      · obtain ⟨j, hj, o, o0, o1, e⟩ := place_exists hn ds[i] (by omega) (by omega)
        have hdrop : ds.drop i = ds[i] :: ds.drop (i + 1) := List.drop_eq_getElem_cons hlt
        have hstep : ∀ R, Ev (fun k => braid_Pattern.l0 k (fsts (Pd ++ [(j, o)])) [] (ds.length : Int) (dec left j) (visits m (Pd ++ [(j, o)])) ds (ds.length : Int) ((i + 1 : Nat) : Int)) R →
            Ev (fun k => braid_Pattern.l0 k (fsts Pd) [] (ds.length : Int) left (visits m Pd) ds (ds.length : Int) (i : Int)) R := by
          intro R hR
          subst hl
          have hR' : Ev (fun k => braid_Pattern.l0 k (fsts Pd ++ [(j : Int)]) [] (ds.length : Int) (dec left j) (visits left.length (Pd ++ [(j, o)])) ds (ds.length : Int) ((i + 1 : Nat) : Int)) R := by
            rw [fsts_append] at hR
            exact hR
          have h0 := pat_find (fsts Pd) (ds.length : Int) left Pd ds i R hn (by omega) (by omega) (by simp [fsts]; omega) (by omega) hlt hds j hj o o0 o1 hR' j 0 (by omega)
          refine Ev.step (f := fun k => braid_Pattern.j2 k (fsts Pd) [] (ds.length : Int) left (visits left.length Pd) (rd ds (i : Int)) ds (ds.length : Int) (i : Int) false) (fun k => ?_) (Ev.step (fun k => ?_) h0)
          · rw [braid_Pattern.l0, if_pos (by omega), if_pos (by omega), if_pos (by omega), if_neg (by rw [hr]; exact c1), hw, decide_eq_false (show ¬ rd ds (i : Int) ≥ (ds.length : Int) - i by rw [hr]; exact c2)]
          · rw [braid_Pattern.j2, if_neg (by simp), hr, e, psum_zero, Int.sub_zero]
            rfl
        rcases ih (i + 1) (dec left j) (Pd ++ [(j, o)]) (by omega) (by rw [dec_total left j hj]; omega) (dec_nonneg hn j hj (by omega)) (by rw [dec_length]; exact hl) (by simp; omega) with ⟨P, hP, hE⟩ | ⟨⟨t, h1, h2, h3⟩, hE⟩
        · left
          refine ⟨(j, o) :: P, by rw [hdrop]; exact .cons hj o0 o1 e hP, ?_⟩
          have := hstep _ hE
          rwa [List.append_assoc, List.singleton_append] at this
        · right
          exact ⟨⟨t, by omega, h2, h3⟩, hstep _ hE⟩

/-- Draws that may be a pattern's. -/
def OkD (s ds : List Int) : Prop := OkS s ∧ (ds.length : Int) = total s ∧ ∀ (t : Nat) (h : t < ds.length), 0 ≤ ds[t] ∧ ds[t] < (ds.length : Int) - t
theorem pattern_bad (s ds : List Int) (hs : s.length ≤ 17592186044000) (hd : ds.length ≤ 17592186044000) (h : ¬ (OkS s ∧ (ds.length : Int) = total s)) : Ev (fun k => braid_Pattern.f k s ds) ([], [], 2) := by
  obtain ⟨n, b, e, hb, hn⟩ := total_ev s (by omega)
  unfold braid_Pattern.f
  refine ev_bind e ?_
  have hend : ∀ (x : Bool), x = true → Ev (fun k => braid_Pattern.j0 k s ds ([] : List Int) ([] : List Int) n x) ([], [], 2) := fun x hx => Ev.step (f := fun _ => some ([], [], 2)) (fun k => by rw [braid_Pattern.j0, if_pos hx]) (Ev.now _)
  by_cases hb' : b = true
  · refine ev_pos hb' (hend _ ?_)
    have ho := hb.1 hb'
    have := hn ho
    rw [bne_iff_ne]
    exact fun e => h ⟨ho, by rw [← this]; exact e⟩
  · exact ev_neg hb' (hend _ rfl)
theorem pattern_good (s ds : List Int) (hs : OkS s) (hl : (ds.length : Int) = total s) : (∃ P, Pat s ds P ∧ Ev (fun k => braid_Pattern.f k s ds) (fsts P, allOff s.length P, 0)) ∨ (¬ OkD s ds ∧ Ev (fun k => braid_Pattern.f k s ds) ([], [], 2)) := by
  have hm := hs.most
  obtain ⟨n, b, e, hb, hn⟩ := total_ev s (by omega)
  have hbt := hb.2 hs
  have hnt := hn hs
  subst hbt
  have hal := hs.all
  have hin : ∀ R, Ev (fun k => braid_Pattern.l0 k (fsts []) [] (ds.length : Int) s (visits s.length []) ds (ds.length : Int) ((0 : Nat) : Int)) R → Ev (fun k => braid_Pattern.f k s ds) R := by
    intro R hR
    unfold braid_Pattern.f
    refine ev_bind e (ev_pos rfl (Ev.step (fun k => ?_) hR))
    rw [braid_Pattern.j0, if_neg (by simp; omega)]
    simp only [Option.bind_some, List.nil_append, List.length_nil]
    rw [if_pos (by omega), if_pos (by omega), if_pos (by omega), visits_nil, show ((s.length : Int).toNat) = s.length from by omega, show n = (ds.length : Int) from by omega]
    rfl
  rcases pat_loop ds s.length hm (by omega) ds.length 0 s [] (by omega) (by omega) hs.nonneg rfl rfl with ⟨P, hP, hE⟩ | ⟨⟨t, h1, h2, h3⟩, hE⟩
  · left
    rw [List.nil_append] at hE
    exact ⟨P, by simpa using hP, hin _ hE⟩
  · right
    refine ⟨fun h => ?_, hin _ hE⟩
    have := h.2.2 t h2
    omega
end Go.Proofs.Ytiefmocfgneldaa.Pl
