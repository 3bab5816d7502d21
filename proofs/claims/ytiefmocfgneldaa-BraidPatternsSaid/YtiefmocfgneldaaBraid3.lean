/- The printed Draws of braid: told by the relation between draws and pairs; what it refuses is told by none. -/
import Derived.Test.YtiefmocfgneldaaBraid2
set_option linter.unusedVariables false
set_option linter.unusedSimpArgs false
namespace Go.Proofs.Ytiefmocfgneldaa.Pl
open Go.RowKit Go.Proofs.Ytiefmocfgneldaa.Q Go.Proofs.YtiefmocfgneldaaW.PrintWords Go.Proofs.YtiefmocfgneldaaW.PrintLast

def tab (m : Nat) (f : Nat → Int) : List Int := (List.range m).map f
theorem tab_len (m : Nat) (f : Nat → Int) : (tab m f).length = m := by simp [tab]
theorem tab_rd (m : Nat) (f : Nat → Int) (j : Nat) (hj : j < m) : rd (tab m f) (j : Int) = f j := by simp [rd, tab, hj]
theorem tab_set (m : Nat) (f : Nat → Int) (j : Nat) (v : Int) : (tab m f).set j v = tab m (fun i => if i = j then v else f i) := by
  apply List.ext_getElem
  · simp [tab]
  · intro i h1 h2
    rw [List.getElem_set]
    by_cases e : j = i
    · subst e; simp [tab]
    · simp [tab, e, Ne.symm e]
theorem tab_congr (m : Nat) (f g : Nat → Int) (h : ∀ j, j < m → f j = g j) : tab m f = tab m g := by
  unfold tab
  exact List.map_congr_left fun j hj => h j (List.mem_range.1 hj)

/-- The pairs of a pattern with offsets, if it is one. -/
def Told (l : List Int) (nx : Nat → Nat) (c off ds : List Int) (P : List (Nat × Int)) : Prop := Pat l ds P ∧ fsts P = c ∧ Rdo nx off P
theorem Told.head {l : List Int} {nx : Nat → Nat} {x : Int} {c off ds : List Int} {P : List (Nat × Int)} (h : Told l nx (x :: c) off ds P) :
    ∃ (j : Nat) (hj : j < l.length) (o : Int) (es : List Int) (Q : List (Nat × Int)), x = (j : Int) ∧ o = off.getD (nx j) 0 ∧ 0 ≤ o ∧ o < l[j] ∧ ds = (psum l j + o) :: es ∧ P = (j, o) :: Q ∧ Told (dec l j) (fun i => if i = j then nx j + 1 else nx i) c off es Q := by
  obtain ⟨h1, h2, h3⟩ := h
  cases h1 with
  | nil => simp [fsts] at h2
  | @cons _ es Q d o j hj h0 h1 hd t =>
    obtain ⟨a, b⟩ := h3.uncons
    simp [fsts] at h2
    exact ⟨j, hj, o, es, Q, h2.1.symm, a, h0, h1, by rw [hd], rfl, t, by simp [fsts]; exact h2.2, b⟩

/-- The sum of what stands ahead of a chunk is added to the offset. -/
theorem draws_sum (s off left nxl out c : List Int) (j : Nat) (o : Int) (n i : Int) (R : List Int × Int) (hj : j < left.length) (hn : Nonneg left) (hb : total left ≤ 256) (hm : left.length ≤ 64) (h0 : 0 ≤ o) (h1 : o ≤ 256)
    (next : Ev (fun k => if out.length < 17592186044416 then (if 0 ≤ (j : Int) then (if (j : Int) < (left.length : Int) then (if (j : Int) < (nxl.length : Int) then (braid_Draws.l1 k s off (left.set ((j : Int) : Int).toNat (wrap64 ((rd left (j : Int)) - 1))) (nxl.set ((j : Int) : Int).toNat (wrap64 ((rd nxl (j : Int)) + 1))) (out ++ [psum left j + o]) c n (wrap64 (i + 1))) else (none)) else (none)) else (none)) else (none)) R) :
    Ev (fun k => braid_Draws.l2 k s off left nxl out (j : Int) o c n i (left.take j) ((left.take j).length : Int) 0) R := by
  have key : ∀ (t a : Nat), a + t = j → Ev (fun k => braid_Draws.l2 k s off left nxl out (j : Int) (psum left a + o) c n i (left.take j) ((left.take j).length : Int) (a : Int)) R := by
    intro t
    induction t with
    | zero =>
      intro a ha
      have : a = j := by omega
      subst this
      refine Ev.step (fun k => ?_) next
      rw [braid_Draws.l2, if_neg (by rw [List.length_take]; omega)]
    | succ t ih =>
      intro a ha
      have hlt : (left.take j).length = j := by rw [List.length_take]; omega
      have hr : rd (left.take j) (a : Int) = left[a] := by
        rw [rd_lt _ a (by omega)]
        simp
      have h2 := psum_succ left a (by omega)
      have h3 := psum_nonneg hn a
      have h4 := psum_total hn (a + 1)
      have h5 := hn.at_ a (by omega)
      refine Ev.step (fun k => ?_) (ih (a + 1) (by omega))
      rw [braid_Draws.l2, if_pos (by omega), if_pos (by omega), if_pos (by omega), hr, w64 (by omega) (by omega), w64 (by omega) (by omega), h2, show psum left a + o + left[a] = psum left a + left[a] + o from by omega]
      rfl
  have := key j 0 (by omega)
  rw [psum_zero, Int.zero_add] at this
  exact this

theorem draws_loop (s off c : List Int) (m : Nat) (hs : s.length = m) (hm : m ≤ 64) (hc : c.length ≤ 256) (hoff : off.length ≤ 256) (hsn : Nonneg s) (hso : total s ≤ off.length) :
    ∀ (rem i : Nat) (left : List Int) (nx : Nat → Nat) (out : List Int), i + rem = c.length → Nonneg left → total left ≤ 256 → left.length = m → out.length ≤ 256 → (∀ x ∈ left, x ≤ 256) → (∀ j, j < m → (nx j : Int) + left.getD j 0 = psum s (j + 1)) → out.length = i →
    (∃ ds P, Told left nx (c.drop i) off ds P ∧ Ev (fun k => braid_Draws.l1 k s off left (tab m fun j => nx j) out c (c.length : Int) (i : Int)) (out ++ ds, 0)) ∨
    ((¬ ∃ ds P, Told left nx (c.drop i) off ds P) ∧ Ev (fun k => braid_Draws.l1 k s off left (tab m fun j => nx j) out c (c.length : Int) (i : Int)) ([], 2)) := by
  intro rem
  induction rem with
  | zero =>
    intro i left nx out hi hn hb hl ho hmx hnx hout
    left
    refine ⟨[], [], ⟨.nil left, by rw [List.drop_of_length_le (by omega)]; rfl, fun j k hk => by simp [vis_nil] at hk⟩, ?_⟩
    rw [List.append_nil]
    exact Ev.step (f := fun _ => some (out, 0)) (fun k => by rw [braid_Draws.l1, if_neg (by omega)]) (Ev.now _)
  | succ rem ih =>
    intro i left nx out hi hn hb hl ho hmx hnx hout
    have hlt : i < c.length := by omega
    have hr : rd c (i : Int) = c[i] := rd_lt c i hlt
    have hdrop : c.drop i = c[i] :: c.drop (i + 1) := List.drop_eq_getElem_cons hlt
    have bad3 : ∀ x : Bool, x = true → Ev (fun k => braid_Draws.j3 k s off left (tab m fun j => nx j) out c[i] c (c.length : Int) (i : Int) x) ([], 2) := fun x hx => Ev.step (f := fun _ => some ([], 2)) (fun k => by rw [braid_Draws.j3, if_pos hx]) (Ev.now _)
    by_cases c1 : c[i] < 0
    · right
      refine ⟨?_, Ev.step (fun k => ?_) (bad3 true rfl)⟩
      · rintro ⟨ds, P, h⟩
        rw [hdrop] at h
        obtain ⟨j, hj, o, es, Q, e, _⟩ := h.head
        omega
      · rw [braid_Draws.l1, if_pos (by omega), if_pos (by omega), if_pos (by omega), hr, if_pos c1]
    · by_cases c2 : c[i] ≥ (s.length : Int)
      · right
        refine ⟨?_, Ev.step (fun k => ?_) (bad3 true rfl)⟩
        · rintro ⟨ds, P, h⟩
          rw [hdrop] at h
          obtain ⟨j, hj, o, es, Q, e, _⟩ := h.head
          omega
        · rw [braid_Draws.l1, if_pos (by omega), if_pos (by omega), if_pos (by omega), hr, if_neg c1, if_pos c2]
      · obtain ⟨j, hj⟩ : ∃ j : Nat, c[i] = (j : Int) := ⟨c[i].toNat, by omega⟩
        have hjm : j < m := by omega
        have hjl : j < left.length := by omega
        have hrl : rd left (j : Int) = left[j] := rd_lt left j hjl
        have hrn : rd (tab m fun j => (nx j : Int)) (j : Int) = (nx j : Int) := tab_rd m _ j hjm
        have htl := tab_len m fun j => (nx j : Int)
        have hgl : left.getD j 0 = left[j] := by simp [List.getD_eq_getElem?_getD, hjl]
        have hpos := hn.at_ j hjl
        have hjx := hnx j hjm
        have hps := psum_total hsn (j + 1)
        have hmj := hmx _ (List.getElem_mem hjl)
        have step3 : ∀ R, Ev (fun k => braid_Draws.j3 k s off left (tab m fun j => nx j) out (j : Int) c (c.length : Int) (i : Int) (left[j] == 0)) R → Ev (fun k => braid_Draws.l1 k s off left (tab m fun j => nx j) out c (c.length : Int) (i : Int)) R := by
          intro R hR
          refine Ev.step (fun k => ?_) hR
          rw [braid_Draws.l1, if_pos (by omega), if_pos (by omega), if_pos (by omega), hr, hj, if_neg (by omega), if_neg (by omega), if_pos (by omega), if_pos (by omega), hrl]
        by_cases c3 : left[j] = 0
        · right
          refine ⟨?_, step3 _ (by rw [← hj]; exact bad3 _ (by simpa using c3))⟩
          rintro ⟨ds, P, h⟩
          rw [hdrop] at h
          obtain ⟨j', hj', o, es, Q, e, eo, o0, o1, _⟩ := h.head
          have : j' = j := by omega
          subst this
          omega
        · have hno : nx j < off.length := by omega
          have hro : rd off (nx j : Int) = off[nx j] := rd_lt off (nx j) hno
          have hgo : off.getD (nx j) 0 = off[nx j] := by simp [List.getD_eq_getElem?_getD, hno]
          have c3' : (left[j] == 0) = false := by simpa using c3
          have bad4 : ∀ x : Bool, x = true → Ev (fun k => braid_Draws.j4 k s off left (tab m fun j => nx j) out (j : Int) off[nx j] c (c.length : Int) (i : Int) x) ([], 2) := fun x hx => Ev.step (f := fun _ => some ([], 2)) (fun k => by rw [braid_Draws.j4, if_pos hx]) (Ev.now _)
          by_cases c4 : off[nx j] < 0
          · right
            refine ⟨?_, step3 _ (Ev.step (fun k => ?_) (bad4 true rfl))⟩
            · rintro ⟨ds, P, h⟩
              rw [hdrop] at h
              obtain ⟨j', hj', o, es, Q, e, eo, o0, o1, _⟩ := h.head
              have : j' = j := by omega
              subst this
              omega
            · rw [braid_Draws.j3, if_neg (by simp [c3]), if_pos (by omega), if_pos (by omega), hrn, if_pos (by omega), if_pos (by omega), hro, if_pos c4]
          · have step4 : ∀ R, Ev (fun k => braid_Draws.j4 k s off left (tab m fun j => nx j) out (j : Int) off[nx j] c (c.length : Int) (i : Int) (decide (off[nx j] ≥ left[j]))) R → Ev (fun k => braid_Draws.l1 k s off left (tab m fun j => nx j) out c (c.length : Int) (i : Int)) R := by
              intro R hR
              refine step3 _ (Ev.step (fun k => ?_) hR)
              rw [braid_Draws.j3, if_neg (by simp [c3]), if_pos (by omega), if_pos (by omega), hrn, if_pos (by omega), if_pos (by omega), hro, if_neg c4, if_pos (by omega), hrl]
            by_cases c5 : off[nx j] ≥ left[j]
            · right
              refine ⟨?_, step4 _ (bad4 _ (by simpa using c5))⟩
              rintro ⟨ds, P, h⟩
              rw [hdrop] at h
              obtain ⟨j', hj', o, es, Q, e, eo, o0, o1, _⟩ := h.head
              have : j' = j := by omega
              subst this
              omega
            · have hdec : left.set j (wrap64 (left[j] - 1)) = dec left j := by
                rw [w64 (by omega) (by omega)]
                unfold dec
                rw [hgl]
              have hnxs : (tab m fun j => (nx j : Int)).set j (wrap64 ((nx j : Int) + 1)) = tab m (fun i => ((if i = j then nx j + 1 else nx i : Nat) : Int)) := by
                rw [w64 (by omega) (by omega), tab_set]
                refine tab_congr m _ _ fun a ha => ?_
                by_cases e : a = j
                · simp [e]
                · simp [e]
              have step5 : ∀ R, Ev (fun k => braid_Draws.l1 k s off (dec left j) (tab m (fun i => ((if i = j then nx j + 1 else nx i : Nat) : Int))) (out ++ [psum left j + off[nx j]]) c (c.length : Int) ((i + 1 : Nat) : Int)) R →
                  Ev (fun k => braid_Draws.l1 k s off left (tab m fun j => nx j) out c (c.length : Int) (i : Int)) R := by
                intro R hR
                have h6 := draws_sum s off left (tab m fun j => (nx j : Int)) out c j off[nx j] (c.length : Int) (i : Int) R hjl hn hb (by omega) (by omega) (by omega) (by
                  refine ev_pos (by omega) (ev_pos (by omega) (ev_pos (by omega) (ev_pos (by omega) ?_)))
                  rw [hrl, hrn, show ((j : Int) : Int).toNat = j from by omega, hdec, hnxs, w64 (by omega) (by omega)]
                  exact hR)
                refine step4 _ (Ev.step (fun k => ?_) h6)
                rw [braid_Draws.j4, if_neg (by simp; omega), if_pos (by omega), if_pos (by omega), show ((j : Int) : Int).toNat = j from by omega]
                rfl
              have hnn := dec_nonneg hn j hjl (by omega)
              rcases ih (i + 1) (dec left j) (fun a => if a = j then nx j + 1 else nx a) (out ++ [psum left j + off[nx j]]) (by omega) hnn (by rw [dec_total left j hjl]; omega) (by rw [dec_length]; exact hl) (by simp; omega) (by
                  intro x hx
                  obtain ⟨a, ha, rfl⟩ := List.getElem_of_mem hx
                  rw [dec_length] at ha
                  rw [dec_get left j a ha]
                  have := hmx _ (List.getElem_mem ha)
                  split <;> omega) (by
                  intro a ha
                  rw [dec_getD left j a (by omega)]
                  have := hnx a ha
                  by_cases e : a = j
                  · subst e
                    simp only [if_true]
                    omega
                  · simp only [if_neg e, if_neg (Ne.symm e)]
                    exact this) (by simp; omega) with ⟨ds, P, hP, hE⟩ | ⟨hP, hE⟩
              · left
                refine ⟨(psum left j + off[nx j]) :: ds, (j, off[nx j]) :: P, ?_, ?_⟩
                · rw [hdrop]
                  exact ⟨.cons hjl (by omega) (by omega) rfl hP.1, by simp only [fsts, List.map_cons]; rw [← hj]; have := hP.2.1; unfold fsts at this; rw [this], Rdo.cons hgo.symm hP.2.2⟩
                · have := step5 _ hE
                  rwa [List.append_assoc, List.singleton_append] at this
              · right
                refine ⟨?_, step5 _ hE⟩
                rintro ⟨ds, P, h⟩
                rw [hdrop] at h
                obtain ⟨j', hj', o, es, Q, e, eo, o0, o1, _, _, ht⟩ := h.head
                have : j' = j := by omega
                subst this
                exact hP ⟨es, Q, ht⟩

theorem draws_bad (s c off : List Int) (hs : s.length ≤ 17592186044000) (hc : c.length ≤ 17592186044000) (ho : off.length ≤ 17592186044000) (h : ¬ (OkS s ∧ (c.length : Int) = total s ∧ (off.length : Int) = total s)) : Ev (fun k => braid_Draws.f k s c off) ([], 2) := by
  obtain ⟨n, b, e, hb, hn⟩ := total_ev s (by omega)
  unfold braid_Draws.f
  refine ev_bind e ?_
  have hend : ∀ (x : Bool), x = true → Ev (fun k => braid_Draws.j0 k s c off n x) ([], 2) := fun x hx => Ev.step (f := fun _ => some ([], 2)) (fun k => by rw [braid_Draws.j0, if_pos hx]) (Ev.now _)
  by_cases hb' : b = true
  · have hO := hb.1 hb'
    have hN := hn hO
    refine ev_pos hb' ?_
    by_cases h1 : (c.length : Int) = n
    · refine ev_pos h1 (hend _ ?_)
      rw [bne_iff_ne]
      intro h2
      exact h ⟨hO, by omega, by omega⟩
    · exact ev_neg h1 (hend _ rfl)
  · exact ev_neg hb' (hend _ rfl)

theorem draws_good (s c off : List Int) (hs : OkS s) (hc : (c.length : Int) = total s) (ho : (off.length : Int) = total s) :
    (∃ ds P, Told s (start s) c off ds P ∧ Ev (fun k => braid_Draws.f k s c off) (ds, 0)) ∨ ((¬ ∃ ds P, Told s (start s) c off ds P) ∧ Ev (fun k => braid_Draws.f k s c off) ([], 2)) := by
  have hm := hs.most
  have hal := hs.all
  have hone := hs.one
  obtain ⟨n, b, e, hb, hn⟩ := total_ev s (by omega)
  have hbt := hb.2 hs
  have hnt := hn hs
  subst hbt
  have hnn := hs.nonneg
  have hin : ∀ R, Ev (fun k => braid_Draws.l1 k s off s (tab s.length fun j => (start s j : Nat)) [] c (c.length : Int) ((0 : Nat) : Int)) R → Ev (fun k => braid_Draws.f k s c off) R := by
    intro R hR
    have key : ∀ (d a : Nat), a + d = s.length → 1 ≤ a → Ev (fun k => braid_Draws.l0 k s c off n s (tab s.length fun j => if j < a then psum s j else 0) (a : Int)) R := by
      intro d
      induction d with
      | zero =>
        intro a ha h1
        refine Ev.step (fun k => ?_) hR
        rw [braid_Draws.l0, if_neg (by omega), if_pos (by omega), if_pos (by omega)]
        have : (tab s.length fun j => if j < a then psum s j else 0) = tab s.length fun j => ((start s j : Nat) : Int) := tab_congr _ _ _ fun j hj => by
          have := psum_nonneg hnn j
          unfold start
          rw [if_pos (by omega)]
          omega
        rw [this]
        rfl
      | succ d ih =>
        intro a ha h1
        have htl := tab_len s.length fun j => if j < a then psum s j else 0
        have hw : wrap64 ((a : Int) - 1) = ((a - 1 : Nat) : Int) := by rw [w64 (by omega) (by omega)]; omega
        have h2 := psum_succ s (a - 1) (by omega)
        rw [show a - 1 + 1 = a from by omega] at h2
        have h3 := psum_nonneg hnn a
        have h4 := psum_total hnn a
        refine Ev.step (fun k => ?_) (ih (a + 1) (by omega) (by omega))
        rw [braid_Draws.l0, if_pos (by omega), hw, if_pos (by omega), if_pos (by omega), if_pos (by omega), if_pos (by omega), if_pos (by omega), tab_rd _ _ (a - 1) (by omega), rd_lt s (a - 1) (by omega), if_pos (by omega), ← h2, w64 (by omega) (by omega), w64 (by omega) (by omega),
          show ((a : Int) : Int).toNat = a from by omega, tab_set]
        have : (tab s.length fun i => if i = a then psum s a else if i < a then psum s i else 0) = tab s.length fun j => if j < a + 1 then psum s j else 0 := tab_congr _ _ _ fun j hj => by
          by_cases e : j = a
          · subst e; simp
          · by_cases e2 : j < a
            · simp [e, e2, show j < a + 1 from by omega]
            · simp [e, e2, show ¬ j < a + 1 from by omega]
        rw [this]
        rfl
    have h1 := key (s.length - 1) 1 (by omega) (by omega)
    unfold braid_Draws.f
    refine ev_bind e (ev_pos rfl (ev_pos (by omega) (Ev.step (fun k => ?_) h1)))
    rw [braid_Draws.j0, if_neg (by simp; omega)]
    simp only [Option.bind_some, List.nil_append, List.length_nil]
    have hrep : (tab s.length fun j => if j < 1 then psum s j else 0) = List.replicate s.length 0 := by
      apply List.ext_getElem
      · simp [tab]
      · intro i h1 h2
        simp only [tab, List.getElem_map, List.getElem_range, List.getElem_replicate]
        split
        · rename_i h
          rw [show i = 0 from by omega, psum_zero]
        · rfl
    rw [if_pos (by omega), if_pos (by omega), if_pos (by omega), show ((s.length : Int).toNat) = s.length from by omega, hrep]
    rfl
  rcases draws_loop s off c s.length rfl hm (by omega) (by omega) hnn (by omega) c.length 0 s (start s) [] (by omega) hnn hal rfl (by simp) (fun x hx => (hs.each x hx).2) (by
    intro j hj
    have := psum_nonneg hnn j
    rw [psum_succ s j hj]
    unfold start
    simp [List.getD_eq_getElem?_getD, hj]
    omega) rfl with ⟨ds, P, hP, hE⟩ | ⟨hP, hE⟩
  · left
    rw [List.nil_append] at hE
    exact ⟨ds, P, by simpa using hP, hin _ hE⟩
  · right
    exact ⟨by simpa using hP, hin _ hE⟩
end Go.Proofs.Ytiefmocfgneldaa.Pl
