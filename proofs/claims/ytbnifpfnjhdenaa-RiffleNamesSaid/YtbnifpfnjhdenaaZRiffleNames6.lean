/- Functions of the program as plain Lean functions, each with a proof that its call comes to just these answers, and the row that joins them to the given statement; no condition beside the statement's own. Written for this claim by this session's programs (pf.py, pack.py) over the kit's print. -/
import Derived.Test.YtbnifpfnjhdenaaZRiffleNames0
import Derived.Test.YtbnifpfnjhdenaaZRiffleNames1
import Derived.Test.YtbnifpfnjhdenaaZRiffleNames2
import Derived.Test.YtbnifpfnjhdenaaZRiffleNames3
import Derived.Test.YtbnifpfnjhdenaaZRiffleNames4
import Derived.Test.YtbnifpfnjhdenaaZRiffleNames5
section
set_option linter.unusedVariables false
set_option linter.unusedSimpArgs false
namespace Go.Proofs.Ytbnifpfnjhdenaa.Pl
open Go.RowKit Go.Proofs.Ytbnifpfnjhdenaa.Q Go.Proofs.YtbnifpfnjhdenaaW.PrintWords Go.Proofs.YtbnifpfnjhdenaaW.PrintLast
def tab (m : Nat) (f : Nat → Int) : List Int := (List.range m).map f
theorem tab_len (m : Nat) (f : Nat → Int) : (tab m f).length = m := by simp [tab]
theorem tab_rd (m : Nat) (f : Nat → Int) (j : Nat) (hj : j < m) : rd (tab m f) (j : Int) = f j := by simp [rd, tab, hj]
theorem tab_set (m : Nat) (f : Nat → Int) (j : Nat) (v : Int) : (tab m f).set j v = tab m (fun i => if i = j then v else f i) := by
 apply List.ext_getElem
 ·simp [tab]
 ·intro i h1 h2
  rw [List.getElem_set]
  by_cases e : j = i
  ·subst e; simp [tab]
  ·simp [tab, e, Ne.symm e]
theorem tab_congr (m : Nat) (f g : Nat → Int) (h : ∀ j, j < m → f j = g j) : tab m f = tab m g := by
 unfold tab
 exact List.map_congr_left fun j hj => h j (List.mem_range.1 hj)
def Told (l : List Int) (nx : Nat → Nat) (c off ds : List Int) (P : List (Nat × Int)) : Prop := Pat l ds P ∧ fsts P = c ∧ Rdo nx off P
theorem Told.head {l : List Int} {nx : Nat → Nat} {x : Int} {c off ds : List Int} {P : List (Nat × Int)} (h : Told l nx (x :: c) off ds P) :
  ∃ (j : Nat) (hj : j < l.length) (o : Int) (es : List Int) (Q : List (Nat × Int)), x = (j : Int) ∧ o = off.getD (nx j) 0 ∧ 0 ≤ o ∧ o < l[j] ∧ ds = (psum l j + o) :: es ∧ P = (j, o) :: Q ∧ Told (dec l j) (fun i => if i = j then nx j + 1 else nx i) c off es Q := by
 obtain ⟨h1, h2, h3⟩ := h
 cases h1 with
 | nil => simp [fsts] at h2
 | @cons _ es Q d o j hj h0 h1 hd t =>
  obtain ⟨a, b⟩ := h3.uncons
  simp [fsts] at h2
  exact ⟨j, hj, o, es, Q, h2.1.symm, a, h0, h1, by rw [hd], rfl, t, by simp [fsts]; exact h2.2, b⟩
theorem draws_sum (s off left nxl out c : List Int) (j : Nat) (o : Int) (n i : Int) (R : List Int × Int) (hj : j < left.length) (hn : Nonneg left) (hb : total left ≤ 256) (hm : left.length ≤ 64) (h0 : 0 ≤ o) (h1 : o ≤ 256)
  (next : Ev (fun k => if out.length < 17592186044416 then (if 0 ≤ (j : Int) then (if (j : Int) < (left.length : Int) then (if (j : Int) < (nxl.length : Int) then (braid_Draws.l1 k s off (left.set ((j : Int) : Int).toNat (wrap64 ((rd left (j : Int)) - 1))) (nxl.set ((j : Int) : Int).toNat (wrap64 ((rd nxl (j : Int)) + 1))) (out ++ [psum left j + o]) c n (wrap64 (i + 1))) else (none)) else (none)) else (none)) else (none)) R) :
  Ev (fun k => braid_Draws.l2 k s off left nxl out (j : Int) o c n i (left.take j) ((left.take j).length : Int) 0) R := by
 have key : ∀ (t a : Nat), a + t = j → Ev (fun k => braid_Draws.l2 k s off left nxl out (j : Int) (psum left a + o) c n i (left.take j) ((left.take j).length : Int) (a : Int)) R := by
  intro t
  induction t with
  | zero =>
   intro a ha
   have : a = j := by omega
   subst this
   refine Ev.step (fun k => ?_) next
   rw [braid_Draws.l2, if_neg (by rw [List.length_take]; omega)]
  | succ t ih =>
   intro a ha
   have hlt : (left.take j).length = j := by rw [List.length_take]; omega
   have hr : rd (left.take j) (a : Int) = left[a] := by
    rw [rd_lt _ a (by omega)]
    simp
   have h2 := psum_succ left a (by omega)
   have h3 := psum_nonneg hn a
   have h4 := psum_total hn (a + 1)
   have h5 := hn.at_ a (by omega)
   refine Ev.step (fun k => ?_) (ih (a + 1) (by omega))
   rw [braid_Draws.l2, if_pos (by omega), if_pos (by omega), if_pos (by omega), hr, w64 (by omega) (by omega), w64 (by omega) (by omega), h2, show psum left a + o + left[a] = psum left a + left[a] + o from by omega]
   rfl
 have := key j 0 (by omega)
 rw [psum_zero, Int.zero_add] at this
 exact this
theorem draws_loop (s off c : List Int) (m : Nat) (hs : s.length = m) (hm : m ≤ 64) (hc : c.length ≤ 256) (hoff : off.length ≤ 256) (hsn : Nonneg s) (hso : total s ≤ off.length) :
  ∀ (rem i : Nat) (left : List Int) (nx : Nat → Nat) (out : List Int), i + rem = c.length → Nonneg left → total left ≤ 256 → left.length = m → out.length ≤ 256 → (∀ x ∈ left, x ≤ 256) → (∀ j, j < m → (nx j : Int) + left.getD j 0 = psum s (j + 1)) → out.length = i →
  (∃ ds P, Told left nx (c.drop i) off ds P ∧ Ev (fun k => braid_Draws.l1 k s off left (tab m fun j => nx j) out c (c.length : Int) (i : Int)) (out ++ ds, 0)) ∨
  ((¬ ∃ ds P, Told left nx (c.drop i) off ds P) ∧ Ev (fun k => braid_Draws.l1 k s off left (tab m fun j => nx j) out c (c.length : Int) (i : Int)) ([], 2)) := by
 intro rem
 induction rem with
 | zero =>
  intro i left nx out hi hn hb hl ho hmx hnx hout
  left
  refine ⟨[], [], ⟨.nil left, by rw [List.drop_of_length_le (by omega)]; rfl, fun j k hk => by simp [vis_nil] at hk⟩, ?_⟩
  rw [List.append_nil]
  exact Ev.step (f := fun _ => some (out, 0)) (fun k => by rw [braid_Draws.l1, if_neg (by omega)]) (Ev.now _)
 | succ rem ih =>
  intro i left nx out hi hn hb hl ho hmx hnx hout
  have hlt : i < c.length := by omega
  have hr : rd c (i : Int) = c[i] := rd_lt c i hlt
  have hdrop : c.drop i = c[i] :: c.drop (i + 1) := List.drop_eq_getElem_cons hlt
  have bad3 : ∀ x : Bool, x = true → Ev (fun k => braid_Draws.j3 k s off left (tab m fun j => nx j) out c[i] c (c.length : Int) (i : Int) x) ([], 2) := fun x hx => Ev.step (f := fun _ => some ([], 2)) (fun k => by rw [braid_Draws.j3, if_pos hx]) (Ev.now _)
  by_cases c1 : c[i] < 0
  ·right
   refine ⟨?_, Ev.step (fun k => ?_) (bad3 true rfl)⟩
   ·rintro ⟨ds, P, h⟩
    rw [hdrop] at h
    obtain ⟨j, hj, o, es, Q, e, _⟩ := h.head
    omega
   ·rw [braid_Draws.l1, if_pos (by omega), if_pos (by omega), if_pos (by omega), hr, if_pos c1]
  ·by_cases c2 : c[i] ≥ (s.length : Int)
   ·right
    refine ⟨?_, Ev.step (fun k => ?_) (bad3 true rfl)⟩
    ·rintro ⟨ds, P, h⟩
     rw [hdrop] at h
     obtain ⟨j, hj, o, es, Q, e, _⟩ := h.head
     omega
    ·rw [braid_Draws.l1, if_pos (by omega), if_pos (by omega), if_pos (by omega), hr, if_neg c1, if_pos c2]
   ·obtain ⟨j, hj⟩ : ∃ j : Nat, c[i] = (j : Int) := ⟨c[i].toNat, by omega⟩
    have hjm : j < m := by omega
    have hjl : j < left.length := by omega
    have hrl : rd left (j : Int) = left[j] := rd_lt left j hjl
    have hrn : rd (tab m fun j => (nx j : Int)) (j : Int) = (nx j : Int) := tab_rd m _ j hjm
    have htl := tab_len m fun j => (nx j : Int)
    have hgl : left.getD j 0 = left[j] := by simp [List.getD_eq_getElem?_getD, hjl]
    have hpos := hn.at_ j hjl
    have hjx := hnx j hjm
    have hps := psum_total hsn (j + 1)
    have hmj := hmx _ (List.getElem_mem hjl)
    have step3 : ∀ R, Ev (fun k => braid_Draws.j3 k s off left (tab m fun j => nx j) out (j : Int) c (c.length : Int) (i : Int) (left[j] == 0)) R → Ev (fun k => braid_Draws.l1 k s off left (tab m fun j => nx j) out c (c.length : Int) (i : Int)) R := by
     intro R hR
     refine Ev.step (fun k => ?_) hR
     rw [braid_Draws.l1, if_pos (by omega), if_pos (by omega), if_pos (by omega), hr, hj, if_neg (by omega), if_neg (by omega), if_pos (by omega), if_pos (by omega), hrl]
    by_cases c3 : left[j] = 0
    ·right
     refine ⟨?_, step3 _ (by rw [← hj]; exact bad3 _ (by simpa using c3))⟩
     rintro ⟨ds, P, h⟩
     rw [hdrop] at h
     obtain ⟨j', hj', o, es, Q, e, eo, o0, o1, _⟩ := h.head
     have : j' = j := by omega
     subst this
     omega
    ·have hno : nx j < off.length := by omega
     have hro : rd off (nx j : Int) = off[nx j] := rd_lt off (nx j) hno
     have hgo : off.getD (nx j) 0 = off[nx j] := by simp [List.getD_eq_getElem?_getD, hno]
     have c3' : (left[j] == 0) = false := by simpa using c3
     have bad4 : ∀ x : Bool, x = true → Ev (fun k => braid_Draws.j4 k s off left (tab m fun j => nx j) out (j : Int) off[nx j] c (c.length : Int) (i : Int) x) ([], 2) := fun x hx => Ev.step (f := fun _ => some ([], 2)) (fun k => by rw [braid_Draws.j4, if_pos hx]) (Ev.now _)
     by_cases c4 : off[nx j] < 0
     ·right
      refine ⟨?_, step3 _ (Ev.step (fun k => ?_) (bad4 true rfl))⟩
      ·rintro ⟨ds, P, h⟩
       rw [hdrop] at h
       obtain ⟨j', hj', o, es, Q, e, eo, o0, o1, _⟩ := h.head
       have : j' = j := by omega
       subst this
       omega
      ·rw [braid_Draws.j3, if_neg (by simp [c3]), if_pos (by omega), if_pos (by omega), hrn, if_pos (by omega), if_pos (by omega), hro, if_pos c4]
     ·have step4 : ∀ R, Ev (fun k => braid_Draws.j4 k s off left (tab m fun j => nx j) out (j : Int) off[nx j] c (c.length : Int) (i : Int) (decide (off[nx j] ≥ left[j]))) R → Ev (fun k => braid_Draws.l1 k s off left (tab m fun j => nx j) out c (c.length : Int) (i : Int)) R := by
       intro R hR
       refine step3 _ (Ev.step (fun k => ?_) hR)
       rw [braid_Draws.j3, if_neg (by simp [c3]), if_pos (by omega), if_pos (by omega), hrn, if_pos (by omega), if_pos (by omega), hro, if_neg c4, if_pos (by omega), hrl]
      by_cases c5 : off[nx j] ≥ left[j]
      ·right
       refine ⟨?_, step4 _ (bad4 _ (by simpa using c5))⟩
       rintro ⟨ds, P, h⟩
       rw [hdrop] at h
       obtain ⟨j', hj', o, es, Q, e, eo, o0, o1, _⟩ := h.head
       have : j' = j := by omega
       subst this
       omega
      ·have hdec : left.set j (wrap64 (left[j] - 1)) = dec left j := by
        rw [w64 (by omega) (by omega)]
        unfold dec
        rw [hgl]
       have hnxs : (tab m fun j => (nx j : Int)).set j (wrap64 ((nx j : Int) + 1)) = tab m (fun i => ((if i = j then nx j + 1 else nx i : Nat) : Int)) := by
        rw [w64 (by omega) (by omega), tab_set]
        refine tab_congr m _ _ fun a ha => ?_
        by_cases e : a = j
        ·simp [e]
        ·simp [e]
       have step5 : ∀ R, Ev (fun k => braid_Draws.l1 k s off (dec left j) (tab m (fun i => ((if i = j then nx j + 1 else nx i : Nat) : Int))) (out ++ [psum left j + off[nx j]]) c (c.length : Int) ((i + 1 : Nat) : Int)) R →
         Ev (fun k => braid_Draws.l1 k s off left (tab m fun j => nx j) out c (c.length : Int) (i : Int)) R := by
        intro R hR
        have h6 := draws_sum s off left (tab m fun j => (nx j : Int)) out c j off[nx j] (c.length : Int) (i : Int) R hjl hn hb (by omega) (by omega) (by omega) (by
         refine ev_pos (by omega) (ev_pos (by omega) (ev_pos (by omega) (ev_pos (by omega) ?_)))
         rw [hrl, hrn, show ((j : Int) : Int).toNat = j from by omega, hdec, hnxs, w64 (by omega) (by omega)]
         exact hR)
        refine step4 _ (Ev.step (fun k => ?_) h6)
        rw [braid_Draws.j4, if_neg (by simp; omega), if_pos (by omega), if_pos (by omega), show ((j : Int) : Int).toNat = j from by omega]
        rfl
       have hnn := dec_nonneg hn j hjl (by omega)
       rcases ih (i + 1) (dec left j) (fun a => if a = j then nx j + 1 else nx a) (out ++ [psum left j + off[nx j]]) (by omega) hnn (by rw [dec_total left j hjl]; omega) (by rw [dec_length]; exact hl) (by simp; omega) (by
         intro x hx
         obtain ⟨a, ha, rfl⟩ := List.getElem_of_mem hx
         rw [dec_length] at ha
         rw [dec_get left j a ha]
         have := hmx _ (List.getElem_mem ha)
         split <;> omega) (by
         intro a ha
         rw [dec_getD left j a (by omega)]
         have := hnx a ha
         by_cases e : a = j
         ·subst e
          simp only [if_true]
          omega
         ·simp only [if_neg e, if_neg (Ne.symm e)]
          exact this) (by simp; omega) with ⟨ds, P, hP, hE⟩ | ⟨hP, hE⟩
       ·left
        refine ⟨(psum left j + off[nx j]) :: ds, (j, off[nx j]) :: P, ?_, ?_⟩
        ·rw [hdrop]
         exact ⟨.cons hjl (by omega) (by omega) rfl hP.1, by simp only [fsts, List.map_cons]; rw [← hj]; have := hP.2.1; unfold fsts at this; rw [this], Rdo.cons hgo.symm hP.2.2⟩
        ·have := step5 _ hE
         rwa [List.append_assoc, List.singleton_append] at this
       ·right
        refine ⟨?_, step5 _ hE⟩
        rintro ⟨ds, P, h⟩
        rw [hdrop] at h
        obtain ⟨j', hj', o, es, Q, e, eo, o0, o1, _, _, ht⟩ := h.head
        have : j' = j := by omega
        subst this
        exact hP ⟨es, Q, ht⟩
theorem draws_good (s c off : List Int) (hs : OkS s) (hc : (c.length : Int) = total s) (ho : (off.length : Int) = total s) :
  (∃ ds P, Told s (start s) c off ds P ∧ Ev (fun k => braid_Draws.f k s c off) (ds, 0)) ∨ ((¬ ∃ ds P, Told s (start s) c off ds P) ∧ Ev (fun k => braid_Draws.f k s c off) ([], 2)) := by
 have hm := hs.most
 have hal := hs.all
 have hone := hs.one
 obtain ⟨n, b, e, hb, hn⟩ := total_ev s (by omega)
 have hbt := hb.2 hs
 have hnt := hn hs
 subst hbt
 have hnn := hs.nonneg
 have hin : ∀ R, Ev (fun k => braid_Draws.l1 k s off s (tab s.length fun j => (start s j : Nat)) [] c (c.length : Int) ((0 : Nat) : Int)) R → Ev (fun k => braid_Draws.f k s c off) R := by
  intro R hR
  have key : ∀ (d a : Nat), a + d = s.length → 1 ≤ a → Ev (fun k => braid_Draws.l0 k s c off n s (tab s.length fun j => if j < a then psum s j else 0) (a : Int)) R := by
   intro d
   induction d with
   | zero =>
    intro a ha h1
    refine Ev.step (fun k => ?_) hR
    rw [braid_Draws.l0, if_neg (by omega), if_pos (by omega), if_pos (by omega)]
    have : (tab s.length fun j => if j < a then psum s j else 0) = tab s.length fun j => ((start s j : Nat) : Int) := tab_congr _ _ _ fun j hj => by
     have := psum_nonneg hnn j
     unfold start
     rw [if_pos (by omega)]
     omega
    rw [this]
    rfl
   | succ d ih =>
    intro a ha h1
    have htl := tab_len s.length fun j => if j < a then psum s j else 0
    have hw : wrap64 ((a : Int) - 1) = ((a - 1 : Nat) : Int) := by rw [w64 (by omega) (by omega)]; omega
    have h2 := psum_succ s (a - 1) (by omega)
    rw [show a - 1 + 1 = a from by omega] at h2
    have h3 := psum_nonneg hnn a
    have h4 := psum_total hnn a
    refine Ev.step (fun k => ?_) (ih (a + 1) (by omega) (by omega))
    rw [braid_Draws.l0, if_pos (by omega), hw, if_pos (by omega), if_pos (by omega), if_pos (by omega), if_pos (by omega), if_pos (by omega), tab_rd _ _ (a - 1) (by omega), rd_lt s (a - 1) (by omega), if_pos (by omega), ← h2, w64 (by omega) (by omega), w64 (by omega) (by omega),
     show ((a : Int) : Int).toNat = a from by omega, tab_set]
    have : (tab s.length fun i => if i = a then psum s a else if i < a then psum s i else 0) = tab s.length fun j => if j < a + 1 then psum s j else 0 := tab_congr _ _ _ fun j hj => by
     by_cases e : j = a
     ·subst e; simp
     ·by_cases e2 : j < a
      ·simp [e, e2, show j < a + 1 from by omega]
      ·simp [e, e2, show ¬ j < a + 1 from by omega]
    rw [this]
    rfl
  have h1 := key (s.length - 1) 1 (by omega) (by omega)
  unfold braid_Draws.f
  refine ev_bind e (ev_pos rfl (ev_pos (by omega) (Ev.step (fun k => ?_) h1)))
  rw [braid_Draws.j0, if_neg (by simp; omega)]
  simp only [Option.bind_some, List.nil_append, List.length_nil]
  have hrep : (tab s.length fun j => if j < 1 then psum s j else 0) = List.replicate s.length 0 := by
   apply List.ext_getElem
   ·simp [tab]
   ·intro i h1 h2
    simp only [tab, List.getElem_map, List.getElem_range, List.getElem_replicate]
    split
    ·rename_i h
     rw [show i = 0 from by omega, psum_zero]
    ·rfl
  rw [if_pos (by omega), if_pos (by omega), if_pos (by omega), show ((s.length : Int).toNat) = s.length from by omega, hrep]
  rfl
 rcases draws_loop s off c s.length rfl hm (by omega) (by omega) hnn (by omega) c.length 0 s (start s) [] (by omega) hnn hal rfl (by simp) (fun x hx => (hs.each x hx).2) (by
  intro j hj
  have := psum_nonneg hnn j
  rw [psum_succ s j hj]
  unfold start
  simp [List.getD_eq_getElem?_getD, hj]
  omega) rfl with ⟨ds, P, hP, hE⟩ | ⟨hP, hE⟩
 ·left
  rw [List.nil_append] at hE
  exact ⟨ds, P, by simpa using hP, hin _ hE⟩
 ·right
  exact ⟨by simpa using hP, hin _ hE⟩
end Go.Proofs.Ytbnifpfnjhdenaa.Pl
end
section
set_option linter.unusedVariables false
set_option linter.unusedSimpArgs false
namespace Go.Proofs.Ytbnifpfnjhdenaa.Pl
open Go.RowKit Go.Proofs.Ytbnifpfnjhdenaa.Q Go.Proofs.YtbnifpfnjhdenaaW.PrintWords Go.Proofs.YtbnifpfnjhdenaaW.PrintLast
structure Good (s ds : List Int) (P : List (Nat × Int)) : Prop where
 sizes : OkS s
 len : (ds.length : Int) = total s
 pat : Pat s ds P
theorem Good.le {s ds : List Int} {P : List (Nat × Int)} (g : Good s ds P) : ds.length ≤ 256 ∧ P.length = ds.length ∧ (fsts P).length = ds.length ∧ (allOff s.length P).length = ds.length := by
 have h1 := g.sizes.all
 have h2 := g.len
 have h3 := g.pat.len
 have h4 := allOff_len s.length P s (Nat.le_refl _) (g.pat.count g.sizes.nonneg h2.symm)
 rw [psum_all s s.length (Nat.le_refl _)] at h4
 exact ⟨by omega, h3, by simp [fsts]; exact h3, by omega⟩
theorem Good.pattern {s ds : List Int} {P : List (Nat × Int)} (g : Good s ds P) : Ev (fun k => braid_Pattern.f k s ds) (fsts P, allOff s.length P, 0) := by
 rcases pattern_good s ds g.sizes g.len with ⟨Q, h1, h2⟩ | ⟨h1, _⟩
 ·rw [g.pat.unique g.sizes.nonneg h1]
  exact h2
 ·refine absurd ⟨g.sizes, g.len, fun t ht => ?_⟩ h1
  have := g.pat.bound g.sizes.nonneg t ht
  rw [← g.len] at this
  exact this
theorem told_unique (off : List Int) : ∀ (A B : List (Nat × Int)) (nx : Nat → Nat), A.map (·.1) = B.map (·.1) → Rdo nx off A → Rdo nx off B → A = B := by
 intro A
 induction A with
 | nil => intro B nx e _ _; cases B with
  | nil => rfl
  | cons b B => simp at e
 | cons a A ih =>
  intro B nx e ha hb
  cases B with
  | nil => simp at e
  | cons b B =>
   obtain ⟨j, o⟩ := a
   obtain ⟨i, p⟩ := b
   simp only [List.map_cons, List.cons.injEq] at e
   obtain ⟨rfl, e2⟩ := e
   obtain ⟨a1, a2⟩ := ha.uncons
   obtain ⟨b1, b2⟩ := hb.uncons
   rw [a1, b1, ih B _ e2 a2 b2]
theorem Good.back {s ds : List Int} {P : List (Nat × Int)} (g : Good s ds P) : Ev (fun k => braid_Draws.f k s (fsts P) (allOff s.length P)) (ds, 0) := by
 have hle := g.le
 have hl := g.len
 have hT : Told s (start s) (fsts P) (allOff s.length P) ds P := ⟨g.pat, rfl, rdo_all g.sizes.nonneg g.pat g.len.symm⟩
 rcases draws_good s (fsts P) (allOff s.length P) g.sizes (by omega) (by omega) with ⟨es, Q, h1, h2⟩ | ⟨h1, _⟩
 ·have hPQ : P = Q := by
   have e1 : P.map (·.1) = Q.map (·.1) := by
    have := h1.2.1
    unfold fsts at this
    have h3 : ∀ (A B : List (Nat × Int)), A.map (fun x => (x.1 : Int)) = B.map (fun x => (x.1 : Int)) → A.map (·.1) = B.map (·.1) := by
     intro A
     induction A with
     | nil => intro B h; cases B with
      | nil => rfl
      | cons b B => simp at h
     | cons a A ih => intro B h; cases B with
      | nil => simp at h
      | cons b B =>
       simp only [List.map_cons, List.cons.injEq] at h ⊢
       exact ⟨by omega, ih B h.2⟩
    exact (h3 Q P this).symm
   exact told_unique _ _ _ _ e1 hT.2.2 h1.2.2
  subst hPQ
  rw [g.pat.draws h1.1]
  exact h2
 ·exact absurd ⟨ds, P, hT⟩ h1
theorem Good.inj {s ds es : List Int} {P Q : List (Nat × Int)} (g : Good s ds P) (g' : Good s es Q) (h1 : fsts P = fsts Q) (h2 : allOff s.length P = allOff s.length Q) : ds = es := by
 have a := g.back
 have b := g'.back
 rw [h1, h2] at a
 obtain ⟨K1, e1⟩ := a
 obtain ⟨K2, e2⟩ := b
 have x := e1 (max K1 K2) (Nat.le_max_left _ _)
 have y := e2 (max K1 K2) (Nat.le_max_right _ _)
 rw [x] at y
 exact congrArg Prod.fst (Option.some.inj y)
end Go.Proofs.Ytbnifpfnjhdenaa.Pl
end
section
set_option linter.unusedVariables false
set_option linter.unusedSimpArgs false
namespace Go.Proofs.Ytbnifpfnjhdenaa.Pl
open Go.RowKit Go.Proofs.Ytbnifpfnjhdenaa.Q Go.Proofs.YtbnifpfnjhdenaaW.PrintWords Go.Proofs.YtbnifpfnjhdenaaW.PrintLast
def szf (n m j : Nat) : Nat := n / m + (if j < n % m then 1 else 0)
def sz (n m : Nat) : List Int := tab m fun j => (szf n m j : Int)
theorem sz_len (n m : Nat) : (sz n m).length = m := tab_len _ _
theorem sizes_bad (n m : Int) (h : ¬ (0 ≤ n ∧ n ≤ 256 ∧ 1 ≤ m ∧ m ≤ 64)) : Ev (fun k => braid_Sizes.f k n m) ([], 2) := by
 have bad : ∀ b, b = true → Ev (fun k => braid_Sizes.j0 k n m b) ([], 2) := fun b hb => Ev.step (f := fun _ => some ([], 2)) (fun k => by rw [braid_Sizes.j0, if_pos hb]) (Ev.now _)
 unfold braid_Sizes.f
 by_cases h1 : n < 0
 ·exact ev_pos h1 (bad _ rfl)
 refine ev_neg h1 ?_
 by_cases h2 : n > 256
 ·exact ev_pos h2 (bad _ rfl)
 refine ev_neg h2 ?_
 by_cases h3 : m < 1
 ·exact ev_pos h3 (bad _ rfl)
 exact ev_neg h3 (bad _ (by simp; omega))
theorem sizes_good (n m : Nat) (hn : n ≤ 256) (h1 : 1 ≤ m) (h2 : m ≤ 64) : Ev (fun k => braid_Sizes.f k (n : Int) (m : Int)) (sz n m, 0) := by
 unfold braid_Sizes.f
 refine ev_neg (by omega) (ev_neg (by omega) (ev_neg (by omega) ?_))
 refine Ev.step (fun k => by rw [braid_Sizes.j0, if_neg (by simp; omega), if_pos (by omega), if_pos (by omega), Option.bind_some]) ?_
 have hd : n / m ≤ 256 := Nat.le_trans (Nat.div_le_self _ _) hn
 obtain ⟨q, hq⟩ : ∃ q, n / m = q := ⟨_, rfl⟩
 obtain ⟨r, hr0⟩ : ∃ r, n % m = r := ⟨_, rfl⟩
 have t1 : Int.tdiv (n : Int) (m : Int) = (q : Int) := by rw [← hq]; rfl
 have t2 : Int.tmod (n : Int) (m : Int) = (r : Int) := by rw [← hr0]; rfl
 have hz : ∀ j, (szf n m j : Int) = (q : Int) + (if j < r then 1 else 0) := fun j => by unfold szf; rw [hq, hr0]; split <;> simp
 rw [hq] at hd
 have key : ∀ (d i : Nat), i + d = m → Ev (fun k => braid_Sizes.l0 k (n : Int) (m : Int) (tab m fun j => if j < i then (szf n m j : Int) else 0) (m : Int) (i : Int)) (sz n m, 0) := by
  intro d
  induction d with
  | zero =>
   intro i hi
   have e : (tab m fun j => if j < i then (szf n m j : Int) else 0) = sz n m := tab_congr _ _ _ (fun j hj => by rw [if_pos (by omega)])
   rw [e]
   exact Ev.step (f := fun _ => some (sz n m, 0)) (fun k => by rw [braid_Sizes.l0, if_neg (by omega)]) (Ev.now _)
  | succ d ih =>
   intro i hi
   refine Ev.step (fun k => by rw [braid_Sizes.l0, if_pos (by omega), if_neg (by omega), if_pos (by omega), if_pos (by rw [tab_len]; omega), Option.bind_some, t1, t2, Int.toNat_natCast, tab_set, w64 (x := (q : Int)) (by omega) (by omega), w64 (x := (i : Int) + 1) (by omega) (by omega)]) ?_
   have next := ih (i + 1) (by omega)
   by_cases h : i < r
   ·refine ev_pos (by omega) ?_
    rw [tab_rd _ _ i (by omega), if_pos rfl, w64 (by omega) (by omega), tab_set]
    have e : (tab m fun j => if j = i then (q : Int) + 1 else if j = i then (q : Int) else if j < i then (szf n m j : Int) else 0) = tab m fun j => if j < i + 1 then (szf n m j : Int) else 0 :=
     tab_congr _ _ _ (fun j hj => by
      by_cases e1 : j = i
      ·subst e1
       rw [if_pos rfl, if_pos (by omega)]
       rw [hz]; simp [h]
      ·rw [if_neg e1, if_neg e1]
       by_cases e2 : j < i
       ·rw [if_pos e2, if_pos (by omega)]
       ·rw [if_neg e2, if_neg (by omega)])
    rw [e]
    exact next
   ·refine ev_neg (by omega) ?_
    have e : (tab m fun j => if j = i then (q : Int) else if j < i then (szf n m j : Int) else 0) = tab m fun j => if j < i + 1 then (szf n m j : Int) else 0 :=
     tab_congr _ _ _ (fun j hj => by
      by_cases e1 : j = i
      ·subst e1
       rw [if_pos rfl, if_pos (by omega)]
       rw [hz]; simp [h]
      ·rw [if_neg e1]
       by_cases e2 : j < i
       ·rw [if_pos e2, if_pos (by omega)]
       ·rw [if_neg e2, if_neg (by omega)])
    rw [e]
    exact next
 have hr : (List.replicate ((m : Int) : Int).toNat (0 : Int)) = tab m fun j => if j < 0 then (szf n m j : Int) else 0 := by
  simp [tab, List.map_const']
 rw [hr, tab_len]
 exact key m 0 (by omega)
theorem tab_succ (m : Nat) (f : Nat → Int) : tab (m + 1) f = tab m f ++ [f m] := by simp [tab, List.range_succ]
def bnd (n : Nat) : List Int := tab n fun i => (n : Int) - i
theorem bounds_good (n : Nat) (hn : n ≤ 256) : Ev (fun k => braid_Bounds.f k (n : Int)) (bnd n) := by
 unfold braid_Bounds.f
 by_cases h : n < 1
 ·refine ev_pos (by omega) ?_
  obtain rfl : n = 0 := by omega
  exact Ev.step (f := fun _ => some []) (fun k => by rw [braid_Bounds.j0, if_pos rfl]) (Ev.now _)
 refine ev_neg (by omega) (Ev.step (fun k => by rw [braid_Bounds.j0, if_neg (by simp; omega), if_pos (by omega), if_pos (by omega)]) ?_)
 have key : ∀ (d i : Nat), i + d = n → Ev (fun k => braid_Bounds.l0 k (tab i fun j => (n : Int) - j) ((n : Int) - i)) (bnd n) := by
  intro d
  induction d with
  | zero =>
   intro i hi
   obtain rfl : i = n := by omega
   exact Ev.step (f := fun _ => some (bnd i)) (fun k => by rw [braid_Bounds.l0, if_neg (by omega)]; rfl) (Ev.now _)
  | succ d ih =>
   intro i hi
   have := ih (i + 1) (by omega)
   rw [tab_succ] at this
   have e : wrap64 ((n : Int) - i - 1) = (n : Int) - ((i + 1 : Nat) : Int) := by rw [w64 (by omega) (by omega)]; omega
   exact Ev.step (fun k => by rw [braid_Bounds.l0, if_pos (by omega), if_pos (by rw [tab_len]; omega), e]) this
 have := key n 0 (by omega)
 simpa [tab] using this
theorem sz_get (n m j : Nat) (hj : j < m) : (sz n m)[j]'(by rw [sz_len]; exact hj) = (szf n m j : Int) := by simp [sz, tab]
theorem szf_le (n m j : Nat) (hn : n ≤ 256) (h1 : 1 ≤ m) : szf n m j ≤ 256 := by
 unfold szf
 have h3 := Nat.div_add_mod n m
 by_cases h : j < n % m
 ·rw [if_pos h]
  have : m * (n / m) ≥ n / m := Nat.le_mul_of_pos_left _ h1
  omega
 ·rw [if_neg h]
  have := Nat.div_le_self n m
  omega
theorem sz_psum (n m : Nat) (h1 : 1 ≤ m) : ∀ j, j ≤ m → psum (sz n m) j = ((j * (n / m) + min j (n % m) : Nat) : Int) := by
 intro j
 induction j with
 | zero => intro _; simp [psum_zero]
 | succ j ih =>
  intro hj
  rw [psum_succ _ _ (by rw [sz_len]; omega), ih (by omega), sz_get _ _ _ (by omega), Nat.succ_mul]
  unfold szf
  by_cases h : j < n % m
  ·rw [if_pos h]; omega
  ·rw [if_neg h]; omega
theorem sz_total (n m : Nat) (h1 : 1 ≤ m) : total (sz n m) = n := by
 have := sz_psum n m h1 m (Nat.le_refl _)
 rw [psum_all _ _ (by rw [sz_len]; exact Nat.le_refl _)] at this
 rw [this]
 have h3 := Nat.div_add_mod n m
 have h4 := Nat.mod_lt n h1
 omega
theorem sz_ok (n m : Nat) (hn : n ≤ 256) (h1 : 1 ≤ m) (h2 : m ≤ 64) : OkS (sz n m) := by
 refine ⟨by rw [sz_len]; exact h1, by rw [sz_len]; exact h2, fun x hx => ?_, by rw [sz_total n m h1]; omega⟩
 obtain ⟨j, hj, rfl⟩ := List.getElem_of_mem hx
 rw [sz_len] at hj
 rw [sz_get n m j hj]
 have := szf_le n m j hn h1
 omega
def ints (C : List Nat) : List Int := C.map fun j : Nat => (j : Int)
theorem ints_rd (C : List Nat) (i : Nat) (h : i < C.length) : rd (ints C) (i : Int) = (C[i] : Int) := by simp [rd, ints, h]
def cn (C : List Nat) (j i : Nat) : Nat := (C.take i).count j
theorem cn_zero (C : List Nat) (j : Nat) : cn C j 0 = 0 := by simp [cn]
theorem cn_succ (C : List Nat) (j i : Nat) (h : i < C.length) : cn C j (i + 1) = cn C j i + if j = C[i] then 1 else 0 := by
 unfold cn
 rw [List.take_succ_eq_append_getElem h, List.count_append]
 congr 1
 rw [List.count_singleton]
 by_cases e : C[i] = j
 ·simp [e]
 ·simp [e, show ¬ j = C[i] from fun h => e h.symm]
theorem cn_le (C : List Nat) (j i : Nat) : cn C j i ≤ C.count j := (List.take_sublist i C).count_le j
theorem cn_at (C : List Nat) (i : Nat) (h : i < C.length) : cn C C[i] (i + 1) = cn C C[i] i + 1 := by rw [cn_succ C _ i h, if_pos rfl]
theorem cn_lt (C : List Nat) (i : Nat) (h : i < C.length) : cn C C[i] i < C.count C[i] := by
 have := cn_at C i h
 have := cn_le C C[i] (i + 1)
 omega
theorem cn_len (C : List Nat) (j i : Nat) : cn C j i ≤ i := Nat.le_trans List.count_le_length (by simp; omega)
def seg (a : Int) (t : Nat) : List Int := tab t fun i => a + i
end Go.Proofs.Ytbnifpfnjhdenaa.Pl
end
section
set_option linter.unusedVariables false
set_option linter.unusedSimpArgs false
namespace Go.Proofs.Ytbnifpfnjhdenaa.Pl
open Go.RowKit Go.Proofs.Ytbnifpfnjhdenaa.Q Go.Proofs.YtbnifpfnjhdenaaW.PrintWords Go.Proofs.YtbnifpfnjhdenaaW.PrintLast
theorem Good.exists {s ds : List Int} (h : OkD s ds) : ∃ P, Good s ds P := by
 obtain ⟨P, hP⟩ := pat_exists ds s h.1.nonneg (fun i hi => by
  have := h.2.2 i hi
  have e := h.2.1
  omega)
 exact ⟨P, h.1, h.2.1, hP⟩
end Go.Proofs.Ytbnifpfnjhdenaa.Pl
end
section
set_option linter.unusedVariables false
set_option linter.unusedSimpArgs false
namespace Go.Proofs.Ytbnifpfnjhdenaa.Pl
open Go.RowKit Go.Proofs.Ytbnifpfnjhdenaa.Q Go.Proofs.YtbnifpfnjhdenaaW.PrintWords Go.Proofs.YtbnifpfnjhdenaaW.PrintLast
def piece (l : List Int) (q j : Nat) : List Int := (l.take ((j + 1) * q)).drop (j * q)
def pieces (l : List Int) (q c : Nat) : List (List Int) := (List.range c).map (piece l q)
def noiseOf (p : List Int) : List Int := p.take 18
def restOf (p : List Int) : List Int := (p.drop 18).drop ((p.length - 18) / 2)
def braidOf (p : List Int) : List Int := (p.drop 18).take ((p.length - 18) / 2)
def qOf (p : List Int) (c : Nat) : Nat := (restOf p).length / c
theorem restOf_len (p : List Int) : (restOf p).length = (p.length - 18) - (p.length - 18) / 2 := by simp [restOf]; omega
theorem qmul_le (p : List Int) (c j : Nat) (hj : j ≤ c) : j * qOf p c ≤ (restOf p).length :=
 Nat.le_trans (Nat.mul_le_mul_right _ hj) (by rw [Nat.mul_comm]; exact Nat.div_mul_le_self _ _)
theorem piece_len (p : List Int) (c j : Nat) (hj : j < c) : (piece (restOf p) (qOf p c) j).length = qOf p c := by
 have := qmul_le p c (j + 1) hj
 unfold piece
 rw [List.length_drop, List.length_take, Nat.min_eq_left this, Nat.succ_mul]
 omega
theorem pieces_succ (l : List Int) (q c : Nat) : pieces l q (c + 1) = pieces l q c ++ [piece l q c] := by
 unfold pieces
 rw [List.range_succ, List.map_append]
 rfl
def splitS (p : List Int) (c : Int) : List Int × List Int × (List (List Int)) × Int :=
 if c < 1 ∨ c > 64 then ([], [], [], 2) else if p.length < 18 then ([], [], [], 3) else (noiseOf p, braidOf p, pieces (restOf p) (qOf p c.toNat) c.toNat, 0)
theorem clone_val (l : List Int) (h : l.length < 140737488355328) : slices_Clone_byte_byte.f l = some l := by
 unfold slices_Clone_byte_byte.f
 rw [if_pos h]
theorem split_ev (p : List Int) (c : Int) (hp : p.length ≤ 140737488351232) : Ev (fun k => tape_Split.f k p c) (splitS p c) := by
 unfold tape_Split.f splitS
 by_cases h1 : c < 1
 ·rw [if_pos (by omega)]
  exact ev_pos h1 (Ev.step (f := fun _ => some ([], [], [], 2)) (fun k => by rw [tape_Split.j0, if_pos rfl]) (Ev.now _))
 ·refine ev_neg h1 ?_
  by_cases h2 : c > 64
  ·rw [if_pos (by omega)]
   exact Ev.step (f := fun _ => some ([], [], [], 2)) (fun k => by rw [tape_Split.j0, if_pos (by simpa using h2)]) (Ev.now _)
  ·rw [if_neg (by omega)]
   by_cases h3 : p.length < 18
   ·rw [if_pos h3]
    exact Ev.step (f := fun _ => some ([], [], [], 3)) (fun k => by rw [tape_Split.j0, if_neg (by simp; omega), if_pos (by omega)]) (Ev.now _)
   ·rw [if_neg h3]
    obtain ⟨n, rfl⟩ := Int.eq_ofNat_of_zero_le (show 0 ≤ c by omega)
    simp only [Int.toNat_natCast]
    have hrl := restOf_len p
    have key : ∀ (d j : Nat), j + d = n → Ev (fun k => tape_Split.l0 k (restOf p) (qOf p n : Int) (n : Int) (j : Int) (noiseOf p) (braidOf p) (pieces (restOf p) (qOf p n) j)) (noiseOf p, braidOf p, pieces (restOf p) (qOf p n) n, 0) := by
     intro d
     induction d with
     | zero =>
      intro j hj
      have : j = n := by omega
      subst this
      exact Ev.step (f := fun _ => some (noiseOf p, braidOf p, pieces (restOf p) (qOf p j) j, 0)) (fun k => by rw [tape_Split.l0, if_neg (by omega)]) (Ev.now _)
     | succ d ih =>
      intro j hj
      have a1 := qmul_le p n (j + 1) (by omega)
      have a2 : j * qOf p n ≤ (j + 1) * qOf p n := Nat.mul_le_mul_right _ (by omega)
      have hpl := piece_len p n j (by omega)
      have hql : qOf p n ≤ (restOf p).length := Nat.div_le_self _ _
      have hcl := clone_val (piece (restOf p) (qOf p n) j) (by omega)
      have b1 : (j : Int) < (n : Int) := by omega
      have b2 : (0 : Int) ≤ ((j * qOf p n : Nat) : Int) := by omega
      have b3 : ((j * qOf p n : Nat) : Int) ≤ (((j + 1) * qOf p n : Nat) : Int) := by omega
      have b4 : (((j + 1) * qOf p n : Nat) : Int) ≤ ((restOf p).length : Int) := by omega
      have b5 : j * qOf p n ≤ 9223372036854775807 := by omega
      have b6 : (j + 1) * qOf p n ≤ 9223372036854775807 := by omega
      have b8 : (pieces (restOf p) (qOf p n) j).length < 5864062014805 := by simp [pieces]; omega
      have b10 : j + 1 ≤ 9223372036854775807 := by omega
      have b9 : j + 1 + d = n := by omega
      have b7 : wrap64 ((j : Int) + 1) = ((j + 1 : Nat) : Int) := w64n (x := j + 1) b10
      have e1 : wrap64 ((j : Int) * (qOf p n : Int)) = ((j * qOf p n : Nat) : Int) := by rw [← Int.natCast_mul]; exact w64n b5
      have e2 : wrap64 (wrap64 ((j : Int) + 1) * (qOf p n : Int)) = (((j + 1) * qOf p n : Nat) : Int) := by
       rw [b7, ← Int.natCast_mul]
       exact w64n b6
      refine Ev.step (fun k => ?_) (ih (j + 1) b9)
      rw [tape_Split.l0, if_pos b1, e1, e2, if_pos b2, if_pos b3, if_pos b4, Int.toNat_natCast, Int.toNat_natCast, show ((restOf p).take ((j + 1) * qOf p n)).drop (j * qOf p n) = piece (restOf p) (qOf p n) j from rfl, hcl, Option.bind_some,
       if_pos b8, b7, pieces_succ]
    have h0 := key n 0 (by omega)
    have hd : (p.drop 18).length = p.length - 18 := by simp
    have g1 : ¬ ((p.length : Int) < 18) := by omega
    have g2 : (18 : Int) ≤ (p.length : Int) := by omega
    have g3 : (0 : Int) ≤ (((p.length - 18) / 2 : Nat) : Int) := by omega
    have g4 : (((p.length - 18) / 2 : Nat) : Int) ≤ ((p.drop 18).length : Int) := by rw [hd]; omega
    have g5 : (p.take 18).length < 140737488355328 := by simp; omega
    have g6 : ((p.drop 18).take ((p.length - 18) / 2)).length < 140737488355328 := by simp; omega
    have g7 : ¬ ((n : Int) = 0) := by omega
    have g8 : ¬ (decide ((n : Int) > 64) = true) := by simpa using h2
    have g9 : (restOf p).length ≤ 9223372036854775807 := by omega
    have hw : wrap64 (((p.drop 18).length : Int) / 2) = (((p.length - 18) / 2 : Nat) : Int) := by rw [hd, w64 (by omega) (by omega)]; omega
    refine Ev.step (fun k => ?_) h0
    have hq : wrap64 (((restOf p).length : Int) / (n : Int)) = (qOf p n : Int) := by
     rw [← Int.natCast_ediv]
     exact w64n (Nat.le_trans (Nat.div_le_self _ _) g9)
    rw [tape_Split.j0, if_neg g8, if_neg g1, if_pos g2, Option.bind_some, hw, clone_val _ g5, Option.bind_some, if_pos g3, if_pos g4, Int.toNat_natCast, clone_val _ g6, Option.bind_some, Option.bind_some, if_neg g7]
    show tape_Split.l0 k (restOf p) (wrap64 (((restOf p).length : Int) / (n : Int))) _ _ _ _ _ = _
    rw [hq]
    rfl
end Go.Proofs.Ytbnifpfnjhdenaa.Pl
end
section
set_option linter.unusedVariables false
set_option linter.unusedSimpArgs false
namespace Go.Proofs.Ytbnifpfnjhdenaa.Pl
open Go.RowKit Go.Proofs.Ytbnifpfnjhdenaa.Q Go.Proofs.YtbnifpfnjhdenaaW.PrintWords Go.Proofs.YtbnifpfnjhdenaaW.PrintLast Go.Proofs.Ytbnifpfnjhdenaa.Pure
theorem anyOk' {bs : List Int} (h : AllOk bs) : ¬ (bs.any fun b => !okBound b) = true := by
 intro hc
 obtain ⟨b, hb, e⟩ := List.any_eq_true.1 hc
 have := h b hb
 rw [okBound_of b this.1 this.2] at e
 exact absurd e (by decide)
theorem drA_some {p bs : List Int} (h : AllOk bs) {r : List Int × Nat} (e : dr p bs 0 = some r) : drA p bs = (r.1, (r.2 : Int), 0) := by
 unfold drA
 rw [if_neg (anyOk' h), e]
theorem drA_none {p bs : List Int} (h : AllOk bs) (e : dr p bs 0 = none) : drA p bs = ([], 0, 3) := by
 unfold drA
 rw [if_neg (anyOk' h), e]
theorem drw_fA (p bs : List Int) (hp : Bytes p) (hl : p.length ≤ 140737488351232) (hbl : bs.length ≤ 17592186043904) : draw_All.f p bs = some (drA p bs) := by
 rw [drw_all_f p bs hp hl hbl, allA_dr]
theorem boundsL_ok : ∀ n : Nat, n ≤ 256 → AllOk (boundsL n)
 | 0, _ => fun b hb => by simp [boundsL] at hb
 | 1, _ => fun b hb => by simp [boundsL] at hb
 | n + 2, h => fun b hb => by
  rw [boundsL] at hb
  rcases List.mem_cons.1 hb with rfl | hb
  ·omega
  ·exact boundsL_ok (n + 1) (by omega) b hb
theorem bnd_len (n : Nat) : (bnd n).length = n := tab_len _ _
theorem bnd_rd (n i : Nat) (h : i < n) : rd (bnd n) (i : Int) = (n : Int) - i := tab_rd _ _ i h
theorem bnd_ok (n : Nat) (h : n ≤ 256) : AllOk (bnd n) := by
 intro b hb
 obtain ⟨i, hi, rfl⟩ := List.mem_map.1 hb
 have := List.mem_range.1 hi
 omega
theorem rd_cons (x : Int) (xs : List Int) (i : Nat) : rd (x :: xs) ((i + 1 : Nat) : Int) = rd xs (i : Int) := by rw [rd_nat, rd_nat, List.getD_cons_succ]
theorem valid_rd : ∀ (bs ws : List Int), Valid bs ws → ws.length = bs.length ∧ ∀ i : Nat, i < bs.length → 0 ≤ rd ws (i : Int) ∧ rd ws (i : Int) < rd bs (i : Int)
 | [], [], _ => ⟨rfl, fun i h => by simp at h⟩
 | b :: bs, w :: ws, h => by
  obtain ⟨h1, h2⟩ := valid_rd bs ws h.2.2
  refine ⟨by simp [h1], fun i hi => ?_⟩
  cases i with
  | zero => exact ⟨h.1, h.2.1⟩
  | succ i => rw [rd_cons, rd_cons]; exact h2 i (by simpa using hi)
 | [], _ :: _, h => h.elim
 | _ :: _, [], h => h.elim
theorem boundsL_fit {s : Nat} {ws : List Int} (h : Valid (boundsL s) ws) : ws.length = s - 1 ∧ FitD (s : Int) ws := by
 obtain ⟨h1, h2⟩ := valid_rd _ _ h
 rw [boundsL_len] at h1 h2
 refine ⟨h1, fun k hk => ?_⟩
 have := h2 k (by omega)
 rw [boundsL_at s k (by omega)] at this
 exact this
theorem bnd_okD {s ws : List Int} (hs : OkS s) (h : Valid (bnd (total s).toNat) ws) : OkD s ws := by
 obtain ⟨h1, h2⟩ := valid_rd _ _ h
 have h0 := total_nonneg hs.nonneg
 rw [bnd_len] at h1 h2
 refine ⟨hs, by omega, fun t ht => ?_⟩
 have := h2 t (by omega)
 rw [bnd_rd _ t (by omega), rd_lt ws t ht] at this
 omega
def permOf (l : List Int) (s : Nat) : Option (List Int) := (dr l (boundsL s) 0).map fun r => fromL (iota s) (s - 1) r.1
def permsG (f : Nat → Option (List Int)) : Nat → Nat → List (List Int) → Option (List (List Int))
 | 0, _, L => some L
 | d + 1, j, L => (f j).bind fun q => permsG f d (j + 1) (L ++ [q])
theorem permsG_some (f : Nat → Option (List Int)) : ∀ (d j : Nat) (L own : List (List Int)), L.length = j → permsG f d j L = some own →
  own.length = j + d ∧ (∀ i, i < j → own[i]? = L[i]?) ∧ ∀ i, j ≤ i → i < j + d → own[i]? = f i := by
 intro d
 induction d with
 | zero =>
  intro j L own hL h
  obtain rfl := Option.some.inj h
  exact ⟨by omega, fun i _ => rfl, fun i h1 h2 => by omega⟩
 | succ d ih =>
  intro j L own hL h
  rw [permsG] at h
  obtain ⟨q, hq, h⟩ := Option.bind_eq_some_iff.1 h
  obtain ⟨h1, h2, h3⟩ := ih (j + 1) (L ++ [q]) own (by simp [hL]) h
  refine ⟨by omega, fun i hi => ?_, fun i hi1 hi2 => ?_⟩
  ·rw [h2 i (by omega), List.getElem?_append_left (by omega)]
  ·by_cases e : i = j
   ·subst e
    rw [h2 i (by omega), List.getElem?_append_right (by omega), hL, hq]
    simp
   ·exact h3 i (by omega) (by omega)
theorem permOf_fits {l : List Int} (hl : Bytes l) {s : Nat} (hs : s ≤ 256) {q : List Int} (h : permOf l s = some q) : q.length = s ∧ Fits q ∧ ∃ ds u, dr l (boundsL s) 0 = some (ds, u) ∧ Valid (boundsL s) ds ∧ fromL (iota s) (s - 1) ds = q ∧ drawsL q (iota s) (s - 1) = ds := by
 unfold permOf at h
 obtain ⟨⟨ds, u⟩, h1, rfl⟩ := Option.map_eq_some_iff.1 h
 have hv := dr_valid l hl (boundsL s) 0 (boundsL_ok s hs) (by omega) _ h1
 simp only at hv
 obtain ⟨f1, f2⟩ := boundsL_fit hv
 simp only [fromL_len, iota_len]
 by_cases h0 : s = 0
 ·subst h0
  obtain rfl := List.eq_nil_of_length_eq_zero f1
  exact ⟨trivial, ⟨by simp [fromL, iota], by simp [fromL, iota]⟩, [], u, h1, hv, rfl, rfl⟩
 ·have := draws_from (s - 1) ds (iota s) f1 (by rw [show ((s - 1 : Nat) : Int) + 1 = (s : Int) by omega]; exact f2) (fits_iota _) (by rw [iota_len]; omega)
  exact ⟨trivial, this.1, ds, u, h1, hv, rfl, this.2.2⟩
structure Lay (p : List Int) (n c : Nat) (ds : List Int) (P : List (Nat × Int)) (own : List (List Int)) : Prop where
 long : 18 ≤ p.length
 most : n ≤ 256
 one : 1 ≤ c
 chunks : c ≤ 64
 draws : ∃ u, dr (braidOf p) (bnd n) 0 = some (ds, u)
 good : Good (sz n c) ds P
 owns : permsG (fun j => permOf (piece (restOf p) (qOf p c) j) (szf n c j)) c 0 [] = some own
theorem bytes_sub {p q : List Int} (h : Bytes p) (hs : q.Sublist p) : Bytes q := fun x hx => h x (hs.subset hx)
theorem bytes_braid {p : List Int} (h : Bytes p) : Bytes (braidOf p) := bytes_sub h ((List.take_sublist _ _).trans (List.drop_sublist _ _))
theorem bytes_rest {p : List Int} (h : Bytes p) : Bytes (restOf p) := bytes_sub h ((List.drop_sublist _ _).trans (List.drop_sublist _ _))
theorem bytes_piece {p : List Int} (h : Bytes p) (q j : Nat) : Bytes (piece (restOf p) q j) := bytes_sub (bytes_rest h) ((List.drop_sublist _ _).trans (List.take_sublist _ _))
theorem braid_le (p : List Int) : (braidOf p).length ≤ p.length := by unfold braidOf; rw [List.length_take, List.length_drop]; omega
theorem piece_le (p : List Int) (q j : Nat) : (piece (restOf p) q j).length ≤ p.length := by
 unfold piece restOf
 rw [List.length_drop, List.length_take, List.length_drop, List.length_drop]
 omega
theorem pieces_rd (l : List Int) (q c j : Nat) (h : j < c) : (pieces l q c).getD j [] = piece l q j := by simp [pieces, h]
theorem pieces_len (l : List Int) (q c : Nat) : (pieces l q c).length = c := by simp [pieces]
theorem Lay.own {p : List Int} (hp : Bytes p) {n c : Nat} {ds : List Int} {P : List (Nat × Int)} {own : List (List Int)} (h : Lay p n c ds P own) :
  own.length = c ∧ ∀ j, j < c → permOf (piece (restOf p) (qOf p c) j) (szf n c j) = some (own.getD j []) ∧ (own.getD j []).length = szf n c j ∧ Fits (own.getD j []) := by
 obtain ⟨h1, _, h3⟩ := permsG_some _ c 0 [] own rfl h.owns
 refine ⟨by omega, fun j hj => ?_⟩
 have e := h3 j (by omega) (by omega)
 have hj' : j < own.length := by omega
 have e2 : own[j]? = some (own.getD j []) := by rw [List.getD_eq_getElem?_getD, List.getElem?_eq_getElem hj', Option.getD_some]
 rw [e2] at e
 obtain ⟨f1, f2, _⟩ := permOf_fits (bytes_piece hp _ _) (szf_le n c j h.most h.one) e.symm
 exact ⟨e.symm, f1, f2⟩
theorem perm_step_ok {l : List Int} (hl : Bytes l) (hle : l.length ≤ 140737488351232) (s : Nat) (hs : s ≤ 256) {q : List Int} (h : permOf l s = some q) :
  ∃ ds u, draw_All.f l (boundsL s) = some (ds, u, 0) ∧ Ev (fun k => perm_From.f k (s : Int) ds) (q, 0) := by
 obtain ⟨h1, h2, ds, u, h3, h4, h5, h6⟩ := permOf_fits hl hs h
 obtain ⟨f1, f2⟩ := boundsL_fit h4
 refine ⟨ds, (u : Int), ?_, ev_to (from_ev (s : Int) ds (by omega) (by omega)) ?_⟩
 ·rw [drw_fA l _ hl hle (by rw [boundsL_len]; omega), drA_some (boundsL_ok s hs) h3]
 ·unfold fromA
  have hm : ((ds.length : Nat) : Int) = mx ((s : Int) - 1) 0 := by unfold mx; split <;> omega
  rw [if_neg (by omega), if_pos ⟨hm, f2⟩, Int.toNat_natCast, h5]
theorem perm_step_no {l : List Int} (hl : Bytes l) (hle : l.length ≤ 140737488351232) (s : Nat) (hs : s ≤ 256) (h : permOf l s = none) : draw_All.f l (boundsL s) = some ([], 0, 3) := by
 unfold permOf at h
 rw [drw_fA l _ hl hle (by rw [boundsL_len]; omega), drA_none (boundsL_ok s hs) (Option.map_eq_none_iff.1 h)]
theorem bounds_ev' (s : Nat) (hs : s ≤ 256) : Ev (fun k => perm_Bounds.f k (s : Int)) (boundsL s) := by
 have := bounds_ev (s : Int) (by omega)
 rwa [Int.toNat_natCast] at this
theorem sz_bounds (n c j : Nat) (hn : n ≤ 256) (h1 : 1 ≤ c) (hc : c ≤ 64) : 0 ≤ psum (sz n c) j ∧ psum (sz n c) j ≤ n := by
 have ok := sz_ok n c hn h1 hc
 have := psum_total ok.nonneg j
 rw [sz_total n c h1] at this
 exact ⟨psum_nonneg ok.nonneg j, this⟩
theorem sz_rd (n c j : Nat) (hj : j < c) : rd (sz n c) (j : Int) = (szf n c j : Int) := tab_rd _ _ j hj
theorem read_loop {p : List Int} (hp : Bytes p) (hl : p.length ≤ 140737488351232) (n c : Nat) (hn : n ≤ 256) (h1 : 1 ≤ c) (hc : c ≤ 64) (ds : List Int)
  {R : List (List Int) → List Int × List Int × List (List Int) × List Int × List Int × List Int × List Int × List (List Int) × Int}
  (hR : ∀ own, permsG (fun j => permOf (piece (restOf p) (qOf p c) j) (szf n c j)) c 0 [] = some own → Ev (fun k => (braid_Pattern.f k (sz n c) ds).bind fun bt228 => (some (noiseOf p, braidOf p, pieces (restOf p) (qOf p c) c, sz n c, (tab c fun j => psum (sz n c) j), bt228.1, bt228.2.1, own, bt228.2.2))) (R own)) :
  ∀ (d j : Nat) (L : List (List Int)), j + d = c → L.length = j → permsG (fun j => permOf (piece (restOf p) (qOf p c) j) (szf n c j)) c 0 [] = permsG (fun j => permOf (piece (restOf p) (qOf p c) j) (szf n c j)) d j L →
  Ev (fun k => riffle_read.l0 k L ds (psum (sz n c) j) (sz n c) (c : Int) (j : Int) (noiseOf p) (braidOf p) (pieces (restOf p) (qOf p c) c) (sz n c) (tab j fun j => psum (sz n c) j))
   (match permsG (fun j => permOf (piece (restOf p) (qOf p c) j) (szf n c j)) d j L with | some own => R own | none => ([], [], [], [], [], [], [], [], 3)) := by
 intro d
 induction d with
 | zero =>
  intro j L hj hL hg
  obtain rfl : j = c := by omega
  rw [hg] at hR
  rw [permsG] at hR ⊢
  exact Ev.step (fun k => by rw [riffle_read.l0, if_neg (by omega)]) (hR L rfl)
 | succ d ih =>
  intro j L hj hL hg
  rw [hg] at hR ih
  rw [permsG] at hR ih ⊢
  have hjc : j < c := by omega
  have hs := szf_le n c j hn h1
  have hsl := sz_len n c
  have htl := tab_len j fun j => psum (sz n c) j
  have hpb := sz_bounds n c j hn h1 hc
  have hrd := sz_rd n c j hjc
  have hps : psum (sz n c) (j + 1) = psum (sz n c) j + (szf n c j : Int) := by rw [psum_succ _ j (by omega), sz_get n c j hjc]
  have hby := bytes_piece hp (qOf p c) j
  have hpl := piece_le p (qOf p c) j
  have hpp : rd_L3 (pieces (restOf p) (qOf p c) c) (j : Int) = piece (restOf p) (qOf p c) j := pieces_rd _ _ _ _ hjc
  have hplen := pieces_len (restOf p) (qOf p c) c
  refine Ev.step (fun k => by rw [riffle_read.l0, if_pos (by omega), if_pos (by omega), if_pos (by omega), if_pos (by omega), if_pos (by omega), hrd]) (ev_bind (bounds_ev' _ hs) ?_)
  cases hq : permOf (piece (restOf p) (qOf p c) j) (szf n c j) with
  | none =>
   refine ev_bind0 (a := ([], 0, 3)) (by
    show draw_All.f ((pieces (restOf p) (qOf p c) c).getD j []) _ = _
    rw [pieces_rd _ _ _ _ hjc]
    exact perm_step_no hby (by omega) _ hs hq) (ev_neg (by decide) (Ev.now _))
  | some q =>
   obtain ⟨es, u, e1, e2⟩ := perm_step_ok hby (by omega) _ hs hq
   refine ev_bind0 (a := (es, u, 0)) (by
    show draw_All.f ((pieces (restOf p) (qOf p c) c).getD j []) _ = _
    rw [pieces_rd _ _ _ _ hjc]
    exact e1) (ev_pos rfl (ev_bind e2 (ev_pos rfl (ev_pos (by omega) ?_))))
   rw [w64 (x := psum (sz n c) j + (szf n c j : Int)) (by omega) (by omega), w64 (x := (j : Int) + 1) (by omega) (by omega), ← hps]
   have := ih (j + 1) (L ++ [q]) (by omega) (by simp [hL]) (by rw [hq]; rfl)
   rw [tab_succ] at this
   exact this
theorem splitS_ok {p : List Int} {c : Nat} (h : 18 ≤ p.length) (h1 : 1 ≤ c) (hc : c ≤ 64) : splitS p (c : Int) = (noiseOf p, braidOf p, pieces (restOf p) (qOf p c) c, 0) := by
 unfold splitS
 rw [if_neg (by omega), if_neg (by omega), Int.toNat_natCast]
theorem read_bad (p : List Int) (n m : Int) (h : ¬ (0 ≤ n ∧ n ≤ 256 ∧ 1 ≤ m ∧ m ≤ 64)) : Ev (fun k => riffle_read.f k p n m) ([], [], [], [], [], [], [], [], 2) := by
 unfold riffle_read.f
 exact ev_bind (sizes_bad n m h) (ev_neg (by decide) (Ev.now _))
theorem sz_fit {n c : Nat} (hn : n ≤ 256) (h1 : 1 ≤ c) (hc : c ≤ 64) {ds : List Int} (h : Valid (bnd n) ds) : ∃ P, Good (sz n c) ds P := by
 refine Good.exists (bnd_okD (sz_ok n c hn h1 hc) ?_)
 rw [sz_total n c h1, Int.toNat_natCast]
 exact h
theorem read_ev {p : List Int} (hp : Bytes p) (hl : p.length ≤ 140737488351232) (n c : Nat) (hn : n ≤ 256) (h1 : 1 ≤ c) (hc : c ≤ 64) :
  (∃ ds P own, Lay p n c ds P own ∧ Ev (fun k => riffle_read.f k p n c) (noiseOf p, braidOf p, pieces (restOf p) (qOf p c) c, sz n c, (tab c fun j => psum (sz n c) j), fsts P, allOff c P, own, 0)) ∨
  ((¬ ∃ ds P own, Lay p n c ds P own) ∧ Ev (fun k => riffle_read.f k p n c) ([], [], [], [], [], [], [], [], 3)) := by
 by_cases h18 : p.length < 18
 ·refine .inr ⟨fun ⟨_, _, _, h⟩ => by have := h.long; omega, ?_⟩
  unfold riffle_read.f
  refine ev_bind (sizes_good n c hn h1 hc) (ev_pos rfl (ev_bind (split_ev p c hl) ?_))
  unfold splitS
  rw [if_neg (by omega), if_pos h18]
  exact ev_neg (by decide) (Ev.now _)
 have hbl := braid_le p
 have hD := drw_fA (braidOf p) (bnd n) (bytes_braid hp) (by omega) (by rw [bnd_len]; omega)
 have start : ∀ R, Ev (fun k => (if (drA (braidOf p) (bnd n)).2.2 = 0 then (riffle_read.l0 k ([] : List (List Int)) (drA (braidOf p) (bnd n)).1 0 (sz n c) ((sz n c).length : Int) 0 (noiseOf p) (braidOf p) (pieces (restOf p) (qOf p c) c) (sz n c) ([] : List Int)) else (some (([] : List Int), ([] : List Int), ([] : List (List Int)), ([] : List Int), ([] : List Int), ([] : List Int), ([] : List Int), ([] : List (List Int)), (drA (braidOf p) (bnd n)).2.2)))) R → Ev (fun k => riffle_read.f k p n c) R := by
  intro R hR
  unfold riffle_read.f
  refine ev_bind (sizes_good n c hn h1 hc) (ev_pos rfl (ev_bind (split_ev p c hl) ?_))
  rw [splitS_ok (by omega) h1 hc]
  exact ev_pos rfl (ev_bind (bounds_good n hn) (ev_bind0 hD hR))
 cases hd : dr (braidOf p) (bnd n) 0 with
 | none =>
  refine .inr ⟨fun ⟨_, _, _, h⟩ => ?_, start _ ?_⟩
  ·obtain ⟨u, hu⟩ := h.draws
   rw [hd] at hu
   exact absurd hu (by simp)
  ·rw [drA_none (bnd_ok n hn) hd]
   exact ev_neg (by decide) (Ev.now _)
 | some r =>
  obtain ⟨ds, u⟩ := r
  have hv := dr_valid _ (bytes_braid hp) (bnd n) 0 (bnd_ok n hn) (by omega) _ hd
  obtain ⟨P, g⟩ := sz_fit hn h1 hc hv
  have key := read_loop hp hl n c hn h1 hc ds (R := fun own => (noiseOf p, braidOf p, pieces (restOf p) (qOf p c) c, sz n c, (tab c fun j => psum (sz n c) j), fsts P, allOff c P, own, 0))
   (fun own _ => ev_bind g.pattern (ev_some (by rw [sz_len]))) c 0 [] (by omega) rfl rfl
  have key' := start _ (by
   rw [drA_some (bnd_ok n hn) hd, sz_len]
   exact ev_pos rfl key)
  cases ho : permsG (fun j => permOf (piece (restOf p) (qOf p c) j) (szf n c j)) c 0 [] with
  | none =>
   rw [ho] at key'
   refine .inr ⟨fun ⟨_, _, _, h⟩ => ?_, key'⟩
   have := h.owns
   rw [ho] at this
   exact absurd this (by simp)
  | some own =>
   rw [ho] at key'
   exact .inl ⟨ds, P, own, ⟨by omega, hn, h1, hc, ⟨u, hd⟩, g, ho⟩, key'⟩
end Go.Proofs.Ytbnifpfnjhdenaa.Pl
end
section
set_option linter.unusedVariables false
set_option linter.unusedSimpArgs false
namespace Go.Proofs.Ytbnifpfnjhdenaa.Pl
open Go.RowKit Go.Proofs.Ytbnifpfnjhdenaa.Q Go.Proofs.YtbnifpfnjhdenaaW.PrintWords Go.Proofs.YtbnifpfnjhdenaaW.PrintLast Go.Proofs.Ytbnifpfnjhdenaa.Pure
def ordAt (C : List Nat) (p : Nat → Int) (own : List (List Int)) (i : Nat) : Int := p (C.getD i 0) + rd (own.getD (C.getD i 0) []) (cn C (C.getD i 0) i : Int)
def ordL (C : List Nat) (p : Nat → Int) (own : List (List Int)) : List Int := tab C.length (ordAt C p own)
theorem vis_cnt (j : Nat) (P : List (Nat × Int)) : (vis j P).length = (P.map (·.1)).count j := by
 unfold vis
 rw [List.length_map, ← List.countP_eq_length_filter, List.count_eq_countP, List.countP_map]
 rfl
theorem fsts_int (P : List (Nat × Int)) : fsts P = ints (P.map (·.1)) := by simp [fsts, ints]
theorem cn_get (C : List Nat) (i : Nat) (h : i < C.length) : C.getD i 0 = C[i] := by rw [List.getD_eq_getElem?_getD, List.getElem?_eq_getElem h, Option.getD_some]
structure PatC (C : List Nat) (n c : Nat) : Prop where
 len : C.length = n
 lt : ∀ j ∈ C, j < c
 cnt : ∀ j, j < c → C.count j = szf n c j
theorem Good.patC {n c : Nat} {ds : List Int} {P : List (Nat × Int)} (h1 : 1 ≤ c) (g : Good (sz n c) ds P) : PatC (P.map (·.1)) n c := by
 have hle := g.le
 have hl := g.len
 rw [sz_total n c h1] at hl
 refine ⟨by rw [List.length_map]; omega, fun j hj => ?_, fun j hj => ?_⟩
 ·obtain ⟨x, hx, rfl⟩ := List.mem_map.1 hj
  have := g.pat.range x hx
  rwa [sz_len] at this
 ·have := g.pat.count g.sizes.nonneg g.len.symm j (by rw [sz_len]; exact hj)
  rw [← vis_cnt]
  have e : (sz n c).getD j 0 = (szf n c j : Int) := by rw [← rd_nat, sz_rd n c j hj]
  omega
theorem PatC.at_ {C : List Nat} {n c : Nat} (h : PatC C n c) (i : Nat) (hi : i < n) : C.getD i 0 < c ∧ cn C (C.getD i 0) i < szf n c (C.getD i 0) := by
 have hl := h.len
 rw [cn_get C i (by omega)]
 have h1 := h.lt _ (List.getElem_mem (show i < C.length by omega))
 have h2 := cn_lt C i (by omega)
 rw [h.cnt _ h1] at h2
 exact ⟨h1, h2⟩
theorem ordAt_bounds {p : List Int} (hp : Bytes p) {n c : Nat} {ds : List Int} {P : List (Nat × Int)} {own : List (List Int)} (h : Lay p n c ds P own) (i : Nat) (hi : i < n) :
  ∃ o : Int, ordAt (P.map (·.1)) (psum (sz n c)) own i = psum (sz n c) ((P.map (·.1)).getD i 0) + o ∧ rd (own.getD ((P.map (·.1)).getD i 0) []) (cn (P.map (·.1)) ((P.map (·.1)).getD i 0) i : Int) = o ∧ 0 ≤ o ∧ o < szf n c ((P.map (·.1)).getD i 0) := by
 obtain ⟨h1, h2⟩ := (h.good.patC h.one).at_ i hi
 obtain ⟨_, w⟩ := h.own hp
 obtain ⟨_, w2, w3⟩ := w _ h1
 have := fits_rd w3 _ (by rw [w2]; exact h2)
 rw [w2] at this
 exact ⟨_, rfl, rfl, this.1, this.2⟩
theorem Lay.lens {p : List Int} {n c : Nat} {ds : List Int} {P : List (Nat × Int)} {own : List (List Int)} (h : Lay p n c ds P own) : P.length = n ∧ (P.map (·.1)).length = n ∧ ds.length = n := by
 have := (h.good.patC h.one).len
 have hle := h.good.le
 rw [List.length_map] at this
 exact ⟨this, by rw [List.length_map]; exact this, by omega⟩
theorem order_loop {p : List Int} (hp : Bytes p) {n c : Nat} {ds : List Int} {P : List (Nat × Int)} {own : List (List Int)} (h : Lay p n c ds P own) (y0 y1 : List Int) (y2 : List (List Int)) (y3 : List Int) :
  ∀ (d i : Nat), i + d = n → Ev (fun k => riffle_Order.l0 k own (tab c fun j => (cn (P.map (·.1)) j i : Int)) (tab n fun t => if t < i then ordAt (P.map (·.1)) (psum (sz n c)) own t else 0) (fsts P) ((fsts P).length : Int) (i : Int) y0 y1 y2 y3 (tab c fun j => psum (sz n c) j))
   (ordL (P.map (·.1)) (psum (sz n c)) own, 0) := by
 have hl := h.lens
 have hC := h.good.patC h.one
 have hown := h.own hp
 have hfl : (fsts P).length = n := by simp [fsts]; exact hl.1
 have hcc := h.chunks
 have hn := h.most
 intro d
 induction d with
 | zero =>
  intro i hi
  obtain rfl : i = n := by omega
  have e : (tab i fun t => if t < i then ordAt (P.map (·.1)) (psum (sz i c)) own t else 0) = ordL (P.map (·.1)) (psum (sz i c)) own := by
   unfold ordL
   rw [hl.2.1]
   exact tab_congr _ _ _ fun j hj => by rw [if_pos hj]
  rw [e]
  exact Ev.step (f := fun _ => some (ordL (P.map (·.1)) (psum (sz i c)) own, 0)) (fun k => by rw [riffle_Order.l0, if_neg (by omega)]) (Ev.now _)
 | succ d ih =>
  intro i hi
  have hin : i < n := by omega
  obtain ⟨c1, c2⟩ := hC.at_ i hin
  obtain ⟨o, e1, r1, o0, o1⟩ := ordAt_bounds hp h i hin
  obtain ⟨_, w2, w3⟩ := hown.2 _ c1
  have hr : rd (fsts P) (i : Int) = (((P.map (·.1)).getD i 0 : Nat) : Int) := by
   rw [fsts_int, ints_rd _ i (by omega), cn_get _ i (by omega)]
  have hcs : ∀ j, cn (P.map (·.1)) j (i + 1) = cn (P.map (·.1)) j i + if j = (P.map (·.1)).getD i 0 then 1 else 0 := fun j => by
   rw [cn_succ _ j i (by omega), cn_get _ i (by omega)]
  generalize hj : (P.map (·.1)).getD i 0 = j at *
  have t1 := tab_len c fun j => (cn (P.map (·.1)) j i : Int)
  have t2 := tab_len c fun j => psum (sz n c) j
  have t3 := tab_len n fun t => if t < i then ordAt (P.map (·.1)) (psum (sz n c)) own t else 0
  have g1 : rd (tab c fun j => (cn (P.map (·.1)) j i : Int)) (j : Int) = (cn (P.map (·.1)) j i : Int) := tab_rd _ _ j c1
  have g2 : rd (tab c fun j => psum (sz n c) j) (j : Int) = psum (sz n c) j := tab_rd _ _ j c1
  have pb := sz_bounds n c j h.most h.one h.chunks
  have sl := szf_le n c j h.most h.one
  have ho : rd_L3 own (j : Int) = own.getD j [] := rfl
  have hcl := cn_len (P.map (·.1)) j i
  refine Ev.step (fun k => ?_) (ih (i + 1) (by omega))
  rw [riffle_Order.l0, if_pos (by omega), if_pos (by omega), if_pos (by omega), hr, if_pos (by omega), if_pos (by omega), if_pos (by omega), if_pos (by omega), g1, if_pos (by omega), ho, if_pos (by omega), if_pos (by omega), g2, r1, Int.toNat_natCast, Int.toNat_natCast, w64 (x := (cn (P.map (·.1)) j i : Int) + 1) (by omega) (by omega), w64 (x := psum (sz n c) j + o) (by omega) (by omega), w64 (x := (i : Int) + 1) (by omega) (by omega), tab_set, tab_set, ← e1]
  have q1 : (tab c fun t => if t = j then (cn (P.map (·.1)) j i : Int) + 1 else (cn (P.map (·.1)) t i : Int)) = tab c fun j => (cn (P.map (·.1)) j (i + 1) : Int) := tab_congr _ _ _ fun t ht => by
   rw [hcs t]
   by_cases e : t = j
   ·rw [if_pos e, if_pos e, e]; omega
   ·rw [if_neg e, if_neg e]; omega
  have q2 : (tab n fun t => if t = i then ordAt (P.map (·.1)) (psum (sz n c)) own i else if t < i then ordAt (P.map (·.1)) (psum (sz n c)) own t else 0) = tab n fun t => if t < i + 1 then ordAt (P.map (·.1)) (psum (sz n c)) own t else 0 := tab_congr _ _ _ fun t ht => by
   by_cases e : t = i
   ·rw [if_pos e, if_pos (by omega), e]
   ·rw [if_neg e]
    by_cases e2 : t < i
    ·rw [if_pos e2, if_pos (by omega)]
    ·rw [if_neg e2, if_neg (by omega)]
  rw [q1, q2]
  rfl
theorem tab_zero (n : Nat) : List.replicate n (0 : Int) = tab n fun _ => 0 := by
 apply List.ext_getElem
 ·simp [tab]
 ·intro i h1 h2; simp [tab]
theorem order_bad (p : List Int) (n m : Int) (h : ¬ (0 ≤ n ∧ n ≤ 256 ∧ 1 ≤ m ∧ m ≤ 64)) : Ev (fun k => riffle_Order.f k p n m) ([], 2) := by
 unfold riffle_Order.f
 exact ev_bind (read_bad p n m h) (ev_neg (by decide) (Ev.now _))
theorem Lay.order {p : List Int} (hp : Bytes p) {n c : Nat} {ds : List Int} {P : List (Nat × Int)} {own : List (List Int)} (h : Lay p n c ds P own)
  (hr : Ev (fun k => riffle_read.f k p n c) (noiseOf p, braidOf p, pieces (restOf p) (qOf p c) c, sz n c, (tab c fun j => psum (sz n c) j), fsts P, allOff c P, own, 0)) : Ev (fun k => riffle_Order.f k p n c) (ordL (P.map (·.1)) (psum (sz n c)) own, 0) := by
 unfold riffle_Order.f
 have hz := sz_len n c
 have hn := h.most
 have hc := h.chunks
 refine ev_bind hr (ev_pos rfl (ev_pos (show (0 : Int) ≤ ((sz n c).length : Int) by omega) (ev_pos (show (((sz n c).length : Int) : Int).toNat ≤ 35184372088832 by omega) (ev_pos (show (0 : Int) ≤ (n : Int) by omega) (ev_pos (show ((n : Int) : Int).toNat ≤ 35184372088832 by omega) ?_)))))
 have := order_loop hp h (noiseOf p) (braidOf p) (pieces (restOf p) (qOf p c) c) (sz n c) n 0 (by omega)
 rw [hz, Int.toNat_natCast, Int.toNat_natCast, tab_zero, tab_zero]
 have e1 : (tab c fun j => (cn (P.map (·.1)) j 0 : Int)) = tab c fun _ => 0 := tab_congr _ _ _ fun j _ => by rw [cn_zero]; rfl
 have e2 : (tab n fun t => if t < 0 then ordAt (P.map (·.1)) (psum (sz n c)) own t else 0) = tab n fun _ => 0 := tab_congr _ _ _ fun j _ => by rw [if_neg (by omega)]
 rw [e1, e2] at this
 exact this
theorem order_ev {p : List Int} (hp : Bytes p) (hl : p.length ≤ 140737488351232) (n c : Nat) (hn : n ≤ 256) (h1 : 1 ≤ c) (hc : c ≤ 64) :
  (∃ ds P own, Lay p n c ds P own ∧ Ev (fun k => riffle_Order.f k p n c) (ordL (P.map (·.1)) (psum (sz n c)) own, 0)) ∨
  ((¬ ∃ ds P own, Lay p n c ds P own) ∧ Ev (fun k => riffle_Order.f k p n c) ([], 3)) := by
 rcases read_ev hp hl n c hn h1 hc with ⟨ds, P, own, h, e⟩ | ⟨h, e⟩
 ·exact .inl ⟨ds, P, own, h, h.order hp e⟩
 ·refine .inr ⟨h, ?_⟩
  unfold riffle_Order.f
  exact ev_bind e (ev_neg (by decide) (Ev.now _))
end Go.Proofs.Ytbnifpfnjhdenaa.Pl
end
section
set_option linter.unusedVariables false
set_option linter.unusedSimpArgs false
namespace Go.Proofs.Ytbnifpfnjhdenaa.Pure
open Go.RowKit Go.Proofs.Ytbnifpfnjhdenaa.Q Go.Proofs.YtbnifpfnjhdenaaW.PrintWords Go.Proofs.YtbnifpfnjhdenaaW.PrintLast Go.Proofs.Ytbnifpfnjhdenaa.Pl
theorem alive13 : Ev (fun k => churnlaw13_alive.f k) true := Ev.of (fun k => churnlaw13_alive.mono k) (k := 60) (by decide +kernel)
end Go.Proofs.Ytbnifpfnjhdenaa.Pure
end
section
set_option linter.unusedVariables false
set_option linter.unusedSimpArgs false
namespace Go.Proofs.Ytbnifpfnjhdenaa.Pure
open Go.RowKit Go.Proofs.Ytbnifpfnjhdenaa.Q Go.Proofs.YtbnifpfnjhdenaaW.PrintWords Go.Proofs.YtbnifpfnjhdenaaW.PrintLast Go.Proofs.Ytbnifpfnjhdenaa.Pl
theorem lay_of {p : List Int} (hp : Bytes p) {n c : Nat} (h : 18 ≤ p.length) (hn : n ≤ 256) (h1 : 1 ≤ c) (hc : c ≤ 64) (hd : (dr (braidOf p) (bnd n) 0).isSome = true) (ho : (permsG (fun j => permOf (piece (restOf p) (qOf p c) j) (szf n c j)) c 0 []).isSome = true) : ∃ ds P own, Lay p n c ds P own := by
 obtain ⟨⟨ds, u⟩, hd⟩ := Option.isSome_iff_exists.1 hd
 obtain ⟨own, ho⟩ := Option.isSome_iff_exists.1 ho
 have hv := dr_valid _ (bytes_braid hp) (bnd n) 0 (bnd_ok n hn) (by omega) _ hd
 obtain ⟨P, g⟩ := sz_fit hn h1 hc hv
 exact ⟨ds, P, own, h, hn, h1, hc, ⟨u, hd⟩, g, ho⟩
theorem names_ok {p : List Int} (hp : Bytes p) (hl : p.length ≤ 140737488351232) {n c : Nat} (h : 18 ≤ p.length) (hn : n ≤ 256) (h1 : 1 ≤ c) (hc : c ≤ 64) (hd : (dr (braidOf p) (bnd n) 0).isSome = true) (ho : (permsG (fun j => permOf (piece (restOf p) (qOf p c) j) (szf n c j)) c 0 []).isSome = true) : ∃ o, Ev (fun k => riffle_Order.f k p n c) (o, 0) := by
 rcases order_ev hp hl n c hn h1 hc with ⟨ds, P, own, h, e⟩ | ⟨h', e⟩
 ·exact ⟨_, e⟩
 ·exact absurd (lay_of hp h hn h1 hc hd ho) h'
theorem zeros_bytes (n : Nat) : Bytes (List.replicate n 0) := fun x hx => by rw [List.eq_of_mem_replicate hx]; exact ⟨by decide, by decide⟩
theorem RiffleNames : churnlaw13_RiffleNames.Pure := by
 refine Ev.rounds (g := fun k => churnlaw13_RiffleNames.f k) (r := true) ?_
 unfold churnlaw13_RiffleNames.f
 have hb := zeros_bytes 1042
 have hl : (List.replicate 1042 (0 : Int)).length = 1042 := List.length_replicate
 obtain ⟨o1, e1⟩ := names_ok hb (by omega) (n := 256) (c := 1) (by omega) (by omega) (by omega) (by omega) (by decide +kernel) (by decide +kernel)
 obtain ⟨o3, e3⟩ := names_ok hb (by omega) (n := 3) (c := 64) (by omega) (by omega) (by omega) (by omega) (by decide +kernel) (by decide +kernel)
 have e2 := order_bad (List.replicate 1042 0) 257 1 (by omega)
 have e4 := order_bad (List.replicate 1042 0) 3 65 (by omega)
 have hb5 : Bytes ((List.replicate 1042 (0 : Int)).take 17) := bytes_sub hb (List.take_sublist _ _)
 have hb6 : Bytes ((List.replicate 1042 (0 : Int)).take 18) := bytes_sub hb (List.take_sublist _ _)
 have l5 : ((List.replicate 1042 (0 : Int)).take 17).length = 17 := by rw [List.length_take, hl]; rfl
 have l6 : ((List.replicate 1042 (0 : Int)).take 18).length = 18 := by rw [List.length_take, hl]; rfl
 have e5 : Ev (fun k => riffle_Order.f k ((List.replicate 1042 (0 : Int)).take 17) ((0 : Nat) : Int) ((1 : Nat) : Int)) ([], 3) := by
  rcases order_ev hb5 (by omega) 0 1 (by omega) (by omega) (by omega) with ⟨ds, P, own, h, e⟩ | ⟨h', e⟩
  ·have := h.long
   omega
  ·exact e
 obtain ⟨o6, e6⟩ := names_ok hb6 (by omega) (n := 1) (c := 64) (by omega) (by omega) (by omega) (by omega) (by decide +kernel) (by decide +kernel)
 have e7 : Ev (fun k => riffle_Shuffle_int.f k (List.replicate 1042 0) 1 (List.replicate 257 0)) ([], 2) := by
  unfold riffle_Shuffle_int.f
  have h7 : ((List.replicate 257 (0 : Int)).length : Int) = 257 := by rw [List.length_replicate]; rfl
  rw [h7]
  exact ev_bind e2 (ev_neg (by decide) (Ev.now _))
 refine ev_bind alive13 (ev_pos rfl (ev_pos (by decide) (ev_bind0 rfl (ev_bind e1 (ev_bind e2 (ev_bind e3 (ev_bind e4 (ev_pos (by omega) (ev_bind e5 (ev_pos (by omega) (ev_bind e6 (ev_pos (by decide) (ev_bind e7 ?_)))))))))))))
 exact ev_pos rfl (ev_pos rfl (ev_pos rfl (ev_pos rfl (ev_pos rfl (ev_pos rfl (ev_some rfl))))))
end Go.Proofs.Ytbnifpfnjhdenaa.Pure
end
