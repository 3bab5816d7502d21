/- The document's Draws of a pattern over lists: what it comes to; the same as the program's. -/
import Derived.Test.YtiefmocfgneldaaBraid6
import Derived.Test.YtiefmocfgneldaaQx18
set_option linter.unusedVariables false
set_option linter.unusedSimpArgs false
namespace Go.Proofs.Ytiefmocfgneldaa.Pl
open Go.RowKit Go.Proofs.Ytiefmocfgneldaa.Q Go.Proofs.YtiefmocfgneldaaW.PrintWords Go.Proofs.YtiefmocfgneldaaW.PrintLast

theorem ref_draws_sum (s off left nxl out c : List Int) (j : Nat) (o : Int) (n i : Int) (R : List Int × Int) (hj : j < left.length) (hn : Nonneg left) (hb : total left ≤ 256) (hm : left.length ≤ 64) (h0 : 0 ≤ o) (h1 : o ≤ 256)
    (next : Ev (fun k => if out.length < 17592186044416 then (if 0 ≤ (j : Int) then (if (j : Int) < (left.length : Int) then (if (j : Int) < (nxl.length : Int) then (churnref12_Draws.l1 k s c off n (left.set ((j : Int) : Int).toNat (wrap64 ((rd left (j : Int)) - 1))) (nxl.set ((j : Int) : Int).toNat (wrap64 ((rd nxl (j : Int)) + 1))) (out ++ [psum left j + o]) (wrap64 (i + 1))) else (none)) else (none)) else (none)) else (none)) R) :
    Ev (fun k => churnref12_Draws.l2 k s c off n left nxl out i (j : Int) o 0) R := by
  have key : ∀ (t a : Nat), a + t = j → Ev (fun k => churnref12_Draws.l2 k s c off n left nxl out i (j : Int) (psum left a + o) (a : Int)) R := by
    intro t
    induction t with
    | zero =>
      intro a ha
      have : a = j := by omega
      subst this
      refine Ev.step (fun k => ?_) next
      rw [churnref12_Draws.l2, if_neg (by omega)]
    | succ t ih =>
      intro a ha
      have hr : rd left (a : Int) = left[a] := rd_lt left a (by omega)
      have h2 := psum_succ left a (by omega)
      have h3 := psum_nonneg hn a
      have h4 := psum_total hn (a + 1)
      have h5 := hn.at_ a (by omega)
      refine Ev.step (fun k => ?_) (ih (a + 1) (by omega))
      rw [churnref12_Draws.l2, if_pos (by omega), if_pos (by omega), if_pos (by omega), hr, w64 (by omega) (by omega), w64 (by omega) (by omega), h2, show psum left a + o + left[a] = psum left a + left[a] + o from by omega]
      rfl
  have := key j 0 (by omega)
  rw [psum_zero, Int.zero_add] at this
  exact this
theorem ref_draws_loop (s off c : List Int) (m : Nat) (hs : s.length = m) (hm : m ≤ 64) (hc : c.length ≤ 256) (hoff : off.length ≤ 256) (hsn : Nonneg s) (hso : total s ≤ off.length) :
    ∀ (rem i : Nat) (left : List Int) (nx : Nat → Nat) (out : List Int), i + rem = c.length → Nonneg left → total left ≤ 256 → left.length = m → out.length ≤ 256 → (∀ x ∈ left, x ≤ 256) → (∀ j, j < m → (nx j : Int) + left.getD j 0 = psum s (j + 1)) → out.length = i →
    (∃ ds P, Told left nx (c.drop i) off ds P ∧ Ev (fun k => churnref12_Draws.l1 k s c off (c.length : Int) left (tab m fun j => nx j) out (i : Int)) (out ++ ds, 0)) ∨
    ((¬ ∃ ds P, Told left nx (c.drop i) off ds P) ∧ Ev (fun k => churnref12_Draws.l1 k s c off (c.length : Int) left (tab m fun j => nx j) out (i : Int)) ([], 2)) := by
  intro rem
  induction rem with
  | zero =>
    intro i left nx out hi hn hb hl ho hmx hnx hout
    left
    refine ⟨[], [], ⟨.nil left, by rw [List.drop_of_length_le (by omega)]; rfl, fun j k hk => by simp [vis_nil] at hk⟩, ?_⟩
    rw [List.append_nil]
    exact Ev.step (f := fun _ => some (out, 0)) (fun k => by rw [churnref12_Draws.l1, if_neg (by omega)]) (Ev.now _)
  | succ rem ih =>
    intro i left nx out hi hn hb hl ho hmx hnx hout
    have hlt : i < c.length := by omega
    have hr : rd c (i : Int) = c[i] := rd_lt c i hlt
    have hdrop : c.drop i = c[i] :: c.drop (i + 1) := List.drop_eq_getElem_cons hlt
    have bad3 : ∀ x : Bool, x = true → Ev (fun k => churnref12_Draws.j3 k s c off (c.length : Int) left (tab m fun j => nx j) out (i : Int) c[i] x) ([], 2) := fun x hx => Ev.step (f := fun _ => some ([], 2)) (fun k => by rw [churnref12_Draws.j3, if_pos hx]) (Ev.now _)
    by_cases c1 : c[i] < 0
    · right
      refine ⟨?_, Ev.step (fun k => ?_) (bad3 true rfl)⟩
      · rintro ⟨ds, P, h⟩
        rw [hdrop] at h
        obtain ⟨j, hj, o, es, Q, e, _⟩ := h.head
        omega
      · rw [churnref12_Draws.l1, if_pos (by omega), if_pos (by omega), if_pos (by omega), hr, if_pos c1]
    · by_cases c2 : c[i] ≥ (s.length : Int)
      · right
        refine ⟨?_, Ev.step (fun k => ?_) (bad3 true rfl)⟩
        · rintro ⟨ds, P, h⟩
          rw [hdrop] at h
          obtain ⟨j, hj, o, es, Q, e, _⟩ := h.head
          omega
        · rw [churnref12_Draws.l1, if_pos (by omega), if_pos (by omega), if_pos (by omega), hr, if_neg c1, if_pos c2]
      · obtain ⟨j, hj⟩ : ∃ j : Nat, c[i] = (j : Int) := ⟨c[i].toNat, by omega⟩
        have hjm : j < m := by omega
        have hjl : j < left.length := by omega
        have hrl : rd left (j : Int) = left[j] := rd_lt left j hjl
        have hrn : rd (tab m fun j => (nx j : Int)) (j : Int) = (nx j : Int) := tab_rd m _ j hjm
        have htl := tab_len m fun j => (nx j : Int)
        have hgl : left.getD j 0 = left[j] := by simp [List.getD_eq_getElem?_getD, hjl]
        have hpos := hn.at_ j hjl
        have hjx := hnx j hjm
        have hps := psum_total hsn (j + 1)
        have hmj := hmx _ (List.getElem_mem hjl)
        have step3 : ∀ R, Ev (fun k => churnref12_Draws.j3 k s c off (c.length : Int) left (tab m fun j => nx j) out (i : Int) (j : Int) (left[j] == 0)) R → Ev (fun k => churnref12_Draws.l1 k s c off (c.length : Int) left (tab m fun j => nx j) out (i : Int)) R := by
          intro R hR
          refine Ev.step (fun k => ?_) hR
          rw [churnref12_Draws.l1, if_pos (by omega), if_pos (by omega), if_pos (by omega), hr, hj, if_neg (by omega), if_neg (by omega), if_pos (by omega), if_pos (by omega), hrl]
        by_cases c3 : left[j] = 0
        · right
          refine ⟨?_, step3 _ (by rw [← hj]; exact bad3 _ (by simpa using c3))⟩
          rintro ⟨ds, P, h⟩
          rw [hdrop] at h
          obtain ⟨j', hj', o, es, Q, e, eo, o0, o1, _⟩ := h.head
          have : j' = j := by omega
          subst this
          omega
        · have hno : nx j < off.length := by omega
          have hro : rd off (nx j : Int) = off[nx j] := rd_lt off (nx j) hno
          have hgo : off.getD (nx j) 0 = off[nx j] := by simp [List.getD_eq_getElem?_getD, hno]
          have bad4 : ∀ x : Bool, x = true → Ev (fun k => churnref12_Draws.j4 k s c off (c.length : Int) left (tab m fun j => nx j) out (i : Int) (j : Int) off[nx j] x) ([], 2) := fun x hx => Ev.step (f := fun _ => some ([], 2)) (fun k => by rw [churnref12_Draws.j4, if_pos hx]) (Ev.now _)
          by_cases c4 : off[nx j] < 0
          · right
            refine ⟨?_, step3 _ (Ev.step (fun k => ?_) (bad4 true rfl))⟩
            · rintro ⟨ds, P, h⟩
              rw [hdrop] at h
              obtain ⟨j', hj', o, es, Q, e, eo, o0, o1, _⟩ := h.head
              have : j' = j := by omega
              subst this
              omega
            · rw [churnref12_Draws.j3, if_neg (by simp [c3]), if_pos (by omega), if_pos (by omega), hrn, if_pos (by omega), if_pos (by omega), hro, if_pos c4]
          · have step4 : ∀ R, Ev (fun k => churnref12_Draws.j4 k s c off (c.length : Int) left (tab m fun j => nx j) out (i : Int) (j : Int) off[nx j] (decide (off[nx j] ≥ left[j]))) R → Ev (fun k => churnref12_Draws.l1 k s c off (c.length : Int) left (tab m fun j => nx j) out (i : Int)) R := by
              intro R hR
              refine step3 _ (Ev.step (fun k => ?_) hR)
              rw [churnref12_Draws.j3, if_neg (by simp [c3]), if_pos (by omega), if_pos (by omega), hrn, if_pos (by omega), if_pos (by omega), hro, if_neg c4, if_pos (by omega), hrl]
            by_cases c5 : off[nx j] ≥ left[j]
            · right
              refine ⟨?_, step4 _ (bad4 _ (by simpa using c5))⟩
              rintro ⟨ds, P, h⟩
              rw [hdrop] at h
              obtain ⟨j', hj', o, es, Q, e, eo, o0, o1, _⟩ := h.head
              have : j' = j := by omega
              subst this
              omega
            · have hdec : left.set j (wrap64 (left[j] - 1)) = dec left j := by
                rw [w64 (by omega) (by omega)]
                unfold dec
                rw [hgl]
              have hnxs : (tab m fun j => (nx j : Int)).set j (wrap64 ((nx j : Int) + 1)) = tab m (fun i => ((if i = j then nx j + 1 else nx i : Nat) : Int)) := by
                rw [w64 (by omega) (by omega), tab_set]
                refine tab_congr m _ _ fun a ha => ?_
                by_cases e : a = j
                · simp [e]
                · simp [e]
              have step5 : ∀ R, Ev (fun k => churnref12_Draws.l1 k s c off (c.length : Int) (dec left j) (tab m (fun i => ((if i = j then nx j + 1 else nx i : Nat) : Int))) (out ++ [psum left j + off[nx j]]) ((i + 1 : Nat) : Int)) R →
                  Ev (fun k => churnref12_Draws.l1 k s c off (c.length : Int) left (tab m fun j => nx j) out (i : Int)) R := by
                intro R hR
                have h6 := ref_draws_sum s off left (tab m fun j => (nx j : Int)) out c j off[nx j] (c.length : Int) (i : Int) R hjl hn hb (by omega) (by omega) (by omega) (by
                  refine ev_pos (by omega) (ev_pos (by omega) (ev_pos (by omega) (ev_pos (by omega) ?_)))
                  rw [hrl, hrn, show ((j : Int) : Int).toNat = j from by omega, hdec, hnxs, w64 (by omega) (by omega)]
                  exact hR)
                refine step4 _ (Ev.step (fun k => ?_) h6)
                rw [churnref12_Draws.j4, if_neg (by simp; omega)]
              have hnn := dec_nonneg hn j hjl (by omega)
              rcases ih (i + 1) (dec left j) (fun a => if a = j then nx j + 1 else nx a) (out ++ [psum left j + off[nx j]]) (by omega) hnn (by rw [dec_total left j hjl]; omega) (by rw [dec_length]; exact hl) (by simp; omega) (by
                  intro x hx
                  obtain ⟨a, ha, rfl⟩ := List.getElem_of_mem hx
                  rw [dec_length] at ha
                  rw [dec_get left j a ha]
                  have := hmx _ (List.getElem_mem ha)
                  split <;> omega) (by
                  intro a ha
                  rw [dec_getD left j a (by omega)]
                  have := hnx a ha
                  by_cases e : a = j
                  · subst e
                    simp only [if_true]
                    omega
                  · simp only [if_neg e, if_neg (Ne.symm e)]
                    exact this) (by simp; omega) with ⟨ds, P, hP, hE⟩ | ⟨hP, hE⟩
              · left
                refine ⟨(psum left j + off[nx j]) :: ds, (j, off[nx j]) :: P, ?_, ?_⟩
                · rw [hdrop]
                  exact ⟨.cons hjl (by omega) (by omega) rfl hP.1, by simp only [fsts, List.map_cons]; rw [← hj]; have := hP.2.1; unfold fsts at this; rw [this], Rdo.cons hgo.symm hP.2.2⟩
                · have := step5 _ hE
                  rwa [List.append_assoc, List.singleton_append] at this
              · right
                refine ⟨?_, step5 _ hE⟩
                rintro ⟨ds, P, h⟩
                rw [hdrop] at h
                obtain ⟨j', hj', o, es, Q, e, eo, o0, o1, _, _, ht⟩ := h.head
                have : j' = j := by omega
                subst this
                exact hP ⟨es, Q, ht⟩
theorem ref_draws_bad (s c off : List Int) (hs : s.length ≤ 17592186044000) (h : ¬ (OkS s ∧ (c.length : Int) = total s ∧ (off.length : Int) = total s)) : Ev (fun k => churnref12_Draws.f k s c off) ([], 2) := by
  obtain ⟨n, e, h1, h2⟩ := ref12_total_ev s (by omega)
  unfold churnref12_Draws.f
  refine ev_bind e ?_
  have hend : ∀ (x : Bool), x = true → Ev (fun k => churnref12_Draws.j0 k s c off n x) ([], 2) := fun x hx => Ev.step (f := fun _ => some ([], 2)) (fun k => by rw [churnref12_Draws.j0, if_pos hx]) (Ev.now _)
  by_cases hO : OkS s
  · have hN := h1 hO
    have := total_nonneg hO.nonneg
    refine ev_neg (by omega) ?_
    by_cases hc : (c.length : Int) = n
    · refine ev_pos hc (hend _ ?_)
      rw [bne_iff_ne]
      intro ho
      exact h ⟨hO, by omega, by omega⟩
    · exact ev_neg hc (hend _ rfl)
  · have hN := h2 hO
    exact ev_pos (by omega) (hend _ rfl)
theorem ref_draws_good (s c off : List Int) (hs : OkS s) (hc : (c.length : Int) = total s) (ho : (off.length : Int) = total s) :
    (∃ ds P, Told s (start s) c off ds P ∧ Ev (fun k => churnref12_Draws.f k s c off) (ds, 0)) ∨ ((¬ ∃ ds P, Told s (start s) c off ds P) ∧ Ev (fun k => churnref12_Draws.f k s c off) ([], 2)) := by
  have hm := hs.most
  have hal := hs.all
  have hone := hs.one
  obtain ⟨n, e, h1, h2⟩ := ref12_total_ev s (by omega)
  have hnt := h1 hs
  have hnn := hs.nonneg
  have h0 := total_nonneg hnn
  have hin : ∀ R, Ev (fun k => churnref12_Draws.l1 k s c off (c.length : Int) s (tab s.length fun j => (start s j : Nat)) [] ((0 : Nat) : Int)) R → Ev (fun k => churnref12_Draws.f k s c off) R := by
    intro R hR
    have key : ∀ (d a : Nat), a + d = s.length → Ev (fun k => churnref12_Draws.l0 k s c off n (s.take a) (tab a fun j => (start s j : Nat)) (psum s a) (a : Int)) R := by
      intro d
      induction d with
      | zero =>
        intro a ha
        obtain rfl : a = s.length := by omega
        rw [List.take_length]
        refine Ev.step (fun k => ?_) hR
        rw [churnref12_Draws.l0, if_neg (by omega), show n = (c.length : Int) by omega]
        rfl
      | succ d ih =>
        intro a ha
        have htl := tab_len a fun j => ((start s j : Nat) : Int)
        have h2 := psum_succ s a (by omega)
        have h3 := psum_nonneg hnn a
        have h4 := psum_total hnn (a + 1)
        have h5 := hnn.at_ a (by omega)
        have hst : psum s a = ((start s a : Nat) : Int) := by unfold start; omega
        have htk : (s.take a).length = a := by rw [List.length_take]; omega
        refine Ev.step (fun k => ?_) (ih (a + 1) (by omega))
        rw [churnref12_Draws.l0, if_pos (by omega), if_pos (by omega), if_pos (by omega), if_pos (by omega), take_rd s a (by omega), tab_succ, ← hst, h2, rd_lt s a (by omega), w64 (by omega) (by omega), w64 (by omega) (by omega)]
        rfl
    unfold churnref12_Draws.f
    refine ev_bind e (ev_neg (by omega) (ev_pos (by omega) (Ev.step (fun k => ?_) (key s.length 0 (by omega)))))
    rw [churnref12_Draws.j0, if_neg (by simp; omega), psum_zero]
    rfl
  have hmx : ∀ x ∈ s, x ≤ 256 := fun x hx => (hs.each x hx).2
  have hst : ∀ j, j < s.length → ((start s j : Nat) : Int) + s.getD j 0 = psum s (j + 1) := by
    intro j hj
    have := psum_nonneg hnn j
    have e2 := psum_succ s j hj
    have e3 : s.getD j 0 = s[j] := by simp [List.getD_eq_getElem?_getD, hj]
    unfold start
    omega
  rcases ref_draws_loop s off c s.length rfl hm (by omega) (by omega) hnn (by omega) c.length 0 s (start s) [] (by omega) hnn (by omega) rfl (by simp) hmx hst rfl with ⟨ds, P, hP, hE⟩ | ⟨hP, hE⟩
  · left
    rw [List.nil_append] at hE
    exact ⟨ds, P, by simpa using hP, hin _ hE⟩
  · right
    exact ⟨by simpa using hP, hin _ hE⟩
/-- The document's Draws and the program's come to the same. -/
theorem ref_draws_same (s c off : List Int) (hs : s.length ≤ 17592186044000) (hc : c.length ≤ 17592186044000) (ho : off.length ≤ 17592186044000) : ∃ r, Ev (fun k => braid_Draws.f k s c off) r ∧ Ev (fun k => churnref12_Draws.f k s c off) r := by
  by_cases h : OkS s ∧ (c.length : Int) = total s ∧ (off.length : Int) = total s
  · rcases draws_good s c off h.1 h.2.1 h.2.2 with ⟨ds, P, t, e⟩ | ⟨t, e⟩
    · rcases ref_draws_good s c off h.1 h.2.1 h.2.2 with ⟨ds', P', t', e'⟩ | ⟨t', _⟩
      · have hPP : P = P' := told_unique off P P' (start s) (by
          have a := t.2.1
          have b := t'.2.1
          rw [← b] at a
          unfold fsts at a
          have h3 : ∀ (A B : List (Nat × Int)), A.map (fun x => (x.1 : Int)) = B.map (fun x => (x.1 : Int)) → A.map (·.1) = B.map (·.1) := by
            intro A
            induction A with
            | nil => intro B h; cases B with
              | nil => rfl
              | cons b B => simp at h
            | cons a A ih =>
              intro B h
              cases B with
              | nil => simp at h
              | cons b B =>
                simp only [List.map_cons, List.cons.injEq] at h ⊢
                exact ⟨by omega, ih B h.2⟩
          exact h3 P P' a) t.2.2 t'.2.2
        subst hPP
        obtain rfl := t.1.draws t'.1
        exact ⟨_, e, e'⟩
      · exact absurd ⟨ds, P, t⟩ t'
    · rcases ref_draws_good s c off h.1 h.2.1 h.2.2 with ⟨ds', P', t', _⟩ | ⟨_, e'⟩
      · exact absurd ⟨ds', P', t'⟩ t
      · exact ⟨_, e, e'⟩
  · exact ⟨_, draws_bad s c off hs hc ho h, ref_draws_bad s c off hs h⟩
theorem Good.refBack {s ds : List Int} {P : List (Nat × Int)} (g : Good s ds P) : Ev (fun k => churnref12_Draws.f k s (fsts P) (allOff s.length P)) (ds, 0) := by
  have hle := g.le
  have hm := g.sizes.most
  obtain ⟨r, e, e'⟩ := ref_draws_same s (fsts P) (allOff s.length P) (by omega) (by omega) (by omega)
  obtain ⟨K1, a⟩ := e
  obtain ⟨K2, b⟩ := g.back
  have h1 := a (max K1 K2) (Nat.le_max_left _ _)
  have h2 := b (max K1 K2) (Nat.le_max_right _ _)
  rw [h1] at h2
  obtain rfl := Option.some.inj h2
  exact e'
end Go.Proofs.Ytiefmocfgneldaa.Pl
