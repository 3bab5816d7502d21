/- BraidWeaves: what is too great; chunks as they are read, and one thing of a chunk written over; plain lemmas. -/
import Derived.Test.YtiefmocfgneldaaBvK
import Derived.Test.YtiefmocfgneldaaBvW
import Derived.Test.YtiefmocfgneldaaQx2
set_option linter.unusedVariables false
set_option linter.unusedSimpArgs false
namespace Go.Proofs.Ytiefmocfgneldaa.Pl
open Go.RowKit Go.Proofs.Ytiefmocfgneldaa.Q Go.Proofs.YtiefmocfgneldaaW.PrintWords Go.Proofs.YtiefmocfgneldaaW.PrintLast
theorem great_aux (lens : List Int) (hl : lens.length ≤ 17592186044000) : ∀ (d i : Nat) (n : Int), lens.length - i = d → i ≤ lens.length → 0 ≤ n → n ≤ 1048576 →
    ∃ (k : Nat) (b : Bool), churnlaw12_great.l0 k n lens (lens.length : Int) (i : Int) = some b ∧ (b = false → (∀ x ∈ lens.drop i, 0 ≤ x ∧ x ≤ 65536) ∧ n + sumZ (lens.drop i) + d ≤ 1048576)
  | 0, i, n, hd, hi, h0, h1 => by
    obtain rfl : i = lens.length := by omega
    refine ⟨1, false, ?_, fun _ => ⟨by simp, by simp [sumZ]; exact h1⟩⟩
    rw [churnlaw12_great.l0, if_neg (by omega)]
  | d + 1, i, n, hd, hi, h0, h1 => by
    have hil : i < lens.length := by omega
    have hr : rd lens (i : Int) = lens[i] := by simp [rd, hil]
    have hdr : lens.drop i = rd lens (i : Int) :: lens.drop (i + 1) := by rw [List.drop_eq_getElem_cons hil, hr]
    have hs : sumZ (lens.drop i) = rd lens (i : Int) + sumZ (lens.drop (i + 1)) := by rw [hdr]; rfl
    obtain ⟨x, hx⟩ : ∃ x, rd lens (i : Int) = x := ⟨_, rfl⟩
    rw [hx] at hdr hs
    have c1 : (i : Int) < (lens.length : Int) := by omega
    have c2 : (0 : Int) ≤ (i : Int) := by omega
    by_cases x0 : x < 0
    · refine ⟨2, true, ?_, fun e => by cases e⟩
      rw [churnlaw12_great.l0, if_pos c1, if_pos c2, if_pos c1, hx, if_pos x0, churnlaw12_great.j1, if_pos rfl]
    · by_cases x1 : x > 65536
      · refine ⟨2, true, ?_, fun e => by cases e⟩
        rw [churnlaw12_great.l0, if_pos c1, if_pos c2, if_pos c1, hx, if_neg x0, decide_eq_true x1, churnlaw12_great.j1, if_pos rfl]
      · have e1 := Aside0.mk (show wrap64 (x + 1) = x + 1 from w64 (by omega) (by omega))
        have e2 := Aside0.mk (show wrap64 (n + (x + 1)) = n + (x + 1) from w64 (by omega) (by omega))
        have e3 := Aside0.mk (show wrap64 ((i : Int) + 1) = ((i + 1 : Nat) : Int) from w64n (x := i + 1) (by omega))
        by_cases x2 : n + (x + 1) > 1048576
        · refine ⟨2, true, ?_, fun e => by cases e⟩
          rw [churnlaw12_great.l0, if_pos c1, if_pos c2, if_pos c1, hx, if_neg x0, decide_eq_false x1, churnlaw12_great.j1, if_neg Bool.false_ne_true, e1.out, e2.out, if_pos x2]
        · obtain ⟨k, b, h2, h3⟩ := great_aux lens hl d (i + 1) (n + (x + 1)) (by omega) (by omega) (by omega) (by omega)
          refine ⟨k + 2, b, ?_, fun e => ?_⟩
          · rw [churnlaw12_great.l0, if_pos c1, if_pos c2, if_pos c1, hx, if_neg x0, decide_eq_false x1, churnlaw12_great.j1, if_neg Bool.false_ne_true, e1.out, e2.out, if_neg x2, e3.out, h2]
          · obtain ⟨h4, h5⟩ := h3 e
            refine ⟨fun y hy => ?_, by omega⟩
            rw [hdr] at hy
            rcases List.mem_cons.1 hy with rfl | hy
            · omega
            · exact h4 y hy
theorem great_run (lens : List Int) (hl : lens.length ≤ 17592186044000) : ∃ (k : Nat) (b : Bool), churnlaw12_great.f k lens = some b ∧ (b = false → (∀ x ∈ lens, 0 ≤ x ∧ x ≤ 65536) ∧ lens.length ≤ 1048576 ∧ sumZ lens ≤ 1048576) := by
  obtain ⟨k, b, h1, h2⟩ := great_aux lens hl lens.length 0 0 (by simp) (by omega) (by omega) (by omega)
  refine ⟨k, b, h1, fun e => ?_⟩
  obtain ⟨h3, h4⟩ := h2 e
  rw [List.drop_zero] at h3 h4
  have h5 : 0 ≤ sumZ lens := by
    clear h1 h2 h4 hl
    induction lens with
    | nil => exact Int.le_refl _
    | cons x l ih =>
      have := ih (fun y hy => h3 y (List.mem_cons_of_mem _ hy))
      have := (h3 x (List.mem_cons_self ..)).1
      show 0 ≤ x + sumZ l
      omega
  exact ⟨h3, by omega, by omega⟩
section
variable {W W1 : World} {lo hi : Nat} {v : Value} {L : List Ck} {cs : List (List (Int × Int))}
/-- The chunks, as Weave reads them. -/
theorem CK.wr (h : CK W lo hi v L cs) (hc : Chs L cs) {A : Option Addr} {c : Nat} (hv : v = .slice A L.length c) : WR 2 W A (L.map fun x => (x.n : Int)) (fun j k => [.int .i64 (j : Int), .int .i64 (k : Int)]) := by
  refine ⟨fun j k => rfl, fun j k u hu => ?_, fun j hj => ?_⟩
  · simp only [List.mem_cons, List.not_mem_nil, or_false] at hu
    rcases hu with rfl | rfl <;> rfl
  · rw [List.length_map] at hj
    obtain ⟨x, hx⟩ : ∃ x, L[j]? = some x := ⟨L[j], List.getElem?_eq_getElem hj⟩
    obtain ⟨p, hp, hpl, hlo, hhi, hxs, hown⟩ := h.has hx
    obtain ⟨A', c', e, -, hA, hcell⟩ := many_cells h.out
    rw [hv] at e
    injection e with e1 e2 e3
    subst e1
    obtain ⟨go_, rfl, hq, -⟩ := hcell j (ckv x) (by simp [hx])
    obtain ⟨A2, c2, e, hnc, -, hcell2⟩ := many_cells hown
    injection e with e1 e2 e3
    subst e1
    subst e3
    refine ⟨go_, x.g, x.n, x.c, rfl, (hA go_ rfl).2, by simp [rd, hx], hq, by omega, hxs, fun k hk t u hu => ?_⟩
    rw [hc.at_ j x hx] at hp
    injection hp with hp
    have hg : p[k]? = some ((j : Int), (k : Int)) := by rw [← hp, List.getElem?_append_left (by rw [chk_len]; exact hk), chk_get hk]
    obtain ⟨g1, g2⟩ := pcells_get p k _ hg
    obtain rfl | rfl : t = 0 ∨ t = 1 := by
      have := (List.getElem?_eq_some_iff.1 hu).1
      simp at this
      omega
    · obtain ⟨g', e, hq2, -⟩ := hcell2 _ _ g1
      injection e with e
      injection e with e
      subst e
      simp only [List.getElem?_cons_zero, Option.some.injEq] at hu
      rw [← hu]
      exact hq2
    · obtain ⟨g', e, hq2, -⟩ := hcell2 _ _ g2
      injection e with e
      injection e with e
      subst e
      simp only [List.getElem?_cons_succ, List.getElem?_cons_zero, Option.some.injEq] at hu
      rw [← hu]
      exact hq2
/-- One thing written over. -/
theorem CK.put (h : CK W lo hi v L cs) {j k : Nat} {x : Ck} {p : List (Int × Int)} (hx : L[j]? = some x) (hp : cs[j]? = some p) (hk : k < p.length) (y : Int × Int) :
    CK ((W.setCell ⟨x.g, k * 2, none⟩ (.int .i64 y.1)).setCell ⟨x.g, k * 2 + 1, none⟩ (.int .i64 y.2)) lo hi v L (cs.set j (p.set k y)) := by
  obtain ⟨hpl, hgh, hown⟩ := h.own j x p hx hp
  have hjc := (List.getElem?_eq_some_iff.1 hp).1
  have o1 := (many_put hown (k := k * 2) (by omega) (.int .i64 y.1)).1
  have o2 := (many_put o1 (k := k * 2 + 1) (by omega) (.int .i64 y.2)).1
  have st : ∀ b, b ≠ x.g → ((W.setCell ⟨x.g, k * 2, none⟩ (.int .i64 y.1)).setCell ⟨x.g, k * 2 + 1, none⟩ (.int .i64 y.2)).heap[b]? = W.heap[b]? := fun b hb =>
    (Below.heap_setCell _ ⟨x.g, k * 2 + 1, none⟩ _ b hb).trans (Below.heap_setCell _ ⟨x.g, k * 2, none⟩ _ b hb)
  refine ⟨many_step h.out (fun b hb => st b (fun e => h.one j x hx (by rw [hb, e]))), h.ohi, by rw [List.length_set]; exact h.len, ?_, h.ne, h.one⟩
  intro i z q hz hq
  by_cases e : i = j
  · subst e
    rw [hx] at hz
    injection hz with hz
    subst hz
    rw [List.getElem?_set_self hjc] at hq
    injection hq with hq
    subst hq
    refine ⟨by rw [List.length_set]; exact hpl, hgh, ?_⟩
    rw [← pcells_set p k y hk]
    exact o2
  · rw [List.getElem?_set_ne (fun e2 => e e2.symm)] at hq
    obtain ⟨a, b, c⟩ := h.own i z q hz hq
    refine ⟨a, b, many_step c (fun b2 hb2 => st b2 (fun e2 => e ?_))⟩
    obtain rfl : z.g = b2 := by simpa [Value.ownBlock] using hb2
    exact h.ne i j z x hz hx e2
end
end Go.Proofs.Ytiefmocfgneldaa.Pl
