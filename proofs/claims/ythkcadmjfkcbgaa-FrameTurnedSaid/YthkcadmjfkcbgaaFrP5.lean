/- What is read was packed; the place of a fault lies in the bytes. -/
import Derived.Test.YthkcadmjfkcbgaaFrP4
set_option linter.unusedVariables false
set_option linter.unusedSimpArgs false
namespace Go.Proofs.Ythkcadmjfkcbgaa.Q
open Go.RowKit Go.Proofs.YthkcadmjfkcbgaaW.PrintWords Go.Proofs.YthkcadmjfkcbgaaW.PrintLast Go.Proofs.YthkcadmjfkcbgaaW.PrintMore Go.Proofs.Ythkcadmjfkcbgaa.Pl

section
variable {pos left R E L a b pl : Int} {l : List Int}
theorem ok_blk (s : FS) (h0 : s.er = 0) (hfd : s.fd = []) (h8 : s.st ≤ 8) (n : Nat) (hn : fsz s.st = n) (h : s.ok l) : ∃ blk rest, l = blk ++ rest ∧ blk.length = n ∧ (s.fill blk).jud.2 = 0 ∧ (s.fill blk).fin.ok rest := by
  obtain ⟨h1, h2, h3⟩ := ok_field s h0 hfd h8 l n hn h
  exact ⟨l.take n, l.drop n, (List.take_append_drop n l).symm, take_len h1, h2, h3⟩
theorem dec_0 (h : (mkS pos 0 left R E L a b pl).ok l) : ∃ rest, l = [67, 72, 82, 78] ++ rest ∧ (mkS (pos + 4) 1 left R E L (sumL a b [67, 72, 82, 78]).1 (sumL a b [67, 72, 82, 78]).2 pl).ok rest := by
  obtain ⟨blk, rest, rfl, hl, hj, ho⟩ := ok_blk _ rfl rfl (by show (0 : Int) ≤ 8; omega) 4 rfl h
  have hq : blk = [67, 72, 82, 78] := by
    have e : ((mkS pos 0 left R E L a b pl).fill blk).jud = _ := jud_0 blk (pos + (blk.length : Int)) left R E L a b 0 pl
    rw [e] at hj
    by_cases q : blk = [67, 72, 82, 78]
    · exact q
    · rw [if_neg q] at hj; simp at hj
  subst hq
  rw [step_0] at ho
  exact ⟨rest, rfl, ho⟩
theorem dec_1 (h : (mkS pos 1 left R E L a b pl).ok l) : ∃ rest, l = [1] ++ rest ∧ (mkS (pos + 1) 2 left R E L (sumL a b [1]).1 (sumL a b [1]).2 pl).ok rest := by
  obtain ⟨blk, rest, rfl, hl, hj, ho⟩ := ok_blk _ rfl rfl (by show (1 : Int) ≤ 8; omega) 1 rfl h
  have hq : rd blk 0 = 1 := by
    have e : ((mkS pos 1 left R E L a b pl).fill blk).jud = _ := jud_1 blk (pos + (blk.length : Int)) left R E L a b 0 pl
    rw [e] at hj
    by_cases q : rd blk 0 = 1
    · exact q
    · rw [if_neg q] at hj; simp at hj
  obtain rfl : blk = [1] := by rw [singleton_rd blk hl, hq]
  rw [step_1] at ho
  exact ⟨rest, rfl, ho⟩
theorem dec_2 (hb : Bys l) (h : (mkS pos 2 left R E L a b pl).ok l) : ∃ x rest, l = [x] ++ rest ∧ 0 ≤ x ∧ x ≤ 8 ∧ (mkS (pos + 1) 3 left R E x (sumL a b [x]).1 (sumL a b [x]).2 pl).ok rest := by
  obtain ⟨blk, rest, rfl, hl, hj, ho⟩ := ok_blk _ rfl rfl (by show (2 : Int) ≤ 8; omega) 1 rfl h
  have hq : ¬ rd blk 0 > 8 := by
    have e : ((mkS pos 2 left R E L a b pl).fill blk).jud = _ := jud_2 blk (pos + (blk.length : Int)) left R E L a b 0 pl
    rw [e] at hj
    by_cases q : rd blk 0 > 8
    · rw [if_pos q] at hj; simp at hj
    · exact q
  obtain ⟨x, rfl⟩ : ∃ x, blk = [x] := ⟨_, singleton_rd blk hl⟩
  have hq : ¬ x > 8 := hq
  have hx := hb x (by simp)
  rw [step_2 _ _ _ _ _ _ _ _ _ hq] at ho
  exact ⟨x, rest, rfl, hx.1, by omega, ho⟩
theorem dec_3 (hb : Bys l) (h : (mkS pos 3 left R E L a b pl).ok l) : ∃ (n : Nat) (rest : List Int), l = be n 2 ++ rest ∧ n ≤ 256 ∧ (mkS (pos + 2) 4 n R E L (sumL a b (be n 2)).1 (sumL a b (be n 2)).2 pl).ok rest := by
  obtain ⟨blk, rest, rfl, hl, hj, ho⟩ := ok_blk _ rfl rfl (by show (3 : Int) ≤ 8; omega) 2 rfl h
  have hbb : Bys blk := fun x hx => hb x (List.mem_append_left _ hx)
  have hr := numL_range blk hbb
  have hq : ¬ numL blk > 256 := by
    have e : ((mkS pos 3 left R E L a b pl).fill blk).jud = _ := jud_3 blk (pos + (blk.length : Int)) left R E L a b 0 pl
    rw [e] at hj
    by_cases q : numL blk > 256
    · rw [if_pos q] at hj; simp at hj
    · exact q
  rw [step_3 _ _ _ _ _ _ _ _ _ hl hq] at ho
  obtain ⟨n, hn⟩ := Int.eq_ofNat_of_zero_le hr.1
  have hbe : be (n : Int) 2 = blk := by rw [show (n : Int) = numL blk from hn.symm]; exact be_numL blk 2 hl hbb
  refine ⟨n, rest, by rw [hbe], by omega, ?_⟩
  rw [hbe, show (n : Int) = numL blk from hn.symm]
  exact ho
theorem dec_4 (hb : Bys l) (h : (mkS pos 4 left R E L a b pl).ok l) : ∃ (n : Int) (rest : List Int), l = be n 8 ++ rest ∧ 0 ≤ n ∧ n ≤ 4611686018427387903 ∧ (mkS (pos + 8) 5 left n E L (sumL a b (be n 8)).1 (sumL a b (be n 8)).2 pl).ok rest := by
  obtain ⟨blk, rest, rfl, hl, hj, ho⟩ := ok_blk _ rfl rfl (by show (4 : Int) ≤ 8; omega) 8 rfl h
  have hbb : Bys blk := fun x hx => hb x (List.mem_append_left _ hx)
  have hr := numL_range blk hbb
  have hq : ¬ numL blk > 4611686018427387903 := by
    have e : ((mkS pos 4 left R E L a b pl).fill blk).jud = _ := jud_4 blk (pos + (blk.length : Int)) left R E L a b 0 pl
    rw [e] at hj
    by_cases q : numL blk > 4611686018427387903
    · rw [if_pos q] at hj; simp at hj
    · exact q
  rw [step_4 _ _ _ _ _ _ _ _ _ hl hq, w64 (by omega) (by omega)] at ho
  have hbe : be (numL blk) 8 = blk := be_numL blk 8 hl hbb
  exact ⟨numL blk, rest, by rw [hbe], hr.1, by omega, by rw [hbe]; exact ho⟩
theorem dec_5 (hb : Bys l) (h : (mkS pos 5 left R E L a b pl).ok l) : ∃ (n : Int) (rest : List Int), l = be n 8 ++ rest ∧ 0 ≤ n ∧ n ≤ 4611686018427387904 ∧ (mkS (pos + 8) (if left = 0 then 8 else 6) left R n L (sumL a b (be n 8)).1 (sumL a b (be n 8)).2 pl).ok rest := by
  obtain ⟨blk, rest, rfl, hl, hj, ho⟩ := ok_blk _ rfl rfl (by show (5 : Int) ≤ 8; omega) 8 rfl h
  have hbb : Bys blk := fun x hx => hb x (List.mem_append_left _ hx)
  have hr := numL_range blk hbb
  have hq : ¬ numL blk > 4611686018427387904 := by
    have e : ((mkS pos 5 left R E L a b pl).fill blk).jud = _ := jud_5 blk (pos + (blk.length : Int)) left R E L a b 0 pl
    rw [e] at hj
    by_cases q : numL blk > 4611686018427387904
    · rw [if_pos q] at hj; simp at hj
    · exact q
  rw [step_5 _ _ _ _ _ _ _ _ _ hl hq, w64 (by omega) (by omega)] at ho
  have hbe : be (numL blk) 8 = blk := be_numL blk 8 hl hbb
  exact ⟨numL blk, rest, by rw [hbe], hr.1, by omega, by rw [hbe]; exact ho⟩
theorem dec_6 (hb : Bys l) (h : (mkS pos 6 left R E L a b pl).ok l) : ∃ (rest : List Int), l = be 320 2 ++ rest ∧ (mkS (pos + 2) 7 left R E L (sumL a b (be 320 2)).1 (sumL a b (be 320 2)).2 pl).ok rest := by
  obtain ⟨blk, rest, rfl, hl, hj, ho⟩ := ok_blk _ rfl rfl (by show (6 : Int) ≤ 8; omega) 2 rfl h
  have hbb : Bys blk := fun x hx => hb x (List.mem_append_left _ hx)
  have hq : numL blk = 320 := by
    have e : ((mkS pos 6 left R E L a b pl).fill blk).jud = _ := jud_6 blk (pos + (blk.length : Int)) left R E L a b 0 pl
    rw [e] at hj
    by_cases q : numL blk = 320
    · exact q
    · rw [if_neg q] at hj; simp at hj
  rw [step_6 _ _ _ _ _ _ _ _ _ hl hq] at ho
  have hbe : be 320 2 = blk := by rw [← hq]; exact be_numL blk 2 hl hbb
  exact ⟨rest, by rw [hbe], by rw [hbe]; exact ho⟩
theorem dec_7 (h : (mkS pos 7 left R E L a b pl).ok l) : ∃ (c rest : List Int), l = c ++ rest ∧ c.length = 320 ∧ (mkS (pos + 320) (if left - 1 = 0 then 8 else 6) (left - 1) R E L (sumL a b c).1 (sumL a b c).2 pl).ok rest := by
  obtain ⟨blk, rest, rfl, hl, hj, ho⟩ := ok_blk _ rfl rfl (by show (7 : Int) ≤ 8; omega) 320 rfl h
  rw [step_7 _ _ _ _ _ _ _ _ _ hl] at ho
  exact ⟨blk, rest, rfl, hl, ho⟩
theorem dec_8 (hb : Bys l) (h : (mkS pos 8 left R E L a b pl).ok l) : l = be (b * 65536 + a) 4 := by
  obtain ⟨blk, rest, rfl, hl, hj, ho⟩ := ok_blk _ rfl rfl (by show (8 : Int) ≤ 8; omega) 4 rfl h
  have hbb : Bys blk := fun x hx => hb x (List.mem_append_left _ hx)
  have hq : numL blk = b * 65536 + a := by
    have e : ((mkS pos 8 left R E L a b pl).fill blk).jud = _ := jud_8 blk (pos + (blk.length : Int)) left R E L a b 0 pl
    rw [e] at hj
    by_cases q : numL blk = b * 65536 + a
    · exact q
    · rw [if_neg q] at hj; simp at hj
  rw [step_8 _ _ _ _ _ _ _ _ _ hl hq] at ho
  have hr := ok_end _ rfl rfl rfl rest ho
  rw [hr, List.append_nil, ← hq, be_numL blk 4 hl hbb]
end
theorem Bys.right {l m : List Int} (h : Bys (l ++ m)) : Bys m := fun x hx => h x (List.mem_append_right _ hx)
theorem Bys.left {l m : List Int} (h : Bys (l ++ m)) : Bys l := fun x hx => h x (List.mem_append_left _ hx)
theorem dec_cells (R E L pl : Int) : ∀ (m : Nat) (pos a b : Int) (l : List Int), Bys l → (mkS pos (if (m : Int) = 0 then 8 else 6) (m : Int) R E L a b pl).ok l →
    ∃ (cs : List (List Int)) (rest : List Int) (pos' : Int), l = encC cs ++ rest ∧ cs.length = m ∧ (∀ c ∈ cs, c.length = 320) ∧ (mkS pos' 8 0 R E L (sumL a b (encC cs)).1 (sumL a b (encC cs)).2 pl).ok rest
  | 0, pos, a, b, l, hb, h => ⟨[], l, pos, by simp [encC], rfl, by simp, h⟩
  | m + 1, pos, a, b, l, hb, h => by
    rw [if_neg (by omega)] at h
    obtain ⟨rest, e1, h1⟩ := dec_6 hb h
    subst e1
    clear h
    obtain ⟨c, rest2, e2, hc, h2⟩ := dec_7 h1
    subst e2
    clear h1
    have e : (↑(m + 1) : Int) - 1 = (m : Int) := by omega
    rw [e] at h2
    obtain ⟨cs, rest, pos', e3, hm, hcs, h⟩ := dec_cells R E L pl m _ _ _ rest2 hb.right.right h2
    subst e3
    refine ⟨c :: cs, rest, pos', by rw [encC_cons]; simp, by simp [hm], ?_, ?_⟩
    · intro d hd
      rcases List.mem_cons.1 hd with rfl | hd
      · exact hc
      · exact hcs d hd
    · rw [encC_cons, sumL_append, sumL_append]
      exact h
/-- What is read is the bytes of a batch. -/
theorem read_was (l : List Int) (hb : Bys l) (h : FS.init.ok l) : ∃ R E L cs, Full R E L cs ∧ l = whole R E L cs := by
  have g : (mkS 0 0 0 0 0 0 (sumL 1 0 []).1 (sumL 1 0 []).2 0).ok l := h
  clear h
  obtain ⟨r0, z0, g0⟩ := dec_0 g
  subst z0
  rw [← sumL_append] at g0
  obtain ⟨r1, z1, g1⟩ := dec_1 g0
  subst z1
  rw [← sumL_append] at g1
  obtain ⟨L, r2, z2, l0, l8, g2⟩ := dec_2 hb.right.right g1
  subst z2
  rw [← sumL_append] at g2
  obtain ⟨n, r3, z3, hn, g3⟩ := dec_3 hb.right.right.right g2
  subst z3
  rw [← sumL_append] at g3
  obtain ⟨R, r4, z4, r0, r1, g4⟩ := dec_4 hb.right.right.right.right g3
  subst z4
  rw [← sumL_append] at g4
  obtain ⟨E, r5, z5, e0, e1, g5⟩ := dec_5 hb.right.right.right.right.right g4
  subst z5
  rw [← sumL_append] at g5
  obtain ⟨cs, r6, pos', z6, hm, hcs, g6⟩ := dec_cells _ _ _ _ n _ _ _ r5 hb.right.right.right.right.right.right g5
  subst z6
  rw [← sumL_append] at g6
  have h8 := dec_8 hb.right.right.right.right.right.right.right g6
  subst hm
  refine ⟨R, E, L, cs, ⟨⟨l0, l8, r0, r1, e0, e1⟩, hn, hcs⟩, ?_⟩
  have hp : (((((([] : List Int) ++ [67, 72, 82, 78]) ++ [1]) ++ [L]) ++ be cs.length 2) ++ be R 8) ++ be E 8 ++ encC cs = enc R E L cs ++ encC cs := by simp [enc]
  rw [hp] at h8
  rw [h8]
  simp [whole, enc, footV]
/-! ### where a fault lies -/
structure FS.Inv (s : FS) : Prop where
  okay : s.Okay
  short : s.er = 0 → (s.fd.length : Int) < fsz s.st
  p0 : (s.fd.length : Int) ≤ s.pos
  l0 : 0 ≤ s.pl
  l1 : s.pl ≤ s.pos
theorem byte_inv (s : FS) (c : Int) (hc : 0 ≤ c ∧ c ≤ 255) (h : s.Inv) : (s.byte c).1.Inv ∧ (s.byte c).1.pos ≤ s.pos + 1 := by
  unfold FS.byte
  by_cases he : s.er ≠ 0
  · rw [if_pos he]; exact ⟨h, by show s.pos ≤ _; omega⟩
  · rw [if_neg he]
    have he : s.er = 0 := by omega
    have hfl : ((s.fill [c]).fd.length : Int) = s.fd.length + 1 := by simp [FS.fill_fd]
    have ho : (s.fill [c]).Okay := { h.okay with by_ := h.okay.by_.append (by intro x hx; simp at hx; omega) }
    have hp : (s.fill [c]).pos = s.pos + 1 := rfl
    have hst : (s.fill [c]).st = s.st := rfl
    by_cases hs : ((s.fill [c]).fd.length : Int) < fsz s.st
    · rw [if_pos hs]
      exact ⟨⟨ho, fun _ => hs, by rw [hfl, hp]; have := h.p0; omega, h.l0, by rw [hp]; show s.pl ≤ _; have := h.l1; omega⟩, by show (s.fill [c]).pos ≤ _; omega⟩
    · rw [if_neg hs]
      have hfull : ((s.fill [c]).fd.length : Int) = fsz (s.fill [c]).st := by rw [hst]; have := h.short he; omega
      obtain ⟨⟨k1, k2, k3, k4⟩, ko, _⟩ := FS.jud_okay _ ho hfull
      have hfz := fsz_pos (s.fill [c]).jud.1.st
      show (s.fill [c]).fin.Inv ∧ (s.fill [c]).fin.pos ≤ _
      unfold FS.fin
      by_cases hj : (s.fill [c]).jud.2 = 0
      · rw [if_pos hj]
        refine ⟨⟨{ ko with by_ := fun x hx => by simp at hx }, fun _ => ?_, ?_, ?_, ?_⟩, ?_⟩
        · show (([] : List Int).length : Int) < _; simp; omega
        · show (([] : List Int).length : Int) ≤ (s.fill [c]).jud.1.pos; rw [k2, hp]; have := h.p0; simp; omega
        · show 0 ≤ (s.fill [c]).jud.1.pl; rw [k4]; exact h.l0
        · show (s.fill [c]).jud.1.pl ≤ (s.fill [c]).jud.1.pos; rw [k4, k2, hp]; show s.pl ≤ _; have := h.l1; omega
        · show (s.fill [c]).jud.1.pos ≤ _; rw [k2, hp]; omega
      · rw [if_neg hj]
        refine ⟨⟨{ ko with }, fun h0 => absurd h0 hj, ?_, ?_, ?_⟩, ?_⟩
        · show ((s.fill [c]).jud.1.fd.length : Int) ≤ (s.fill [c]).jud.1.pos; rw [k1, k2, hfl, hp]; have := h.p0; omega
        · show 0 ≤ (s.fill [c]).jud.1.pos - ((s.fill [c]).jud.1.fd.length : Int); rw [k1, k2, hfl, hp]; have := h.p0; omega
        · show (s.fill [c]).jud.1.pos - ((s.fill [c]).jud.1.fd.length : Int) ≤ (s.fill [c]).jud.1.pos; omega
        · show (s.fill [c]).jud.1.pos ≤ _; rw [k2, hp]; omega
theorem run_inv (l : List Int) : ∀ s : FS, Bys l → s.Inv → (s.run l).1.Inv ∧ (s.run l).1.pos ≤ s.pos + l.length := by
  induction l with
  | nil => intro s _ h; exact ⟨h, by simp [FS.run]⟩
  | cons c l ih =>
    intro s hb h
    obtain ⟨h1, h2⟩ := byte_inv s c (hb c List.mem_cons_self) h
    obtain ⟨h3, h4⟩ := ih _ hb.tail h1
    refine ⟨h3, ?_⟩
    show ((s.byte c).1.run l).1.pos ≤ _
    simp only [List.length_cons]
    omega
theorem init_inv : FS.init.Inv := ⟨init_okay, fun _ => by decide, by decide, by decide, by decide⟩
/-- All that Read can answer. -/
theorem read_cases (l : List Int) (hb : Bys l) : (∃ R E L cs, Full R E L cs ∧ l = whole R E L cs ∧ rdF l = (R, E, L, cs, 0, 0)) ∨ (∃ p e : Int, e ≠ 0 ∧ 0 ≤ p ∧ p ≤ l.length ∧ rdF l = (0, 0, 0, [], p, e)) := by
  by_cases ho : FS.init.ok l
  · obtain ⟨R, E, L, cs, hf, hl⟩ := read_was l hb ho
    exact .inl ⟨R, E, L, cs, hf, hl, by rw [hl]; exact read_whole hf⟩
  · right
    obtain ⟨hi, hp⟩ := run_inv l FS.init hb init_inv
    have hp : (FS.init.run l).1.pos ≤ l.length := by have : FS.init.pos = 0 := rfl; omega
    unfold FS.ok at ho
    unfold rdF
    by_cases he : (FS.init.run l).1.er = 0
    · have hst : (FS.init.run l).1.st < 9 := by
        rcases Int.lt_or_le (FS.init.run l).1.st 9 with h | h
        · exact h
        · exact absurd ⟨he, h⟩ ho
      have hfe : (FS.init.run l).1.fend = ((FS.init.run l).1.pos, 67) := by unfold FS.fend; rw [if_neg (by omega), if_pos hst]
      refine ⟨(FS.init.run l).1.pos, 67, by decide, by have := hi.p0; omega, hp, ?_⟩
      simp only []
      rw [if_pos he, hfe, if_neg (by simp)]
    · refine ⟨(FS.init.run l).1.pl, (FS.init.run l).1.er, he, hi.l0, by have := hi.l1; omega, ?_⟩
      simp only []
      rw [if_neg he]
end Go.Proofs.Ythkcadmjfkcbgaa.Q
