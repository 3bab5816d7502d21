/- What is read is just what is packed: the feed's run, field by field. -/
import Derived.Test.YthkcadmjfkcbgaaFrP3
set_option linter.unusedVariables false
set_option linter.unusedSimpArgs false
namespace Go.Proofs.Ythkcadmjfkcbgaa.Q
open Go.RowKit Go.Proofs.YthkcadmjfkcbgaaW.PrintWords Go.Proofs.YthkcadmjfkcbgaaW.PrintLast Go.Proofs.YthkcadmjfkcbgaaW.PrintMore Go.Proofs.Ythkcadmjfkcbgaa.Pl

/-! ### numbers and their bytes -/
theorem numF_be (n : Nat) : ∀ (v w : Int), 0 ≤ v → numF w (be v n) = w * 256 ^ n + v % 256 ^ n := by
  induction n with
  | zero => intro v w _; simp [be, numF, Int.emod_one]
  | succ n ih =>
    intro v w hv
    show numF (w * 256 + (v / 256 ^ n) % 256) (be v n) = _
    rw [ih v _ hv]
    have hp : (256 : Int) ^ (n + 1) = 256 ^ n * 256 := Int.pow_succ _ _
    have h1 : v % (256 ^ n * 256) = v % 256 ^ n + 256 ^ n * ((v / 256 ^ n) % 256) := by
      have a := Int.emod_add_mul_ediv v (256 ^ n)
      have b := Int.emod_add_mul_ediv v (256 ^ n * 256)
      have c := Int.emod_add_mul_ediv (v / 256 ^ n) 256
      have d : v / 256 ^ n / 256 = v / (256 ^ n * 256) := Int.ediv_ediv_of_nonneg (Int.pow_nonneg (by decide))
      rw [d] at c
      have e : 256 ^ n * (v / 256 ^ n) = 256 ^ n * ((v / 256 ^ n) % 256) + 256 ^ n * 256 * (v / (256 ^ n * 256)) := by
        rw [Int.mul_assoc, ← Int.mul_add, c]
      omega
    rw [hp, h1, Int.add_mul, Int.mul_assoc, Int.mul_comm 256 (256 ^ n), Int.mul_comm ((v / 256 ^ n) % 256)]
    omega
theorem numL_be (v : Int) (n : Nat) (h0 : 0 ≤ v) (h1 : v < 256 ^ n) : numL (be v n) = v := by
  rw [numL_def, numF_be n v 0 h0, Int.emod_eq_of_lt h0 h1]
  omega
theorem be_num : ∀ (l : List Int) (w : Int), Bys l → 0 ≤ w → be (numF w l) l.length = l
  | [], w, _, _ => rfl
  | c :: l, w, hb, hw => by
    have hc := hb c List.mem_cons_self
    have hi := be_num l (w * 256 + c) hb.tail (by omega)
    have hr := numF_range l 0 0 hb.tail (by omega) (by decide)
    have key : ∀ (l : List Int) (u : Int), numF u l = u * 256 ^ l.length + numF 0 l := by
      intro l
      induction l with
      | nil => intro u; simp [numF]
      | cons d l ih =>
        intro u
        show numF (u * 256 + d) l = u * 256 ^ (l.length + 1) + numF (0 * 256 + d) l
        rw [ih (u * 256 + d), ih (0 * 256 + d), Int.pow_succ, Int.add_mul, Int.add_mul, Int.mul_assoc, Int.mul_comm 256, Int.zero_mul, Int.zero_mul]
        omega
    show (numF (w * 256 + c) l / 256 ^ l.length) % 256 :: be (numF (w * 256 + c) l) l.length = c :: l
    rw [hi]
    congr 1
    rw [key l (w * 256 + c)]
    have hz : numF 0 l / 256 ^ l.length = 0 := Int.ediv_eq_zero_of_lt hr.1 (by simpa using hr.2)
    rw [Int.mul_comm, Int.add_comm, Int.add_mul_ediv_left _ _ (Int.ne_of_gt (Int.pow_pos (by decide))), hz]
    omega
theorem be_numL (l : List Int) (n : Nat) (h : l.length = n) (hb : Bys l) : be (numL l) n = l := by rw [← h, numL_def]; exact be_num l 0 hb (by omega)
/-! ### sums -/
theorem sumL_append (l m : List Int) : ∀ a b : Int, sumL a b (l ++ m) = sumL (sumL a b l).1 (sumL a b l).2 m := by
  induction l with
  | nil => intro a b; rfl
  | cons c l ih => intro a b; exact ih _ _
theorem sumL_fst (l : List Int) : ∀ a b : Int, 0 ≤ a → a < 65521 → (sumL a b l).1 = (a + l.sum) % 65521 := by
  induction l with
  | nil => intro a b h0 h1; simp [sumL]; omega
  | cons c l ih =>
    intro a b h0 h1
    show (sumL ((a + c) % 65521) _ l).1 = _
    rw [ih _ _ (by omega) (by omega), List.sum_cons]
    omega
/-! ### the run, field by field -/
def FS.ok (s : FS) (l : List Int) : Prop := (s.run l).1.er = 0 ∧ 9 ≤ (s.run l).1.st
theorem run_field (s : FS) (h0 : s.er = 0) (hfd : s.fd = []) (l : List Int) (n : Nat) (hn : fsz s.st = n) (hl : n ≤ l.length) :
    s.run l = (((s.fill (l.take n)).fin.run (l.drop n)).1, (if s.st = 7 then [l.take n] else []) ++ ((s.fill (l.take n)).fin.run (l.drop n)).2) := by
  have hp := fsz_pos s.st
  have htl : (l.take n).length = n := by simp; omega
  have := FS.run_append (l.take n) (l.drop n) s
  rw [List.take_append_drop, FS.run_whole (l.take n) s h0 (by rw [hfd, htl]; simp; omega) (by intro h; rw [h] at htl; simp at htl; omega)] at this
  rw [this, hfd]
  rfl
/-- A run that goes through: the next field is there, it is right, and the rest goes through. -/
theorem ok_field (s : FS) (h0 : s.er = 0) (hfd : s.fd = []) (h8 : s.st ≤ 8) (l : List Int) (n : Nat) (hn : fsz s.st = n) (h : s.ok l) :
    n ≤ l.length ∧ (s.fill (l.take n)).jud.2 = 0 ∧ (s.fill (l.take n)).fin.ok (l.drop n) := by
  by_cases hl : n ≤ l.length
  · have hr := run_field s h0 hfd l n hn hl
    unfold FS.ok at h ⊢
    rw [hr] at h
    refine ⟨hl, ?_, h⟩
    by_cases hj : (s.fill (l.take n)).jud.2 = 0
    · exact hj
    · have he : (s.fill (l.take n)).fin.er ≠ 0 := by unfold FS.fin; rw [if_neg hj]; exact hj
      rw [FS.run_err _ _ he] at h
      exact absurd h.1 he
  · exfalso
    have hr := FS.run_short l s h0 (by rw [hfd]; simp; omega)
    unfold FS.ok at h
    rw [hr] at h
    have := h.2
    simp only [FS.fill_st] at this
    omega
theorem ok_end (s : FS) (h0 : s.er = 0) (hfd : s.fd = []) (h9 : s.st = 9) (l : List Int) (h : s.ok l) : l = [] := by
  cases l with
  | nil => rfl
  | cons c l =>
    exfalso
    have hr := run_field s h0 hfd (c :: l) 1 (by rw [h9]; decide) (by simp)
    unfold FS.ok at h
    rw [hr] at h
    have hj : (s.fill ((c :: l).take 1)).jud.2 ≠ 0 := by
      obtain ⟨fd, pos, st, left, R, E, L, a, b, er, pl⟩ := s
      simp only [] at h9
      subst h9
      simp only [FS.fill, jud_9]
      decide
    have he : (s.fill ((c :: l).take 1)).fin.er ≠ 0 := by unfold FS.fin; rw [if_neg hj]; exact hj
    rw [FS.run_err _ _ he] at h
    exact he h.1
theorem take_len {l : List Int} {n : Nat} (h : n ≤ l.length) : (l.take n).length = n := by simp; omega
theorem singleton_rd (l : List Int) (h : l.length = 1) : l = [rd l 0] := by
  match l, h with
  | [x], _ => rfl
/-- The fields' state between two fields. -/
def mkS (pos st left R E L a b pl : Int) : FS := ⟨[], pos, st, left, R, E, L, a, b, 0, pl⟩
theorem fin_ok {s s' : FS} (h : s.jud = (s', 0)) : s.fin = { s' with er := 0, fd := [] } := by
  unfold FS.fin
  rw [h]
  rfl
section
variable (pos left R E L a b pl : Int)
theorem step_0 : ((mkS pos 0 left R E L a b pl).fill [67, 72, 82, 78]).fin = mkS (pos + 4) 1 left R E L (sumL a b [67, 72, 82, 78]).1 (sumL a b [67, 72, 82, 78]).2 pl :=
  fin_ok (s' := ⟨[67, 72, 82, 78], pos + 4, 1, left, R, E, L, (sumL a b [67, 72, 82, 78]).1, (sumL a b [67, 72, 82, 78]).2, 0, pl⟩) (by show FS.jud ⟨[67, 72, 82, 78], pos + 4, 0, left, R, E, L, a, b, 0, pl⟩ = _; rw [jud_0, if_pos rfl])
theorem step_1 : ((mkS pos 1 left R E L a b pl).fill [1]).fin = mkS (pos + 1) 2 left R E L (sumL a b [1]).1 (sumL a b [1]).2 pl :=
  fin_ok (s' := ⟨[1], pos + 1, 2, left, R, E, L, (sumL a b [1]).1, (sumL a b [1]).2, 0, pl⟩) (by show FS.jud ⟨[1], pos + 1, 1, left, R, E, L, a, b, 0, pl⟩ = _; rw [jud_1, if_pos (show rd [1] 0 = 1 from rfl)])
theorem step_2 (x : Int) (h : ¬ x > 8) : ((mkS pos 2 left R E L a b pl).fill [x]).fin = mkS (pos + 1) 3 left R E x (sumL a b [x]).1 (sumL a b [x]).2 pl :=
  fin_ok (s' := ⟨[x], pos + 1, 3, left, R, E, x, (sumL a b [x]).1, (sumL a b [x]).2, 0, pl⟩) (by show FS.jud ⟨[x], pos + 1, 2, left, R, E, L, a, b, 0, pl⟩ = _; rw [jud_2, if_neg (by exact h)]; rfl)
theorem step_3 (blk : List Int) (hl : blk.length = 2) (h : ¬ numL blk > 256) : ((mkS pos 3 left R E L a b pl).fill blk).fin = mkS (pos + 2) 4 (numL blk) R E L (sumL a b blk).1 (sumL a b blk).2 pl :=
  fin_ok (s' := ⟨blk, pos + 2, 4, numL blk, R, E, L, (sumL a b blk).1, (sumL a b blk).2, 0, pl⟩) (by show FS.jud ⟨blk, pos + (blk.length : Int), 3, left, R, E, L, a, b, 0, pl⟩ = _; rw [jud_3, if_neg h, hl]; rfl)
theorem step_4 (blk : List Int) (hl : blk.length = 8) (h : ¬ numL blk > 4611686018427387903) : ((mkS pos 4 left R E L a b pl).fill blk).fin = mkS (pos + 8) 5 left (wrap64 (numL blk)) E L (sumL a b blk).1 (sumL a b blk).2 pl :=
  fin_ok (s' := ⟨blk, pos + 8, 5, left, wrap64 (numL blk), E, L, (sumL a b blk).1, (sumL a b blk).2, 0, pl⟩) (by show FS.jud ⟨blk, pos + (blk.length : Int), 4, left, R, E, L, a, b, 0, pl⟩ = _; rw [jud_4, if_neg h, hl]; rfl)
theorem step_5 (blk : List Int) (hl : blk.length = 8) (h : ¬ numL blk > 4611686018427387904) : ((mkS pos 5 left R E L a b pl).fill blk).fin = mkS (pos + 8) (if left = 0 then 8 else 6) left R (wrap64 (numL blk)) L (sumL a b blk).1 (sumL a b blk).2 pl :=
  fin_ok (s' := ⟨blk, pos + 8, if left = 0 then 8 else 6, left, R, wrap64 (numL blk), L, (sumL a b blk).1, (sumL a b blk).2, 0, pl⟩) (by show FS.jud ⟨blk, pos + (blk.length : Int), 5, left, R, E, L, a, b, 0, pl⟩ = _; rw [jud_5, if_neg h, hl]; rfl)
theorem step_6 (blk : List Int) (hl : blk.length = 2) (h : numL blk = 320) : ((mkS pos 6 left R E L a b pl).fill blk).fin = mkS (pos + 2) 7 left R E L (sumL a b blk).1 (sumL a b blk).2 pl :=
  fin_ok (s' := ⟨blk, pos + 2, 7, left, R, E, L, (sumL a b blk).1, (sumL a b blk).2, 0, pl⟩) (by show FS.jud ⟨blk, pos + (blk.length : Int), 6, left, R, E, L, a, b, 0, pl⟩ = _; rw [jud_6, if_pos h, hl]; rfl)
theorem step_7 (blk : List Int) (hl : blk.length = 320) : ((mkS pos 7 left R E L a b pl).fill blk).fin = mkS (pos + 320) (if left - 1 = 0 then 8 else 6) (left - 1) R E L (sumL a b blk).1 (sumL a b blk).2 pl :=
  fin_ok (s' := ⟨blk, pos + 320, if left - 1 = 0 then 8 else 6, left - 1, R, E, L, (sumL a b blk).1, (sumL a b blk).2, 0, pl⟩) (by show FS.jud ⟨blk, pos + (blk.length : Int), 7, left, R, E, L, a, b, 0, pl⟩ = _; rw [jud_7, hl]; rfl)
theorem step_8 (blk : List Int) (hl : blk.length = 4) (h : numL blk = b * 65536 + a) : ((mkS pos 8 left R E L a b pl).fill blk).fin = mkS (pos + 4) 9 left R E L a b pl :=
  fin_ok (s' := ⟨blk, pos + 4, 9, left, R, E, L, a, b, 0, pl⟩) (by show FS.jud ⟨blk, pos + (blk.length : Int), 8, left, R, E, L, a, b, 0, pl⟩ = _; rw [jud_8, if_pos h, hl]; rfl)
end
theorem run_blk (s : FS) (h0 : s.er = 0) (hfd : s.fd = []) (blk rest : List Int) (hn : fsz s.st = (blk.length : Nat)) :
    s.run (blk ++ rest) = (((s.fill blk).fin.run rest).1, (if s.st = 7 then [blk] else []) ++ ((s.fill blk).fin.run rest).2) := by
  have := run_field s h0 hfd (blk ++ rest) blk.length hn (by simp)
  rw [List.take_left, List.drop_left] at this
  exact this
/-- The cells' fields. -/
theorem run_cells (R E L pl : Int) (rest : List Int) : ∀ (cs : List (List Int)) (pos a b : Int), (∀ c ∈ cs, c.length = 320) → ∃ pos' : Int,
    (mkS pos (if (cs.length : Int) = 0 then 8 else 6) (cs.length : Int) R E L a b pl).run (encC cs ++ rest) = (((mkS pos' 8 0 R E L (sumL a b (encC cs)).1 (sumL a b (encC cs)).2 pl).run rest).1, cs ++ ((mkS pos' 8 0 R E L (sumL a b (encC cs)).1 (sumL a b (encC cs)).2 pl).run rest).2)
  | [], pos, a, b, _ => ⟨pos, by simp [encC, sumL]⟩
  | c :: cs, pos, a, b, h => by
    have hc := h c List.mem_cons_self
    obtain ⟨pos', hi⟩ := run_cells R E L pl rest cs (pos + 2 + 320) (sumL (sumL a b (be 320 2)).1 (sumL a b (be 320 2)).2 c).1 (sumL (sumL a b (be 320 2)).1 (sumL a b (be 320 2)).2 c).2 (fun d hd => h d (List.mem_cons_of_mem _ hd))
    refine ⟨pos', ?_⟩
    have hne : ((c :: cs).length : Int) ≠ 0 := by simp only [List.length_cons]; omega
    rw [if_neg hne, encC_cons, List.append_assoc, List.append_assoc]
    rw [run_blk _ rfl rfl (be 320 2) _ (by rw [be_len]; rfl), step_6 _ _ _ _ _ _ _ _ _ (be_len _ _) (by decide)]
    rw [run_blk _ rfl rfl c _ (by rw [hc]; rfl), step_7 _ _ _ _ _ _ _ _ _ hc]
    have e : ((c :: cs).length : Int) - 1 = (cs.length : Int) := by simp only [List.length_cons]; omega
    rw [e, hi, sumL_append, sumL_append]
    simp [mkS]
def Full (R E L : Int) (cs : List (List Int)) : Prop := (0 ≤ L ∧ L ≤ 8 ∧ 0 ≤ R ∧ R ≤ 4611686018427387903 ∧ 0 ≤ E ∧ E ≤ 4611686018427387904) ∧ cs.length ≤ 256 ∧ ∀ c ∈ cs, c.length = 320
def whole (R E L : Int) (cs : List (List Int)) : List Int := (enc R E L cs ++ encC cs) ++ be (footV (enc R E L cs ++ encC cs)) 4
theorem full_pack {R E L : Int} {cs : List (List Int)} (h : Full R E L cs) : packF R E L cs = (whole R E L cs, 0) := by
  unfold packF packL whole
  rw [if_pos (show fitsF R E L = true from decide_eq_true h.1), if_neg (by have := h.2.1; omega), if_pos (List.all_eq_true.2 fun c hc => decide_eq_true (h.2.2 c hc))]
theorem pack_full {R E L : Int} {cs : List (List Int)} (h : (packF R E L cs).2 = 0) : Full R E L cs := by
  unfold packF at h
  split at h
  · rename_i h1
    split at h
    · simp at h
    · rename_i h2
      unfold packL at h
      split at h
      · rename_i h3
        exact ⟨of_decide_eq_true h1, by omega, fun c hc => of_decide_eq_true (List.all_eq_true.1 h3 c hc)⟩
      · simp at h
  · simp at h
/-- What is packed is read. -/
theorem read_whole {R E L : Int} {cs : List (List Int)} (h : Full R E L cs) : rdF (whole R E L cs) = (R, E, L, cs, 0, 0) := by
  obtain ⟨⟨l0, l8, r0, r1, e0, e1⟩, hn, hc⟩ := h
  have p2 : (256 : Int) ^ 2 = 65536 := by decide
  have p8 : (256 : Int) ^ 8 = 18446744073709551616 := by decide
  have p4 : (256 : Int) ^ 4 = 4294967296 := by decide
  have n2 : numL (be cs.length 2) = (cs.length : Int) := numL_be _ _ (by omega) (by rw [p2]; omega)
  have nR : numL (be R 8) = R := numL_be _ _ (by omega) (by rw [p8]; omega)
  have nE : numL (be E 8) = E := numL_be _ _ (by omega) (by rw [p8]; omega)
  have hf := footV_range (enc R E L cs ++ encC cs)
  have n4 : numL (be (footV (enc R E L cs ++ encC cs)) 4) = footV (enc R E L cs ++ encC cs) := numL_be _ _ hf.1 (by rw [p4]; exact hf.2)
  have esplit : whole R E L cs = [67, 72, 82, 78] ++ ([1] ++ ([L] ++ (be cs.length 2 ++ (be R 8 ++ (be E 8 ++ (encC cs ++ (be (footV (enc R E L cs ++ encC cs)) 4 ++ []))))))) := by simp [whole, enc]
  have e0' : FS.init = mkS 0 0 0 0 0 0 (sumL 1 0 []).1 (sumL 1 0 []).2 0 := rfl
  have hp : (((((([] : List Int) ++ [67, 72, 82, 78]) ++ [1]) ++ [L]) ++ be cs.length 2) ++ be R 8) ++ be E 8 ++ encC cs = enc R E L cs ++ encC cs := by simp [enc]
  have hrun : ∃ pos : Int, FS.init.run (whole R E L cs) = (mkS pos 9 0 R E L (sumL 1 0 (enc R E L cs ++ encC cs)).1 (sumL 1 0 (enc R E L cs ++ encC cs)).2 0, cs) := by
    rw [esplit, e0']
    rw [run_blk _ rfl rfl [67, 72, 82, 78] _ rfl, step_0, ← sumL_append]
    rw [run_blk _ rfl rfl [1] _ rfl, step_1, ← sumL_append]
    rw [run_blk _ rfl rfl [L] _ rfl, step_2 _ _ _ _ _ _ _ _ _ (by omega), ← sumL_append]
    rw [run_blk _ rfl rfl (be cs.length 2) _ (by rw [be_len]; rfl), step_3 _ _ _ _ _ _ _ _ _ (be_len _ _) (by rw [n2]; omega), ← sumL_append, n2]
    rw [run_blk _ rfl rfl (be R 8) _ (by rw [be_len]; rfl), step_4 _ _ _ _ _ _ _ _ _ (be_len _ _) (by rw [nR]; omega), ← sumL_append, nR, w64 (by omega) (by omega)]
    rw [run_blk _ rfl rfl (be E 8) _ (by rw [be_len]; rfl), step_5 _ _ _ _ _ _ _ _ _ (be_len _ _) (by rw [nE]; omega), ← sumL_append, nE, w64 (by omega) (by omega)]
    obtain ⟨pos, hcells⟩ := run_cells R E L 0 (be (footV (enc R E L cs ++ encC cs)) 4 ++ []) cs (0 + 4 + 1 + 1 + 2 + 8 + 8) (sumL 1 0 ((((((([] : List Int) ++ [67, 72, 82, 78]) ++ [1]) ++ [L]) ++ be cs.length 2) ++ be R 8) ++ be E 8)).1 (sumL 1 0 ((((((([] : List Int) ++ [67, 72, 82, 78]) ++ [1]) ++ [L]) ++ be cs.length 2) ++ be R 8) ++ be E 8)).2 hc
    rw [hcells, ← sumL_append, hp]
    rw [run_blk _ rfl rfl (be (footV (enc R E L cs ++ encC cs)) 4) _ (by rw [be_len]; rfl), step_8 _ _ _ _ _ _ _ _ _ (be_len _ _) (by rw [n4]; rfl)]
    exact ⟨pos + 4, by simp [FS.run, mkS]⟩
  obtain ⟨pos, hrun⟩ := hrun
  unfold rdF
  rw [hrun]
  rfl
end Go.Proofs.Ythkcadmjfkcbgaa.Q
