/- Functions of the program as plain Lean functions, each with a proof that its call comes to just these answers, or the row that joins them to the given statement; no condition beside the statement's own. Written for this claim by pf.py, this session's program over the kit's print. -/
import Derived.Test.YtiefmocfgneldaaQx0
namespace Go.Proofs.Ytiefmocfgneldaa.Q
open Go.RowKit Go.Proofs.YtiefmocfgneldaaW.PrintWords Go.Proofs.YtiefmocfgneldaaW.PrintLast Go.Proofs.YtiefmocfgneldaaW.PrintMore
attribute [local go_sem] max2_int min2_int max_two min_two max_three min_three max_four min_four   -- for this text's walks alone
set_option linter.unusedVariables false
set_option linter.unusedSimpArgs false

/-! ### braid_Weave_int: function 28 -/
mutual
def braid_Weave_int.l0 : Nat → List Int → List (List Int) → List Int → List Int → Int → Int → Option (List Int × Int)
  | 0, _, _, _, _, _, _ => none
  | k + 1, x0, x1, x6, x17, x18, x19 => if x19 < x18 then (if 0 ≤ x19 then (if x19 < (x17.length : Int) then (if (rd x17 x19) < 0 then (some (([] : List Int), 2)) else (if (rd x17 x19) ≥ (x1.length : Int) then (some (([] : List Int), 2)) else (if 0 ≤ (rd x17 x19) then (if (rd x17 x19) < (x6.length : Int) then (braid_Weave_int.l0 k x0 x1 (x6.set ((rd x17 x19) : Int).toNat (wrap64 ((rd x6 (rd x17 x19)) + 1))) x17 x18 (wrap64 (x19 + 1))) else (none)) else (none)))) else (none)) else (none)) else (braid_Weave_int.l1 k x0 x1 x6 x1 (x1.length : Int) 0)
def braid_Weave_int.l1 : Nat → List Int → List (List Int) → List Int → List (List Int) → Int → Int → Option (List Int × Int)
  | 0, _, _, _, _, _, _ => none
  | k + 1, x0, x1, x6, x38, x39, x40 => if x40 < x39 then (if 0 ≤ x40 then (if x40 < (x38.length : Int) then (if x40 < (x6.length : Int) then (if (rd x6 x40) = ((rd_L3 x38 x40).length : Int) then (braid_Weave_int.l1 k x0 x1 (x6.set (x40 : Int).toNat 0) x38 x39 (wrap64 (x40 + 1))) else (some (([] : List Int), 2))) else (none)) else (none)) else (none)) else (if 0 ≤ (x0.length : Int) then (if ((x0.length : Int) : Int).toNat ≤ 35184372088832 then (braid_Weave_int.l2 k x1 x6 (([] : List Int)) x0 (x0.length : Int) 0) else (none)) else (none))
def braid_Weave_int.l2 : Nat → List (List Int) → List Int → List Int → List Int → Int → Int → Option (List Int × Int)
  | 0, _, _, _, _, _, _ => none
  | k + 1, x1, x6, x11, x59, x60, x61 => if x61 < x60 then (if 0 ≤ x61 then (if x61 < (x59.length : Int) then (if 0 ≤ (rd x59 x61) then (if (rd x59 x61) < (x1.length : Int) then (if (rd x59 x61) < (x6.length : Int) then (if 0 ≤ (rd x6 (rd x59 x61)) then (if (rd x6 (rd x59 x61)) < ((rd_L3 x1 (rd x59 x61)).length : Int) then (if x11.length < 17592186044416 then (braid_Weave_int.l2 k x1 (x6.set ((rd x59 x61) : Int).toNat (wrap64 ((rd x6 (rd x59 x61)) + 1))) (x11 ++ [rd (rd_L3 x1 (rd x59 x61)) (rd x6 (rd x59 x61))]) x59 x60 (wrap64 (x61 + 1))) else (none)) else (none)) else (none)) else (none)) else (none)) else (none)) else (none)) else (none)) else (some (x11, 0))
end
def braid_Weave_int.f (k : Nat) (l0 : List Int) (l1 : List (List Int)) : Option (List Int × Int) := if 0 ≤ (l1.length : Int) then (if ((l1.length : Int) : Int).toNat ≤ 35184372088832 then (braid_Weave_int.l0 k l0 l1 (List.replicate ((l1.length : Int) : Int).toNat 0) l0 (l0.length : Int) 0) else (none)) else (none)
theorem braid_Weave_int.mono_l : ∀ k, (∀ y0 y1 y2 y3 y4 y5, LeO (braid_Weave_int.l0 k y0 y1 y2 y3 y4 y5) (braid_Weave_int.l0 (k + 1) y0 y1 y2 y3 y4 y5)) ∧ (∀ y0 y1 y2 y3 y4 y5, LeO (braid_Weave_int.l1 k y0 y1 y2 y3 y4 y5) (braid_Weave_int.l1 (k + 1) y0 y1 y2 y3 y4 y5)) ∧ (∀ y0 y1 y2 y3 y4 y5, LeO (braid_Weave_int.l2 k y0 y1 y2 y3 y4 y5) (braid_Weave_int.l2 (k + 1) y0 y1 y2 y3 y4 y5))
  | 0 => ⟨fun _ _ _ _ _ _ r h => by simp [braid_Weave_int.l0] at h, fun _ _ _ _ _ _ r h => by simp [braid_Weave_int.l1] at h, fun _ _ _ _ _ _ r h => by simp [braid_Weave_int.l2] at h⟩
  | k + 1 => by
    obtain ⟨ih0, ih1, ih2⟩ := braid_Weave_int.mono_l k
    refine ⟨?_, ?_, ?_⟩
    · intro y0 y1 y2 y3 y4 y5
      unfold braid_Weave_int.l0
      repeat' first
      | (with_reducible exact ih0 _ _ _ _ _ _)
      | (with_reducible exact ih1 _ _ _ _ _ _)
      | (with_reducible exact ih2 _ _ _ _ _ _)
      | (with_reducible exact LeO.refl _)
      | (with_reducible exact LeO.none _)
      | (with_reducible refine LeO.ite ?_ ?_)
      | (with_reducible refine LeO.bind ?_ (fun _ => ?_))
      | exact ih0 _ _ _ _ _ _
      | exact ih1 _ _ _ _ _ _
      | exact ih2 _ _ _ _ _ _
      | exact LeO.none _
      | refine LeO.ite ?_ ?_
      | refine LeO.bind ?_ (fun _ => ?_)
    · intro y0 y1 y2 y3 y4 y5
      unfold braid_Weave_int.l1
      repeat' first
      | (with_reducible exact ih0 _ _ _ _ _ _)
      | (with_reducible exact ih1 _ _ _ _ _ _)
      | (with_reducible exact ih2 _ _ _ _ _ _)
      | (with_reducible exact LeO.refl _)
      | (with_reducible exact LeO.none _)
      | (with_reducible refine LeO.ite ?_ ?_)
      | (with_reducible refine LeO.bind ?_ (fun _ => ?_))
      | exact ih0 _ _ _ _ _ _
      | exact ih1 _ _ _ _ _ _
      | exact ih2 _ _ _ _ _ _
      | exact LeO.none _
      | refine LeO.ite ?_ ?_
      | refine LeO.bind ?_ (fun _ => ?_)
    · intro y0 y1 y2 y3 y4 y5
      unfold braid_Weave_int.l2
      repeat' first
      | (with_reducible exact ih0 _ _ _ _ _ _)
      | (with_reducible exact ih1 _ _ _ _ _ _)
      | (with_reducible exact ih2 _ _ _ _ _ _)
      | (with_reducible exact LeO.refl _)
      | (with_reducible exact LeO.none _)
      | (with_reducible refine LeO.ite ?_ ?_)
      | (with_reducible refine LeO.bind ?_ (fun _ => ?_))
      | exact ih0 _ _ _ _ _ _
      | exact ih1 _ _ _ _ _ _
      | exact ih2 _ _ _ _ _ _
      | exact LeO.none _
      | refine LeO.ite ?_ ?_
      | refine LeO.bind ?_ (fun _ => ?_)
theorem braid_Weave_int.mono : ∀ a0 a1 k, LeO (braid_Weave_int.f k a0 a1) (braid_Weave_int.f (k + 1) a0 a1) := by
  intro a0 a1 k
  obtain ⟨ih0, ih1, ih2⟩ := braid_Weave_int.mono_l k
  unfold braid_Weave_int.f
  repeat' first
      | (with_reducible exact ih0 _ _ _ _ _ _)
      | (with_reducible exact ih1 _ _ _ _ _ _)
      | (with_reducible exact ih2 _ _ _ _ _ _)
      | (with_reducible exact LeO.refl _)
      | (with_reducible exact LeO.none _)
      | (with_reducible refine LeO.ite ?_ ?_)
      | (with_reducible refine LeO.bind ?_ (fun _ => ?_))
      | exact ih0 _ _ _ _ _ _
      | exact ih1 _ _ _ _ _ _
      | exact ih2 _ _ _ _ _ _
      | exact LeO.none _
      | refine LeO.ite ?_ ?_
      | refine LeO.bind ?_ (fun _ => ?_)
def braid_Weave_int.T20 : Bool × List (List Nat × List Nat) := (true, [([], []), ([], []), ([], []), ([1, 2], [1, 2]), ([3], [3]), ([], []), ([], []), ([5, 6], [5, 6]), ([7], [7]), ([4, 8], [4, 8]), ([9], [9]), ([10], [10]), ([0, 11], [0, 11]), ([12, 12, 0, 1, 2, 3, 4, 5, 6, 7, 8, 9, 10, 11, 12], [0, 12])])
def braid_Weave_int.B20 : List Nat := [0, 0, 0, 6, 14, 0, 0, 96, 224, 510, 1022, 2046, 4095, 8191]
theorem braid_Weave_int.tab20 : rtab .any (opsOf Try.f28 20) = braid_Weave_int.T20 := by kernel_rfl
theorem braid_Weave_int.bits20 : waitsOk braid_Weave_int.T20.2 braid_Weave_int.B20 = true := by kernel_rfl
set_option maxHeartbeats 8000000 in
set_option maxRecDepth 100000 in
theorem braid_Weave_int.calls (k : Nat) (A0 : Option Addr) (c0 : Nat) (l0 : List Int) (A1 : Option Addr) (c1 : Nat) (l1 : List (List Int)) (r1 : List Int) (r2 : Int) (w : World) (hr0 : Kd.C (Kd.int .i64) w A0 l0.length l0) (hc0 : l0.length ≤ c0) (hr1 : Kd.C (Kd.slice 3 (Kd.int .i64)) w A1 l1.length l1) (hc1 : l1.length ≤ c1) (h : braid_Weave_int.f k l0 l1 = some (r1, r2)) :
    Calls Try.prog 28 #[.slice A0 l0.length c0, .slice A1 l1.length c1] w fun e w' => ∃ v0_ : Value, e = .returned (.tuple #[v0_, .int .i64 r2]) ∧ Kd.R (Kd.int .i64) 3 w' w.heap.size (fun _ => True) v0_ r1 ∧ Below w.heap.size w w' := by
  have HR0 := Aside0.mk hr0
  have HC0 := Aside0.mk hc0
  clear hr0 hc0
  have HR1 := Aside0.mk hr1
  have HC1 := Aside0.mk hc1
  clear hr1 hc1
  have HB := Aside0.mk (Below.refl w.heap.size w)
  have H : (if 0 ≤ (l1.length : Int) then (if ((l1.length : Int) : Int).toNat ≤ 35184372088832 then (braid_Weave_int.l0 k l0 l1 (List.replicate ((l1.length : Int) : Int).toNat 0) l0 (l0.length : Int) 0) else (none)) else (none)) = some (r1, r2) := h
  clear h
  by_cases c3 : 0 ≤ (l1.length : Int)
  · rw [if_pos c3] at H
    have c3b0 := eq_true c3
    have c3b1 : decide (0 ≤ (l1.length : Int)) = true := decide_eq_true c3
    clear c3
    by_cases c4 : ((l1.length : Int) : Int).toNat ≤ 35184372088832
    · rw [if_pos c4] at H
      have c4b0 := eq_true c4
      have c4b1 : decide (((l1.length : Int) : Int).toNat ≤ 35184372088832) = true := decide_eq_true c4
      clear c4
      obtain ⟨y387, hy387⟩ : ∃ y_ : List Int, y_ = (List.replicate ((l1.length : Int) : Int).toNat 0) := ⟨_, rfl⟩
      replace H : (braid_Weave_int.l0 k l0 l1 y387 l0 (l0.length : Int) 0) = some (r1, r2) := by first | (rw [hy387]; with_reducible exact H) | (have H2_ := (Option.bind_some _ _).symm.trans H; rw [hy387]; with_reducible exact H2_) | (have H2_ := (Option.bind_some _ _).symm.trans H; with_reducible exact H2_) | with_reducible exact H | (rw [hy387]; exact H) | exact H
      have Ny387 := Aside0.mk hy387
      clear hy387
      have H' := Aside0.mk H
      clear H
      go_enter Try.func28, Try.ntmps28
      go_wp2_with (first | ((with_reducible refine gate_dst (N := 16) rfl ?_); (try (refine gate_guard (by rfl) ?_; dsimp only)); refine Kd.R_make (Kd.int .i64) _ 3 rfl (N := 16) rfl 22 _ _ rfl (l1.length : Int) rfl rfl Try.underlying22 (.int .i64 0) 8 info3 rfl (by decide) (by omega) 0 (ok := fun _ => True) (okp := fun _ => True) rfl (fun _ hk => hk) trivial (of_decide_eq_true (by first | (with_reducible assumption) | assumption)) (Nat.le_trans (Nat.mul_le_mul_right _ (of_decide_eq_true (by first | (with_reducible assumption) | assumption) : (l1.length : Int).toNat ≤ 35184372088832)) (by omega)) (Below.refl _ _) (Nat.le_refl _) ?_; intro v388 w5 ho6 hb hg_ hnew_; clear hg_ hnew_; (first | rw [← Ny387.out] at ho6 | (simp only [Int.reduceToNat] at ho6; rw [← Ny387.out] at ho6)); have n0_ := Aside0.mk (Kd.R_lower ho6 (below_size (by repeat (first | (with_reducible first | exact HB.out | apply below_alloc | apply pw_below_drewN | apply below_drew1) | exact HB.out)))); have n1_ := Aside0.mk (below_step (by repeat (first | (with_reducible first | exact HB.out | apply below_alloc | apply pw_below_drewN | apply below_drew1) | exact HB.out)) hb); clear HB; have HO389 := n0_; have HB := n1_; clear n0_ n1_; clear hb ho6))
      go_loopg [19] k (fun kq v19 w' => ∃ (x6_1 : List Int) (x19_1 : Int), v19 = .int .i64 x19_1 ∧ Aside0 (braid_Weave_int.l0 kq l0 l1 x6_1 l0 (l0.length : Int) x19_1 = some (r1, r2)) ∧ Aside0 (kq ≤ k) ∧ Aside0 (Kd.R (Kd.int .i64) 3 w' w.heap.size (fun _ => True) v388 x6_1) ∧ Aside0 (Below w.heap.size w w'))
      case atStart => exact ⟨(y387), (0), (by first | rfl | (simp; done) | (simp [*]; done)), H', ⟨Nat.le_refl _⟩, ⟨by (with_reducible repeat (first | apply Kd.R_alloc | apply Kd.R_drewN | apply Kd.R_drew)); exact HO389.out⟩, ⟨by repeat (first | (with_reducible first | exact HB.out | apply below_alloc | apply pw_below_drewN | apply below_drew1) | exact HB.out)⟩⟩
      case round =>
        clear H'
        try clear c1
        try clear c2
        try clear p2
        try clear c3
        try clear c3b0
        try clear c3b1
        try clear c4
        try clear c4b0
        try clear c4b1
        obtain ⟨x6_1, x19_1, rfl, HA, HK1, HO_6, HB⟩ := hrel
        cases gk with
        | zero => exact absurd HA.out (by simp [braid_Weave_int.l0])
        | succ k1 =>
          have H := HA.out
          clear HA
          simp only [braid_Weave_int.l0] at H
          by_cases c7 : x19_1 < (l0.length : Int)
          · rw [if_pos c7] at H
            have c7b0 : decide (x19_1 < (l0.length : Int)) = true := decide_eq_true c7
            clear c7
            by_cases c8 : 0 ≤ x19_1
            · rw [if_pos c8] at H
              have c8b0 : decide (0 ≤ x19_1) = true := decide_eq_true c8
              clear c8
              by_cases c9 : x19_1 < (l0.length : Int)
              · rw [if_pos c9] at H
                have c9b0 : decide (x19_1 < (l0.length : Int)) = true := decide_eq_true c9
                clear c9
                by_cases c10 : (rd l0 x19_1) < 0
                · rw [if_pos c10] at H
                  have c10b0 : decide ((rd l0 x19_1) < 0) = true := decide_eq_true c10
                  clear c10
                  simp only [Option.some.injEq, Prod.mk.injEq] at H
                  obtain ⟨rfl, rfl⟩ := H
                  have p390 : 0 ≤ (x19_1 : Int) := of_decide_eq_true (by first | (with_reducible assumption) | assumption)
                  have q390 : x19_1 < (l0.length : Int) := of_decide_eq_true (by first | (with_reducible assumption) | assumption)
                  obtain ⟨ad390, e390, hx390_0⟩ := Kd.at_int HR0.out x19_1 p390 q390
                  cases e390
                  (try (replace hx390_0 := (HB.out.cell (World.block_lt_of_cell? w _ hx390_0)).trans hx390_0))
                  replace p390 := eq_true p390
                  replace q390 := eq_true q390
                  go_wp2
                  go_ret2
                  exact ⟨_, by first | rfl | (simp [errW_none, errW_some] <;> rfl) | (simp [*, errW_none, errW_some] <;> rfl), by first | exact Kd.R_nil _ _ _ _ _ | exact Kd.N_nil _ _ _ _ _ | exact Kd.V_nil _ _ _ _ _ | exact Kd.Q_nil _ _ _ _ _ | exact Kd.S_nil _ _ _ _ _, by repeat (first | (with_reducible first | exact HB.out | apply below_alloc | apply pw_below_drewN | apply below_drew1) | exact HB.out)⟩
                · rw [if_neg c10] at H
                  have c10b0 : decide ((rd l0 x19_1) < 0) = false := decide_eq_false c10
                  clear c10
                  by_cases c11 : (rd l0 x19_1) ≥ (l1.length : Int)
                  · rw [if_pos c11] at H
                    have c11b0 : decide ((l1.length : Int) ≤ (rd l0 x19_1)) = true := decide_eq_true c11
                    clear c11
                    simp only [Option.some.injEq, Prod.mk.injEq] at H
                    obtain ⟨rfl, rfl⟩ := H
                    have p390 : 0 ≤ (x19_1 : Int) := of_decide_eq_true (by first | (with_reducible assumption) | assumption)
                    have q390 : x19_1 < (l0.length : Int) := of_decide_eq_true (by first | (with_reducible assumption) | assumption)
                    obtain ⟨ad390, e390, hx390_0⟩ := Kd.at_int HR0.out x19_1 p390 q390
                    cases e390
                    (try (replace hx390_0 := (HB.out.cell (World.block_lt_of_cell? w _ hx390_0)).trans hx390_0))
                    replace p390 := eq_true p390
                    replace q390 := eq_true q390
                    go_wp2
                    go_ret2
                    exact ⟨_, by first | rfl | (simp [errW_none, errW_some] <;> rfl) | (simp [*, errW_none, errW_some] <;> rfl), by first | exact Kd.R_nil _ _ _ _ _ | exact Kd.N_nil _ _ _ _ _ | exact Kd.V_nil _ _ _ _ _ | exact Kd.Q_nil _ _ _ _ _ | exact Kd.S_nil _ _ _ _ _, by repeat (first | (with_reducible first | exact HB.out | apply below_alloc | apply pw_below_drewN | apply below_drew1) | exact HB.out)⟩
                  · rw [if_neg c11] at H
                    have c11b0 : decide ((l1.length : Int) ≤ (rd l0 x19_1)) = false := decide_eq_false c11
                    clear c11
                    by_cases c12 : 0 ≤ (rd l0 x19_1)
                    · rw [if_pos c12] at H
                      have c12b0 : decide (0 ≤ (rd l0 x19_1)) = true := decide_eq_true c12
                      clear c12
                      by_cases c13 : (rd l0 x19_1) < (x6_1.length : Int)
                      · rw [if_pos c13] at H
                        have c13b0 : decide ((rd l0 x19_1) < (x6_1.length : Int)) = true := decide_eq_true c13
                        clear c13
                        obtain ⟨y392, hy392⟩ : ∃ y_ : List Int, y_ = (x6_1.set ((rd l0 x19_1) : Int).toNat (wrap64 ((rd x6_1 (rd l0 x19_1)) + 1))) := ⟨_, rfl⟩
                        replace H : (braid_Weave_int.l0 k1 l0 l1 y392 l0 (l0.length : Int) (wrap64 (x19_1 + 1))) = some (r1, r2) := by first | (rw [hy392]; with_reducible exact H) | (have H2_ := (Option.bind_some _ _).symm.trans H; rw [hy392]; with_reducible exact H2_) | (have H2_ := (Option.bind_some _ _).symm.trans H; with_reducible exact H2_) | with_reducible exact H | (rw [hy392]; exact H) | exact H
                        have Ny392 := Aside0.mk hy392
                        clear hy392
                        have H' := Aside0.mk H
                        clear H
                        have p390 : 0 ≤ (x19_1 : Int) := of_decide_eq_true (by first | (with_reducible assumption) | assumption)
                        have q390 : x19_1 < (l0.length : Int) := of_decide_eq_true (by first | (with_reducible assumption) | assumption)
                        obtain ⟨ad390, e390, hx390_0⟩ := Kd.at_int HR0.out x19_1 p390 q390
                        cases e390
                        (try (replace hx390_0 := (HB.out.cell (World.block_lt_of_cell? w _ hx390_0)).trans hx390_0))
                        replace p390 := eq_true p390
                        replace q390 := eq_true q390
                        obtain ⟨Ao15, co15, eo15⟩ := Kd.R_slice HO_6.out
                        subst eo15
                        have p391 : 0 ≤ ((rd l0 x19_1) : Int) := of_decide_eq_true (by first | (with_reducible assumption) | assumption)
                        have q391 : (rd l0 x19_1) < (x6_1.length : Int) := of_decide_eq_true (by first | (with_reducible assumption) | assumption)
                        obtain ⟨ad391, e391, hx391_0⟩ := Kd.at_int (Kd.R_reads' HO_6.out).2.2 (rd l0 x19_1) p391 q391
                        cases e391
                        replace p391 := eq_true p391
                        replace q391 := eq_true q391
                        have p14 : 0 ≤ ((rd l0 x19_1) : Int) := of_decide_eq_true (by first | (with_reducible assumption) | assumption)
                        have q14 : ((rd l0 x19_1) : Int) < ((x6_1.length : Int) : Int) := of_decide_eq_true (by first | (with_reducible assumption) | assumption)
                        obtain ⟨go14, co14, eo14, gb14, gl14, cl14, HG14⟩ := Kd.R_form HO_6.out (by omega)
                        (first | cases eo14 | (injection eo14 with ea_ en_ ec_; (first | subst ea_ | (injection ea_ with ea_; subst ea_)); subst ec_; clear en_))
                        have GB14 := Aside0.mk gb14
                        have GG14 := Aside0.mk HG14
                        clear gb14 gl14 HG14
                        (first | simp only [add_plain] at hx391_0 | skip)
                        obtain ⟨hx14_0, hf14_0⟩ := Kd.R_celln 0 HO_6.out ((rd l0 x19_1) : Int) p14 q14
                        replace p14 := eq_true p14
                        replace q14 := eq_true q14
                        have HP16 := Kd.R_putg HO_6.out ((rd l0 x19_1) : Int) (wrap64 ((rd x6_1 (rd l0 x19_1)) + 1))
                        go_wp2_with (first | ((with_reducible refine gate_store (t := 3) (p := 36) rfl ?_); refine store_event (t := 3) (p := 36) (v := ?vo_w17) (w1 := (wr.setCell ⟨go14, ((rd l0 x19_1) : Int).toNat, none⟩ (.int .i64 (wrap64 ((rd x6_1 (rd l0 x19_1)) + 1))))) ?hg ?ho ?hn ?hr ?_; (case ho => rfl); (case hg => rfl); (case hn => rfl); (case hr => first | (go_simp; done) | (go_simp; rfl)); intro w17 hw; have hg : wr.grownBy w17 (some go14) := (by rw [hw]; exact HP16.2); have hp_ : Kd.R (Kd.int .i64) 3 w17 w.heap.size (fun _ => True) (.slice (some ⟨go14, 0, none⟩) x6_1.length co15) y392 := (by rw [hw, Ny392.out]; exact HP16.1); clear HP16; have n0_ := Aside0.mk (hp_); have n1_ := Aside0.mk ((by rw [hw]; exact below_set (HB.out) GB14.out : Below w.heap.size w w17)); clear HO_6; clear HB; have HO_6 := n0_; have HB := n1_; clear n0_ n1_; clear hg hw hp_))
                        go_roundg k1
                        case measure => have := HK1.out; omega
                        case rel => exact ⟨(y392), (wrap64 (x19_1 + 1)), (by first | rfl | (simp; done) | (simp [*]; done)), H', ⟨by have := HK1.out; omega⟩, ⟨by (with_reducible repeat (first | apply Kd.R_alloc | apply Kd.R_drewN | apply Kd.R_drew)); exact HO_6.out⟩, ⟨by repeat (first | (with_reducible first | exact HB.out | apply below_alloc | apply pw_below_drewN | apply below_drew1) | exact HB.out)⟩⟩
                      · rw [if_neg c13] at H
                        exact absurd H (by simp)
                    · rw [if_neg c12] at H
                      exact absurd H (by simp)
              · rw [if_neg c9] at H
                exact absurd H (by simp)
            · rw [if_neg c8] at H
              exact absurd H (by simp)
          · rw [if_neg c7] at H
            have c7b0 : decide (x19_1 < (l0.length : Int)) = false := decide_eq_false c7
            clear c7
            have H' := Aside0.mk H
            clear H
            go_wp2
            go_loopg [40] k1 (fun kq v40 w' => ∃ (x6_2 : List Int) (x40_2 : Int), v40 = .int .i64 x40_2 ∧ Aside0 (braid_Weave_int.l1 kq l0 l1 x6_2 l1 (l1.length : Int) x40_2 = some (r1, r2)) ∧ Aside0 (kq ≤ k1) ∧ Aside0 (Kd.R (Kd.int .i64) 3 w' w.heap.size (fun _ => True) v388 x6_2) ∧ Aside0 (Below w.heap.size w w'))
            case atStart => exact ⟨(x6_1), (0), (by first | rfl | (simp; done) | (simp [*]; done)), H', ⟨Nat.le_refl _⟩, ⟨by (with_reducible repeat (first | apply Kd.R_alloc | apply Kd.R_drewN | apply Kd.R_drew)); exact HO_6.out⟩, ⟨by repeat (first | (with_reducible first | exact HB.out | apply below_alloc | apply pw_below_drewN | apply below_drew1) | exact HB.out)⟩⟩
            case round =>
              clear H'
              try clear c1
              try clear p1
              try clear q1
              try clear hx1
              try clear c2
              try clear p2
              try clear c3
              try clear c3b0
              try clear c3b1
              try clear p3
              try clear q3
              try clear hx3
              try clear c4
              try clear c4b0
              try clear c4b1
              try clear p6
              try clear c7
              try clear c7b0
              try clear c8
              try clear c8b0
              try clear c9
              try clear c9b0
              try clear c10
              try clear c10b0
              try clear c11
              try clear c11b0
              try clear c12
              try clear c12b0
              try clear c13
              try clear c13b0
              try clear p14
              try clear q14
              try clear hx14
              try clear hf14
              try clear hx14_0
              try clear hx390_0
              try clear hx391_0
              try clear p14
              try clear p2
              try clear p390
              try clear p391
              try clear q14
              try clear q390
              try clear q391
              obtain ⟨x6_2, x40_2, rfl, HA, HK2, HO_6, HB⟩ := hrel
              cases gk with
              | zero => exact absurd HA.out (by simp [braid_Weave_int.l1])
              | succ k2 =>
                have H := HA.out
                clear HA
                simp only [braid_Weave_int.l1] at H
                by_cases c18 : x40_2 < (l1.length : Int)
                · rw [if_pos c18] at H
                  have c18b0 : decide (x40_2 < (l1.length : Int)) = true := decide_eq_true c18
                  clear c18
                  by_cases c19 : 0 ≤ x40_2
                  · rw [if_pos c19] at H
                    have c19b0 : decide (0 ≤ x40_2) = true := decide_eq_true c19
                    clear c19
                    by_cases c20 : x40_2 < (l1.length : Int)
                    · rw [if_pos c20] at H
                      have c20b0 : decide (x40_2 < (l1.length : Int)) = true := decide_eq_true c20
                      clear c20
                      by_cases c21 : x40_2 < (x6_2.length : Int)
                      · rw [if_pos c21] at H
                        have c21b0 : decide (x40_2 < (x6_2.length : Int)) = true := decide_eq_true c21
                        clear c21
                        by_cases c22 : (rd x6_2 x40_2) = ((rd_L3 l1 x40_2).length : Int)
                        · rw [if_pos c22] at H
                          have c22b0 : ((rd x6_2 x40_2) == ((rd_L3 l1 x40_2).length : Int)) = true := beq_iff_eq.mpr c22
                          have c22b1 : ((rd x6_2 x40_2) != ((rd_L3 l1 x40_2).length : Int)) = false := bne_eq_false_iff_eq.mpr c22
                          clear c22
                          obtain ⟨y395, hy395⟩ : ∃ y_ : List Int, y_ = (x6_2.set (x40_2 : Int).toNat 0) := ⟨_, rfl⟩
                          replace H : (braid_Weave_int.l1 k2 l0 l1 y395 l1 (l1.length : Int) (wrap64 (x40_2 + 1))) = some (r1, r2) := by first | (rw [hy395]; with_reducible exact H) | (have H2_ := (Option.bind_some _ _).symm.trans H; rw [hy395]; with_reducible exact H2_) | (have H2_ := (Option.bind_some _ _).symm.trans H; with_reducible exact H2_) | with_reducible exact H | (rw [hy395]; exact H) | exact H
                          have Ny395 := Aside0.mk hy395
                          clear hy395
                          have H' := Aside0.mk H
                          clear H
                          have p393 : 0 ≤ (x40_2 : Int) := of_decide_eq_true (by first | (with_reducible assumption) | assumption)
                          have q393 : x40_2 < (l1.length : Int) := of_decide_eq_true (by first | (with_reducible assumption) | assumption)
                          obtain ⟨ad393, A393_0, c393_0, e393, hx393_0, hl393_0, hi393_0⟩ := at_L3 HR1.out x40_2 p393 q393
                          cases e393
                          (try (replace hx393_0 := (HB.out.cell (World.block_lt_of_cell? w _ hx393_0)).trans hx393_0))
                          have HR393_0 := Aside0.mk hi393_0
                          have HC393_0 := Aside0.mk hl393_0
                          clear hi393_0 hl393_0
                          replace p393 := eq_true p393
                          replace q393 := eq_true q393
                          obtain ⟨Ao24, co24, eo24⟩ := Kd.R_slice HO_6.out
                          subst eo24
                          have p394 : 0 ≤ (x40_2 : Int) := of_decide_eq_true (by first | (with_reducible assumption) | assumption)
                          have q394 : x40_2 < (x6_2.length : Int) := of_decide_eq_true (by first | (with_reducible assumption) | assumption)
                          obtain ⟨ad394, e394, hx394_0⟩ := Kd.at_int (Kd.R_reads' HO_6.out).2.2 x40_2 p394 q394
                          cases e394
                          replace p394 := eq_true p394
                          replace q394 := eq_true q394
                          have p23 : 0 ≤ (x40_2 : Int) := of_decide_eq_true (by first | (with_reducible assumption) | assumption)
                          have q23 : (x40_2 : Int) < ((x6_2.length : Int) : Int) := of_decide_eq_true (by first | (with_reducible assumption) | assumption)
                          obtain ⟨go23, co23, eo23, gb23, gl23, cl23, HG23⟩ := Kd.R_form HO_6.out (by omega)
                          (first | cases eo23 | (injection eo23 with ea_ en_ ec_; (first | subst ea_ | (injection ea_ with ea_; subst ea_)); subst ec_; clear en_))
                          have GB23 := Aside0.mk gb23
                          have GG23 := Aside0.mk HG23
                          clear gb23 gl23 HG23
                          (first | simp only [add_plain] at hx394_0 | skip)
                          obtain ⟨hx23_0, hf23_0⟩ := Kd.R_celln 0 HO_6.out (x40_2 : Int) p23 q23
                          replace p23 := eq_true p23
                          replace q23 := eq_true q23
                          have HP25 := Kd.R_putg HO_6.out (x40_2 : Int) 0
                          go_wp2_with (first | ((with_reducible refine gate_store (t := 3) (p := 54) rfl ?_); refine store_event (t := 3) (p := 54) (v := ?vo_w26) (w1 := (wr.setCell ⟨go23, (x40_2 : Int).toNat, none⟩ (.int .i64 0))) ?hg ?ho ?hn ?hr ?_; (case ho => rfl); (case hg => rfl); (case hn => rfl); (case hr => first | (go_simp; done) | (go_simp; rfl)); intro w26 hw; have hg : wr.grownBy w26 (some go23) := (by rw [hw]; exact HP25.2); have hp_ : Kd.R (Kd.int .i64) 3 w26 w.heap.size (fun _ => True) (.slice (some ⟨go23, 0, none⟩) x6_2.length co24) y395 := (by rw [hw, Ny395.out]; exact HP25.1); clear HP25; have n0_ := Aside0.mk (hp_); have n1_ := Aside0.mk ((by rw [hw]; exact below_set (HB.out) GB23.out : Below w.heap.size w w26)); clear HO_6; clear HB; have HO_6 := n0_; have HB := n1_; clear n0_ n1_; clear hg hw hp_))
                          go_roundg k2
                          case measure => have := HK1.out; have := HK2.out; omega
                          case rel => exact ⟨(y395), (wrap64 (x40_2 + 1)), (by first | rfl | (simp; done) | (simp [*]; done)), H', ⟨by have := HK1.out; have := HK2.out; omega⟩, ⟨by (with_reducible repeat (first | apply Kd.R_alloc | apply Kd.R_drewN | apply Kd.R_drew)); exact HO_6.out⟩, ⟨by repeat (first | (with_reducible first | exact HB.out | apply below_alloc | apply pw_below_drewN | apply below_drew1) | exact HB.out)⟩⟩
                        · rw [if_neg c22] at H
                          have c22b0 : ((rd x6_2 x40_2) == ((rd_L3 l1 x40_2).length : Int)) = false := beq_eq_false_iff_ne.mpr c22
                          have c22b1 : ((rd x6_2 x40_2) != ((rd_L3 l1 x40_2).length : Int)) = true := bne_iff_ne.mpr c22
                          simp only [Option.some.injEq, Prod.mk.injEq] at H
                          obtain ⟨rfl, rfl⟩ := H
                          have p393 : 0 ≤ (x40_2 : Int) := of_decide_eq_true (by first | (with_reducible assumption) | assumption)
                          have q393 : x40_2 < (l1.length : Int) := of_decide_eq_true (by first | (with_reducible assumption) | assumption)
                          obtain ⟨ad393, A393_0, c393_0, e393, hx393_0, hl393_0, hi393_0⟩ := at_L3 HR1.out x40_2 p393 q393
                          cases e393
                          (try (replace hx393_0 := (HB.out.cell (World.block_lt_of_cell? w _ hx393_0)).trans hx393_0))
                          have HR393_0 := Aside0.mk hi393_0
                          have HC393_0 := Aside0.mk hl393_0
                          clear hi393_0 hl393_0
                          replace p393 := eq_true p393
                          replace q393 := eq_true q393
                          obtain ⟨Ao27, co27, eo27⟩ := Kd.R_slice HO_6.out
                          subst eo27
                          have p394 : 0 ≤ (x40_2 : Int) := of_decide_eq_true (by first | (with_reducible assumption) | assumption)
                          have q394 : x40_2 < (x6_2.length : Int) := of_decide_eq_true (by first | (with_reducible assumption) | assumption)
                          obtain ⟨ad394, e394, hx394_0⟩ := Kd.at_int (Kd.R_reads' HO_6.out).2.2 x40_2 p394 q394
                          cases e394
                          replace p394 := eq_true p394
                          replace q394 := eq_true q394
                          go_wp2
                          go_ret2
                          exact ⟨_, by first | rfl | (simp [errW_none, errW_some] <;> rfl) | (simp [*, errW_none, errW_some] <;> rfl), by first | exact Kd.R_nil _ _ _ _ _ | exact Kd.N_nil _ _ _ _ _ | exact Kd.V_nil _ _ _ _ _ | exact Kd.Q_nil _ _ _ _ _ | exact Kd.S_nil _ _ _ _ _, by repeat (first | (with_reducible first | exact HB.out | apply below_alloc | apply pw_below_drewN | apply below_drew1) | exact HB.out)⟩
                      · rw [if_neg c21] at H
                        exact absurd H (by simp)
                    · rw [if_neg c20] at H
                      exact absurd H (by simp)
                  · rw [if_neg c19] at H
                    exact absurd H (by simp)
                · rw [if_neg c18] at H
                  have c18b0 : decide (x40_2 < (l1.length : Int)) = false := decide_eq_false c18
                  clear c18
                  by_cases c28 : 0 ≤ (l0.length : Int)
                  · rw [if_pos c28] at H
                    have c28b0 := eq_true c28
                    have c28b1 : decide (0 ≤ (l0.length : Int)) = true := decide_eq_true c28
                    clear c28
                    by_cases c29 : ((l0.length : Int) : Int).toNat ≤ 35184372088832
                    · rw [if_pos c29] at H
                      have c29b0 := eq_true c29
                      have c29b1 : decide (((l0.length : Int) : Int).toNat ≤ 35184372088832) = true := decide_eq_true c29
                      clear c29
                      obtain ⟨y396, hy396⟩ : ∃ y_ : List Int, y_ = (([] : List Int)) := ⟨_, rfl⟩
                      replace H : (braid_Weave_int.l2 k2 l1 x6_2 y396 l0 (l0.length : Int) 0) = some (r1, r2) := by first | (rw [hy396]; with_reducible exact H) | (have H2_ := (Option.bind_some _ _).symm.trans H; rw [hy396]; with_reducible exact H2_) | (have H2_ := (Option.bind_some _ _).symm.trans H; with_reducible exact H2_) | with_reducible exact H | (rw [hy396]; exact H) | exact H
                      have Ny396 := Aside0.mk hy396
                      clear hy396
                      have H' := Aside0.mk H
                      clear H
                      go_wp2_with (first | ((with_reducible refine gate_dst (N := 58) rfl ?_); (try (refine gate_guard (by rfl) ?_; dsimp only)); refine Kd.R_make0 (Kd.int .i64) _ 3 rfl (N := 58) rfl 22 _ _ rfl (l0.length : Int) rfl rfl Try.underlying22 (.int .i64 0) 8 info3 rfl (by decide) (by omega) 0 (ok := fun _ => True) (okp := fun _ => True) rfl (fun _ hk => hk) trivial (of_decide_eq_true (by first | (with_reducible assumption) | assumption)) (Nat.le_trans (Nat.mul_le_mul_right _ (of_decide_eq_true (by first | (with_reducible assumption) | assumption) : (l0.length : Int).toNat ≤ 35184372088832)) (by omega)) (Below.refl _ _) (Nat.le_refl _) ?_; intro v397 w30 ho31 hb hg_ hnew_; clear hg_ hnew_; (first | rw [← Ny396.out] at ho31 | (simp only [Int.reduceToNat] at ho31; rw [← Ny396.out] at ho31)); have n0_ := Aside0.mk (Kd.R_elder' (by (with_reducible repeat (first | apply Kd.R_alloc | apply Kd.R_drewN | apply Kd.R_drew)); exact HO_6.out) (Kd.R_base ho31) hb); have n1_ := Aside0.mk (Kd.R_lower (Kd.R_new' ho31 (Kd.R_lt (by (with_reducible repeat (first | apply Kd.R_alloc | apply Kd.R_drewN | apply Kd.R_drew)); exact HO_6.out))) (below_size (by repeat (first | (with_reducible first | exact HB.out | apply below_alloc | apply pw_below_drewN | apply below_drew1) | exact HB.out)))); have n2_ := Aside0.mk (below_step (by repeat (first | (with_reducible first | exact HB.out | apply below_alloc | apply pw_below_drewN | apply below_drew1) | exact HB.out)) hb); clear HO_6; clear HB; have HO_6 := n0_; have HO398 := n1_; have HB := n2_; clear n0_ n1_ n2_; clear hb ho31))
                      go_loopg [11, 61] k2 (fun kq v11 v61 w' => ∃ (x6_3 : List Int) (x11_3 : List Int) (x61_3 : Int), v61 = .int .i64 x61_3 ∧ Aside0 (braid_Weave_int.l2 kq l1 x6_3 x11_3 l0 (l0.length : Int) x61_3 = some (r1, r2)) ∧ Aside0 (kq ≤ k2) ∧ Aside0 (Kd.R (Kd.int .i64) 3 w' w.heap.size (fun k_ => some k_ ≠ (v11 : Value).ownBlock) v388 x6_3) ∧ Aside0 (Kd.R (Kd.int .i64) 3 w' w.heap.size (fun k_ => some k_ ≠ (v388 : Value).ownBlock) v11 x11_3) ∧ Aside0 (Below w.heap.size w w'))
                      case atStart => exact ⟨(x6_2), (y396), (0), (by first | rfl | (simp; done) | (simp [*]; done)), H', ⟨Nat.le_refl _⟩, ⟨by (with_reducible repeat (first | apply Kd.R_alloc | apply Kd.R_drewN | apply Kd.R_drew)); exact Kd.R_mono HO_6.out (fun _ hk => hk.2)⟩, ⟨by (with_reducible repeat (first | apply Kd.R_alloc | apply Kd.R_drewN | apply Kd.R_drew)); exact Kd.R_mono HO398.out (fun _ hk => hk.2)⟩, ⟨by repeat (first | (with_reducible first | exact HB.out | apply below_alloc | apply pw_below_drewN | apply below_drew1) | exact HB.out)⟩⟩
                      case round =>
                        clear H'
                        try clear c1
                        try clear p1
                        try clear q1
                        try clear hx1
                        try clear c2
                        try clear p2
                        try clear q2
                        try clear hx2
                        try clear hf2
                        try clear c3
                        try clear c3b0
                        try clear c3b1
                        try clear p3
                        try clear q3
                        try clear hx3
                        try clear c4
                        try clear c4b0
                        try clear c4b1
                        try clear p6
                        try clear c7
                        try clear c7b0
                        try clear c8
                        try clear c8b0
                        try clear c9
                        try clear c9b0
                        try clear c10
                        try clear c10b0
                        try clear c11
                        try clear c11b0
                        try clear c12
                        try clear c12b0
                        try clear c13
                        try clear c13b0
                        try clear p14
                        try clear q14
                        try clear hx14
                        try clear hf14
                        try clear c18
                        try clear c18b0
                        try clear c19
                        try clear c19b0
                        try clear c20
                        try clear c20b0
                        try clear c21
                        try clear c21b0
                        try clear c22
                        try clear c22b0
                        try clear c22b1
                        try clear p23
                        try clear q23
                        try clear hx23
                        try clear hf23
                        try clear c28
                        try clear c28b0
                        try clear c28b1
                        try clear c29
                        try clear c29b0
                        try clear c29b1
                        try clear hx14_0
                        try clear hx23_0
                        try clear hx390_0
                        try clear hx391_0
                        try clear hx393_0
                        try clear hx394_0
                        try clear p1
                        try clear p14
                        try clear p2
                        try clear p23
                        try clear p3
                        try clear p390
                        try clear p391
                        try clear p393
                        try clear p394
                        try clear p6
                        try clear q1
                        try clear q14
                        try clear q23
                        try clear q3
                        try clear q390
                        try clear q391
                        try clear q393
                        try clear q394
                        obtain ⟨x6_3, x11_3, x61_3, rfl, HA, HK3, HO_6, HO_11, HB⟩ := hrel
                        cases gk with
                        | zero => exact absurd HA.out (by simp [braid_Weave_int.l2])
                        | succ k3 =>
                          have H := HA.out
                          clear HA
                          simp only [braid_Weave_int.l2] at H
                          by_cases c32 : x61_3 < (l0.length : Int)
                          · rw [if_pos c32] at H
                            have c32b0 : decide (x61_3 < (l0.length : Int)) = true := decide_eq_true c32
                            clear c32
                            by_cases c33 : 0 ≤ x61_3
                            · rw [if_pos c33] at H
                              have c33b0 : decide (0 ≤ x61_3) = true := decide_eq_true c33
                              clear c33
                              by_cases c34 : x61_3 < (l0.length : Int)
                              · rw [if_pos c34] at H
                                have c34b0 : decide (x61_3 < (l0.length : Int)) = true := decide_eq_true c34
                                clear c34
                                by_cases c35 : 0 ≤ (rd l0 x61_3)
                                · rw [if_pos c35] at H
                                  have c35b0 : decide (0 ≤ (rd l0 x61_3)) = true := decide_eq_true c35
                                  clear c35
                                  by_cases c36 : (rd l0 x61_3) < (l1.length : Int)
                                  · rw [if_pos c36] at H
                                    have c36b0 : decide ((rd l0 x61_3) < (l1.length : Int)) = true := decide_eq_true c36
                                    clear c36
                                    by_cases c37 : (rd l0 x61_3) < (x6_3.length : Int)
                                    · rw [if_pos c37] at H
                                      have c37b0 : decide ((rd l0 x61_3) < (x6_3.length : Int)) = true := decide_eq_true c37
                                      clear c37
                                      by_cases c38 : 0 ≤ (rd x6_3 (rd l0 x61_3))
                                      · rw [if_pos c38] at H
                                        have c38b0 : decide (0 ≤ (rd x6_3 (rd l0 x61_3))) = true := decide_eq_true c38
                                        clear c38
                                        by_cases c39 : (rd x6_3 (rd l0 x61_3)) < ((rd_L3 l1 (rd l0 x61_3)).length : Int)
                                        · rw [if_pos c39] at H
                                          have c39b0 : decide ((rd x6_3 (rd l0 x61_3)) < ((rd_L3 l1 (rd l0 x61_3)).length : Int)) = true := decide_eq_true c39
                                          clear c39
                                          by_cases c40 : x11_3.length < 17592186044416
                                          · rw [if_pos c40] at H
                                            have LMc40 := Aside0.mk c40
                                            clear c40
                                            obtain ⟨y403, hy403⟩ : ∃ y_ : List Int, y_ = (x11_3 ++ [rd (rd_L3 l1 (rd l0 x61_3)) (rd x6_3 (rd l0 x61_3))]) := ⟨_, rfl⟩
                                            replace H : (braid_Weave_int.l2 k3 l1 (x6_3.set ((rd l0 x61_3) : Int).toNat (wrap64 ((rd x6_3 (rd l0 x61_3)) + 1))) y403 l0 (l0.length : Int) (wrap64 (x61_3 + 1))) = some (r1, r2) := by first | (rw [hy403]; with_reducible exact H) | (have H2_ := (Option.bind_some _ _).symm.trans H; rw [hy403]; with_reducible exact H2_) | (have H2_ := (Option.bind_some _ _).symm.trans H; with_reducible exact H2_) | with_reducible exact H | (rw [hy403]; exact H) | exact H
                                            have Ny403 := Aside0.mk hy403
                                            clear hy403
                                            obtain ⟨y407, hy407⟩ : ∃ y_ : List Int, y_ = (x6_3.set ((rd l0 x61_3) : Int).toNat (wrap64 ((rd x6_3 (rd l0 x61_3)) + 1))) := ⟨_, rfl⟩
                                            replace H : (braid_Weave_int.l2 k3 l1 y407 y403 l0 (l0.length : Int) (wrap64 (x61_3 + 1))) = some (r1, r2) := by first | (rw [hy407]; with_reducible exact H) | (have H2_ := (Option.bind_some _ _).symm.trans H; rw [hy407]; with_reducible exact H2_) | (have H2_ := (Option.bind_some _ _).symm.trans H; with_reducible exact H2_) | with_reducible exact H | (rw [hy407]; exact H) | exact H
                                            have Ny407 := Aside0.mk hy407
                                            clear hy407
                                            have H' := Aside0.mk H
                                            clear H
                                            have p399 : 0 ≤ (x61_3 : Int) := of_decide_eq_true (by first | (with_reducible assumption) | assumption)
                                            have q399 : x61_3 < (l0.length : Int) := of_decide_eq_true (by first | (with_reducible assumption) | assumption)
                                            obtain ⟨ad399, e399, hx399_0⟩ := Kd.at_int HR0.out x61_3 p399 q399
                                            cases e399
                                            (try (replace hx399_0 := (HB.out.cell (World.block_lt_of_cell? w _ hx399_0)).trans hx399_0))
                                            replace p399 := eq_true p399
                                            replace q399 := eq_true q399
                                            try go_wp2
                                            have n0_ := Aside0.mk (Kd.R_drew HO_6.out)
                                            have n1_ := Aside0.mk (Kd.R_drew HO_11.out)
                                            have n2_ := Aside0.mk (below_drew1 HB.out)
                                            clear HO_6
                                            clear HO_11
                                            clear HB
                                            have HO_6 := n0_
                                            have HO_11 := n1_
                                            have HB := n2_
                                            clear n0_ n1_ n2_
                                            have p400 : 0 ≤ ((rd l0 x61_3) : Int) := of_decide_eq_true (by first | (with_reducible assumption) | assumption)
                                            have q400 : (rd l0 x61_3) < (l1.length : Int) := of_decide_eq_true (by first | (with_reducible assumption) | assumption)
                                            obtain ⟨ad400, A400_0, c400_0, e400, hx400_0, hl400_0, hi400_0⟩ := at_L3 HR1.out (rd l0 x61_3) p400 q400
                                            have hw400_0 := hx400_0
                                            cases e400
                                            (try (replace hx400_0 := (HB.out.cell (World.block_lt_of_cell? w _ hx400_0)).trans hx400_0))
                                            have HR400_0 := Aside0.mk hi400_0
                                            have HC400_0 := Aside0.mk hl400_0
                                            clear hi400_0 hl400_0
                                            replace p400 := eq_true p400
                                            replace q400 := eq_true q400
                                            obtain ⟨Ao43, co43, eo43⟩ := Kd.R_slice HO_6.out
                                            (first | subst eo43 | (injection eo43 with f1_ f2_ f3_; have f4_ := f1_.symm; have f5_ := f3_.symm; clear f1_ f2_ f3_; subst f4_; subst f5_))
                                            have p401 : 0 ≤ ((rd l0 x61_3) : Int) := of_decide_eq_true (by first | (with_reducible assumption) | assumption)
                                            have q401 : (rd l0 x61_3) < (x6_3.length : Int) := of_decide_eq_true (by first | (with_reducible assumption) | assumption)
                                            obtain ⟨ad401, e401, hx401_0⟩ := Kd.at_int (Kd.R_reads' HO_6.out).2.2 (rd l0 x61_3) p401 q401
                                            cases e401
                                            replace p401 := eq_true p401
                                            replace q401 := eq_true q401
                                            have p402 : 0 ≤ ((rd x6_3 (rd l0 x61_3)) : Int) := of_decide_eq_true (by first | (with_reducible assumption) | assumption)
                                            have q402 : (rd x6_3 (rd l0 x61_3)) < ((rd_L3 l1 (rd l0 x61_3)).length : Int) := of_decide_eq_true (by first | (with_reducible assumption) | assumption)
                                            obtain ⟨ad402, e402, hx402_0⟩ := Kd.at_int HR400_0.out (rd x6_3 (rd l0 x61_3)) p402 q402
                                            have hw402_0 := hx402_0
                                            cases e402
                                            (try (replace hx402_0 := (HB.out.cell (World.block_lt_of_cell? w _ hx402_0)).trans hx402_0))
                                            replace p402 := eq_true p402
                                            replace q402 := eq_true q402
                                            refine start_ (n := 14) (S := fun w' => w'.cell? (ad400.add ((rd l0 x61_3)).toNat) = some (.slice (some ad402) (rd_L3 l1 (rd l0 x61_3)).length c400_0) ∧ w'.cell? (ad401.add ((rd l0 x61_3)).toNat) = some (.int .i64 (rd x6_3 (rd l0 x61_3))) ∧ w'.cell? (ad402.add ((rd x6_3 (rd l0 x61_3))).toNat) = some (.int .i64 (rd (rd_L3 l1 (rd l0 x61_3)) (rd x6_3 (rd l0 x61_3))))) (ds := [11, 12]) #[false, false, false, false, false, false, false, false, false, false, false, false, false, false] (by kernel_rfl) rfl rfl ⟨((HB.out.cell (World.block_lt_of_cell? w _ hw400_0)).trans hw400_0), hx401_0, ((HB.out.cell (World.block_lt_of_cell? w _ hw402_0)).trans hw402_0)⟩ (fun hHeld => ?_); refine with_tabW braid_Weave_int.tab20 braid_Weave_int.bits20 (fun HT_ HW_ => ?_)
                                            generalize wr.drew = w42 at HO_6 HO_11 HB HR400_0 hx400_0 hx401_0 hx402_0 hHeld ⊢
                                            refine pure_ (i := 0) (N := some 65) (v := ?_) (a' := ?_) #[true, false, false, false, false, false, false, false, false, false, false, false, false, false] rfl rfl (any_of HT_.out (by kernel_rfl)) (fun _ _ _ h => h) (Or.inl ⟨by rfl, ?_⟩) ?_ ?_
                                            rotate_left
                                            · intro w'
                                              go_simp
                                              with_reducible rfl
                                            rotate_left
                                            · simp only [Act.put, List.setIfInBounds_toArray, List.set_cons_zero, List.set_cons_succ, i64_w, i32_w]
                                              rfl
                                            refine pure_ (i := 1) (N := some 66) (v := ?_) (a' := ?_) #[true, true, false, false, false, false, false, false, false, false, false, false, false, false] rfl rfl (any_of HT_.out (by kernel_rfl)) (fun _ _ _ h => h) (Or.inl ⟨by rfl, ?_⟩) ?_ ?_
                                            rotate_left
                                            · intro w'
                                              go_simp
                                              with_reducible rfl
                                            rotate_left
                                            · simp only [Act.put, List.setIfInBounds_toArray, List.set_cons_zero, List.set_cons_succ, i64_w, i32_w]
                                              rfl
                                            refine pure_ (i := 2) (N := some 67) (v := ?_) (a' := ?_) #[true, true, true, false, false, false, false, false, false, false, false, false, false, false] rfl rfl (any_of HT_.out (by kernel_rfl)) (fun _ _ _ h => h) (Or.inl ⟨by rfl, ?_⟩) ?_ ?_
                                            rotate_left
                                            · intro w'
                                              go_simp
                                              with_reducible rfl
                                            rotate_left
                                            · simp only [Act.put, List.setIfInBounds_toArray, List.set_cons_zero, List.set_cons_succ, i64_w, i32_w]
                                              rfl
                                            refine pure_ (i := 3) (N := some 68) (v := ?_) (a' := ?_) #[true, true, true, true, false, false, false, false, false, false, false, false, false, false] rfl rfl (any_of HT_.out (by kernel_rfl)) (fun _ _ _ h => h) (Or.inl ⟨by rfl, ?_⟩) ?_ ?_
                                            rotate_left
                                            · intro w'
                                              go_simp
                                              with_reducible rfl
                                            rotate_left
                                            · simp only [Act.put, List.setIfInBounds_toArray, List.set_cons_zero, List.set_cons_succ, i64_w, i32_w]
                                              rfl
                                            refine pure_ (i := 5) (N := some 70) (v := ?_) (a' := ?_) #[true, true, true, true, false, true, false, false, false, false, false, false, false, false] rfl rfl (any_of HT_.out (by kernel_rfl)) (fun _ _ _ h => h) (Or.inl ⟨by rfl, ?_⟩) ?_ ?_
                                            rotate_left
                                            · intro w'
                                              go_simp
                                              with_reducible rfl
                                            rotate_left
                                            · simp only [Act.put, List.setIfInBounds_toArray, List.set_cons_zero, List.set_cons_succ, i64_w, i32_w]
                                              rfl
                                            refine pure_ (i := 6) (N := some 71) (v := ?_) (a' := ?_) #[true, true, true, true, false, true, true, false, false, false, false, false, false, false] rfl rfl (any_of HT_.out (by kernel_rfl)) (fun _ _ _ h => h) (Or.inl ⟨by rfl, ?_⟩) ?_ ?_
                                            rotate_left
                                            · intro w'
                                              go_simp
                                              with_reducible rfl
                                            rotate_left
                                            · simp only [Act.put, List.setIfInBounds_toArray, List.set_cons_zero, List.set_cons_succ, i64_w, i32_w]
                                              rfl
                                            refine pure_ (i := 7) (N := some 72) (v := ?_) (a' := ?_) #[true, true, true, true, false, true, true, true, false, false, false, false, false, false] rfl rfl (any_of HT_.out (by kernel_rfl)) (fun _ _ _ h => h) (Or.inl ⟨by rfl, ?_⟩) ?_ ?_
                                            rotate_left
                                            · intro w'
                                              go_simp
                                              with_reducible rfl
                                            rotate_left
                                            · simp only [Act.put, List.setIfInBounds_toArray, List.set_cons_zero, List.set_cons_succ, i64_w, i32_w]
                                              rfl
                                            refine take_ (i := 4) (N := some 69) (v := ?_) (a' := ?_) #[true, true, true, true, true, true, true, true, false, false, false, false, false, false] rfl rfl (take_ofW HT_.out HW_.out (by kernel_rfl)) (fun _ _ _ h => h) (Or.inl ⟨by rfl, ?_⟩) hHeld ?_ ?_
                                            rotate_left
                                            · rintro w' ⟨s0, s1, s2⟩
                                              go_simp
                                              with_reducible rfl
                                            rotate_left
                                            · simp only [Act.put, List.setIfInBounds_toArray, List.set_cons_zero, List.set_cons_succ, i64_w, i32_w]
                                              rfl
                                            refine take_ (i := 8) (N := some 73) (v := ?_) (a' := ?_) #[true, true, true, true, true, true, true, true, true, false, false, false, false, false] rfl rfl (take_ofW HT_.out HW_.out (by kernel_rfl)) (fun _ _ _ h => h) (Or.inl ⟨by rfl, ?_⟩) hHeld ?_ ?_
                                            rotate_left
                                            · rintro w' ⟨s0, s1, s2⟩
                                              go_simp
                                              with_reducible rfl
                                            rotate_left
                                            · simp only [Act.put, List.setIfInBounds_toArray, List.set_cons_zero, List.set_cons_succ, i64_w, i32_w]
                                              rfl
                                            refine pure_ (i := 9) (N := some 74) (v := ?_) (a' := ?_) #[true, true, true, true, true, true, true, true, true, true, false, false, false, false] rfl rfl (any_of HT_.out (by kernel_rfl)) (fun _ _ _ h => h) (Or.inl ⟨by rfl, ?_⟩) ?_ ?_
                                            rotate_left
                                            · intro w'
                                              go_simp
                                              with_reducible rfl
                                            rotate_left
                                            · simp only [Act.put, List.setIfInBounds_toArray, List.set_cons_zero, List.set_cons_succ, i64_w, i32_w]
                                              rfl
                                            refine take_ (i := 10) (N := some 75) (v := ?_) (a' := ?_) #[true, true, true, true, true, true, true, true, true, true, true, false, false, false] rfl rfl (take_ofW HT_.out HW_.out (by kernel_rfl)) (fun _ _ _ h => h) (Or.inl ⟨by rfl, ?_⟩) hHeld ?_ ?_
                                            rotate_left
                                            · rintro w' ⟨s0, s1, s2⟩
                                              go_simp
                                              with_reducible rfl
                                            rotate_left
                                            · simp only [Act.put, List.setIfInBounds_toArray, List.set_cons_zero, List.set_cons_succ, i64_w, i32_w]
                                              rfl
                                            refine last_ (i := 11) (N := some 76) #[true, true, true, true, true, true, true, true, true, true, true, true, false, false] rfl rfl (one_of HT_.out (by kernel_rfl)) (by decide) (fun K hK => ?_)
                                            refine value_ (w1 := ?_) (v := ?_) (by rfl) rfl ?_ ?_
                                            rotate_left 2
                                            · go_simp
                                              constructor
                                              · rfl
                                              · rfl
                                            refine hK.out _ _ ?_
                                            clear hK K
                                            refine norm_ (a' := ?_) ?_ ?_
                                            rotate_left
                                            · show Act.put _ (some 76) _ = _
                                              simp only [Act.put, List.setIfInBounds_toArray, List.set_cons_zero, List.set_cons_succ, i64_w, i32_w]
                                              rfl
                                            refine last_ (i := 12) (N := some 77) #[true, true, true, true, true, true, true, true, true, true, true, true, true, false] rfl rfl (one_of HT_.out (by kernel_rfl)) (by decide) (fun K hK => ?_)
                                            refine Kd.R_append_step (Kd.int .i64) (w0 := w) w.heap.size (by rfl) (.tmp 65) (.tmp 76) 22 3 (.int .i64 0) 8 rfl Try.underlying22 info3 rfl (by decide) (by omega) u11 x11_3 (rd (rd_L3 l1 (rd l0 x61_3)) (rd x6_3 (rd l0 x61_3))) [.int .i64 (rd (rd_L3 l1 (rd l0 x61_3)) (rd x6_3 (rd l0 x61_3)))] (fun k_ => some k_ ≠ (.slice (some ad401) x6_3.length co43 : Value).ownBlock) (fun _ => False) rfl rfl ?aP (fun _ hk => hk.elim) ?aF ?aO ?aB ?aS ?aL ?_
                                            (case aP => exact rfl)
                                            (case aB => exact (by repeat (first | (with_reducible first | exact HB.out | apply below_alloc | apply pw_below_drewN | apply below_drew1) | exact HB.out)))
                                            (case aF => exact (fun k_ hk => Kd.fresh' (Kd.R_lt (by (with_reducible repeat (first | apply Kd.R_alloc | apply Kd.R_drewN | apply Kd.R_drew)); exact HO_6.out)) k_ hk))
                                            (case aO => exact (by (with_reducible repeat (first | apply Kd.R_alloc | apply Kd.R_drewN | apply Kd.R_drew)); exact HO_11.out))
                                            (case aS => exact (below_size (by repeat (first | (with_reducible first | exact HB.out | apply below_alloc | apply pw_below_drewN | apply below_drew1) | exact HB.out))))
                                            (case aL => have := LMc40.out; omega)
                                            intro v404 w44 ho hb hg hat
                                            rw [← Ny403.out] at ho
                                            have n0_ := Aside0.mk (Kd.R_after (ok := (fun _ => True)) (by (with_reducible repeat (first | apply Kd.R_alloc | apply Kd.R_drewN | apply Kd.R_drew)); exact Kd.R_mono HO_6.out (fun _ hk => ⟨trivial, hk⟩)) hg hat)
                                            have n1_ := Aside0.mk (hb)
                                            have n2_ := Aside0.mk (ho)
                                            clear HO_6
                                            clear HB
                                            clear HO_11
                                            have HO_6 := n0_
                                            have HB := n1_
                                            have HO405 := n2_
                                            clear n0_ n1_ n2_
                                            clear ho hb hg hat
                                            refine hK.out _ _ ?_
                                            clear hK K
                                            refine norm_ (a' := ?_) ?_ ?_
                                            rotate_left
                                            · show Act.put _ (some 77) _ = _
                                              simp only [Act.put, List.setIfInBounds_toArray, List.set_cons_zero, List.set_cons_succ, i64_w, i32_w]
                                              rfl
                                            refine pure_ (i := 13) (N := some 11) (v := ?_) (a' := ?_) #[true, true, true, true, true, true, true, true, true, true, true, true, true, true] rfl rfl (any_of HT_.out (by kernel_rfl)) (fun _ _ _ h => h) (Or.inl ⟨by rfl, ?_⟩) ?_ ?_
                                            rotate_left
                                            · intro w'
                                              go_simp
                                              with_reducible rfl
                                            rotate_left
                                            · simp only [Act.put, List.setIfInBounds_toArray, List.set_cons_zero, List.set_cons_succ, i64_w, i32_w]
                                              rfl
                                            refine done_ (done_of HT_.out (by kernel_rfl)) ?_
                                            have p406 : 0 ≤ ((rd l0 x61_3) : Int) := of_decide_eq_true (by first | (with_reducible assumption) | assumption)
                                            have q406 : (rd l0 x61_3) < (x6_3.length : Int) := of_decide_eq_true (by first | (with_reducible assumption) | assumption)
                                            obtain ⟨ad406, e406, hx406_0⟩ := Kd.at_int (Kd.R_reads' HO_6.out).2.2 (rd l0 x61_3) p406 q406
                                            obtain rfl : ad401 = ad406 := (by injection e406)
                                            replace p406 := eq_true p406
                                            replace q406 := eq_true q406
                                            have p41 : 0 ≤ ((rd l0 x61_3) : Int) := of_decide_eq_true (by first | (with_reducible assumption) | assumption)
                                            have q41 : ((rd l0 x61_3) : Int) < ((x6_3.length : Int) : Int) := of_decide_eq_true (by first | (with_reducible assumption) | assumption)
                                            obtain ⟨go41, co41, eo41, gb41, gl41, cl41, HG41⟩ := Kd.R_form HO_6.out (by omega)
                                            (first | cases eo41 | (injection eo41 with ea_ en_ ec_; (first | subst ea_ | (injection ea_ with ea_; subst ea_)); subst ec_; clear en_))
                                            have GB41 := Aside0.mk gb41
                                            have GG41 := Aside0.mk HG41
                                            clear gb41 gl41 HG41
                                            (first | simp only [add_plain] at hx401_0 | skip)
                                            (first | simp only [add_plain] at hx406_0 | skip)
                                            obtain ⟨hx41_0, hf41_0⟩ := Kd.R_celln 0 HO_6.out ((rd l0 x61_3) : Int) p41 q41
                                            replace p41 := eq_true p41
                                            replace q41 := eq_true q41
                                            have n_ := Aside0.mk (Kd.R_mono (ok' := (fun k_ => some k_ ≠ (v404 : Value).ownBlock)) HO_6.out (fun k_ hk => hk.2))
                                            clear HO_6
                                            have HO_6 := n_
                                            clear n_
                                            obtain ⟨hy45_, hz45_⟩ := Kd.R_celln 0 HO_6.out ((rd l0 x61_3) : Int) (of_decide_eq_true (by first | (with_reducible assumption) | assumption)) (of_decide_eq_true (by first | (with_reducible assumption) | assumption))
                                            have HP45 := Kd.R_putg HO_6.out ((rd l0 x61_3) : Int) (wrap64 ((rd x6_3 (rd l0 x61_3)) + 1))
                                            try go_wp2_with (first | ((with_reducible refine gate_store (t := 3) (p := 83) rfl ?_); refine store_event (t := 3) (p := 83) (v := ?vo_w46) (w1 := (w44.setCell ⟨go41, ((rd l0 x61_3) : Int).toNat, none⟩ (.int .i64 (wrap64 ((rd x6_3 (rd l0 x61_3)) + 1))))) ?hg ?ho ?hn ?hr ?_; (case ho => rfl); (case hg => rfl); (case hn => rfl); (case hr => first | (go_simp; done) | (go_simp; rfl)); intro w46 hw; have hg : w44.grownBy w46 (some go41) := (by rw [hw]; exact HP45.2); have hp_ : Kd.R (Kd.int .i64) 3 w46 w.heap.size (fun k_ => some k_ ≠ (v404 : Value).ownBlock) (.slice (some ⟨go41, 0, none⟩) x6_3.length co43) y407 := (by rw [hw, Ny407.out]; exact HP45.1); clear HP45; have n0_ := Aside0.mk (hp_); have n1_ := Aside0.mk (Kd.R_after (v := (.slice (some ⟨go41, 0, none⟩) x6_3.length co43)) (v1 := (.slice (some ⟨go41, 0, none⟩) x6_3.length co43)) (ok := (fun _ => True)) (by (with_reducible repeat (first | apply Kd.R_alloc | apply Kd.R_drewN | apply Kd.R_drew)); exact Kd.R_mono HO405.out (fun _ hk => ⟨trivial, hk⟩)) hg (.inl rfl)); have n2_ := Aside0.mk ((by rw [hw]; exact below_set (HB.out) GB41.out : Below w.heap.size w w46)); clear HO_6; clear HO405; clear HB; have HO_6 := n0_; have HO405 := n1_; have HB := n2_; clear n0_ n1_ n2_; clear hg hw hp_))
                                            go_roundg k3
                                            case measure => have := HK1.out; have := HK2.out; have := HK3.out; omega
                                            case rel => exact ⟨(y407), (y403), (wrap64 (x61_3 + 1)), (by first | rfl | (simp; done) | (simp [*]; done)), H', ⟨by have := HK1.out; have := HK2.out; have := HK3.out; omega⟩, ⟨by (with_reducible repeat (first | apply Kd.R_alloc | apply Kd.R_drewN | apply Kd.R_drew)); exact HO_6.out⟩, ⟨by (with_reducible repeat (first | apply Kd.R_alloc | apply Kd.R_drewN | apply Kd.R_drew)); exact Kd.R_mono HO405.out (fun _ hk => hk.2)⟩, ⟨by repeat (first | (with_reducible first | exact HB.out | apply below_alloc | apply pw_below_drewN | apply below_drew1) | exact HB.out)⟩⟩
                                          · rw [if_neg c40] at H
                                            exact absurd H (by simp)
                                        · rw [if_neg c39] at H
                                          exact absurd H (by simp)
                                      · rw [if_neg c38] at H
                                        exact absurd H (by simp)
                                    · rw [if_neg c37] at H
                                      exact absurd H (by simp)
                                  · rw [if_neg c36] at H
                                    exact absurd H (by simp)
                                · rw [if_neg c35] at H
                                  exact absurd H (by simp)
                              · rw [if_neg c34] at H
                                exact absurd H (by simp)
                            · rw [if_neg c33] at H
                              exact absurd H (by simp)
                          · rw [if_neg c32] at H
                            have c32b0 : decide (x61_3 < (l0.length : Int)) = false := decide_eq_false c32
                            clear c32
                            simp only [Option.some.injEq, Prod.mk.injEq] at H
                            obtain ⟨rfl, rfl⟩ := H
                            go_wp2
                            go_ret2
                            exact ⟨_, by first | rfl | (simp [errW_none, errW_some] <;> rfl) | (simp [*, errW_none, errW_some] <;> rfl), by (with_reducible repeat (first | apply Kd.R_alloc | apply Kd.R_drewN | apply Kd.R_drew)); exact Kd.R_mono HO_11.out (fun _ hk => trivial), by repeat (first | (with_reducible first | exact HB.out | apply below_alloc | apply pw_below_drewN | apply below_drew1) | exact HB.out)⟩
                    · rw [if_neg c29] at H
                      exact absurd H (by simp)
                  · rw [if_neg c28] at H
                    exact absurd H (by simp)
    · rw [if_neg c4] at H
      exact absurd H (by simp)
  · rw [if_neg c3] at H
    exact absurd H (by simp)

end Go.Proofs.Ytiefmocfgneldaa.Q
