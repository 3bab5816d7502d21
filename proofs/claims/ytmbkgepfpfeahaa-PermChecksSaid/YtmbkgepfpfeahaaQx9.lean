/- Functions of the program as plain Lean functions, each with a proof that its call comes to just these answers, or the row that joins them to the given statement; no condition beside the statement's own. Written for this claim by pf.py, this session's program over the kit's print. -/
import Derived.Test.YtmbkgepfpfeahaaQx0
import Derived.Test.YtmbkgepfpfeahaaQx7
namespace Go.Proofs.Ytmbkgepfpfeahaa.Q
open Go.RowKit Go.Proofs.YtmbkgepfpfeahaaW.PrintWords Go.Proofs.YtmbkgepfpfeahaaW.PrintLast Go.Proofs.YtmbkgepfpfeahaaW.PrintMore
attribute [local go_sem] max2_int min2_int max_two min_two max_three min_three max_four min_four   -- for this text's walks alone
set_option linter.unusedVariables false
set_option linter.unusedSimpArgs false

/-! ### churnref11_Unrank: function 17 -/
mutual
def churnref11_Unrank.l0 : Nat → List Int → Int → Int → Option (List Int × Int)
  | 0, _, _, _ => none
  | k + 1, x0, x4, x5 => if x5 < x4 then (if 0 ≤ x5 then (if x5 < (x0.length : Int) then (if (rd x0 x5) < 0 then (some (([] : List Int), 110)) else (if (rd x0 x5) > (wrap64 ((wrap64 (x4 - 1)) - x5)) then (some (([] : List Int), 110)) else (churnref11_Unrank.l0 k x0 x4 (wrap64 (x5 + 1))))) else (none)) else (none)) else ((churnref11_Identity.f k x4).bind fun t214 => (churnref11_Unrank.l1 k x0 x4 t214 ([] : List Int) 0))
def churnref11_Unrank.l1 : Nat → List Int → Int → List Int → List Int → Int → Option (List Int × Int)
  | 0, _, _, _, _, _ => none
  | k + 1, x0, x4, x6, x7, x8 => if x8 < x4 then (if 0 ≤ x8 then (if x8 < (x0.length : Int) then (if 0 ≤ (rd x0 x8) then (if (rd x0 x8) < (x6.length : Int) then (if x7.length < 17592186044416 then ((some (([] : List Int) : List Int)).bind fun y222 => (if (rd x0 x8) ≤ (x6.length : Int) then ((some (x6.take ((rd x0 x8) : Int).toNat : List Int)).bind fun y225 => (if y222.length + y225.length < 17592186044416 then ((some (y222 ++ y225 : List Int)).bind fun y229 => (if 0 ≤ (wrap64 ((rd x0 x8) + 1)) then (if (wrap64 ((rd x0 x8) + 1)) ≤ (x6.length : Int) then ((some (x6.drop ((wrap64 ((rd x0 x8) + 1)) : Int).toNat : List Int)).bind fun y232 => (if y229.length + y232.length < 17592186044416 then (churnref11_Unrank.l1 k x0 x4 (y229 ++ y232) (x7 ++ [rd x6 (rd x0 x8)]) (wrap64 (x8 + 1))) else (none))) else (none)) else (none))) else (none))) else (none))) else (none)) else (none)) else (none)) else (none)) else (none)) else (some (x7, 0))
end
def churnref11_Unrank.f (k : Nat) (l0 : List Int) : Option (List Int × Int) := churnref11_Unrank.l0 k l0 (l0.length : Int) 0
theorem churnref11_Unrank.mono_l : ∀ k, (∀ y0 y1 y2, LeO (churnref11_Unrank.l0 k y0 y1 y2) (churnref11_Unrank.l0 (k + 1) y0 y1 y2)) ∧ (∀ y0 y1 y2 y3 y4, LeO (churnref11_Unrank.l1 k y0 y1 y2 y3 y4) (churnref11_Unrank.l1 (k + 1) y0 y1 y2 y3 y4))
  | 0 => ⟨fun _ _ _ r h => by simp [churnref11_Unrank.l0] at h, fun _ _ _ _ _ r h => by simp [churnref11_Unrank.l1] at h⟩
  | k + 1 => by
    obtain ⟨ih0, ih1⟩ := churnref11_Unrank.mono_l k
    refine ⟨?_, ?_⟩
    · intro y0 y1 y2
      unfold churnref11_Unrank.l0
      repeat' first
      | (with_reducible exact ih0 _ _ _)
      | (with_reducible exact ih1 _ _ _ _ _)
      | (with_reducible exact churnref11_Identity.mono _ _)
      | (with_reducible exact LeO.refl _)
      | (with_reducible exact LeO.none _)
      | (with_reducible refine LeO.ite ?_ ?_)
      | (with_reducible refine LeO.bind ?_ (fun _ => ?_))
      | exact ih0 _ _ _
      | exact ih1 _ _ _ _ _
      | exact churnref11_Identity.mono _ _
      | exact LeO.none _
      | refine LeO.ite ?_ ?_
      | refine LeO.bind ?_ (fun _ => ?_)
    · intro y0 y1 y2 y3 y4
      unfold churnref11_Unrank.l1
      repeat' first
      | (with_reducible exact ih0 _ _ _)
      | (with_reducible exact ih1 _ _ _ _ _)
      | (with_reducible exact churnref11_Identity.mono _ _)
      | (with_reducible exact LeO.refl _)
      | (with_reducible exact LeO.none _)
      | (with_reducible refine LeO.ite ?_ ?_)
      | (with_reducible refine LeO.bind ?_ (fun _ => ?_))
      | exact ih0 _ _ _
      | exact ih1 _ _ _ _ _
      | exact churnref11_Identity.mono _ _
      | exact LeO.none _
      | refine LeO.ite ?_ ?_
      | refine LeO.bind ?_ (fun _ => ?_)
theorem churnref11_Unrank.mono : ∀ a0 k, LeO (churnref11_Unrank.f k a0) (churnref11_Unrank.f (k + 1) a0) := by
  intro a0 k
  obtain ⟨ih0, ih1⟩ := churnref11_Unrank.mono_l k
  unfold churnref11_Unrank.f
  repeat' first
      | (with_reducible exact ih0 _ _ _)
      | (with_reducible exact ih1 _ _ _ _ _)
      | (with_reducible exact churnref11_Identity.mono _ _)
      | (with_reducible exact LeO.refl _)
      | (with_reducible exact LeO.none _)
      | (with_reducible refine LeO.ite ?_ ?_)
      | (with_reducible refine LeO.bind ?_ (fun _ => ?_))
      | exact ih0 _ _ _
      | exact ih1 _ _ _ _ _
      | exact churnref11_Identity.mono _ _
      | exact LeO.none _
      | refine LeO.ite ?_ ?_
      | refine LeO.bind ?_ (fun _ => ?_)
def churnref11_Unrank.T14 : Bool × List (List Nat × List Nat) := (true, [([], []), ([], []), ([], []), ([1, 2], [1, 2]), ([0, 3], [0, 3]), ([], []), ([], []), ([6], [6]), ([5, 7], [5, 7]), ([4, 8, 4], [4, 8]), ([9, 9, 0, 1, 2, 3, 4, 5, 6, 7, 8, 9], [1, 5, 9])])
def churnref11_Unrank.B14 : List Nat := [0, 0, 0, 6, 15, 0, 0, 64, 224, 511, 1023]
theorem churnref11_Unrank.tab14 : rtab .any (opsOf Try.f17 14) = churnref11_Unrank.T14 := by kernel_rfl
theorem churnref11_Unrank.bits14 : waitsOk churnref11_Unrank.T14.2 churnref11_Unrank.B14 = true := by kernel_rfl
set_option maxHeartbeats 8000000 in
set_option maxRecDepth 100000 in
theorem churnref11_Unrank.calls (k : Nat) (A0 : Option Addr) (c0 : Nat) (l0 : List Int) (r1 : List Int) (r2 : Int) (w : World) (hr0 : Kd.C (Kd.int .i64) w A0 l0.length l0) (hc0 : l0.length ≤ c0) (h : churnref11_Unrank.f k l0 = some (r1, r2)) :
    Calls Try.prog 17 #[.slice A0 l0.length c0] w fun e w' => ∃ v0_ : Value, e = .returned (.tuple #[v0_, .int .i64 r2]) ∧ Kd.R (Kd.int .i64) 3 w' w.heap.size (fun _ => True) v0_ r1 ∧ Below w.heap.size w w' := by
  have HR0 := Aside0.mk hr0
  have HC0 := Aside0.mk hc0
  clear hr0 hc0
  have HB := Aside0.mk (Below.refl w.heap.size w)
  have H : (churnref11_Unrank.l0 k l0 (l0.length : Int) 0) = some (r1, r2) := h
  clear h
  have H' := Aside0.mk H
  clear H
  go_enter Try.func17, Try.ntmps17
  go_wp2
  go_loopg [5] k (fun kq v5 w' => ∃ (x5_1 : Int), v5 = .int .i64 x5_1 ∧ Aside0 (churnref11_Unrank.l0 kq l0 (l0.length : Int) x5_1 = some (r1, r2)) ∧ Aside0 (kq ≤ k) ∧ Aside0 (Below w.heap.size w w'))
  case atStart => exact ⟨(0), (by first | rfl | (simp; done) | (simp [*]; done)), H', ⟨Nat.le_refl _⟩, ⟨by repeat (first | (with_reducible first | exact HB.out | apply below_alloc | apply pw_below_drewN | apply below_drew1) | exact HB.out)⟩⟩
  case round =>
    clear H'
    try clear c1
    obtain ⟨x5_1, rfl, HA, HK1, HB⟩ := hrel
    cases gk with
    | zero => exact absurd HA.out (by simp [churnref11_Unrank.l0])
    | succ k1 =>
      have H := HA.out
      clear HA
      simp only [churnref11_Unrank.l0] at H
      by_cases c2 : x5_1 < (l0.length : Int)
      · rw [if_pos c2] at H
        have c2b0 : decide (x5_1 < (l0.length : Int)) = true := decide_eq_true c2
        clear c2
        by_cases c3 : 0 ≤ x5_1
        · rw [if_pos c3] at H
          have c3b0 : decide (0 ≤ x5_1) = true := decide_eq_true c3
          clear c3
          by_cases c4 : x5_1 < (l0.length : Int)
          · rw [if_pos c4] at H
            have c4b0 : decide (x5_1 < (l0.length : Int)) = true := decide_eq_true c4
            clear c4
            by_cases c5 : (rd l0 x5_1) < 0
            · rw [if_pos c5] at H
              have c5b0 : decide ((rd l0 x5_1) < 0) = true := decide_eq_true c5
              clear c5
              simp only [Option.some.injEq, Prod.mk.injEq] at H
              obtain ⟨rfl, rfl⟩ := H
              have p212 : 0 ≤ (x5_1 : Int) := of_decide_eq_true (by first | (with_reducible assumption) | assumption)
              have q212 : x5_1 < (l0.length : Int) := of_decide_eq_true (by first | (with_reducible assumption) | assumption)
              obtain ⟨ad212, e212, hx212_0⟩ := Kd.at_int HR0.out x5_1 p212 q212
              cases e212
              (try (replace hx212_0 := (HB.out.cell (World.block_lt_of_cell? w _ hx212_0)).trans hx212_0))
              replace p212 := eq_true p212
              replace q212 := eq_true q212
              go_wp2
              go_ret2
              exact ⟨_, by first | rfl | (simp [errW_none, errW_some] <;> rfl) | (simp [*, errW_none, errW_some] <;> rfl), by first | exact Kd.R_nil _ _ _ _ _ | exact Kd.N_nil _ _ _ _ _ | exact Kd.V_nil _ _ _ _ _ | exact Kd.Q_nil _ _ _ _ _ | exact Kd.S_nil _ _ _ _ _, by repeat (first | (with_reducible first | exact HB.out | apply below_alloc | apply pw_below_drewN | apply below_drew1) | exact HB.out)⟩
            · rw [if_neg c5] at H
              have c5b0 : decide ((rd l0 x5_1) < 0) = false := decide_eq_false c5
              clear c5
              by_cases c6 : (rd l0 x5_1) > (wrap64 ((wrap64 ((l0.length : Int) - 1)) - x5_1))
              · rw [if_pos c6] at H
                have c6b0 : decide ((wrap64 ((wrap64 ((l0.length : Int) - 1)) - x5_1)) < (rd l0 x5_1)) = true := decide_eq_true c6
                clear c6
                simp only [Option.some.injEq, Prod.mk.injEq] at H
                obtain ⟨rfl, rfl⟩ := H
                have p212 : 0 ≤ (x5_1 : Int) := of_decide_eq_true (by first | (with_reducible assumption) | assumption)
                have q212 : x5_1 < (l0.length : Int) := of_decide_eq_true (by first | (with_reducible assumption) | assumption)
                obtain ⟨ad212, e212, hx212_0⟩ := Kd.at_int HR0.out x5_1 p212 q212
                cases e212
                (try (replace hx212_0 := (HB.out.cell (World.block_lt_of_cell? w _ hx212_0)).trans hx212_0))
                replace p212 := eq_true p212
                replace q212 := eq_true q212
                have p213 : 0 ≤ (x5_1 : Int) := of_decide_eq_true (by first | (with_reducible assumption) | assumption)
                have q213 : x5_1 < (l0.length : Int) := of_decide_eq_true (by first | (with_reducible assumption) | assumption)
                obtain ⟨ad213, e213, hx213_0⟩ := Kd.at_int HR0.out x5_1 p213 q213
                obtain rfl : ad212 = ad213 := (by injection e213)
                (try (replace hx213_0 := (HB.out.cell (World.block_lt_of_cell? w _ hx213_0)).trans hx213_0))
                replace p213 := eq_true p213
                replace q213 := eq_true q213
                go_wp2
                go_ret2
                exact ⟨_, by first | rfl | (simp [errW_none, errW_some] <;> rfl) | (simp [*, errW_none, errW_some] <;> rfl), by first | exact Kd.R_nil _ _ _ _ _ | exact Kd.N_nil _ _ _ _ _ | exact Kd.V_nil _ _ _ _ _ | exact Kd.Q_nil _ _ _ _ _ | exact Kd.S_nil _ _ _ _ _, by repeat (first | (with_reducible first | exact HB.out | apply below_alloc | apply pw_below_drewN | apply below_drew1) | exact HB.out)⟩
              · rw [if_neg c6] at H
                have c6b0 : decide ((wrap64 ((wrap64 ((l0.length : Int) - 1)) - x5_1)) < (rd l0 x5_1)) = false := decide_eq_false c6
                clear c6
                have H' := Aside0.mk H
                clear H
                have p212 : 0 ≤ (x5_1 : Int) := of_decide_eq_true (by first | (with_reducible assumption) | assumption)
                have q212 : x5_1 < (l0.length : Int) := of_decide_eq_true (by first | (with_reducible assumption) | assumption)
                obtain ⟨ad212, e212, hx212_0⟩ := Kd.at_int HR0.out x5_1 p212 q212
                cases e212
                (try (replace hx212_0 := (HB.out.cell (World.block_lt_of_cell? w _ hx212_0)).trans hx212_0))
                replace p212 := eq_true p212
                replace q212 := eq_true q212
                have p213 : 0 ≤ (x5_1 : Int) := of_decide_eq_true (by first | (with_reducible assumption) | assumption)
                have q213 : x5_1 < (l0.length : Int) := of_decide_eq_true (by first | (with_reducible assumption) | assumption)
                obtain ⟨ad213, e213, hx213_0⟩ := Kd.at_int HR0.out x5_1 p213 q213
                obtain rfl : ad212 = ad213 := (by injection e213)
                (try (replace hx213_0 := (HB.out.cell (World.block_lt_of_cell? w _ hx213_0)).trans hx213_0))
                replace p213 := eq_true p213
                replace q213 := eq_true q213
                go_wp2
                go_roundg k1
                case measure => have := HK1.out; omega
                case rel => exact ⟨(wrap64 (x5_1 + 1)), (by first | rfl | (simp; done) | (simp [*]; done)), H', ⟨by have := HK1.out; omega⟩, ⟨by repeat (first | (with_reducible first | exact HB.out | apply below_alloc | apply pw_below_drewN | apply below_drew1) | exact HB.out)⟩⟩
          · rw [if_neg c4] at H
            exact absurd H (by simp)
        · rw [if_neg c3] at H
          exact absurd H (by simp)
      · rw [if_neg c2] at H
        have c2b0 : decide (x5_1 < (l0.length : Int)) = false := decide_eq_false c2
        clear c2
        replace H := Option.bind_eq_some_iff.mp H
        obtain ⟨t214, A70, H⟩ := H
        replace H : (churnref11_Unrank.l1 k1 l0 (l0.length : Int) t214 ([] : List Int) 0) = some (r1, r2) := H
        have A7 := Aside0.mk A70
        clear A70
        have H' := Aside0.mk H
        clear H
        go_wp2_with (first | ((with_reducible refine gate_callee (f := 21) rfl ?_); refine goesL_ (some 34) rfl rfl Try.func21 (by kernel_rfl) rfl #[.int .i64 (l0.length : Int)] rfl (by (try simp only [List.map_toArray, List.map_cons, List.map_nil]); first | done | rfl | (simp only [List.length_drop, List.length_take]; rfl)) ?_; (with_reducible refine (churnref11_Identity.calls k1 (l0.length : Int) t214 _ A7.out).mono ?_); rintro e w8 ⟨v215, rfl, ho0, hb⟩; refine ⟨_, rfl, ?_⟩; have n0_ := Aside0.mk (Kd.R_lower ho0 (below_size (by repeat (first | (with_reducible first | exact HB.out | apply below_alloc | apply pw_below_drewN | apply below_drew1) | exact HB.out)))); have n1_ := Aside0.mk (below_step (by repeat (first | (with_reducible first | exact HB.out | apply below_alloc | apply pw_below_drewN | apply below_drew1) | exact HB.out)) hb); clear HB; have HO216 := n0_; have HB := n1_; clear n0_ n1_; (try clear hb); (try clear hb2); (try clear hk); (try clear hi); (try clear ho0)))
        go_loopg [6, 7, 8] k1 (fun kq v6 v7 v8 w' => ∃ (x6_2 : List Int) (x7_2 : List Int) (x8_2 : Int), v8 = .int .i64 x8_2 ∧ Aside0 (churnref11_Unrank.l1 kq l0 (l0.length : Int) x6_2 x7_2 x8_2 = some (r1, r2)) ∧ Aside0 (kq ≤ k1) ∧ Aside0 (Kd.R (Kd.int .i64) 3 w' w.heap.size (fun k_ => some k_ ≠ (v7 : Value).ownBlock) v6 x6_2) ∧ Aside0 (Kd.R (Kd.int .i64) 3 w' w.heap.size (fun k_ => some k_ ≠ (v6 : Value).ownBlock) v7 x7_2) ∧ Aside0 (Below w.heap.size w w'))
        case atStart => exact ⟨(t214), (([] : List Int)), (0), (by first | rfl | (simp; done) | (simp [*]; done)), H', ⟨Nat.le_refl _⟩, ⟨by (with_reducible repeat (first | apply Kd.R_alloc | apply Kd.R_drewN | apply Kd.R_drew)); exact Kd.R_mono HO216.out (fun _ hk => (by simp [Value.ownBlock]))⟩, ⟨by first | exact Kd.R_nil _ _ _ _ _ | exact Kd.N_nil _ _ _ _ _ | exact Kd.V_nil _ _ _ _ _ | exact Kd.Q_nil _ _ _ _ _ | exact Kd.S_nil _ _ _ _ _⟩, ⟨by repeat (first | (with_reducible first | exact HB.out | apply below_alloc | apply pw_below_drewN | apply below_drew1) | exact HB.out)⟩⟩
        case round =>
          clear H'
          try clear c1
          try clear c2
          try clear c2b0
          try clear p2
          try clear q2
          try clear hx2
          try clear c3
          try clear c3b0
          try clear c4
          try clear c4b0
          try clear c5
          try clear c5b0
          try clear c6
          try clear c6b0
          try clear p6
          try clear hx212_0
          try clear hx213_0
          try clear p212
          try clear p213
          try clear q212
          try clear q213
          obtain ⟨x6_2, x7_2, x8_2, rfl, HA, HK2, HO_6, HO_7, HB⟩ := hrel
          cases gk with
          | zero => exact absurd HA.out (by simp [churnref11_Unrank.l1])
          | succ k2 =>
            have H := HA.out
            clear HA
            simp only [churnref11_Unrank.l1] at H
            by_cases c9 : x8_2 < (l0.length : Int)
            · rw [if_pos c9] at H
              have c9b0 : decide (x8_2 < (l0.length : Int)) = true := decide_eq_true c9
              clear c9
              by_cases c10 : 0 ≤ x8_2
              · rw [if_pos c10] at H
                have c10b0 : decide (0 ≤ x8_2) = true := decide_eq_true c10
                clear c10
                by_cases c11 : x8_2 < (l0.length : Int)
                · rw [if_pos c11] at H
                  have c11b0 : decide (x8_2 < (l0.length : Int)) = true := decide_eq_true c11
                  clear c11
                  by_cases c12 : 0 ≤ (rd l0 x8_2)
                  · rw [if_pos c12] at H
                    have c12b0 : decide (0 ≤ (rd l0 x8_2)) = true := decide_eq_true c12
                    clear c12
                    by_cases c13 : (rd l0 x8_2) < (x6_2.length : Int)
                    · rw [if_pos c13] at H
                      have c13b0 : decide ((rd l0 x8_2) < (x6_2.length : Int)) = true := decide_eq_true c13
                      clear c13
                      by_cases c14 : x7_2.length < 17592186044416
                      · rw [if_pos c14] at H
                        have LMc14 := Aside0.mk c14
                        clear c14
                        obtain ⟨y219, hy219⟩ : ∃ y_ : List Int, y_ = (x7_2 ++ [rd x6_2 (rd l0 x8_2)]) := ⟨_, rfl⟩
                        replace H : ((some (([] : List Int) : List Int)).bind fun y222 => (if (rd l0 x8_2) ≤ (x6_2.length : Int) then ((some (x6_2.take ((rd l0 x8_2) : Int).toNat : List Int)).bind fun y225 => (if y222.length + y225.length < 17592186044416 then ((some (y222 ++ y225 : List Int)).bind fun y229 => (if 0 ≤ (wrap64 ((rd l0 x8_2) + 1)) then (if (wrap64 ((rd l0 x8_2) + 1)) ≤ (x6_2.length : Int) then ((some (x6_2.drop ((wrap64 ((rd l0 x8_2) + 1)) : Int).toNat : List Int)).bind fun y232 => (if y229.length + y232.length < 17592186044416 then (churnref11_Unrank.l1 k2 l0 (l0.length : Int) (y229 ++ y232) y219 (wrap64 (x8_2 + 1))) else (none))) else (none)) else (none))) else (none))) else (none))) = some (r1, r2) := by first | (rw [hy219]; with_reducible exact H) | (have H2_ := (Option.bind_some _ _).symm.trans H; rw [hy219]; with_reducible exact H2_) | (have H2_ := (Option.bind_some _ _).symm.trans H; with_reducible exact H2_) | with_reducible exact H | (rw [hy219]; exact H) | exact H
                        have Ny219 := Aside0.mk hy219
                        clear hy219
                        obtain ⟨y222, hy222⟩ : ∃ y_ : List Int, y_ = (([] : List Int)) := ⟨_, rfl⟩
                        replace H : (if (rd l0 x8_2) ≤ (x6_2.length : Int) then ((some (x6_2.take ((rd l0 x8_2) : Int).toNat : List Int)).bind fun y225 => (if y222.length + y225.length < 17592186044416 then ((some (y222 ++ y225 : List Int)).bind fun y229 => (if 0 ≤ (wrap64 ((rd l0 x8_2) + 1)) then (if (wrap64 ((rd l0 x8_2) + 1)) ≤ (x6_2.length : Int) then ((some (x6_2.drop ((wrap64 ((rd l0 x8_2) + 1)) : Int).toNat : List Int)).bind fun y232 => (if y229.length + y232.length < 17592186044416 then (churnref11_Unrank.l1 k2 l0 (l0.length : Int) (y229 ++ y232) y219 (wrap64 (x8_2 + 1))) else (none))) else (none)) else (none))) else (none))) else (none)) = some (r1, r2) := by first | (rw [hy222]; with_reducible exact H) | (have H2_ := (Option.bind_some _ _).symm.trans H; rw [hy222]; with_reducible exact H2_) | (have H2_ := (Option.bind_some _ _).symm.trans H; with_reducible exact H2_) | with_reducible exact H | (rw [hy222]; exact H) | exact H
                        have Ny222 := Aside0.mk hy222
                        clear hy222
                        have c15b0 := eq_true (of_decide_eq_true (by first | (with_reducible assumption) | assumption) : 0 ≤ (rd l0 x8_2))
                        by_cases c16 : (rd l0 x8_2) ≤ (x6_2.length : Int)
                        · rw [if_pos c16] at H
                          have c16b0 := eq_true c16
                          have c16b1 : decide ((rd l0 x8_2) ≤ (x6_2.length : Int)) = true := decide_eq_true c16
                          clear c16
                          obtain ⟨y225, hy225⟩ : ∃ y_ : List Int, y_ = (x6_2.take ((rd l0 x8_2) : Int).toNat) := ⟨_, rfl⟩
                          replace H : (if y222.length + y225.length < 17592186044416 then ((some (y222 ++ y225 : List Int)).bind fun y229 => (if 0 ≤ (wrap64 ((rd l0 x8_2) + 1)) then (if (wrap64 ((rd l0 x8_2) + 1)) ≤ (x6_2.length : Int) then ((some (x6_2.drop ((wrap64 ((rd l0 x8_2) + 1)) : Int).toNat : List Int)).bind fun y232 => (if y229.length + y232.length < 17592186044416 then (churnref11_Unrank.l1 k2 l0 (l0.length : Int) (y229 ++ y232) y219 (wrap64 (x8_2 + 1))) else (none))) else (none)) else (none))) else (none)) = some (r1, r2) := by first | (rw [hy225]; with_reducible exact H) | (have H2_ := (Option.bind_some _ _).symm.trans H; rw [hy225]; with_reducible exact H2_) | (have H2_ := (Option.bind_some _ _).symm.trans H; with_reducible exact H2_) | with_reducible exact H | (rw [hy225]; exact H) | exact H
                          have Ny225 := Aside0.mk hy225
                          clear hy225
                          by_cases c17 : y222.length + y225.length < 17592186044416
                          · rw [if_pos c17] at H
                            have LMc17 := Aside0.mk c17
                            clear c17
                            obtain ⟨y229, hy229⟩ : ∃ y_ : List Int, y_ = (y222 ++ y225) := ⟨_, rfl⟩
                            replace H : (if 0 ≤ (wrap64 ((rd l0 x8_2) + 1)) then (if (wrap64 ((rd l0 x8_2) + 1)) ≤ (x6_2.length : Int) then ((some (x6_2.drop ((wrap64 ((rd l0 x8_2) + 1)) : Int).toNat : List Int)).bind fun y232 => (if y229.length + y232.length < 17592186044416 then (churnref11_Unrank.l1 k2 l0 (l0.length : Int) (y229 ++ y232) y219 (wrap64 (x8_2 + 1))) else (none))) else (none)) else (none)) = some (r1, r2) := by first | (rw [hy229]; with_reducible exact H) | (have H2_ := (Option.bind_some _ _).symm.trans H; rw [hy229]; with_reducible exact H2_) | (have H2_ := (Option.bind_some _ _).symm.trans H; with_reducible exact H2_) | with_reducible exact H | (rw [hy229]; exact H) | exact H
                            have Ny229 := Aside0.mk hy229
                            clear hy229
                            obtain ⟨ji18, hji18⟩ : ∃ j_ : Int, (wrap64 ((rd l0 x8_2) + 1)) = j_ := ⟨_, rfl⟩
                            replace H : (if 0 ≤ (ji18) then (if (ji18) ≤ (x6_2.length : Int) then ((some (x6_2.drop ((ji18) : Int).toNat : List Int)).bind fun y232 => (if y229.length + y232.length < 17592186044416 then (churnref11_Unrank.l1 k2 l0 (l0.length : Int) (y229 ++ y232) y219 (wrap64 (x8_2 + 1))) else (none))) else (none)) else (none)) = some (r1, r2) := by first | (rw [hji18] at H; exact H) | (simp only [hji18] at H ⊢; exact H)
                            have hji18w : (IntKind.i64.wrap ((rd l0 x8_2) + 1)) = ji18 := (i64_w _).trans hji18
                            by_cases c19 : 0 ≤ (ji18)
                            · rw [if_pos c19] at H
                              have c19b0 := eq_true c19
                              have c19b1 : decide (0 ≤ (ji18)) = true := decide_eq_true c19
                              clear c19
                              by_cases c20 : (ji18) ≤ (x6_2.length : Int)
                              · rw [if_pos c20] at H
                                have c20b0 := eq_true c20
                                have c20b1 : decide ((ji18) ≤ (x6_2.length : Int)) = true := decide_eq_true c20
                                clear c20
                                obtain ⟨y232, hy232⟩ : ∃ y_ : List Int, y_ = (x6_2.drop ((ji18) : Int).toNat) := ⟨_, rfl⟩
                                replace H : (if y229.length + y232.length < 17592186044416 then (churnref11_Unrank.l1 k2 l0 (l0.length : Int) (y229 ++ y232) y219 (wrap64 (x8_2 + 1))) else (none)) = some (r1, r2) := by first | (rw [hy232]; with_reducible exact H) | (have H2_ := (Option.bind_some _ _).symm.trans H; rw [hy232]; with_reducible exact H2_) | (have H2_ := (Option.bind_some _ _).symm.trans H; with_reducible exact H2_) | with_reducible exact H | (rw [hy232]; exact H) | exact H
                                have Ny232 := Aside0.mk hy232
                                clear hy232
                                by_cases c21 : y229.length + y232.length < 17592186044416
                                · rw [if_pos c21] at H
                                  have LMc21 := Aside0.mk c21
                                  clear c21
                                  obtain ⟨y236, hy236⟩ : ∃ y_ : List Int, y_ = (y229 ++ y232) := ⟨_, rfl⟩
                                  replace H : (churnref11_Unrank.l1 k2 l0 (l0.length : Int) y236 y219 (wrap64 (x8_2 + 1))) = some (r1, r2) := by first | (rw [hy236]; with_reducible exact H) | (have H2_ := (Option.bind_some _ _).symm.trans H; rw [hy236]; with_reducible exact H2_) | (have H2_ := (Option.bind_some _ _).symm.trans H; with_reducible exact H2_) | with_reducible exact H | (rw [hy236]; exact H) | exact H
                                  have Ny236 := Aside0.mk hy236
                                  clear hy236
                                  have H' := Aside0.mk H
                                  clear H
                                  have p217 : 0 ≤ (x8_2 : Int) := of_decide_eq_true (by first | (with_reducible assumption) | assumption)
                                  have q217 : x8_2 < (l0.length : Int) := of_decide_eq_true (by first | (with_reducible assumption) | assumption)
                                  obtain ⟨ad217, e217, hx217_0⟩ := Kd.at_int HR0.out x8_2 p217 q217
                                  cases e217
                                  (try (replace hx217_0 := (HB.out.cell (World.block_lt_of_cell? w _ hx217_0)).trans hx217_0))
                                  replace p217 := eq_true p217
                                  replace q217 := eq_true q217
                                  obtain ⟨Ao22, co22, eo22⟩ := Kd.R_slice HO_6.out
                                  subst eo22
                                  have p218 : 0 ≤ ((rd l0 x8_2) : Int) := of_decide_eq_true (by first | (with_reducible assumption) | assumption)
                                  have q218 : (rd l0 x8_2) < (x6_2.length : Int) := of_decide_eq_true (by first | (with_reducible assumption) | assumption)
                                  obtain ⟨ad218, e218, hx218_0⟩ := Kd.at_int (Kd.R_reads' HO_6.out).2.2 (rd l0 x8_2) p218 q218
                                  cases e218
                                  replace p218 := eq_true p218
                                  replace q218 := eq_true q218
                                  try go_wp2_with (first | ((with_reducible refine gate_builtin (b := .append) (xs := #[.tmp 44, .tmp 49]) rfl ?_); at_builtin; refine Kd.R_append (Kd.int .i64) (w0 := w) w.heap.size rfl (.tmp 44) (.tmp 49) 22 3 (.int .i64 0) 8 rfl Try.underlying22 info3 rfl (by decide) (by omega) u7 x7_2 (rd x6_2 (rd l0 x8_2)) [.int .i64 (rd x6_2 (rd l0 x8_2))] (fun k_ => some k_ ≠ (.slice (some ad218) x6_2.length co22 : Value).ownBlock) (fun _ => False) rfl rfl ?aP (fun _ hk => hk.elim) ?aF ?aO ?aB ?aS ?aL ?_; (case aP => exact rfl); (case aB => exact (by repeat (first | (with_reducible first | exact HB.out | apply below_alloc | apply pw_below_drewN | apply below_drew1) | exact HB.out))); (case aF => exact (fun k_ hk => Kd.fresh' (Kd.R_lt (by (with_reducible repeat (first | apply Kd.R_alloc | apply Kd.R_drewN | apply Kd.R_drew)); exact HO_6.out)) k_ hk)); (case aO => exact (by (with_reducible repeat (first | apply Kd.R_alloc | apply Kd.R_drewN | apply Kd.R_drew)); exact HO_7.out)); (case aS => exact (below_size (by repeat (first | (with_reducible first | exact HB.out | apply below_alloc | apply pw_below_drewN | apply below_drew1) | exact HB.out)))); (case aL => have := LMc14.out; omega); intro v220 w23 ho hb hg hat; rw [← Ny219.out] at ho; have n0_ := Aside0.mk (Kd.R_after (ok := (fun _ => True)) (by (with_reducible repeat (first | apply Kd.R_alloc | apply Kd.R_drewN | apply Kd.R_drew)); exact Kd.R_mono HO_6.out (fun _ hk => ⟨trivial, hk⟩)) hg hat); have n1_ := Aside0.mk (hb); have n2_ := Aside0.mk (ho); clear HO_6; clear HB; clear HO_7; have HO_6 := n0_; have HB := n1_; have HO221 := n2_; clear n0_ n1_ n2_; clear ho hb hg hat))
                                  have n0_ := Aside0.mk (Kd.R_drew HO_6.out)
                                  have n1_ := Aside0.mk (Kd.R_drew HO221.out)
                                  have n2_ := Aside0.mk (below_drew1 HB.out)
                                  clear HO_6
                                  clear HO221
                                  clear HB
                                  have HO_6 := n0_
                                  have HO221 := n1_
                                  have HB := n2_
                                  clear n0_ n1_ n2_
                                  have q25 : ((rd l0 x8_2) : Int) ≤ ((x6_2.length : Int) : Int) := of_decide_eq_true (by first | (with_reducible assumption) | assumption)
                                  obtain ⟨i025, hi025, _, hsz25, _⟩ := info_parts info3
                                  have hroom25 : x6_2.length ≤ co22 := (Kd.R_reads' HO_6.out).2.1
                                  have hC25 : Kd.C (Kd.int .i64) _ (some ad218) x6_2.length x6_2 := (Kd.R_reads' HO_6.out).2.2
                                  have hcut25 := cut_to (P := Try.prog) 22 3 .i64 Try.underlying22 hi025 (some ad218) x6_2.length co22 (rd l0 x8_2) (of_decide_eq_true (by first | (with_reducible assumption) | assumption)) q25 hroom25
                                  have hr25 := Kd.C_take (m := ((rd l0 x8_2) : Int).toNat) hC25 (by omega)
                                  have hy25 : y225.length = ((rd l0 x8_2) : Int).toNat := (by rw [Ny225.out, List.length_take]; omega)
                                  rw [← Ny225.out] at hr25
                                  rw [← hy25] at hcut25
                                  have HR228 := Aside0.mk hr25
                                  have HC228 := Aside0.mk (show y225.length ≤ co22 from by omega)
                                  clear hr25 hC25 hroom25 hi025 hsz25
                                  have KY25 := Aside0.mk hy25
                                  clear hy25
                                  have KL25 := Aside0.mk (show ((rd l0 x8_2) : Int).toNat ≤ x6_2.length from by omega)
                                  replace q25 := eq_true q25
                                  have q26 : ((ji18) : Int) ≤ ((x6_2.length : Int) : Int) := of_decide_eq_true (by first | (with_reducible assumption) | assumption)
                                  obtain ⟨i026, hi026, _, hsz26, _⟩ := info_parts info3
                                  have hroom26 : x6_2.length ≤ co22 := (Kd.R_reads' HO_6.out).2.1
                                  have hC26 : Kd.C (Kd.int .i64) _ (some ad218) x6_2.length x6_2 := (Kd.R_reads' HO_6.out).2.2
                                  have q026 : (0 : Int) ≤ ((ji18) : Int) := of_decide_eq_true (by first | (with_reducible assumption) | assumption)
                                  have hcut26 := cut_from (P := Try.prog) 22 3 .i64 Try.underlying22 hi026 1 hsz26 (some ad218) x6_2.length co22 (ji18) q026 q26
                                  have hr26 := Kd.C_drop (m := ((ji18) : Int).toNat) (c := co22) hC26 (by omega) hroom26
                                  obtain ⟨A26, hA26⟩ : ∃ A1, A1 = (if co22 = ((ji18) : Int).toNat then (some ad218) else ((some ad218) : Option Addr).map (·.add (((ji18) : Int).toNat * 1))) := ⟨_, rfl⟩
                                  obtain ⟨c26, hc26⟩ : ∃ c1, c1 = co22 - ((ji18) : Int).toNat := ⟨_, rfl⟩
                                  have hy26 : y232.length = x6_2.length - ((ji18) : Int).toNat := (by rw [Ny232.out, List.length_drop] <;> omega)
                                  rw [show (x6_2).drop ((ji18) : Int).toNat = y232 from Ny232.out.symm] at hr26
                                  replace hr26 : Kd.C (Kd.int .i64) _ A26 y232.length y232 := (by rw [hA26]; exact hr26)
                                  rw [← hy26, ← hA26, ← hc26] at hcut26
                                  have HR235 := Aside0.mk hr26
                                  have HC235 := Aside0.mk (show y232.length ≤ c26 from by rw [hy26, hc26]; exact Nat.sub_le_sub_right hroom26 _)
                                  clear hr26 hC26 hroom26 hi026 hsz26 hc26
                                  have KY26 := Aside0.mk hy26
                                  have KA26 := Aside0.mk hA26
                                  clear hy26 hA26
                                  have KL26 := Aside0.mk (show ((ji18) : Int).toNat ≤ x6_2.length from by omega)
                                  replace q26 := eq_true q26
                                  refine start_ (n := 11) (S := fun w' => True) (ds := []) #[false, false, false, false, false, false, false, false, false, false, false] (by kernel_rfl) rfl rfl trivial (fun hHeld => ?_); refine with_tabW churnref11_Unrank.tab14 churnref11_Unrank.bits14 (fun HT_ HW_ => ?_)
                                  generalize w23.drew = w24 at HO_6 HO221 HB HR228 HR235 hHeld ⊢
                                  refine pure_ (i := 1) (N := some 52) (v := ?_) (a' := ?_) #[false, true, false, false, false, false, false, false, false, false, false] rfl rfl (any_of HT_.out (by kernel_rfl)) (fun _ _ _ h => h) (Or.inl ⟨by rfl, ?_⟩) ?_ ?_
                                  rotate_left
                                  · intro w'
                                    go_simp
                                    with_reducible rfl
                                  rotate_left
                                  · simp only [Act.put, List.setIfInBounds_toArray, List.set_cons_zero, List.set_cons_succ, i64_w, i32_w]
                                    rfl
                                  refine pure_ (i := 2) (N := some 53) (v := ?_) (a' := ?_) #[false, true, true, false, false, false, false, false, false, false, false] rfl rfl (any_of HT_.out (by kernel_rfl)) (fun _ _ _ h => h) (Or.inl ⟨by rfl, ?_⟩) ?_ ?_
                                  rotate_left
                                  · intro w'
                                    go_simp
                                    with_reducible rfl
                                  rotate_left
                                  · simp only [Act.put, List.setIfInBounds_toArray, List.set_cons_zero, List.set_cons_succ, i64_w, i32_w]
                                    rfl
                                  refine pure_ (i := 3) (N := some 54) (v := ?_) (a' := ?_) #[false, true, true, true, false, false, false, false, false, false, false] rfl rfl (any_of HT_.out (by kernel_rfl)) (fun _ _ _ h => h) (Or.inl ⟨by rfl, ?_⟩) ?_ ?_
                                  rotate_left
                                  · intro w'
                                    go_simp
                                    with_reducible rfl
                                  rotate_left
                                  · simp only [Act.put, List.setIfInBounds_toArray, List.set_cons_zero, List.set_cons_succ, i64_w, i32_w]
                                    rfl
                                  refine pure_ (i := 5) (N := some 56) (v := ?_) (a' := ?_) #[false, true, true, true, false, true, false, false, false, false, false] rfl rfl (any_of HT_.out (by kernel_rfl)) (fun _ _ _ h => h) (Or.inl ⟨by rfl, ?_⟩) ?_ ?_
                                  rotate_left
                                  · intro w'
                                    go_simp
                                    with_reducible rfl
                                  rotate_left
                                  · simp only [Act.put, List.setIfInBounds_toArray, List.set_cons_zero, List.set_cons_succ, i64_w, i32_w]
                                    rfl
                                  refine pure_ (i := 6) (N := some 57) (v := ?_) (a' := ?_) #[false, true, true, true, false, true, true, false, false, false, false] rfl rfl (any_of HT_.out (by kernel_rfl)) (fun _ _ _ h => h) (Or.inl ⟨by rfl, ?_⟩) ?_ ?_
                                  rotate_left
                                  · intro w'
                                    go_simp
                                    with_reducible rfl
                                  rotate_left
                                  · simp only [Act.put, List.setIfInBounds_toArray, List.set_cons_zero, List.set_cons_succ, i64_w, i32_w]
                                    rfl
                                  refine pure_ (i := 7) (N := some 58) (v := ?_) (a' := ?_) #[false, true, true, true, false, true, true, true, false, false, false] rfl rfl (any_of HT_.out (by kernel_rfl)) (fun _ _ _ h => h) (Or.inl ⟨by rfl, ?_⟩) ?_ ?_
                                  rotate_left
                                  · intro w'
                                    go_simp
                                    with_reducible rfl
                                  rotate_left
                                  · simp only [Act.put, List.setIfInBounds_toArray, List.set_cons_zero, List.set_cons_succ, i64_w, i32_w]
                                    rfl
                                  refine pure_ (i := 8) (N := some 59) (v := ?_) (a' := ?_) #[false, true, true, true, false, true, true, true, true, false, false] rfl rfl (any_of HT_.out (by kernel_rfl)) (fun _ _ _ h => h) (Or.inl ⟨by rfl, ?_⟩) ?_ ?_
                                  rotate_left
                                  · intro w'
                                    go_simp
                                    with_reducible rfl
                                  rotate_left
                                  · simp only [Act.put, List.setIfInBounds_toArray, List.set_cons_zero, List.set_cons_succ, i64_w, i32_w]
                                    rfl
                                  refine one_ (i := 0) (N := some 51) #[true, true, true, true, false, true, true, true, true, false, false] rfl rfl (one_of HT_.out (by kernel_rfl)) (by decide) (fun K hK => ?_)
                                  refine Kd.R_lit_step (Kd.int .i64) _ 3 ?hg (N := 51) ?hd (xs := ([] : List Int)) (inner := []) (ok := fun _ => True) (okp := fun _ => True) ?hr ?hp (fun _ hk => hk) trivial (Below.refl _ _) (Nat.le_refl _) (by simp) ?_; (case hd => rfl); (case hg => rfl); (case hr => first | (go_simp; done) | (go_simp; rfl)); (case hp => exact (Reps.none _ _))
                                  intro v223 w27 ho28 hb hg_ hnew_
                                  clear hg_ hnew_
                                  (first | rw [← Ny222.out] at ho28 | (simp only [Int.reduceToNat] at ho28; rw [← Ny222.out] at ho28))
                                  have n0_ := Aside0.mk (Kd.R_elder' (by (with_reducible repeat (first | apply Kd.R_alloc | apply Kd.R_drewN | apply Kd.R_drew)); exact HO_6.out) (Kd.R_base ho28) hb)
                                  have n1_ := Aside0.mk (Kd.R_elder' (by (with_reducible repeat (first | apply Kd.R_alloc | apply Kd.R_drewN | apply Kd.R_drew)); exact HO221.out) (Kd.R_base ho28) hb)
                                  have n2_ := Aside0.mk (Kd.R_lower (Kd.R_new' (Kd.R_new' ho28 (Kd.R_lt (by (with_reducible repeat (first | apply Kd.R_alloc | apply Kd.R_drewN | apply Kd.R_drew)); exact HO_6.out))) (Kd.R_lt (by (with_reducible repeat (first | apply Kd.R_alloc | apply Kd.R_drewN | apply Kd.R_drew)); exact HO221.out))) (below_size (by repeat (first | (with_reducible first | exact HB.out | apply below_alloc | apply pw_below_drewN | apply below_drew1) | exact HB.out))))
                                  have n3_ := Aside0.mk (Kd.C_below (by repeat (first | (with_reducible exact HR228.out) | (with_reducible refine Kd.C_alloc ?_ _) | (with_reducible refine Kd.C_drewN ?_ _) | (with_reducible refine Kd.C_drew ?_) | exact HR228.out)) hb)
                                  have n4_ := Aside0.mk (Kd.C_below (by repeat (first | (with_reducible exact HR235.out) | (with_reducible refine Kd.C_alloc ?_ _) | (with_reducible refine Kd.C_drewN ?_ _) | (with_reducible refine Kd.C_drew ?_) | exact HR235.out)) hb)
                                  have n5_ := Aside0.mk (below_step (by repeat (first | (with_reducible first | exact HB.out | apply below_alloc | apply pw_below_drewN | apply below_drew1) | exact HB.out)) hb)
                                  clear HO_6
                                  clear HO221
                                  clear HR228
                                  clear HR235
                                  clear HB
                                  have HO_6 := n0_
                                  have HO221 := n1_
                                  have HO224 := n2_
                                  have HR228 := n3_
                                  have HR235 := n4_
                                  have HB := n5_
                                  clear n0_ n1_ n2_ n3_ n4_ n5_
                                  clear hb ho28
                                  refine hK.out _ _ trivial (fun hHeld => ?_)
                                  clear hK K
                                  refine norm_ (a' := ?_) ?_ ?_
                                  rotate_left
                                  · show Act.put _ (some 51) _ = _
                                    simp only [Act.put, List.setIfInBounds_toArray, List.set_cons_zero, List.set_cons_succ, i64_w, i32_w]
                                    rfl
                                  refine one_ (i := 4) (N := some 55) #[true, true, true, true, true, true, true, true, true, false, false] rfl rfl (one_of HT_.out (by kernel_rfl)) (by decide) (fun K hK => ?_)
                                  refine Kd.R_append_rows_step (Kd.int .i64) (w0 := w) w.heap.size (by rfl) (.tmp 51) (.tmp 54) 22 3 (.int .i64 0) 8 rfl Try.underlying22 info3 rfl (by decide) (by omega) v223 y222 y225 _ _ _ (fun k_ => some k_ ≠ (.slice (some ad218) x6_2.length co22 : Value).ownBlock ∧ some k_ ≠ (v220 : Value).ownBlock) (fun _ => False) rfl rfl ?aO ?aR (fun _ _ h => h) (fun _ h => h.elim) ?aF ?aB ?aS ?aL ?_
                                  (case aR => repeat (first | exact (by repeat (first | (with_reducible exact HR228.out) | (with_reducible refine Kd.C_alloc ?_ _) | (with_reducible refine Kd.C_drewN ?_ _) | (with_reducible refine Kd.C_drew ?_) | exact HR228.out)) | (with_reducible refine Kd.C_alloc ?_ _) | (with_reducible refine Kd.C_drewN ?_ _) | (with_reducible refine Kd.C_drew ?_)))
                                  (case aB => exact (by repeat (first | (with_reducible first | exact HB.out | apply below_alloc | apply pw_below_drewN | apply below_drew1) | exact HB.out)))
                                  (case aF => exact (fun k_ hk => ⟨Kd.fresh' (Kd.R_lt (by (with_reducible repeat (first | apply Kd.R_alloc | apply Kd.R_drewN | apply Kd.R_drew)); exact HO_6.out)) k_ hk, Kd.fresh' (Kd.R_lt (by (with_reducible repeat (first | apply Kd.R_alloc | apply Kd.R_drewN | apply Kd.R_drew)); exact HO221.out)) k_ hk⟩))
                                  (case aO => exact (by (with_reducible repeat (first | apply Kd.R_alloc | apply Kd.R_drewN | apply Kd.R_drew)); exact Kd.R_mono HO224.out (fun _ hk => ⟨hk.1.2, hk.2⟩)))
                                  (case aS => exact (below_size (by repeat (first | (with_reducible first | exact HB.out | apply below_alloc | apply pw_below_drewN | apply below_drew1) | exact HB.out))))
                                  (case aL => have := LMc17.out; omega)
                                  intro v230 w29 ho hb hg hat
                                  rw [← Ny229.out] at ho
                                  have n0_ := Aside0.mk (Kd.R_after (ok := (fun k_ => some k_ ≠ (v220 : Value).ownBlock)) (by (with_reducible repeat (first | apply Kd.R_alloc | apply Kd.R_drewN | apply Kd.R_drew)); exact Kd.R_mono HO_6.out (fun _ hk => ⟨hk.1.2, hk.2⟩)) hg hat)
                                  have n1_ := Aside0.mk (Kd.R_after (ok := (fun k_ => some k_ ≠ (.slice (some ad218) x6_2.length co22 : Value).ownBlock)) (by (with_reducible repeat (first | apply Kd.R_alloc | apply Kd.R_drewN | apply Kd.R_drew)); exact HO221.out) hg hat)
                                  have n2_ := Aside0.mk (hb)
                                  have n3_ := Aside0.mk ((show Kd.C (Kd.int .i64) w29 (some ad218) y225.length y225 from by rw [Ny225.out]; exact Kd.C_take (m := ((rd l0 x8_2) : Int).toNat) ((Kd.R_reads' (Kd.R_after (ok := (fun k_ => some k_ ≠ (v220 : Value).ownBlock)) (by (with_reducible repeat (first | apply Kd.R_alloc | apply Kd.R_drewN | apply Kd.R_drew)); exact Kd.R_mono HO_6.out (fun _ hk => ⟨hk.1.2, hk.2⟩)) hg hat)).2.2) KL25.out))
                                  have n4_ := Aside0.mk ((show Kd.C (Kd.int .i64) w29 A26 y232.length y232 from by rw [Ny232.out, KA26.out]; exact Kd.C_drop (m := ((ji18) : Int).toNat) (c := co22) ((Kd.R_reads' (Kd.R_after (ok := (fun k_ => some k_ ≠ (v220 : Value).ownBlock)) (by (with_reducible repeat (first | apply Kd.R_alloc | apply Kd.R_drewN | apply Kd.R_drew)); exact Kd.R_mono HO_6.out (fun _ hk => ⟨hk.1.2, hk.2⟩)) hg hat)).2.2) KL26.out ((Kd.R_reads' (Kd.R_after (ok := (fun k_ => some k_ ≠ (v220 : Value).ownBlock)) (by (with_reducible repeat (first | apply Kd.R_alloc | apply Kd.R_drewN | apply Kd.R_drew)); exact Kd.R_mono HO_6.out (fun _ hk => ⟨hk.1.2, hk.2⟩)) hg hat)).2.1)))
                                  have n5_ := Aside0.mk (ho)
                                  clear HO_6
                                  clear HO221
                                  clear HB
                                  clear HR228
                                  clear HR235
                                  clear HO224
                                  have HO_6 := n0_
                                  have HO221 := n1_
                                  have HB := n2_
                                  have HR228 := n3_
                                  have HR235 := n4_
                                  have HO231 := n5_
                                  clear n0_ n1_ n2_ n3_ n4_ n5_
                                  clear ho hb hg hat
                                  refine hK.out _ _ trivial (fun hHeld => ?_)
                                  clear hK K
                                  refine norm_ (a' := ?_) ?_ ?_
                                  rotate_left
                                  · show Act.put _ (some 55) _ = _
                                    simp only [Act.put, List.setIfInBounds_toArray, List.set_cons_zero, List.set_cons_succ, i64_w, i32_w]
                                    rfl
                                  refine one_ (i := 9) (N := some 60) #[true, true, true, true, true, true, true, true, true, true, false] rfl rfl (one_of HT_.out (by kernel_rfl)) (by decide) (fun K hK => ?_)
                                  refine Kd.R_append_rows_step (Kd.int .i64) (w0 := w) w.heap.size (by rfl) (.tmp 55) (.tmp 59) 22 3 (.int .i64 0) 8 rfl Try.underlying22 info3 rfl (by decide) (by omega) v230 y229 y232 _ _ _ (fun k_ => some k_ ≠ (.slice (some ad218) x6_2.length co22 : Value).ownBlock ∧ some k_ ≠ (v220 : Value).ownBlock) (fun _ => False) rfl rfl ?aO ?aR (fun _ _ h => h) (fun _ h => h.elim) ?aF ?aB ?aS ?aL ?_
                                  (case aR => repeat (first | exact (by repeat (first | (with_reducible exact HR235.out) | (with_reducible refine Kd.C_alloc ?_ _) | (with_reducible refine Kd.C_drewN ?_ _) | (with_reducible refine Kd.C_drew ?_) | exact HR235.out)) | (with_reducible refine Kd.C_alloc ?_ _) | (with_reducible refine Kd.C_drewN ?_ _) | (with_reducible refine Kd.C_drew ?_)))
                                  (case aB => exact (by repeat (first | (with_reducible first | exact HB.out | apply below_alloc | apply pw_below_drewN | apply below_drew1) | exact HB.out)))
                                  (case aF => exact (fun k_ hk => ⟨Kd.fresh' (Kd.R_lt (by (with_reducible repeat (first | apply Kd.R_alloc | apply Kd.R_drewN | apply Kd.R_drew)); exact HO_6.out)) k_ hk, Kd.fresh' (Kd.R_lt (by (with_reducible repeat (first | apply Kd.R_alloc | apply Kd.R_drewN | apply Kd.R_drew)); exact HO221.out)) k_ hk⟩))
                                  (case aO => exact (by (with_reducible repeat (first | apply Kd.R_alloc | apply Kd.R_drewN | apply Kd.R_drew)); exact HO231.out))
                                  (case aS => exact (below_size (by repeat (first | (with_reducible first | exact HB.out | apply below_alloc | apply pw_below_drewN | apply below_drew1) | exact HB.out))))
                                  (case aL => have := LMc21.out; omega)
                                  intro v237 w30 ho hb hg hat
                                  rw [← Ny236.out] at ho
                                  have n0_ := Aside0.mk (Kd.R_after (ok := (fun k_ => some k_ ≠ (v220 : Value).ownBlock)) (by (with_reducible repeat (first | apply Kd.R_alloc | apply Kd.R_drewN | apply Kd.R_drew)); exact HO_6.out) hg hat)
                                  have n1_ := Aside0.mk (Kd.R_after (ok := (fun k_ => some k_ ≠ (.slice (some ad218) x6_2.length co22 : Value).ownBlock)) (by (with_reducible repeat (first | apply Kd.R_alloc | apply Kd.R_drewN | apply Kd.R_drew)); exact HO221.out) hg hat)
                                  have n2_ := Aside0.mk (hb)
                                  have n3_ := Aside0.mk ((show Kd.C (Kd.int .i64) w30 (some ad218) y225.length y225 from by rw [Ny225.out]; exact Kd.C_take (m := ((rd l0 x8_2) : Int).toNat) ((Kd.R_reads' (Kd.R_after (ok := (fun k_ => some k_ ≠ (v220 : Value).ownBlock)) (by (with_reducible repeat (first | apply Kd.R_alloc | apply Kd.R_drewN | apply Kd.R_drew)); exact HO_6.out) hg hat)).2.2) KL25.out))
                                  have n4_ := Aside0.mk ((show Kd.C (Kd.int .i64) w30 A26 y232.length y232 from by rw [Ny232.out, KA26.out]; exact Kd.C_drop (m := ((ji18) : Int).toNat) (c := co22) ((Kd.R_reads' (Kd.R_after (ok := (fun k_ => some k_ ≠ (v220 : Value).ownBlock)) (by (with_reducible repeat (first | apply Kd.R_alloc | apply Kd.R_drewN | apply Kd.R_drew)); exact HO_6.out) hg hat)).2.2) KL26.out ((Kd.R_reads' (Kd.R_after (ok := (fun k_ => some k_ ≠ (v220 : Value).ownBlock)) (by (with_reducible repeat (first | apply Kd.R_alloc | apply Kd.R_drewN | apply Kd.R_drew)); exact HO_6.out) hg hat)).2.1)))
                                  have n5_ := Aside0.mk (ho)
                                  clear HO_6
                                  clear HO221
                                  clear HB
                                  clear HR228
                                  clear HR235
                                  clear HO231
                                  have HO_6 := n0_
                                  have HO221 := n1_
                                  have HB := n2_
                                  have HR228 := n3_
                                  have HR235 := n4_
                                  have HO238 := n5_
                                  clear n0_ n1_ n2_ n3_ n4_ n5_
                                  clear ho hb hg hat
                                  refine hK.out _ _ trivial (fun hHeld => ?_)
                                  clear hK K
                                  refine norm_ (a' := ?_) ?_ ?_
                                  rotate_left
                                  · show Act.put _ (some 60) _ = _
                                    simp only [Act.put, List.setIfInBounds_toArray, List.set_cons_zero, List.set_cons_succ, i64_w, i32_w]
                                    rfl
                                  refine pure_ (i := 10) (N := some 6) (v := ?_) (a' := ?_) #[true, true, true, true, true, true, true, true, true, true, true] rfl rfl (any_of HT_.out (by kernel_rfl)) (fun _ _ _ h => h) (Or.inl ⟨by rfl, ?_⟩) ?_ ?_
                                  rotate_left
                                  · intro w'
                                    go_simp
                                    with_reducible rfl
                                  rotate_left
                                  · simp only [Act.put, List.setIfInBounds_toArray, List.set_cons_zero, List.set_cons_succ, i64_w, i32_w]
                                    rfl
                                  refine done_ (done_of HT_.out (by kernel_rfl)) ?_
                                  try go_wp2
                                  go_roundg k2
                                  case measure => have := HK1.out; have := HK2.out; omega
                                  case rel => exact ⟨(y236), (y219), (wrap64 (x8_2 + 1)), (by first | rfl | (simp; done) | (simp [*]; done)), H', ⟨by have := HK1.out; have := HK2.out; omega⟩, ⟨by (with_reducible repeat (first | apply Kd.R_alloc | apply Kd.R_drewN | apply Kd.R_drew)); exact Kd.R_mono HO238.out (fun _ hk => hk.2)⟩, ⟨by (with_reducible repeat (first | apply Kd.R_alloc | apply Kd.R_drewN | apply Kd.R_drew)); exact Kd.R_mono HO221.out (fun _ hk => hk.2)⟩, ⟨by repeat (first | (with_reducible first | exact HB.out | apply below_alloc | apply pw_below_drewN | apply below_drew1) | exact HB.out)⟩⟩
                                · rw [if_neg c21] at H
                                  exact absurd H (by simp)
                              · rw [if_neg c20] at H
                                exact absurd H (by simp)
                            · rw [if_neg c19] at H
                              exact absurd H (by simp)
                          · rw [if_neg c17] at H
                            exact absurd H (by simp)
                        · rw [if_neg c16] at H
                          exact absurd H (by simp)
                      · rw [if_neg c14] at H
                        exact absurd H (by simp)
                    · rw [if_neg c13] at H
                      exact absurd H (by simp)
                  · rw [if_neg c12] at H
                    exact absurd H (by simp)
                · rw [if_neg c11] at H
                  exact absurd H (by simp)
              · rw [if_neg c10] at H
                exact absurd H (by simp)
            · rw [if_neg c9] at H
              have c9b0 : decide (x8_2 < (l0.length : Int)) = false := decide_eq_false c9
              clear c9
              simp only [Option.some.injEq, Prod.mk.injEq] at H
              obtain ⟨rfl, rfl⟩ := H
              go_wp2
              go_ret2
              exact ⟨_, by first | rfl | (simp [errW_none, errW_some] <;> rfl) | (simp [*, errW_none, errW_some] <;> rfl), by (with_reducible repeat (first | apply Kd.R_alloc | apply Kd.R_drewN | apply Kd.R_drew)); exact Kd.R_mono HO_7.out (fun _ hk => trivial), by repeat (first | (with_reducible first | exact HB.out | apply below_alloc | apply pw_below_drewN | apply below_drew1) | exact HB.out)⟩

end Go.Proofs.Ytmbkgepfpfeahaa.Q
