/- Functions of the program as plain Lean functions, each with a proof that its call comes to just these answers, or the row that joins them to the given statement; no condition beside the statement's own. Written for this claim by pf.py, this session's program over the kit's print. -/
import Derived.Test.YtmbkgepfpfeahaaQx0
import Derived.Test.YtmbkgepfpfeahaaQx3
import Derived.Test.YtmbkgepfpfeahaaQx7
import Derived.Test.YtmbkgepfpfeahaaQx19
namespace Go.Proofs.Ytmbkgepfpfeahaa.Q
open Go.RowKit Go.Proofs.YtmbkgepfpfeahaaW.PrintWords Go.Proofs.YtmbkgepfpfeahaaW.PrintLast Go.Proofs.YtmbkgepfpfeahaaW.PrintMore
attribute [local go_sem] max2_int min2_int max_two min_two max_three min_three max_four min_four   -- for this text's walks alone
set_option linter.unusedVariables false
set_option linter.unusedSimpArgs false

/-! ### churnref11_Rank: function 32 -/
def churnref11_Rank.l0 : Nat → List Int → List Int → List Int → Int → Option (List Int × Int)
  | 0, _, _, _, _ => none
  | k + 1, x0, x4, x5, x6 => if x6 < (x0.length : Int) then (if 0 ≤ x6 then ((churnref11_find.f k x4 (rd x0 x6)).bind fun t457 => (if x5.length < 17592186044416 then ((some (([] : List Int) : List Int)).bind fun y461 => (if 0 ≤ t457 then (if t457 ≤ (x4.length : Int) then ((some (x4.take (t457 : Int).toNat : List Int)).bind fun y464 => (if y461.length + y464.length < 17592186044416 then ((some (y461 ++ y464 : List Int)).bind fun y468 => (if 0 ≤ (wrap64 (t457 + 1)) then (if (wrap64 (t457 + 1)) ≤ (x4.length : Int) then ((some (x4.drop ((wrap64 (t457 + 1)) : Int).toNat : List Int)).bind fun y471 => (if y468.length + y471.length < 17592186044416 then (churnref11_Rank.l0 k x0 (y468 ++ y471) (x5 ++ [t457]) (wrap64 (x6 + 1))) else (none))) else (none)) else (none))) else (none))) else (none)) else (none))) else (none))) else (none)) else (some (x5, 0))
def churnref11_Rank.f (k : Nat) (l0 : List Int) : Option (List Int × Int) := (churnref11_Check.f k l0).bind fun t452 => (if t452 = 0 then ((churnref11_Identity.f k (l0.length : Int)).bind fun t453 => (churnref11_Rank.l0 k l0 t453 ([] : List Int) 0)) else (some (([] : List Int), 110)))
theorem churnref11_Rank.mono_l : ∀ k, (∀ y0 y1 y2 y3, LeO (churnref11_Rank.l0 k y0 y1 y2 y3) (churnref11_Rank.l0 (k + 1) y0 y1 y2 y3))
  | 0 => fun _ _ _ _ r h => by simp [churnref11_Rank.l0] at h
  | k + 1 => by
    have ih0 := churnref11_Rank.mono_l k
    · intro y0 y1 y2 y3
      unfold churnref11_Rank.l0
      repeat' first
      | (with_reducible exact ih0 _ _ _ _)
      | (with_reducible exact churnref11_Check.mono _ _)
      | (with_reducible exact churnref11_Identity.mono _ _)
      | (with_reducible exact churnref11_find.mono _ _ _)
      | (with_reducible exact LeO.refl _)
      | (with_reducible exact LeO.none _)
      | (with_reducible refine LeO.ite ?_ ?_)
      | (with_reducible refine LeO.bind ?_ (fun _ => ?_))
      | exact ih0 _ _ _ _
      | exact churnref11_Check.mono _ _
      | exact churnref11_Identity.mono _ _
      | exact churnref11_find.mono _ _ _
      | exact LeO.none _
      | refine LeO.ite ?_ ?_
      | refine LeO.bind ?_ (fun _ => ?_)
theorem churnref11_Rank.mono : ∀ a0 k, LeO (churnref11_Rank.f k a0) (churnref11_Rank.f (k + 1) a0) := by
  intro a0 k
  have ih0 := churnref11_Rank.mono_l k
  unfold churnref11_Rank.f
  repeat' first
      | (with_reducible exact ih0 _ _ _ _)
      | (with_reducible exact churnref11_Check.mono _ _)
      | (with_reducible exact churnref11_Identity.mono _ _)
      | (with_reducible exact churnref11_find.mono _ _ _)
      | (with_reducible exact LeO.refl _)
      | (with_reducible exact LeO.none _)
      | (with_reducible refine LeO.ite ?_ ?_)
      | (with_reducible refine LeO.bind ?_ (fun _ => ?_))
      | exact ih0 _ _ _ _
      | exact churnref11_Check.mono _ _
      | exact churnref11_Identity.mono _ _
      | exact churnref11_find.mono _ _ _
      | exact LeO.none _
      | refine LeO.ite ?_ ?_
      | refine LeO.bind ?_ (fun _ => ?_)
def churnref11_Rank.T10 : Bool × List (List Nat × List Nat) := (true, [([], []), ([], []), ([], []), ([1, 2], [1, 2]), ([0, 3], [0, 3]), ([], []), ([], []), ([6], [6]), ([5, 7], [5, 7]), ([4, 8, 4], [4, 8]), ([9, 9, 0, 1, 2, 3, 4, 5, 6, 7, 8, 9], [1, 5, 9])])
def churnref11_Rank.B10 : List Nat := [0, 0, 0, 6, 15, 0, 0, 64, 224, 511, 1023]
theorem churnref11_Rank.tab10 : rtab .any (opsOf Try.f32 10) = churnref11_Rank.T10 := by kernel_rfl
theorem churnref11_Rank.bits10 : waitsOk churnref11_Rank.T10.2 churnref11_Rank.B10 = true := by kernel_rfl
set_option maxHeartbeats 8000000 in
set_option maxRecDepth 100000 in
theorem churnref11_Rank.calls (k : Nat) (A0 : Option Addr) (c0 : Nat) (l0 : List Int) (r1 : List Int) (r2 : Int) (w : World) (hr0 : Kd.C (Kd.int .i64) w A0 l0.length l0) (hc0 : l0.length ≤ c0) (h : churnref11_Rank.f k l0 = some (r1, r2)) :
    Calls Try.prog 32 #[.slice A0 l0.length c0] w fun e w' => ∃ v0_ : Value, e = .returned (.tuple #[v0_, .int .i64 r2]) ∧ Kd.R (Kd.int .i64) 3 w' w.heap.size (fun _ => True) v0_ r1 ∧ Below w.heap.size w w' := by
  have HR0 := Aside0.mk hr0
  have HC0 := Aside0.mk hc0
  clear hr0 hc0
  have HB := Aside0.mk (Below.refl w.heap.size w)
  have H : ((churnref11_Check.f k l0).bind fun t452 => (if t452 = 0 then ((churnref11_Identity.f k (l0.length : Int)).bind fun t453 => (churnref11_Rank.l0 k l0 t453 ([] : List Int) 0)) else (some (([] : List Int), 110)))) = some (r1, r2) := h
  clear h
  replace H := Option.bind_eq_some_iff.mp H
  obtain ⟨t452, A20, H⟩ := H
  replace H : (if t452 = 0 then ((churnref11_Identity.f k (l0.length : Int)).bind fun t453 => (churnref11_Rank.l0 k l0 t453 ([] : List Int) 0)) else (some (([] : List Int), 110))) = some (r1, r2) := H
  have A2 := Aside0.mk A20
  clear A20
  by_cases c3 : t452 = 0
  · rw [if_pos c3] at H
    have c3b0 : (t452 == 0) = true := beq_iff_eq.mpr c3
    have c3b1 : (t452 != 0) = false := bne_eq_false_iff_eq.mpr c3
    clear c3
    replace H := Option.bind_eq_some_iff.mp H
    obtain ⟨t453, A40, H⟩ := H
    replace H : (churnref11_Rank.l0 k l0 t453 ([] : List Int) 0) = some (r1, r2) := H
    have A4 := Aside0.mk A40
    clear A40
    have H' := Aside0.mk H
    clear H
    go_enter Try.func32, Try.ntmps32
    go_wp2_with (first | ((with_reducible refine gate_callee (f := 34) rfl ?_); refine goesL_ (some 9) rfl rfl Try.func34 (by kernel_rfl) rfl #[.slice A0 l0.length c0] rfl (by (try simp only [List.map_toArray, List.map_cons, List.map_nil]); first | done | rfl | (simp only [List.length_drop, List.length_take]; rfl)) ?_; (with_reducible refine (churnref11_Check.calls k _ _ l0 t452 _ ?side1 ?side2 A2.out).mono ?_); (case side1 => repeat (first | exact HR0.out | (with_reducible refine Kd.C_alloc ?_ _) | (with_reducible refine Kd.C_drewN ?_ _) | (with_reducible refine Kd.C_drew ?_))); (case side2 => exact HC0.out); rintro e w5 ⟨rfl, hb⟩; refine ⟨_, rfl, ?_⟩; have n0_ := Aside0.mk (below_step (by repeat (first | (with_reducible first | exact HB.out | apply below_alloc | apply pw_below_drewN | apply below_drew1) | exact HB.out)) hb); clear HB; have HB := n0_; clear n0_; (try clear hb); (try clear hb2); (try clear hk); (try clear hi)) | ((with_reducible refine gate_callee (f := 21) rfl ?_); refine goesL_ (some 13) rfl rfl Try.func21 (by kernel_rfl) rfl #[.int .i64 (l0.length : Int)] rfl (by (try simp only [List.map_toArray, List.map_cons, List.map_nil]); first | done | rfl | (simp only [List.length_drop, List.length_take]; rfl)) ?_; (with_reducible refine (churnref11_Identity.calls k (l0.length : Int) t453 _ A4.out).mono ?_); rintro e w6 ⟨v454, rfl, ho0, hb⟩; refine ⟨_, rfl, ?_⟩; have n0_ := Aside0.mk (Kd.R_lower ho0 (below_size (by repeat (first | (with_reducible first | exact HB.out | apply below_alloc | apply pw_below_drewN | apply below_drew1) | exact HB.out)))); have n1_ := Aside0.mk (below_step (by repeat (first | (with_reducible first | exact HB.out | apply below_alloc | apply pw_below_drewN | apply below_drew1) | exact HB.out)) hb); clear HB; have HO455 := n0_; have HB := n1_; clear n0_ n1_; (try clear hb); (try clear hb2); (try clear hk); (try clear hi); (try clear ho0)))
    go_loopg [4, 5, 6] k (fun kq v4 v5 v6 w' => ∃ (x4_1 : List Int) (x5_1 : List Int) (x6_1 : Int), v6 = .int .i64 x6_1 ∧ Aside0 (churnref11_Rank.l0 kq l0 x4_1 x5_1 x6_1 = some (r1, r2)) ∧ Aside0 (kq ≤ k) ∧ Aside0 (Kd.R (Kd.int .i64) 3 w' w.heap.size (fun k_ => some k_ ≠ (v5 : Value).ownBlock) v4 x4_1) ∧ Aside0 (Kd.R (Kd.int .i64) 3 w' w.heap.size (fun k_ => some k_ ≠ (v4 : Value).ownBlock) v5 x5_1) ∧ Aside0 (Below w.heap.size w w'))
    case atStart => exact ⟨(t453), (([] : List Int)), (0), (by first | rfl | (simp; done) | (simp [*]; done)), H', ⟨Nat.le_refl _⟩, ⟨by (with_reducible repeat (first | apply Kd.R_alloc | apply Kd.R_drewN | apply Kd.R_drew)); exact Kd.R_mono HO455.out (fun _ hk => (by simp [Value.ownBlock]))⟩, ⟨by first | exact Kd.R_nil _ _ _ _ _ | exact Kd.N_nil _ _ _ _ _ | exact Kd.V_nil _ _ _ _ _ | exact Kd.Q_nil _ _ _ _ _ | exact Kd.S_nil _ _ _ _ _⟩, ⟨by repeat (first | (with_reducible first | exact HB.out | apply below_alloc | apply pw_below_drewN | apply below_drew1) | exact HB.out)⟩⟩
    case round =>
      clear H'
      try clear c2
      try clear p2
      try clear c3
      try clear c3b0
      try clear c3b1
      obtain ⟨x4_1, x5_1, x6_1, rfl, HA, HK1, HO_4, HO_5, HB⟩ := hrel
      cases gk with
      | zero => exact absurd HA.out (by simp [churnref11_Rank.l0])
      | succ k1 =>
        have H := HA.out
        clear HA
        simp only [churnref11_Rank.l0] at H
        by_cases c7 : x6_1 < (l0.length : Int)
        · rw [if_pos c7] at H
          have c7b0 : decide (x6_1 < (l0.length : Int)) = true := decide_eq_true c7
          clear c7
          by_cases c8 : 0 ≤ x6_1
          · rw [if_pos c8] at H
            have c8b0 : decide (0 ≤ x6_1) = true := decide_eq_true c8
            clear c8
            replace H := Option.bind_eq_some_iff.mp H
            obtain ⟨t457, A90, H⟩ := H
            replace H : (if x5_1.length < 17592186044416 then ((some (([] : List Int) : List Int)).bind fun y461 => (if 0 ≤ t457 then (if t457 ≤ (x4_1.length : Int) then ((some (x4_1.take (t457 : Int).toNat : List Int)).bind fun y464 => (if y461.length + y464.length < 17592186044416 then ((some (y461 ++ y464 : List Int)).bind fun y468 => (if 0 ≤ (wrap64 (t457 + 1)) then (if (wrap64 (t457 + 1)) ≤ (x4_1.length : Int) then ((some (x4_1.drop ((wrap64 (t457 + 1)) : Int).toNat : List Int)).bind fun y471 => (if y468.length + y471.length < 17592186044416 then (churnref11_Rank.l0 k1 l0 (y468 ++ y471) (x5_1 ++ [t457]) (wrap64 (x6_1 + 1))) else (none))) else (none)) else (none))) else (none))) else (none)) else (none))) else (none)) = some (r1, r2) := H
            have A9 := Aside0.mk A90
            clear A90
            by_cases c10 : x5_1.length < 17592186044416
            · rw [if_pos c10] at H
              have LMc10 := Aside0.mk c10
              clear c10
              obtain ⟨y458, hy458⟩ : ∃ y_ : List Int, y_ = (x5_1 ++ [t457]) := ⟨_, rfl⟩
              replace H : ((some (([] : List Int) : List Int)).bind fun y461 => (if 0 ≤ t457 then (if t457 ≤ (x4_1.length : Int) then ((some (x4_1.take (t457 : Int).toNat : List Int)).bind fun y464 => (if y461.length + y464.length < 17592186044416 then ((some (y461 ++ y464 : List Int)).bind fun y468 => (if 0 ≤ (wrap64 (t457 + 1)) then (if (wrap64 (t457 + 1)) ≤ (x4_1.length : Int) then ((some (x4_1.drop ((wrap64 (t457 + 1)) : Int).toNat : List Int)).bind fun y471 => (if y468.length + y471.length < 17592186044416 then (churnref11_Rank.l0 k1 l0 (y468 ++ y471) y458 (wrap64 (x6_1 + 1))) else (none))) else (none)) else (none))) else (none))) else (none)) else (none))) = some (r1, r2) := by first | (rw [hy458]; with_reducible exact H) | (have H2_ := (Option.bind_some _ _).symm.trans H; rw [hy458]; with_reducible exact H2_) | (have H2_ := (Option.bind_some _ _).symm.trans H; with_reducible exact H2_) | with_reducible exact H | (rw [hy458]; exact H) | exact H
              have Ny458 := Aside0.mk hy458
              clear hy458
              obtain ⟨y461, hy461⟩ : ∃ y_ : List Int, y_ = (([] : List Int)) := ⟨_, rfl⟩
              replace H : (if 0 ≤ t457 then (if t457 ≤ (x4_1.length : Int) then ((some (x4_1.take (t457 : Int).toNat : List Int)).bind fun y464 => (if y461.length + y464.length < 17592186044416 then ((some (y461 ++ y464 : List Int)).bind fun y468 => (if 0 ≤ (wrap64 (t457 + 1)) then (if (wrap64 (t457 + 1)) ≤ (x4_1.length : Int) then ((some (x4_1.drop ((wrap64 (t457 + 1)) : Int).toNat : List Int)).bind fun y471 => (if y468.length + y471.length < 17592186044416 then (churnref11_Rank.l0 k1 l0 (y468 ++ y471) y458 (wrap64 (x6_1 + 1))) else (none))) else (none)) else (none))) else (none))) else (none)) else (none)) = some (r1, r2) := by first | (rw [hy461]; with_reducible exact H) | (have H2_ := (Option.bind_some _ _).symm.trans H; rw [hy461]; with_reducible exact H2_) | (have H2_ := (Option.bind_some _ _).symm.trans H; with_reducible exact H2_) | with_reducible exact H | (rw [hy461]; exact H) | exact H
              have Ny461 := Aside0.mk hy461
              clear hy461
              by_cases c11 : 0 ≤ t457
              · rw [if_pos c11] at H
                have c11b0 := eq_true c11
                have c11b1 : decide (0 ≤ t457) = true := decide_eq_true c11
                clear c11
                by_cases c12 : t457 ≤ (x4_1.length : Int)
                · rw [if_pos c12] at H
                  have c12b0 := eq_true c12
                  have c12b1 : decide (t457 ≤ (x4_1.length : Int)) = true := decide_eq_true c12
                  clear c12
                  obtain ⟨y464, hy464⟩ : ∃ y_ : List Int, y_ = (x4_1.take (t457 : Int).toNat) := ⟨_, rfl⟩
                  replace H : (if y461.length + y464.length < 17592186044416 then ((some (y461 ++ y464 : List Int)).bind fun y468 => (if 0 ≤ (wrap64 (t457 + 1)) then (if (wrap64 (t457 + 1)) ≤ (x4_1.length : Int) then ((some (x4_1.drop ((wrap64 (t457 + 1)) : Int).toNat : List Int)).bind fun y471 => (if y468.length + y471.length < 17592186044416 then (churnref11_Rank.l0 k1 l0 (y468 ++ y471) y458 (wrap64 (x6_1 + 1))) else (none))) else (none)) else (none))) else (none)) = some (r1, r2) := by first | (rw [hy464]; with_reducible exact H) | (have H2_ := (Option.bind_some _ _).symm.trans H; rw [hy464]; with_reducible exact H2_) | (have H2_ := (Option.bind_some _ _).symm.trans H; with_reducible exact H2_) | with_reducible exact H | (rw [hy464]; exact H) | exact H
                  have Ny464 := Aside0.mk hy464
                  clear hy464
                  by_cases c13 : y461.length + y464.length < 17592186044416
                  · rw [if_pos c13] at H
                    have LMc13 := Aside0.mk c13
                    clear c13
                    obtain ⟨y468, hy468⟩ : ∃ y_ : List Int, y_ = (y461 ++ y464) := ⟨_, rfl⟩
                    replace H : (if 0 ≤ (wrap64 (t457 + 1)) then (if (wrap64 (t457 + 1)) ≤ (x4_1.length : Int) then ((some (x4_1.drop ((wrap64 (t457 + 1)) : Int).toNat : List Int)).bind fun y471 => (if y468.length + y471.length < 17592186044416 then (churnref11_Rank.l0 k1 l0 (y468 ++ y471) y458 (wrap64 (x6_1 + 1))) else (none))) else (none)) else (none)) = some (r1, r2) := by first | (rw [hy468]; with_reducible exact H) | (have H2_ := (Option.bind_some _ _).symm.trans H; rw [hy468]; with_reducible exact H2_) | (have H2_ := (Option.bind_some _ _).symm.trans H; with_reducible exact H2_) | with_reducible exact H | (rw [hy468]; exact H) | exact H
                    have Ny468 := Aside0.mk hy468
                    clear hy468
                    obtain ⟨ji14, hji14⟩ : ∃ j_ : Int, (wrap64 (t457 + 1)) = j_ := ⟨_, rfl⟩
                    replace H : (if 0 ≤ (ji14) then (if (ji14) ≤ (x4_1.length : Int) then ((some (x4_1.drop ((ji14) : Int).toNat : List Int)).bind fun y471 => (if y468.length + y471.length < 17592186044416 then (churnref11_Rank.l0 k1 l0 (y468 ++ y471) y458 (wrap64 (x6_1 + 1))) else (none))) else (none)) else (none)) = some (r1, r2) := by first | (rw [hji14] at H; exact H) | (simp only [hji14] at H ⊢; exact H)
                    (try rw [hji14] at A9)
                    have hji14w : (IntKind.i64.wrap (t457 + 1)) = ji14 := (i64_w _).trans hji14
                    by_cases c15 : 0 ≤ (ji14)
                    · rw [if_pos c15] at H
                      have c15b0 := eq_true c15
                      have c15b1 : decide (0 ≤ (ji14)) = true := decide_eq_true c15
                      clear c15
                      by_cases c16 : (ji14) ≤ (x4_1.length : Int)
                      · rw [if_pos c16] at H
                        have c16b0 := eq_true c16
                        have c16b1 : decide ((ji14) ≤ (x4_1.length : Int)) = true := decide_eq_true c16
                        clear c16
                        obtain ⟨y471, hy471⟩ : ∃ y_ : List Int, y_ = (x4_1.drop ((ji14) : Int).toNat) := ⟨_, rfl⟩
                        replace H : (if y468.length + y471.length < 17592186044416 then (churnref11_Rank.l0 k1 l0 (y468 ++ y471) y458 (wrap64 (x6_1 + 1))) else (none)) = some (r1, r2) := by first | (rw [hy471]; with_reducible exact H) | (have H2_ := (Option.bind_some _ _).symm.trans H; rw [hy471]; with_reducible exact H2_) | (have H2_ := (Option.bind_some _ _).symm.trans H; with_reducible exact H2_) | with_reducible exact H | (rw [hy471]; exact H) | exact H
                        have Ny471 := Aside0.mk hy471
                        clear hy471
                        by_cases c17 : y468.length + y471.length < 17592186044416
                        · rw [if_pos c17] at H
                          have LMc17 := Aside0.mk c17
                          clear c17
                          obtain ⟨y475, hy475⟩ : ∃ y_ : List Int, y_ = (y468 ++ y471) := ⟨_, rfl⟩
                          replace H : (churnref11_Rank.l0 k1 l0 y475 y458 (wrap64 (x6_1 + 1))) = some (r1, r2) := by first | (rw [hy475]; with_reducible exact H) | (have H2_ := (Option.bind_some _ _).symm.trans H; rw [hy475]; with_reducible exact H2_) | (have H2_ := (Option.bind_some _ _).symm.trans H; with_reducible exact H2_) | with_reducible exact H | (rw [hy475]; exact H) | exact H
                          have Ny475 := Aside0.mk hy475
                          clear hy475
                          have H' := Aside0.mk H
                          clear H
                          have p456 : 0 ≤ (x6_1 : Int) := of_decide_eq_true (by first | (with_reducible assumption) | assumption)
                          have q456 : x6_1 < (l0.length : Int) := of_decide_eq_true (by first | (with_reducible assumption) | assumption)
                          obtain ⟨ad456, e456, hx456_0⟩ := Kd.at_int HR0.out x6_1 p456 q456
                          cases e456
                          (try (replace hx456_0 := (HB.out.cell (World.block_lt_of_cell? w _ hx456_0)).trans hx456_0))
                          replace p456 := eq_true p456
                          replace q456 := eq_true q456
                          obtain ⟨Ao18, co18, eo18⟩ := Kd.R_slice HO_4.out
                          subst eo18
                          try go_wp2_with (first | ((with_reducible refine gate_callee (f := 42) rfl ?_); refine goesL_ (some 25) rfl rfl Try.func42 (by kernel_rfl) rfl #[.slice Ao18 x4_1.length co18, .int .i64 (rd l0 x6_1)] rfl (by (try simp only [List.map_toArray, List.map_cons, List.map_nil]); first | done | rfl | (simp only [List.length_drop, List.length_take]; rfl)) ?_; (with_reducible refine (churnref11_find.calls k1 _ _ x4_1 (rd l0 x6_1) t457 _ ?side1 ?side2 A9.out).mono ?_); (case side1 => repeat (first | exact (Kd.R_reads' HO_4.out).2.2 | (with_reducible refine Kd.C_alloc ?_ _) | (with_reducible refine Kd.C_drewN ?_ _) | (with_reducible refine Kd.C_drew ?_))); (case side2 => exact (Kd.R_reads' HO_4.out).2.1); rintro e w' ⟨rfl, ⟨nd, rfl⟩⟩; refine ⟨_, rfl, ?_⟩) | ((with_reducible refine gate_builtin (b := .append) (xs := #[.tmp 26, .tmp 28]) rfl ?_); at_builtin; refine Kd.R_append (Kd.int .i64) (w0 := w) w.heap.size rfl (.tmp 26) (.tmp 28) 22 3 (.int .i64 0) 8 rfl Try.underlying22 info3 rfl (by decide) (by omega) u5 x5_1 t457 [.int .i64 t457] (fun k_ => some k_ ≠ (.slice Ao18 x4_1.length co18 : Value).ownBlock) (fun _ => False) rfl rfl ?aP (fun _ hk => hk.elim) ?aF ?aO ?aB ?aS ?aL ?_; (case aP => exact rfl); (case aB => exact (by repeat (first | (with_reducible first | exact HB.out | apply below_alloc | apply pw_below_drewN | apply below_drew1) | exact HB.out))); (case aF => exact (fun k_ hk => Kd.fresh' (Kd.R_lt (by (with_reducible repeat (first | apply Kd.R_alloc | apply Kd.R_drewN | apply Kd.R_drew)); exact HO_4.out)) k_ hk)); (case aO => exact (by (with_reducible repeat (first | apply Kd.R_alloc | apply Kd.R_drewN | apply Kd.R_drew)); exact HO_5.out)); (case aS => exact (below_size (by repeat (first | (with_reducible first | exact HB.out | apply below_alloc | apply pw_below_drewN | apply below_drew1) | exact HB.out)))); (case aL => have := LMc10.out; omega); intro v459 w19 ho hb hg hat; rw [← Ny458.out] at ho; have n0_ := Aside0.mk (Kd.R_after (ok := (fun _ => True)) (by (with_reducible repeat (first | apply Kd.R_alloc | apply Kd.R_drewN | apply Kd.R_drew)); exact Kd.R_mono HO_4.out (fun _ hk => ⟨trivial, hk⟩)) hg hat); have n1_ := Aside0.mk (hb); have n2_ := Aside0.mk (ho); clear HO_4; clear HB; clear HO_5; have HO_4 := n0_; have HB := n1_; have HO460 := n2_; clear n0_ n1_ n2_; clear ho hb hg hat))
                          have n0_ := Aside0.mk (Kd.R_drew HO_4.out)
                          have n1_ := Aside0.mk (Kd.R_drew HO460.out)
                          have n2_ := Aside0.mk (below_drew1 HB.out)
                          clear HO_4
                          clear HO460
                          clear HB
                          have HO_4 := n0_
                          have HO460 := n1_
                          have HB := n2_
                          clear n0_ n1_ n2_
                          have q21 : (t457 : Int) ≤ ((x4_1.length : Int) : Int) := of_decide_eq_true (by first | (with_reducible assumption) | assumption)
                          obtain ⟨i021, hi021, _, hsz21, _⟩ := info_parts info3
                          have hroom21 : x4_1.length ≤ co18 := (Kd.R_reads' HO_4.out).2.1
                          have hC21 : Kd.C (Kd.int .i64) _ Ao18 x4_1.length x4_1 := (Kd.R_reads' HO_4.out).2.2
                          have hcut21 := cut_to (P := Try.prog) 22 3 .i64 Try.underlying22 hi021 Ao18 x4_1.length co18 t457 (of_decide_eq_true (by first | (with_reducible assumption) | assumption)) q21 hroom21
                          have hr21 := Kd.C_take (m := (t457 : Int).toNat) hC21 (by omega)
                          have hy21 : y464.length = (t457 : Int).toNat := (by rw [Ny464.out, List.length_take]; omega)
                          rw [← Ny464.out] at hr21
                          rw [← hy21] at hcut21
                          have HR467 := Aside0.mk hr21
                          have HC467 := Aside0.mk (show y464.length ≤ co18 from by omega)
                          clear hr21 hC21 hroom21 hi021 hsz21
                          have KY21 := Aside0.mk hy21
                          clear hy21
                          have KL21 := Aside0.mk (show (t457 : Int).toNat ≤ x4_1.length from by omega)
                          replace q21 := eq_true q21
                          have q22 : ((ji14) : Int) ≤ ((x4_1.length : Int) : Int) := of_decide_eq_true (by first | (with_reducible assumption) | assumption)
                          obtain ⟨i022, hi022, _, hsz22, _⟩ := info_parts info3
                          have hroom22 : x4_1.length ≤ co18 := (Kd.R_reads' HO_4.out).2.1
                          have hC22 : Kd.C (Kd.int .i64) _ Ao18 x4_1.length x4_1 := (Kd.R_reads' HO_4.out).2.2
                          have q022 : (0 : Int) ≤ ((ji14) : Int) := of_decide_eq_true (by first | (with_reducible assumption) | assumption)
                          have hcut22 := cut_from (P := Try.prog) 22 3 .i64 Try.underlying22 hi022 1 hsz22 Ao18 x4_1.length co18 (ji14) q022 q22
                          have hr22 := Kd.C_drop (m := ((ji14) : Int).toNat) (c := co18) hC22 (by omega) hroom22
                          obtain ⟨A22, hA22⟩ : ∃ A1, A1 = (if co18 = ((ji14) : Int).toNat then Ao18 else (Ao18 : Option Addr).map (·.add (((ji14) : Int).toNat * 1))) := ⟨_, rfl⟩
                          obtain ⟨c22, hc22⟩ : ∃ c1, c1 = co18 - ((ji14) : Int).toNat := ⟨_, rfl⟩
                          have hy22 : y471.length = x4_1.length - ((ji14) : Int).toNat := (by rw [Ny471.out, List.length_drop] <;> omega)
                          rw [show (x4_1).drop ((ji14) : Int).toNat = y471 from Ny471.out.symm] at hr22
                          replace hr22 : Kd.C (Kd.int .i64) _ A22 y471.length y471 := (by rw [hA22]; exact hr22)
                          rw [← hy22, ← hA22, ← hc22] at hcut22
                          have HR474 := Aside0.mk hr22
                          have HC474 := Aside0.mk (show y471.length ≤ c22 from by rw [hy22, hc22]; exact Nat.sub_le_sub_right hroom22 _)
                          clear hr22 hC22 hroom22 hi022 hsz22 hc22
                          have KY22 := Aside0.mk hy22
                          have KA22 := Aside0.mk hA22
                          clear hy22 hA22
                          have KL22 := Aside0.mk (show ((ji14) : Int).toNat ≤ x4_1.length from by omega)
                          replace q22 := eq_true q22
                          refine start_ (n := 11) (S := fun w' => True) (ds := []) #[false, false, false, false, false, false, false, false, false, false, false] (by kernel_rfl) rfl rfl trivial (fun hHeld => ?_); refine with_tabW churnref11_Rank.tab10 churnref11_Rank.bits10 (fun HT_ HW_ => ?_)
                          generalize w19.drew = w20 at HO_4 HO460 HB HR467 HR474 hHeld ⊢
                          refine pure_ (i := 1) (N := some 31) (v := ?_) (a' := ?_) #[false, true, false, false, false, false, false, false, false, false, false] rfl rfl (any_of HT_.out (by kernel_rfl)) (fun _ _ _ h => h) (Or.inl ⟨by rfl, ?_⟩) ?_ ?_
                          rotate_left
                          · intro w'
                            go_simp
                            with_reducible rfl
                          rotate_left
                          · simp only [Act.put, List.setIfInBounds_toArray, List.set_cons_zero, List.set_cons_succ, i64_w, i32_w]
                            rfl
                          refine pure_ (i := 2) (N := some 32) (v := ?_) (a' := ?_) #[false, true, true, false, false, false, false, false, false, false, false] rfl rfl (any_of HT_.out (by kernel_rfl)) (fun _ _ _ h => h) (Or.inl ⟨by rfl, ?_⟩) ?_ ?_
                          rotate_left
                          · intro w'
                            go_simp
                            with_reducible rfl
                          rotate_left
                          · simp only [Act.put, List.setIfInBounds_toArray, List.set_cons_zero, List.set_cons_succ, i64_w, i32_w]
                            rfl
                          refine pure_ (i := 3) (N := some 33) (v := ?_) (a' := ?_) #[false, true, true, true, false, false, false, false, false, false, false] rfl rfl (any_of HT_.out (by kernel_rfl)) (fun _ _ _ h => h) (Or.inl ⟨by rfl, ?_⟩) ?_ ?_
                          rotate_left
                          · intro w'
                            go_simp
                            with_reducible rfl
                          rotate_left
                          · simp only [Act.put, List.setIfInBounds_toArray, List.set_cons_zero, List.set_cons_succ, i64_w, i32_w]
                            rfl
                          refine pure_ (i := 5) (N := some 35) (v := ?_) (a' := ?_) #[false, true, true, true, false, true, false, false, false, false, false] rfl rfl (any_of HT_.out (by kernel_rfl)) (fun _ _ _ h => h) (Or.inl ⟨by rfl, ?_⟩) ?_ ?_
                          rotate_left
                          · intro w'
                            go_simp
                            with_reducible rfl
                          rotate_left
                          · simp only [Act.put, List.setIfInBounds_toArray, List.set_cons_zero, List.set_cons_succ, i64_w, i32_w]
                            rfl
                          refine pure_ (i := 6) (N := some 36) (v := ?_) (a' := ?_) #[false, true, true, true, false, true, true, false, false, false, false] rfl rfl (any_of HT_.out (by kernel_rfl)) (fun _ _ _ h => h) (Or.inl ⟨by rfl, ?_⟩) ?_ ?_
                          rotate_left
                          · intro w'
                            go_simp
                            with_reducible rfl
                          rotate_left
                          · simp only [Act.put, List.setIfInBounds_toArray, List.set_cons_zero, List.set_cons_succ, i64_w, i32_w]
                            rfl
                          refine pure_ (i := 7) (N := some 37) (v := ?_) (a' := ?_) #[false, true, true, true, false, true, true, true, false, false, false] rfl rfl (any_of HT_.out (by kernel_rfl)) (fun _ _ _ h => h) (Or.inl ⟨by rfl, ?_⟩) ?_ ?_
                          rotate_left
                          · intro w'
                            go_simp
                            with_reducible rfl
                          rotate_left
                          · simp only [Act.put, List.setIfInBounds_toArray, List.set_cons_zero, List.set_cons_succ, i64_w, i32_w]
                            rfl
                          refine pure_ (i := 8) (N := some 38) (v := ?_) (a' := ?_) #[false, true, true, true, false, true, true, true, true, false, false] rfl rfl (any_of HT_.out (by kernel_rfl)) (fun _ _ _ h => h) (Or.inl ⟨by rfl, ?_⟩) ?_ ?_
                          rotate_left
                          · intro w'
                            go_simp
                            with_reducible rfl
                          rotate_left
                          · simp only [Act.put, List.setIfInBounds_toArray, List.set_cons_zero, List.set_cons_succ, i64_w, i32_w]
                            rfl
                          refine one_ (i := 0) (N := some 30) #[true, true, true, true, false, true, true, true, true, false, false] rfl rfl (one_of HT_.out (by kernel_rfl)) (by decide) (fun K hK => ?_)
                          refine Kd.R_lit_step (Kd.int .i64) _ 3 ?hg (N := 30) ?hd (xs := ([] : List Int)) (inner := []) (ok := fun _ => True) (okp := fun _ => True) ?hr ?hp (fun _ hk => hk) trivial (Below.refl _ _) (Nat.le_refl _) (by simp) ?_; (case hd => rfl); (case hg => rfl); (case hr => first | (go_simp; done) | (go_simp; rfl)); (case hp => exact (Reps.none _ _))
                          intro v462 w23 ho24 hb hg_ hnew_
                          clear hg_ hnew_
                          (first | rw [← Ny461.out] at ho24 | (simp only [Int.reduceToNat] at ho24; rw [← Ny461.out] at ho24))
                          have n0_ := Aside0.mk (Kd.R_elder' (by (with_reducible repeat (first | apply Kd.R_alloc | apply Kd.R_drewN | apply Kd.R_drew)); exact HO_4.out) (Kd.R_base ho24) hb)
                          have n1_ := Aside0.mk (Kd.R_elder' (by (with_reducible repeat (first | apply Kd.R_alloc | apply Kd.R_drewN | apply Kd.R_drew)); exact HO460.out) (Kd.R_base ho24) hb)
                          have n2_ := Aside0.mk (Kd.R_lower (Kd.R_new' (Kd.R_new' ho24 (Kd.R_lt (by (with_reducible repeat (first | apply Kd.R_alloc | apply Kd.R_drewN | apply Kd.R_drew)); exact HO_4.out))) (Kd.R_lt (by (with_reducible repeat (first | apply Kd.R_alloc | apply Kd.R_drewN | apply Kd.R_drew)); exact HO460.out))) (below_size (by repeat (first | (with_reducible first | exact HB.out | apply below_alloc | apply pw_below_drewN | apply below_drew1) | exact HB.out))))
                          have n3_ := Aside0.mk (Kd.C_below (by repeat (first | (with_reducible exact HR467.out) | (with_reducible refine Kd.C_alloc ?_ _) | (with_reducible refine Kd.C_drewN ?_ _) | (with_reducible refine Kd.C_drew ?_) | exact HR467.out)) hb)
                          have n4_ := Aside0.mk (Kd.C_below (by repeat (first | (with_reducible exact HR474.out) | (with_reducible refine Kd.C_alloc ?_ _) | (with_reducible refine Kd.C_drewN ?_ _) | (with_reducible refine Kd.C_drew ?_) | exact HR474.out)) hb)
                          have n5_ := Aside0.mk (below_step (by repeat (first | (with_reducible first | exact HB.out | apply below_alloc | apply pw_below_drewN | apply below_drew1) | exact HB.out)) hb)
                          clear HO_4
                          clear HO460
                          clear HR467
                          clear HR474
                          clear HB
                          have HO_4 := n0_
                          have HO460 := n1_
                          have HO463 := n2_
                          have HR467 := n3_
                          have HR474 := n4_
                          have HB := n5_
                          clear n0_ n1_ n2_ n3_ n4_ n5_
                          clear hb ho24
                          refine hK.out _ _ trivial (fun hHeld => ?_)
                          clear hK K
                          refine norm_ (a' := ?_) ?_ ?_
                          rotate_left
                          · show Act.put _ (some 30) _ = _
                            simp only [Act.put, List.setIfInBounds_toArray, List.set_cons_zero, List.set_cons_succ, i64_w, i32_w]
                            rfl
                          refine one_ (i := 4) (N := some 34) #[true, true, true, true, true, true, true, true, true, false, false] rfl rfl (one_of HT_.out (by kernel_rfl)) (by decide) (fun K hK => ?_)
                          refine Kd.R_append_rows_step (Kd.int .i64) (w0 := w) w.heap.size (by rfl) (.tmp 30) (.tmp 33) 22 3 (.int .i64 0) 8 rfl Try.underlying22 info3 rfl (by decide) (by omega) v462 y461 y464 _ _ _ (fun k_ => some k_ ≠ (.slice Ao18 x4_1.length co18 : Value).ownBlock ∧ some k_ ≠ (v459 : Value).ownBlock) (fun _ => False) rfl rfl ?aO ?aR (fun _ _ h => h) (fun _ h => h.elim) ?aF ?aB ?aS ?aL ?_
                          (case aR => repeat (first | exact (by repeat (first | (with_reducible exact HR467.out) | (with_reducible refine Kd.C_alloc ?_ _) | (with_reducible refine Kd.C_drewN ?_ _) | (with_reducible refine Kd.C_drew ?_) | exact HR467.out)) | (with_reducible refine Kd.C_alloc ?_ _) | (with_reducible refine Kd.C_drewN ?_ _) | (with_reducible refine Kd.C_drew ?_)))
                          (case aB => exact (by repeat (first | (with_reducible first | exact HB.out | apply below_alloc | apply pw_below_drewN | apply below_drew1) | exact HB.out)))
                          (case aF => exact (fun k_ hk => ⟨Kd.fresh' (Kd.R_lt (by (with_reducible repeat (first | apply Kd.R_alloc | apply Kd.R_drewN | apply Kd.R_drew)); exact HO_4.out)) k_ hk, Kd.fresh' (Kd.R_lt (by (with_reducible repeat (first | apply Kd.R_alloc | apply Kd.R_drewN | apply Kd.R_drew)); exact HO460.out)) k_ hk⟩))
                          (case aO => exact (by (with_reducible repeat (first | apply Kd.R_alloc | apply Kd.R_drewN | apply Kd.R_drew)); exact Kd.R_mono HO463.out (fun _ hk => ⟨hk.1.2, hk.2⟩)))
                          (case aS => exact (below_size (by repeat (first | (with_reducible first | exact HB.out | apply below_alloc | apply pw_below_drewN | apply below_drew1) | exact HB.out))))
                          (case aL => have := LMc13.out; omega)
                          intro v469 w25 ho hb hg hat
                          rw [← Ny468.out] at ho
                          have n0_ := Aside0.mk (Kd.R_after (ok := (fun k_ => some k_ ≠ (v459 : Value).ownBlock)) (by (with_reducible repeat (first | apply Kd.R_alloc | apply Kd.R_drewN | apply Kd.R_drew)); exact Kd.R_mono HO_4.out (fun _ hk => ⟨hk.1.2, hk.2⟩)) hg hat)
                          have n1_ := Aside0.mk (Kd.R_after (ok := (fun k_ => some k_ ≠ (.slice Ao18 x4_1.length co18 : Value).ownBlock)) (by (with_reducible repeat (first | apply Kd.R_alloc | apply Kd.R_drewN | apply Kd.R_drew)); exact HO460.out) hg hat)
                          have n2_ := Aside0.mk (hb)
                          have n3_ := Aside0.mk ((show Kd.C (Kd.int .i64) w25 Ao18 y464.length y464 from by rw [Ny464.out]; exact Kd.C_take (m := (t457 : Int).toNat) ((Kd.R_reads' (Kd.R_after (ok := (fun k_ => some k_ ≠ (v459 : Value).ownBlock)) (by (with_reducible repeat (first | apply Kd.R_alloc | apply Kd.R_drewN | apply Kd.R_drew)); exact Kd.R_mono HO_4.out (fun _ hk => ⟨hk.1.2, hk.2⟩)) hg hat)).2.2) KL21.out))
                          have n4_ := Aside0.mk ((show Kd.C (Kd.int .i64) w25 A22 y471.length y471 from by rw [Ny471.out, KA22.out]; exact Kd.C_drop (m := ((ji14) : Int).toNat) (c := co18) ((Kd.R_reads' (Kd.R_after (ok := (fun k_ => some k_ ≠ (v459 : Value).ownBlock)) (by (with_reducible repeat (first | apply Kd.R_alloc | apply Kd.R_drewN | apply Kd.R_drew)); exact Kd.R_mono HO_4.out (fun _ hk => ⟨hk.1.2, hk.2⟩)) hg hat)).2.2) KL22.out ((Kd.R_reads' (Kd.R_after (ok := (fun k_ => some k_ ≠ (v459 : Value).ownBlock)) (by (with_reducible repeat (first | apply Kd.R_alloc | apply Kd.R_drewN | apply Kd.R_drew)); exact Kd.R_mono HO_4.out (fun _ hk => ⟨hk.1.2, hk.2⟩)) hg hat)).2.1)))
                          have n5_ := Aside0.mk (ho)
                          clear HO_4
                          clear HO460
                          clear HB
                          clear HR467
                          clear HR474
                          clear HO463
                          have HO_4 := n0_
                          have HO460 := n1_
                          have HB := n2_
                          have HR467 := n3_
                          have HR474 := n4_
                          have HO470 := n5_
                          clear n0_ n1_ n2_ n3_ n4_ n5_
                          clear ho hb hg hat
                          refine hK.out _ _ trivial (fun hHeld => ?_)
                          clear hK K
                          refine norm_ (a' := ?_) ?_ ?_
                          rotate_left
                          · show Act.put _ (some 34) _ = _
                            simp only [Act.put, List.setIfInBounds_toArray, List.set_cons_zero, List.set_cons_succ, i64_w, i32_w]
                            rfl
                          refine one_ (i := 9) (N := some 39) #[true, true, true, true, true, true, true, true, true, true, false] rfl rfl (one_of HT_.out (by kernel_rfl)) (by decide) (fun K hK => ?_)
                          refine Kd.R_append_rows_step (Kd.int .i64) (w0 := w) w.heap.size (by rfl) (.tmp 34) (.tmp 38) 22 3 (.int .i64 0) 8 rfl Try.underlying22 info3 rfl (by decide) (by omega) v469 y468 y471 _ _ _ (fun k_ => some k_ ≠ (.slice Ao18 x4_1.length co18 : Value).ownBlock ∧ some k_ ≠ (v459 : Value).ownBlock) (fun _ => False) rfl rfl ?aO ?aR (fun _ _ h => h) (fun _ h => h.elim) ?aF ?aB ?aS ?aL ?_
                          (case aR => repeat (first | exact (by repeat (first | (with_reducible exact HR474.out) | (with_reducible refine Kd.C_alloc ?_ _) | (with_reducible refine Kd.C_drewN ?_ _) | (with_reducible refine Kd.C_drew ?_) | exact HR474.out)) | (with_reducible refine Kd.C_alloc ?_ _) | (with_reducible refine Kd.C_drewN ?_ _) | (with_reducible refine Kd.C_drew ?_)))
                          (case aB => exact (by repeat (first | (with_reducible first | exact HB.out | apply below_alloc | apply pw_below_drewN | apply below_drew1) | exact HB.out)))
                          (case aF => exact (fun k_ hk => ⟨Kd.fresh' (Kd.R_lt (by (with_reducible repeat (first | apply Kd.R_alloc | apply Kd.R_drewN | apply Kd.R_drew)); exact HO_4.out)) k_ hk, Kd.fresh' (Kd.R_lt (by (with_reducible repeat (first | apply Kd.R_alloc | apply Kd.R_drewN | apply Kd.R_drew)); exact HO460.out)) k_ hk⟩))
                          (case aO => exact (by (with_reducible repeat (first | apply Kd.R_alloc | apply Kd.R_drewN | apply Kd.R_drew)); exact HO470.out))
                          (case aS => exact (below_size (by repeat (first | (with_reducible first | exact HB.out | apply below_alloc | apply pw_below_drewN | apply below_drew1) | exact HB.out))))
                          (case aL => have := LMc17.out; omega)
                          intro v476 w26 ho hb hg hat
                          rw [← Ny475.out] at ho
                          have n0_ := Aside0.mk (Kd.R_after (ok := (fun k_ => some k_ ≠ (v459 : Value).ownBlock)) (by (with_reducible repeat (first | apply Kd.R_alloc | apply Kd.R_drewN | apply Kd.R_drew)); exact HO_4.out) hg hat)
                          have n1_ := Aside0.mk (Kd.R_after (ok := (fun k_ => some k_ ≠ (.slice Ao18 x4_1.length co18 : Value).ownBlock)) (by (with_reducible repeat (first | apply Kd.R_alloc | apply Kd.R_drewN | apply Kd.R_drew)); exact HO460.out) hg hat)
                          have n2_ := Aside0.mk (hb)
                          have n3_ := Aside0.mk ((show Kd.C (Kd.int .i64) w26 Ao18 y464.length y464 from by rw [Ny464.out]; exact Kd.C_take (m := (t457 : Int).toNat) ((Kd.R_reads' (Kd.R_after (ok := (fun k_ => some k_ ≠ (v459 : Value).ownBlock)) (by (with_reducible repeat (first | apply Kd.R_alloc | apply Kd.R_drewN | apply Kd.R_drew)); exact HO_4.out) hg hat)).2.2) KL21.out))
                          have n4_ := Aside0.mk ((show Kd.C (Kd.int .i64) w26 A22 y471.length y471 from by rw [Ny471.out, KA22.out]; exact Kd.C_drop (m := ((ji14) : Int).toNat) (c := co18) ((Kd.R_reads' (Kd.R_after (ok := (fun k_ => some k_ ≠ (v459 : Value).ownBlock)) (by (with_reducible repeat (first | apply Kd.R_alloc | apply Kd.R_drewN | apply Kd.R_drew)); exact HO_4.out) hg hat)).2.2) KL22.out ((Kd.R_reads' (Kd.R_after (ok := (fun k_ => some k_ ≠ (v459 : Value).ownBlock)) (by (with_reducible repeat (first | apply Kd.R_alloc | apply Kd.R_drewN | apply Kd.R_drew)); exact HO_4.out) hg hat)).2.1)))
                          have n5_ := Aside0.mk (ho)
                          clear HO_4
                          clear HO460
                          clear HB
                          clear HR467
                          clear HR474
                          clear HO470
                          have HO_4 := n0_
                          have HO460 := n1_
                          have HB := n2_
                          have HR467 := n3_
                          have HR474 := n4_
                          have HO477 := n5_
                          clear n0_ n1_ n2_ n3_ n4_ n5_
                          clear ho hb hg hat
                          refine hK.out _ _ trivial (fun hHeld => ?_)
                          clear hK K
                          refine norm_ (a' := ?_) ?_ ?_
                          rotate_left
                          · show Act.put _ (some 39) _ = _
                            simp only [Act.put, List.setIfInBounds_toArray, List.set_cons_zero, List.set_cons_succ, i64_w, i32_w]
                            rfl
                          refine pure_ (i := 10) (N := some 4) (v := ?_) (a' := ?_) #[true, true, true, true, true, true, true, true, true, true, true] rfl rfl (any_of HT_.out (by kernel_rfl)) (fun _ _ _ h => h) (Or.inl ⟨by rfl, ?_⟩) ?_ ?_
                          rotate_left
                          · intro w'
                            go_simp
                            with_reducible rfl
                          rotate_left
                          · simp only [Act.put, List.setIfInBounds_toArray, List.set_cons_zero, List.set_cons_succ, i64_w, i32_w]
                            rfl
                          refine done_ (done_of HT_.out (by kernel_rfl)) ?_
                          try go_wp2
                          go_roundg k1
                          case measure => have := HK1.out; omega
                          case rel => exact ⟨(y475), (y458), (wrap64 (x6_1 + 1)), (by first | rfl | (simp; done) | (simp [*]; done)), H', ⟨by have := HK1.out; omega⟩, ⟨by (with_reducible repeat (first | apply Kd.R_alloc | apply Kd.R_drewN | apply Kd.R_drew)); exact Kd.R_mono HO477.out (fun _ hk => hk.2)⟩, ⟨by (with_reducible repeat (first | apply Kd.R_alloc | apply Kd.R_drewN | apply Kd.R_drew)); exact Kd.R_mono HO460.out (fun _ hk => hk.2)⟩, ⟨by repeat (first | (with_reducible first | exact HB.out | apply below_alloc | apply pw_below_drewN | apply below_drew1) | exact HB.out)⟩⟩
                        · rw [if_neg c17] at H
                          exact absurd H (by simp)
                      · rw [if_neg c16] at H
                        exact absurd H (by simp)
                    · rw [if_neg c15] at H
                      exact absurd H (by simp)
                  · rw [if_neg c13] at H
                    exact absurd H (by simp)
                · rw [if_neg c12] at H
                  exact absurd H (by simp)
              · rw [if_neg c11] at H
                exact absurd H (by simp)
            · rw [if_neg c10] at H
              exact absurd H (by simp)
          · rw [if_neg c8] at H
            exact absurd H (by simp)
        · rw [if_neg c7] at H
          have c7b0 : decide (x6_1 < (l0.length : Int)) = false := decide_eq_false c7
          clear c7
          simp only [Option.some.injEq, Prod.mk.injEq] at H
          obtain ⟨rfl, rfl⟩ := H
          go_wp2
          go_ret2
          exact ⟨_, by first | rfl | (simp [errW_none, errW_some] <;> rfl) | (simp [*, errW_none, errW_some] <;> rfl), by (with_reducible repeat (first | apply Kd.R_alloc | apply Kd.R_drewN | apply Kd.R_drew)); exact Kd.R_mono HO_5.out (fun _ hk => trivial), by repeat (first | (with_reducible first | exact HB.out | apply below_alloc | apply pw_below_drewN | apply below_drew1) | exact HB.out)⟩
  · rw [if_neg c3] at H
    have c3b0 : (t452 == 0) = false := beq_eq_false_iff_ne.mpr c3
    have c3b1 : (t452 != 0) = true := bne_iff_ne.mpr c3
    simp only [Option.some.injEq, Prod.mk.injEq] at H
    obtain ⟨rfl, rfl⟩ := H
    go_enter Try.func32, Try.ntmps32
    go_wp2_with (first | ((with_reducible refine gate_callee (f := 34) rfl ?_); refine goesL_ (some 9) rfl rfl Try.func34 (by kernel_rfl) rfl #[.slice A0 l0.length c0] rfl (by (try simp only [List.map_toArray, List.map_cons, List.map_nil]); first | done | rfl | (simp only [List.length_drop, List.length_take]; rfl)) ?_; (with_reducible refine (churnref11_Check.calls k _ _ l0 t452 _ ?side1 ?side2 A2.out).mono ?_); (case side1 => repeat (first | exact HR0.out | (with_reducible refine Kd.C_alloc ?_ _) | (with_reducible refine Kd.C_drewN ?_ _) | (with_reducible refine Kd.C_drew ?_))); (case side2 => exact HC0.out); rintro e w27 ⟨rfl, hb⟩; refine ⟨_, rfl, ?_⟩; have n0_ := Aside0.mk (below_step (by repeat (first | (with_reducible first | exact HB.out | apply below_alloc | apply pw_below_drewN | apply below_drew1) | exact HB.out)) hb); clear HB; have HB := n0_; clear n0_; (try clear hb); (try clear hb2); (try clear hk); (try clear hi)))
    go_ret2
    exact ⟨_, by first | rfl | (simp [errW_none, errW_some] <;> rfl) | (simp [*, errW_none, errW_some] <;> rfl), by first | exact Kd.R_nil _ _ _ _ _ | exact Kd.N_nil _ _ _ _ _ | exact Kd.V_nil _ _ _ _ _ | exact Kd.Q_nil _ _ _ _ _ | exact Kd.S_nil _ _ _ _ _, by repeat (first | (with_reducible first | exact HB.out | apply below_alloc | apply pw_below_drewN | apply below_drew1) | exact HB.out)⟩

end Go.Proofs.Ytmbkgepfpfeahaa.Q
