/- Functions of the program as plain Lean functions, each with a proof that its call comes to just these answers, or the row that joins them to the given statement; no condition beside the statement's own. Written for this claim by pf.py, this session's program over the kit's print. -/
import Derived.Test.YtmbkgepfpfeahaaQx0
import Derived.Test.YtmbkgepfpfeahaaQx1
import Derived.Test.YtmbkgepfpfeahaaQx5
namespace Go.Proofs.Ytmbkgepfpfeahaa.Q
open Go.RowKit Go.Proofs.YtmbkgepfpfeahaaW.PrintWords Go.Proofs.YtmbkgepfpfeahaaW.PrintLast Go.Proofs.YtmbkgepfpfeahaaW.PrintMore
attribute [local go_sem] max2_int min2_int max_two min_two max_three min_three max_four min_four   -- for this text's walks alone
set_option linter.unusedVariables false
set_option linter.unusedSimpArgs false

/-! ### perm_Draws: function 33 -/
def perm_Draws.l0 : Nat → List Int → List Int → List Int → List Int → Int → Option (List Int × Int)
  | 0, _, _, _, _, _ => none
  | k + 1, x0, x5, x6, x7, x8 => if x8 ≥ 1 then (if 0 ≤ x8 then (if x8 < (x0.length : Int) then (if 0 ≤ (rd x0 x8) then (if (rd x0 x8) < (x6.length : Int) then (if x7.length < 17592186044416 then (if 0 ≤ (rd x6 (rd x0 x8)) then (if (rd x6 (rd x0 x8)) < (x5.length : Int) then (if x8 < (x5.length : Int) then ((some ((x5.set (x8 : Int).toNat (rd x5 (rd x6 (rd x0 x8)))).set ((rd x6 (rd x0 x8)) : Int).toNat (rd x5 x8) : List Int)).bind fun y493 => (if 0 ≤ (rd y493 x8) then (if (rd y493 x8) < (x6.length : Int) then (if 0 ≤ (rd y493 (rd x6 (rd x0 x8))) then (if (rd y493 (rd x6 (rd x0 x8))) < (x6.length : Int) then (perm_Draws.l0 k x0 y493 ((x6.set ((rd y493 x8) : Int).toNat x8).set ((rd y493 (rd x6 (rd x0 x8))) : Int).toNat (rd x6 (rd x0 x8))) (x7 ++ [rd x6 (rd x0 x8)]) (wrap64 (x8 - 1))) else (none)) else (none)) else (none)) else (none))) else (none)) else (none)) else (none)) else (none)) else (none)) else (none)) else (none)) else (none)) else (some (x7, 0))
def perm_Draws.f (k : Nat) (l0 : List Int) : Option (List Int × Int) := (perm_fits.f k l0).bind fun t478 => (if t478 = true then ((perm_Identity.f k (l0.length : Int)).bind fun t479 => ((perm_Identity.f k (l0.length : Int)).bind fun t482 => (perm_Draws.l0 k l0 t479 t482 ([] : List Int) (wrap64 ((l0.length : Int) - 1))))) else (some (([] : List Int), 110)))
theorem perm_Draws.mono_l : ∀ k, (∀ y0 y1 y2 y3 y4, LeO (perm_Draws.l0 k y0 y1 y2 y3 y4) (perm_Draws.l0 (k + 1) y0 y1 y2 y3 y4))
  | 0 => fun _ _ _ _ _ r h => by simp [perm_Draws.l0] at h
  | k + 1 => by
    have ih0 := perm_Draws.mono_l k
    · intro y0 y1 y2 y3 y4
      unfold perm_Draws.l0
      repeat' first
      | (with_reducible exact ih0 _ _ _ _ _)
      | (with_reducible exact perm_Identity.mono _ _)
      | (with_reducible exact perm_fits.mono _ _)
      | (with_reducible exact LeO.refl _)
      | (with_reducible exact LeO.none _)
      | (with_reducible refine LeO.ite ?_ ?_)
      | (with_reducible refine LeO.bind ?_ (fun _ => ?_))
      | exact ih0 _ _ _ _ _
      | exact perm_Identity.mono _ _
      | exact perm_fits.mono _ _
      | exact LeO.none _
      | refine LeO.ite ?_ ?_
      | refine LeO.bind ?_ (fun _ => ?_)
theorem perm_Draws.mono : ∀ a0 k, LeO (perm_Draws.f k a0) (perm_Draws.f (k + 1) a0) := by
  intro a0 k
  have ih0 := perm_Draws.mono_l k
  unfold perm_Draws.f
  repeat' first
      | (with_reducible exact ih0 _ _ _ _ _)
      | (with_reducible exact perm_Identity.mono _ _)
      | (with_reducible exact perm_fits.mono _ _)
      | (with_reducible exact LeO.refl _)
      | (with_reducible exact LeO.none _)
      | (with_reducible refine LeO.ite ?_ ?_)
      | (with_reducible refine LeO.bind ?_ (fun _ => ?_))
      | exact ih0 _ _ _ _ _
      | exact perm_Identity.mono _ _
      | exact perm_fits.mono _ _
      | exact LeO.none _
      | refine LeO.ite ?_ ?_
      | refine LeO.bind ?_ (fun _ => ?_)
def perm_Draws.T11 : Bool × List (List Nat × List Nat) := (true, [([], []), ([], []), ([], []), ([], []), ([], []), ([], []), ([4, 5], [4, 5]), ([6], [6]), ([], []), ([], []), ([8, 9], [8, 9]), ([10], [10]), ([0, 1, 0, 1, 4, 5, 6, 7, 11], [0, 1]), ([12, 7, 0, 1, 4, 5, 6, 7, 11], [7, 12]), ([2, 3, 0, 1, 2, 3, 4, 5, 6, 7, 8, 9, 10, 11, 12, 13], [2, 3]), ([14, 11, 13, 0, 1, 2, 3, 4, 5, 6, 7, 8, 9, 10, 11, 12, 13], [11, 14])])
def perm_Draws.B11 : List Nat := [0, 0, 0, 0, 0, 0, 48, 112, 0, 0, 768, 1792, 4083, 8179, 16383, 32767]
theorem perm_Draws.tab11 : rtab .any (opsOf Try.f33 11) = perm_Draws.T11 := by kernel_rfl
theorem perm_Draws.bits11 : waitsOk perm_Draws.T11.2 perm_Draws.B11 = true := by kernel_rfl
def perm_Draws.T12 : Bool × List (List Nat × List Nat) := (true, [([], []), ([], []), ([], []), ([1, 2], [1, 2]), ([3], [3]), ([], []), ([], []), ([], []), ([6, 7], [6, 7]), ([8], [8]), ([], []), ([], []), ([0, 4, 0, 1, 2, 3, 4, 9, 10], [0, 4]), ([12, 10, 0, 1, 2, 3, 4, 9, 10], [10, 12]), ([5, 9, 0, 1, 2, 3, 4, 5, 6, 7, 8, 9, 10, 11, 12, 13], [5, 9]), ([14, 11, 13, 0, 1, 2, 3, 4, 5, 6, 7, 8, 9, 10, 11, 12, 13], [11, 14])])
def perm_Draws.B12 : List Nat := [0, 0, 0, 6, 14, 0, 0, 0, 192, 448, 0, 0, 2015, 6111, 16383, 32767]
theorem perm_Draws.tab12 : rtab .any (opsOf Try.f33 12) = perm_Draws.T12 := by kernel_rfl
theorem perm_Draws.bits12 : waitsOk perm_Draws.T12.2 perm_Draws.B12 = true := by kernel_rfl
set_option maxHeartbeats 8000000 in
set_option maxRecDepth 100000 in
theorem perm_Draws.calls (k : Nat) (A0 : Option Addr) (c0 : Nat) (l0 : List Int) (r1 : List Int) (r2 : Int) (w : World) (hr0 : Kd.C (Kd.int .i64) w A0 l0.length l0) (hc0 : l0.length ≤ c0) (h : perm_Draws.f k l0 = some (r1, r2)) :
    Calls Try.prog 33 #[.slice A0 l0.length c0] w fun e w' => ∃ v0_ : Value, e = .returned (.tuple #[v0_, .int .i64 r2]) ∧ Kd.R (Kd.int .i64) 3 w' w.heap.size (fun _ => True) v0_ r1 ∧ Below w.heap.size w w' := by
  have HR0 := Aside0.mk hr0
  have HC0 := Aside0.mk hc0
  clear hr0 hc0
  have HB := Aside0.mk (Below.refl w.heap.size w)
  have H : ((perm_fits.f k l0).bind fun t478 => (if t478 = true then ((perm_Identity.f k (l0.length : Int)).bind fun t479 => ((perm_Identity.f k (l0.length : Int)).bind fun t482 => (perm_Draws.l0 k l0 t479 t482 ([] : List Int) (wrap64 ((l0.length : Int) - 1))))) else (some (([] : List Int), 110)))) = some (r1, r2) := h
  clear h
  replace H := Option.bind_eq_some_iff.mp H
  obtain ⟨t478, A20, H⟩ := H
  replace H : (if t478 = true then ((perm_Identity.f k (l0.length : Int)).bind fun t479 => ((perm_Identity.f k (l0.length : Int)).bind fun t482 => (perm_Draws.l0 k l0 t479 t482 ([] : List Int) (wrap64 ((l0.length : Int) - 1))))) else (some (([] : List Int), 110))) = some (r1, r2) := H
  have A2 := Aside0.mk A20
  clear A20
  by_cases c3 : t478 = true
  · subst c3
    have H1 : ((perm_Identity.f k (l0.length : Int)).bind fun t479 => ((perm_Identity.f k (l0.length : Int)).bind fun t482 => (perm_Draws.l0 k l0 t479 t482 ([] : List Int) (wrap64 ((l0.length : Int) - 1))))) = some (r1, r2) := by rw [if_pos rfl] at H; exact H
    clear H
    have H := H1
    clear H1
    replace H := Option.bind_eq_some_iff.mp H
    obtain ⟨t479, A40, H⟩ := H
    replace H : ((perm_Identity.f k (l0.length : Int)).bind fun t482 => (perm_Draws.l0 k l0 t479 t482 ([] : List Int) (wrap64 ((l0.length : Int) - 1)))) = some (r1, r2) := H
    have A4 := Aside0.mk A40
    clear A40
    replace H := Option.bind_eq_some_iff.mp H
    obtain ⟨t482, A50, H⟩ := H
    replace H : (perm_Draws.l0 k l0 t479 t482 ([] : List Int) (wrap64 ((l0.length : Int) - 1))) = some (r1, r2) := H
    have A5 := Aside0.mk A50
    clear A50
    have H' := Aside0.mk H
    clear H
    go_enter Try.func33, Try.ntmps33
    go_wp2_with (first | ((with_reducible refine gate_callee (f := 36) rfl ?_); refine goesL_ (some 11) rfl rfl Try.func36 (by kernel_rfl) rfl #[.slice A0 l0.length c0] rfl (by (try simp only [List.map_toArray, List.map_cons, List.map_nil]); first | done | rfl | (simp only [List.length_drop, List.length_take]; rfl)) ?_; (with_reducible refine (perm_fits.calls k _ _ l0 true _ ?side1 ?side2 A2.out).mono ?_); (case side1 => repeat (first | exact HR0.out | (with_reducible refine Kd.C_alloc ?_ _) | (with_reducible refine Kd.C_drewN ?_ _) | (with_reducible refine Kd.C_drew ?_))); (case side2 => exact HC0.out); rintro e w6 ⟨rfl, hb⟩; refine ⟨_, rfl, ?_⟩; have n0_ := Aside0.mk (below_step (by repeat (first | (with_reducible first | exact HB.out | apply below_alloc | apply pw_below_drewN | apply below_drew1) | exact HB.out)) hb); clear HB; have HB := n0_; clear n0_; (try clear hb); (try clear hb2); (try clear hk); (try clear hi)) | ((with_reducible refine gate_callee (f := 20) rfl ?_); refine goesL_ (some 16) rfl rfl Try.func20 (by kernel_rfl) rfl #[.int .i64 (l0.length : Int)] rfl (by (try simp only [List.map_toArray, List.map_cons, List.map_nil]); first | done | rfl | (simp only [List.length_drop, List.length_take]; rfl)) ?_; (with_reducible refine (perm_Identity.calls k (l0.length : Int) t479 _ A4.out).mono ?_); rintro e w7 ⟨v480, rfl, ho0, hb⟩; refine ⟨_, rfl, ?_⟩; have n0_ := Aside0.mk (Kd.R_lower ho0 (below_size (by repeat (first | (with_reducible first | exact HB.out | apply below_alloc | apply pw_below_drewN | apply below_drew1) | exact HB.out)))); have n1_ := Aside0.mk (below_step (by repeat (first | (with_reducible first | exact HB.out | apply below_alloc | apply pw_below_drewN | apply below_drew1) | exact HB.out)) hb); clear HB; have HO481 := n0_; have HB := n1_; clear n0_ n1_; (try clear hb); (try clear hb2); (try clear hk); (try clear hi); (try clear ho0)) | ((with_reducible refine gate_callee (f := 20) rfl ?_); refine goesL_ (some 18) rfl rfl Try.func20 (by kernel_rfl) rfl #[.int .i64 (l0.length : Int)] rfl (by (try simp only [List.map_toArray, List.map_cons, List.map_nil]); first | done | rfl | (simp only [List.length_drop, List.length_take]; rfl)) ?_; (with_reducible refine (perm_Identity.calls k (l0.length : Int) t482 _ A5.out).mono ?_); rintro e w8 ⟨v483, rfl, ho0, hb⟩; refine ⟨_, rfl, ?_⟩; have n0_ := Aside0.mk (Kd.R_elder' (by (with_reducible repeat (first | apply Kd.R_alloc | apply Kd.R_drewN | apply Kd.R_drew)); exact HO481.out) (Kd.R_base ho0) hb); have n1_ := Aside0.mk (Kd.R_lower (Kd.R_new' ho0 (Kd.R_lt (by (with_reducible repeat (first | apply Kd.R_alloc | apply Kd.R_drewN | apply Kd.R_drew)); exact HO481.out))) (below_size (by repeat (first | (with_reducible first | exact HB.out | apply below_alloc | apply pw_below_drewN | apply below_drew1) | exact HB.out)))); have n2_ := Aside0.mk (below_step (by repeat (first | (with_reducible first | exact HB.out | apply below_alloc | apply pw_below_drewN | apply below_drew1) | exact HB.out)) hb); clear HO481; clear HB; have HO481 := n0_; have HO484 := n1_; have HB := n2_; clear n0_ n1_ n2_; (try clear hb); (try clear hb2); (try clear hk); (try clear hi); (try clear ho0)))
    go_loopg [7, 8] k (fun kq v7 v8 w' => ∃ (x5_1 : List Int) (x6_1 : List Int) (x7_1 : List Int) (x8_1 : Int), v8 = .int .i64 x8_1 ∧ Aside0 (perm_Draws.l0 kq l0 x5_1 x6_1 x7_1 x8_1 = some (r1, r2)) ∧ Aside0 (kq ≤ k) ∧ Aside0 (Kd.R (Kd.int .i64) 3 w' w.heap.size (fun k_ => some k_ ≠ (v483 : Value).ownBlock ∧ some k_ ≠ (v7 : Value).ownBlock) v480 x5_1) ∧ Aside0 (Kd.R (Kd.int .i64) 3 w' w.heap.size (fun k_ => some k_ ≠ (v480 : Value).ownBlock ∧ some k_ ≠ (v7 : Value).ownBlock) v483 x6_1) ∧ Aside0 (Kd.R (Kd.int .i64) 3 w' w.heap.size (fun k_ => some k_ ≠ (v480 : Value).ownBlock ∧ some k_ ≠ (v483 : Value).ownBlock) v7 x7_1) ∧ Aside0 (Below w.heap.size w w'))
    case atStart => exact ⟨(t479), (t482), (([] : List Int)), (wrap64 ((l0.length : Int) - 1)), (by first | rfl | (simp; done) | (simp [*]; done)), H', ⟨Nat.le_refl _⟩, ⟨by (with_reducible repeat (first | apply Kd.R_alloc | apply Kd.R_drewN | apply Kd.R_drew)); exact Kd.R_mono HO481.out (fun _ hk => ⟨hk.2, (by simp [Value.ownBlock])⟩)⟩, ⟨by (with_reducible repeat (first | apply Kd.R_alloc | apply Kd.R_drewN | apply Kd.R_drew)); exact Kd.R_mono HO484.out (fun _ hk => ⟨hk.2, (by simp [Value.ownBlock])⟩)⟩, ⟨by first | exact Kd.R_nil _ _ _ _ _ | exact Kd.N_nil _ _ _ _ _ | exact Kd.V_nil _ _ _ _ _ | exact Kd.Q_nil _ _ _ _ _ | exact Kd.S_nil _ _ _ _ _⟩, ⟨by repeat (first | (with_reducible first | exact HB.out | apply below_alloc | apply pw_below_drewN | apply below_drew1) | exact HB.out)⟩⟩
    case round =>
      clear H'
      try clear c2
      try clear p2
      try clear c3
      try clear p6
      obtain ⟨x5_1, x6_1, x7_1, x8_1, rfl, HA, HK1, HO_5, HO_6, HO_7, HB⟩ := hrel
      cases gk with
      | zero => exact absurd HA.out (by simp [perm_Draws.l0])
      | succ k1 =>
        have H := HA.out
        clear HA
        simp only [perm_Draws.l0] at H
        by_cases c9 : x8_1 ≥ 1
        · rw [if_pos c9] at H
          have c9b0 : decide (1 ≤ x8_1) = true := decide_eq_true c9
          clear c9
          by_cases c10 : 0 ≤ x8_1
          · rw [if_pos c10] at H
            have c10b0 : decide (0 ≤ x8_1) = true := decide_eq_true c10
            clear c10
            by_cases c11 : x8_1 < (l0.length : Int)
            · rw [if_pos c11] at H
              have c11b0 : decide (x8_1 < (l0.length : Int)) = true := decide_eq_true c11
              clear c11
              by_cases c12 : 0 ≤ (rd l0 x8_1)
              · rw [if_pos c12] at H
                have c12b0 : decide (0 ≤ (rd l0 x8_1)) = true := decide_eq_true c12
                clear c12
                by_cases c13 : (rd l0 x8_1) < (x6_1.length : Int)
                · rw [if_pos c13] at H
                  have c13b0 : decide ((rd l0 x8_1) < (x6_1.length : Int)) = true := decide_eq_true c13
                  clear c13
                  by_cases c14 : x7_1.length < 17592186044416
                  · rw [if_pos c14] at H
                    have LMc14 := Aside0.mk c14
                    clear c14
                    obtain ⟨y487, hy487⟩ : ∃ y_ : List Int, y_ = (x7_1 ++ [rd x6_1 (rd l0 x8_1)]) := ⟨_, rfl⟩
                    replace H : (if 0 ≤ (rd x6_1 (rd l0 x8_1)) then (if (rd x6_1 (rd l0 x8_1)) < (x5_1.length : Int) then (if x8_1 < (x5_1.length : Int) then ((some ((x5_1.set (x8_1 : Int).toNat (rd x5_1 (rd x6_1 (rd l0 x8_1)))).set ((rd x6_1 (rd l0 x8_1)) : Int).toNat (rd x5_1 x8_1) : List Int)).bind fun y493 => (if 0 ≤ (rd y493 x8_1) then (if (rd y493 x8_1) < (x6_1.length : Int) then (if 0 ≤ (rd y493 (rd x6_1 (rd l0 x8_1))) then (if (rd y493 (rd x6_1 (rd l0 x8_1))) < (x6_1.length : Int) then (perm_Draws.l0 k1 l0 y493 ((x6_1.set ((rd y493 x8_1) : Int).toNat x8_1).set ((rd y493 (rd x6_1 (rd l0 x8_1))) : Int).toNat (rd x6_1 (rd l0 x8_1))) y487 (wrap64 (x8_1 - 1))) else (none)) else (none)) else (none)) else (none))) else (none)) else (none)) else (none)) = some (r1, r2) := by first | (rw [hy487]; with_reducible exact H) | (have H2_ := (Option.bind_some _ _).symm.trans H; rw [hy487]; with_reducible exact H2_) | (have H2_ := (Option.bind_some _ _).symm.trans H; with_reducible exact H2_) | with_reducible exact H | (rw [hy487]; exact H) | exact H
                    have Ny487 := Aside0.mk hy487
                    clear hy487
                    by_cases c15 : 0 ≤ (rd x6_1 (rd l0 x8_1))
                    · rw [if_pos c15] at H
                      have c15b0 : decide (0 ≤ (rd x6_1 (rd l0 x8_1))) = true := decide_eq_true c15
                      clear c15
                      by_cases c16 : (rd x6_1 (rd l0 x8_1)) < (x5_1.length : Int)
                      · rw [if_pos c16] at H
                        have c16b0 : decide ((rd x6_1 (rd l0 x8_1)) < (x5_1.length : Int)) = true := decide_eq_true c16
                        clear c16
                        by_cases c17 : x8_1 < (x5_1.length : Int)
                        · rw [if_pos c17] at H
                          have c17b0 : decide (x8_1 < (x5_1.length : Int)) = true := decide_eq_true c17
                          clear c17
                          obtain ⟨y492, hy492⟩ : ∃ y_ : List Int, y_ = (x5_1.set (x8_1 : Int).toNat (rd x5_1 (rd x6_1 (rd l0 x8_1)))) := ⟨_, rfl⟩
                          replace H : ((some (y492.set ((rd x6_1 (rd l0 x8_1)) : Int).toNat (rd x5_1 x8_1) : List Int)).bind fun y493 => (if 0 ≤ (rd y493 x8_1) then (if (rd y493 x8_1) < (x6_1.length : Int) then (if 0 ≤ (rd y493 (rd x6_1 (rd l0 x8_1))) then (if (rd y493 (rd x6_1 (rd l0 x8_1))) < (x6_1.length : Int) then (perm_Draws.l0 k1 l0 y493 ((x6_1.set ((rd y493 x8_1) : Int).toNat x8_1).set ((rd y493 (rd x6_1 (rd l0 x8_1))) : Int).toNat (rd x6_1 (rd l0 x8_1))) y487 (wrap64 (x8_1 - 1))) else (none)) else (none)) else (none)) else (none))) = some (r1, r2) := by first | (rw [hy492]; with_reducible exact H) | (have H2_ := (Option.bind_some _ _).symm.trans H; rw [hy492]; with_reducible exact H2_) | (have H2_ := (Option.bind_some _ _).symm.trans H; with_reducible exact H2_) | with_reducible exact H | (rw [hy492]; exact H) | exact H
                          have Ny492 := Aside0.mk hy492
                          clear hy492
                          obtain ⟨y493, hy493⟩ : ∃ y_ : List Int, y_ = (y492.set ((rd x6_1 (rd l0 x8_1)) : Int).toNat (rd x5_1 x8_1)) := ⟨_, rfl⟩
                          replace H : (if 0 ≤ (rd y493 x8_1) then (if (rd y493 x8_1) < (x6_1.length : Int) then (if 0 ≤ (rd y493 (rd x6_1 (rd l0 x8_1))) then (if (rd y493 (rd x6_1 (rd l0 x8_1))) < (x6_1.length : Int) then (perm_Draws.l0 k1 l0 y493 ((x6_1.set ((rd y493 x8_1) : Int).toNat x8_1).set ((rd y493 (rd x6_1 (rd l0 x8_1))) : Int).toNat (rd x6_1 (rd l0 x8_1))) y487 (wrap64 (x8_1 - 1))) else (none)) else (none)) else (none)) else (none)) = some (r1, r2) := by first | (rw [hy493]; with_reducible exact H) | (have H2_ := (Option.bind_some _ _).symm.trans H; rw [hy493]; with_reducible exact H2_) | (have H2_ := (Option.bind_some _ _).symm.trans H; with_reducible exact H2_) | with_reducible exact H | (rw [hy493]; exact H) | exact H
                          have Ny493 := Aside0.mk hy493
                          clear hy493
                          by_cases c20 : 0 ≤ (rd y493 x8_1)
                          · rw [if_pos c20] at H
                            have c20b0 : decide (0 ≤ (rd y493 x8_1)) = true := decide_eq_true c20
                            clear c20
                            by_cases c21 : (rd y493 x8_1) < (x6_1.length : Int)
                            · rw [if_pos c21] at H
                              have c21b0 : decide ((rd y493 x8_1) < (x6_1.length : Int)) = true := decide_eq_true c21
                              clear c21
                              obtain ⟨y496, hy496⟩ : ∃ y_ : List Int, y_ = (x6_1.set ((rd y493 x8_1) : Int).toNat x8_1) := ⟨_, rfl⟩
                              replace H : (if 0 ≤ (rd y493 (rd x6_1 (rd l0 x8_1))) then (if (rd y493 (rd x6_1 (rd l0 x8_1))) < (x6_1.length : Int) then (perm_Draws.l0 k1 l0 y493 (y496.set ((rd y493 (rd x6_1 (rd l0 x8_1))) : Int).toNat (rd x6_1 (rd l0 x8_1))) y487 (wrap64 (x8_1 - 1))) else (none)) else (none)) = some (r1, r2) := by first | (rw [hy496]; with_reducible exact H) | (have H2_ := (Option.bind_some _ _).symm.trans H; rw [hy496]; with_reducible exact H2_) | (have H2_ := (Option.bind_some _ _).symm.trans H; with_reducible exact H2_) | with_reducible exact H | (rw [hy496]; exact H) | exact H
                              have Ny496 := Aside0.mk hy496
                              clear hy496
                              by_cases c23 : 0 ≤ (rd y493 (rd x6_1 (rd l0 x8_1)))
                              · rw [if_pos c23] at H
                                have c23b0 : decide (0 ≤ (rd y493 (rd x6_1 (rd l0 x8_1)))) = true := decide_eq_true c23
                                clear c23
                                by_cases c24 : (rd y493 (rd x6_1 (rd l0 x8_1))) < (x6_1.length : Int)
                                · rw [if_pos c24] at H
                                  have c24b0 : decide ((rd y493 (rd x6_1 (rd l0 x8_1))) < (x6_1.length : Int)) = true := decide_eq_true c24
                                  clear c24
                                  obtain ⟨y497, hy497⟩ : ∃ y_ : List Int, y_ = (y496.set ((rd y493 (rd x6_1 (rd l0 x8_1))) : Int).toNat (rd x6_1 (rd l0 x8_1))) := ⟨_, rfl⟩
                                  replace H : (perm_Draws.l0 k1 l0 y493 y497 y487 (wrap64 (x8_1 - 1))) = some (r1, r2) := by first | (rw [hy497]; with_reducible exact H) | (have H2_ := (Option.bind_some _ _).symm.trans H; rw [hy497]; with_reducible exact H2_) | (have H2_ := (Option.bind_some _ _).symm.trans H; with_reducible exact H2_) | with_reducible exact H | (rw [hy497]; exact H) | exact H
                                  have Ny497 := Aside0.mk hy497
                                  clear hy497
                                  have H' := Aside0.mk H
                                  clear H
                                  have p485 : 0 ≤ (x8_1 : Int) := of_decide_eq_true (by first | (with_reducible assumption) | assumption)
                                  have q485 : x8_1 < (l0.length : Int) := of_decide_eq_true (by first | (with_reducible assumption) | assumption)
                                  obtain ⟨ad485, e485, hx485_0⟩ := Kd.at_int HR0.out x8_1 p485 q485
                                  cases e485
                                  (try (replace hx485_0 := (HB.out.cell (World.block_lt_of_cell? w _ hx485_0)).trans hx485_0))
                                  replace p485 := eq_true p485
                                  replace q485 := eq_true q485
                                  obtain ⟨Ao26, co26, eo26⟩ := Kd.R_slice HO_6.out
                                  subst eo26
                                  have p486 : 0 ≤ ((rd l0 x8_1) : Int) := of_decide_eq_true (by first | (with_reducible assumption) | assumption)
                                  have q486 : (rd l0 x8_1) < (x6_1.length : Int) := of_decide_eq_true (by first | (with_reducible assumption) | assumption)
                                  obtain ⟨ad486, e486, hx486_0⟩ := Kd.at_int (Kd.R_reads' HO_6.out).2.2 (rd l0 x8_1) p486 q486
                                  cases e486
                                  replace p486 := eq_true p486
                                  replace q486 := eq_true q486
                                  try go_wp2_with (first | ((with_reducible refine gate_builtin (b := .append) (xs := #[.tmp 32, .tmp 34]) rfl ?_); at_builtin; refine Kd.R_append (Kd.int .i64) (w0 := w) w.heap.size rfl (.tmp 32) (.tmp 34) 22 3 (.int .i64 0) 8 rfl Try.underlying22 info3 rfl (by decide) (by omega) u7 x7_1 (rd x6_1 (rd l0 x8_1)) [.int .i64 (rd x6_1 (rd l0 x8_1))] (fun k_ => some k_ ≠ (v480 : Value).ownBlock ∧ some k_ ≠ (.slice (some ad486) x6_1.length co26 : Value).ownBlock) (fun _ => False) rfl rfl ?aP (fun _ hk => hk.elim) ?aF ?aO ?aB ?aS ?aL ?_; (case aP => exact rfl); (case aB => exact (by repeat (first | (with_reducible first | exact HB.out | apply below_alloc | apply pw_below_drewN | apply below_drew1) | exact HB.out))); (case aF => exact (fun k_ hk => ⟨Kd.fresh' (Kd.R_lt (by (with_reducible repeat (first | apply Kd.R_alloc | apply Kd.R_drewN | apply Kd.R_drew)); exact HO_5.out)) k_ hk, Kd.fresh' (Kd.R_lt (by (with_reducible repeat (first | apply Kd.R_alloc | apply Kd.R_drewN | apply Kd.R_drew)); exact HO_6.out)) k_ hk⟩)); (case aO => exact (by (with_reducible repeat (first | apply Kd.R_alloc | apply Kd.R_drewN | apply Kd.R_drew)); exact HO_7.out)); (case aS => exact (below_size (by repeat (first | (with_reducible first | exact HB.out | apply below_alloc | apply pw_below_drewN | apply below_drew1) | exact HB.out)))); (case aL => have := LMc14.out; omega); intro v488 w27 ho hb hg hat; rw [← Ny487.out] at ho; have n0_ := Aside0.mk (Kd.R_after (ok := (fun k_ => some k_ ≠ (.slice (some ad486) x6_1.length co26 : Value).ownBlock)) (by (with_reducible repeat (first | apply Kd.R_alloc | apply Kd.R_drewN | apply Kd.R_drew)); exact HO_5.out) hg hat); have n1_ := Aside0.mk (Kd.R_after (ok := (fun k_ => some k_ ≠ (v480 : Value).ownBlock)) (by (with_reducible repeat (first | apply Kd.R_alloc | apply Kd.R_drewN | apply Kd.R_drew)); exact HO_6.out) hg hat); have n2_ := Aside0.mk (hb); have n3_ := Aside0.mk (ho); clear HO_5; clear HO_6; clear HB; clear HO_7; have HO_5 := n0_; have HO_6 := n1_; have HB := n2_; have HO489 := n3_; clear n0_ n1_ n2_ n3_; clear ho hb hg hat))
                                  have n0_ := Aside0.mk (Kd.R_drew HO_5.out)
                                  have n1_ := Aside0.mk (Kd.R_drew HO_6.out)
                                  have n2_ := Aside0.mk (Kd.R_drew HO489.out)
                                  have n3_ := Aside0.mk (below_drew1 HB.out)
                                  clear HO_5
                                  clear HO_6
                                  clear HO489
                                  clear HB
                                  have HO_5 := n0_
                                  have HO_6 := n1_
                                  have HO489 := n2_
                                  have HB := n3_
                                  clear n0_ n1_ n2_ n3_
                                  obtain ⟨Ao29, co29, eo29⟩ := Kd.R_slice HO_5.out
                                  (first | subst eo29 | (injection eo29 with f1_ f2_ f3_; have f4_ := f1_.symm; have f5_ := f3_.symm; clear f1_ f2_ f3_; subst f4_; subst f5_))
                                  have p490 : 0 ≤ ((rd x6_1 (rd l0 x8_1)) : Int) := of_decide_eq_true (by first | (with_reducible assumption) | assumption)
                                  have q490 : (rd x6_1 (rd l0 x8_1)) < (x5_1.length : Int) := of_decide_eq_true (by first | (with_reducible assumption) | assumption)
                                  obtain ⟨ad490, e490, hx490_0⟩ := Kd.at_int (Kd.R_reads' HO_5.out).2.2 (rd x6_1 (rd l0 x8_1)) p490 q490
                                  cases e490
                                  replace p490 := eq_true p490
                                  replace q490 := eq_true q490
                                  have p491 : 0 ≤ (x8_1 : Int) := of_decide_eq_true (by first | (with_reducible assumption) | assumption)
                                  have q491 : x8_1 < (x5_1.length : Int) := of_decide_eq_true (by first | (with_reducible assumption) | assumption)
                                  obtain ⟨ad491, e491, hx491_0⟩ := Kd.at_int (Kd.R_reads' HO_5.out).2.2 x8_1 p491 q491
                                  obtain rfl : ad490 = ad491 := (by injection e491)
                                  replace p491 := eq_true p491
                                  replace q491 := eq_true q491
                                  have p18 : 0 ≤ (x8_1 : Int) := of_decide_eq_true (by first | (with_reducible assumption) | assumption)
                                  have q18 : (x8_1 : Int) < ((x5_1.length : Int) : Int) := of_decide_eq_true (by first | (with_reducible assumption) | assumption)
                                  obtain ⟨go18, co18, eo18, gb18, gl18, cl18, HG18⟩ := Kd.R_form HO_5.out (by omega)
                                  (first | cases eo18 | (injection eo18 with ea_ en_ ec_; (first | subst ea_ | (injection ea_ with ea_; subst ea_)); subst ec_; clear en_))
                                  have GB18 := Aside0.mk gb18
                                  have GG18 := Aside0.mk HG18
                                  clear gb18 gl18 HG18
                                  (first | simp only [add_plain] at hx490_0 | skip)
                                  (first | simp only [add_plain] at hx491_0 | skip)
                                  obtain ⟨hx18_0, hf18_0⟩ := Kd.R_celln 0 HO_5.out (x8_1 : Int) p18 q18
                                  replace p18 := eq_true p18
                                  replace q18 := eq_true q18
                                  have HP30 := Kd.R_putn HO_5.out (x8_1 : Int) (rd x5_1 (rd x6_1 (rd l0 x8_1)))
                                  rw [← Ny492.out] at HP30
                                  have HQ30 := Aside0.mk HP30
                                  clear HP30
                                  have p19 : 0 ≤ ((rd x6_1 (rd l0 x8_1)) : Int) := of_decide_eq_true (by first | (with_reducible assumption) | assumption)
                                  have q19 : ((rd x6_1 (rd l0 x8_1)) : Int) < ((x5_1.length : Int) : Int) := of_decide_eq_true (by first | (with_reducible assumption) | assumption)
                                  obtain ⟨hx19_0, hf19_0⟩ := Kd.R_celln 0 HQ30.out ((rd x6_1 (rd l0 x8_1)) : Int) p19 q19
                                  replace p19 := eq_true p19
                                  replace q19 := eq_true q19
                                  have HP31 := Kd.R_putn HQ30.out ((rd x6_1 (rd l0 x8_1)) : Int) (rd x5_1 x8_1)
                                  rw [← Ny493.out] at HP31
                                  have HQ31 := Aside0.mk HP31
                                  clear HP31
                                  refine start_ (n := 16) (S := fun w' => w'.cell? ⟨go18, ((rd x6_1 (rd l0 x8_1))).toNat, none⟩ = some (.int .i64 (rd x5_1 (rd x6_1 (rd l0 x8_1)))) ∧ w'.cell? ⟨go18, (x8_1).toNat, none⟩ = some (.int .i64 (rd x5_1 x8_1))) (ds := [13, 15]) #[false, false, false, false, false, false, false, false, false, false, false, false, false, false, false, false] (by kernel_rfl) rfl rfl ⟨hx490_0, hx491_0⟩ (fun hHeld => ?_); refine with_tabW perm_Draws.tab11 perm_Draws.bits11 (fun HT_ HW_ => ?_)
                                  generalize w27.drew = w28 at HO_5 HO_6 HO489 HB GG18 HQ30 HQ31 hf18_0 hf19_0 hx18_0 hx19_0 hx490_0 hx491_0 hHeld ⊢
                                  refine pure_ (i := 0) (N := some 36) (v := ?_) (a' := ?_) #[true, false, false, false, false, false, false, false, false, false, false, false, false, false, false, false] rfl rfl (any_of HT_.out (by kernel_rfl)) (fun _ _ _ h => h) (Or.inl ⟨by rfl, ?_⟩) ?_ ?_
                                  rotate_left
                                  · intro w'
                                    go_simp
                                    with_reducible rfl
                                  rotate_left
                                  · simp only [Act.put, List.setIfInBounds_toArray, List.set_cons_zero, List.set_cons_succ, i64_w, i32_w]
                                    rfl
                                  refine pure_ (i := 1) (N := some 37) (v := ?_) (a' := ?_) #[true, true, false, false, false, false, false, false, false, false, false, false, false, false, false, false] rfl rfl (any_of HT_.out (by kernel_rfl)) (fun _ _ _ h => h) (Or.inl ⟨by rfl, ?_⟩) ?_ ?_
                                  rotate_left
                                  · intro w'
                                    go_simp
                                    with_reducible rfl
                                  rotate_left
                                  · simp only [Act.put, List.setIfInBounds_toArray, List.set_cons_zero, List.set_cons_succ, i64_w, i32_w]
                                    rfl
                                  refine pure_ (i := 2) (N := some 38) (v := ?_) (a' := ?_) #[true, true, true, false, false, false, false, false, false, false, false, false, false, false, false, false] rfl rfl (any_of HT_.out (by kernel_rfl)) (fun _ _ _ h => h) (Or.inl ⟨by rfl, ?_⟩) ?_ ?_
                                  rotate_left
                                  · intro w'
                                    go_simp
                                    with_reducible rfl
                                  rotate_left
                                  · simp only [Act.put, List.setIfInBounds_toArray, List.set_cons_zero, List.set_cons_succ, i64_w, i32_w]
                                    rfl
                                  refine pure_ (i := 3) (N := some 39) (v := ?_) (a' := ?_) #[true, true, true, true, false, false, false, false, false, false, false, false, false, false, false, false] rfl rfl (any_of HT_.out (by kernel_rfl)) (fun _ _ _ h => h) (Or.inl ⟨by rfl, ?_⟩) ?_ ?_
                                  rotate_left
                                  · intro w'
                                    go_simp
                                    with_reducible rfl
                                  rotate_left
                                  · simp only [Act.put, List.setIfInBounds_toArray, List.set_cons_zero, List.set_cons_succ, i64_w, i32_w]
                                    rfl
                                  refine pure_ (i := 4) (N := some 40) (v := ?_) (a' := ?_) #[true, true, true, true, true, false, false, false, false, false, false, false, false, false, false, false] rfl rfl (any_of HT_.out (by kernel_rfl)) (fun _ _ _ h => h) (Or.inl ⟨by rfl, ?_⟩) ?_ ?_
                                  rotate_left
                                  · intro w'
                                    go_simp
                                    with_reducible rfl
                                  rotate_left
                                  · simp only [Act.put, List.setIfInBounds_toArray, List.set_cons_zero, List.set_cons_succ, i64_w, i32_w]
                                    rfl
                                  refine pure_ (i := 5) (N := some 41) (v := ?_) (a' := ?_) #[true, true, true, true, true, true, false, false, false, false, false, false, false, false, false, false] rfl rfl (any_of HT_.out (by kernel_rfl)) (fun _ _ _ h => h) (Or.inl ⟨by rfl, ?_⟩) ?_ ?_
                                  rotate_left
                                  · intro w'
                                    go_simp
                                    with_reducible rfl
                                  rotate_left
                                  · simp only [Act.put, List.setIfInBounds_toArray, List.set_cons_zero, List.set_cons_succ, i64_w, i32_w]
                                    rfl
                                  refine pure_ (i := 6) (N := some 42) (v := ?_) (a' := ?_) #[true, true, true, true, true, true, true, false, false, false, false, false, false, false, false, false] rfl rfl (any_of HT_.out (by kernel_rfl)) (fun _ _ _ h => h) (Or.inl ⟨by rfl, ?_⟩) ?_ ?_
                                  rotate_left
                                  · intro w'
                                    go_simp
                                    with_reducible rfl
                                  rotate_left
                                  · simp only [Act.put, List.setIfInBounds_toArray, List.set_cons_zero, List.set_cons_succ, i64_w, i32_w]
                                    rfl
                                  refine pure_ (i := 8) (N := some 44) (v := ?_) (a' := ?_) #[true, true, true, true, true, true, true, false, true, false, false, false, false, false, false, false] rfl rfl (any_of HT_.out (by kernel_rfl)) (fun _ _ _ h => h) (Or.inl ⟨by rfl, ?_⟩) ?_ ?_
                                  rotate_left
                                  · intro w'
                                    go_simp
                                    with_reducible rfl
                                  rotate_left
                                  · simp only [Act.put, List.setIfInBounds_toArray, List.set_cons_zero, List.set_cons_succ, i64_w, i32_w]
                                    rfl
                                  refine pure_ (i := 9) (N := some 45) (v := ?_) (a' := ?_) #[true, true, true, true, true, true, true, false, true, true, false, false, false, false, false, false] rfl rfl (any_of HT_.out (by kernel_rfl)) (fun _ _ _ h => h) (Or.inl ⟨by rfl, ?_⟩) ?_ ?_
                                  rotate_left
                                  · intro w'
                                    go_simp
                                    with_reducible rfl
                                  rotate_left
                                  · simp only [Act.put, List.setIfInBounds_toArray, List.set_cons_zero, List.set_cons_succ, i64_w, i32_w]
                                    rfl
                                  refine pure_ (i := 10) (N := some 46) (v := ?_) (a' := ?_) #[true, true, true, true, true, true, true, false, true, true, true, false, false, false, false, false] rfl rfl (any_of HT_.out (by kernel_rfl)) (fun _ _ _ h => h) (Or.inl ⟨by rfl, ?_⟩) ?_ ?_
                                  rotate_left
                                  · intro w'
                                    go_simp
                                    with_reducible rfl
                                  rotate_left
                                  · simp only [Act.put, List.setIfInBounds_toArray, List.set_cons_zero, List.set_cons_succ, i64_w, i32_w]
                                    rfl
                                  refine take_ (i := 7) (N := some 43) (v := ?_) (a' := ?_) #[true, true, true, true, true, true, true, true, true, true, true, false, false, false, false, false] rfl rfl (take_ofW HT_.out HW_.out (by kernel_rfl)) (fun _ _ _ h => h) (Or.inl ⟨by rfl, ?_⟩) hHeld ?_ ?_
                                  rotate_left
                                  · rintro w' ⟨s0, s1⟩
                                    go_simp
                                    with_reducible rfl
                                  rotate_left
                                  · simp only [Act.put, List.setIfInBounds_toArray, List.set_cons_zero, List.set_cons_succ, i64_w, i32_w]
                                    rfl
                                  refine take_ (i := 11) (N := some 47) (v := ?_) (a' := ?_) #[true, true, true, true, true, true, true, true, true, true, true, true, false, false, false, false] rfl rfl (take_ofW HT_.out HW_.out (by kernel_rfl)) (fun _ _ _ h => h) (Or.inl ⟨by rfl, ?_⟩) hHeld ?_ ?_
                                  rotate_left
                                  · rintro w' ⟨s0, s1⟩
                                    go_simp
                                    with_reducible rfl
                                  rotate_left
                                  · simp only [Act.put, List.setIfInBounds_toArray, List.set_cons_zero, List.set_cons_succ, i64_w, i32_w]
                                    rfl
                                  refine pure_ (i := 12) (N := some 48) (v := ?_) (a' := ?_) #[true, true, true, true, true, true, true, true, true, true, true, true, true, false, false, false] rfl rfl (any_of HT_.out (by kernel_rfl)) (fun _ _ _ h => h) (Or.inl ⟨by rfl, ?_⟩) ?_ ?_
                                  rotate_left
                                  · intro w'
                                    go_simp
                                    with_reducible rfl
                                  rotate_left
                                  · simp only [Act.put, List.setIfInBounds_toArray, List.set_cons_zero, List.set_cons_succ, i64_w, i32_w]
                                    rfl
                                  refine last_ (i := 13) (N := none) #[true, true, true, true, true, true, true, true, true, true, true, true, true, true, false, false] rfl rfl (one_of HT_.out (by kernel_rfl)) (by decide) (fun K hK => ?_)
                                  refine skip_ (w1 := ?_) (by rfl) rfl ?_ ?_
                                  rotate_left
                                  · go_simp
                                    rfl
                                  refine hK.out _ _ ?_
                                  clear hK K
                                  refine pure_ (i := 14) (N := some 49) (v := ?_) (a' := ?_) #[true, true, true, true, true, true, true, true, true, true, true, true, true, true, true, false] rfl rfl (any_of HT_.out (by kernel_rfl)) (fun _ _ _ h => h) (Or.inl ⟨by rfl, ?_⟩) ?_ ?_
                                  rotate_left
                                  · intro w'
                                    go_simp
                                    with_reducible rfl
                                  rotate_left
                                  · simp only [Act.put, List.setIfInBounds_toArray, List.set_cons_zero, List.set_cons_succ, i64_w, i32_w]
                                    rfl
                                  refine last_ (i := 15) (N := none) #[true, true, true, true, true, true, true, true, true, true, true, true, true, true, true, true] rfl rfl (one_of HT_.out (by kernel_rfl)) (by decide) (fun K hK => ?_)
                                  refine skip_ (w1 := ?_) (by rfl) rfl ?_ ?_
                                  rotate_left
                                  · go_simp
                                    rfl
                                  refine hK.out _ _ ?_
                                  clear hK K
                                  refine done_ (done_of HT_.out (by kernel_rfl)) ?_
                                  try go_wp2
                                  have n0_ : Aside0 (Kd.R (Kd.int .i64) 3 ((w28.setCell ⟨go18, (x8_1 : Int).toNat, none⟩ (.int .i64 (rd x5_1 (rd x6_1 (rd l0 x8_1))))).setCell ⟨go18, ((rd x6_1 (rd l0 x8_1)) : Int).toNat, none⟩ (.int .i64 (rd x5_1 x8_1))) w.heap.size (fun k_ => some k_ ≠ (.slice (some ad486) x6_1.length co26 : Value).ownBlock ∧ some k_ ≠ (v488 : Value).ownBlock) (.slice (some ⟨go18, 0, none⟩) x5_1.length co29) y493) := ⟨by (with_reducible repeat (first | apply Kd.R_alloc | apply Kd.R_drewN | apply Kd.R_drew)); exact HQ31.out⟩
                                  have n1_ : Aside0 (Kd.R (Kd.int .i64) 3 ((w28.setCell ⟨go18, (x8_1 : Int).toNat, none⟩ (.int .i64 (rd x5_1 (rd x6_1 (rd l0 x8_1))))).setCell ⟨go18, ((rd x6_1 (rd l0 x8_1)) : Int).toNat, none⟩ (.int .i64 (rd x5_1 x8_1))) w.heap.size (fun k_ => some k_ ≠ (.slice (some ⟨go18, 0, none⟩) x5_1.length co29 : Value).ownBlock ∧ some k_ ≠ (v488 : Value).ownBlock) (.slice (some ad486) x6_1.length co26) x6_1) := ⟨by (with_reducible repeat (first | apply Kd.R_alloc | apply Kd.R_drewN | apply Kd.R_drew)); exact Kd.R_mono (Kd.R_far (p := ⟨go18, ((rd x6_1 (rd l0 x8_1)) : Int).toNat, none⟩) (Kd.R_far (p := ⟨go18, (x8_1 : Int).toNat, none⟩) (Kd.R_mono HO_6.out (fun k_ hk => (⟨hk, fun e_ => hk.1 (by rw [e_]; rfl)⟩ : _ ∧ k_ ≠ go18))) (fun _ hk => hk.2) (.int .i64 (rd x5_1 (rd x6_1 (rd l0 x8_1))))) (fun _ hk => hk.2) (.int .i64 (rd x5_1 x8_1))) (fun _ hk => ⟨hk.1.1, hk.1.2⟩)⟩
                                  have n2_ : Aside0 (Kd.R (Kd.int .i64) 3 ((w28.setCell ⟨go18, (x8_1 : Int).toNat, none⟩ (.int .i64 (rd x5_1 (rd x6_1 (rd l0 x8_1))))).setCell ⟨go18, ((rd x6_1 (rd l0 x8_1)) : Int).toNat, none⟩ (.int .i64 (rd x5_1 x8_1))) w.heap.size (fun k_ => some k_ ≠ (.slice (some ⟨go18, 0, none⟩) x5_1.length co29 : Value).ownBlock ∧ some k_ ≠ (.slice (some ad486) x6_1.length co26 : Value).ownBlock) v488 y487) := ⟨by (with_reducible repeat (first | apply Kd.R_alloc | apply Kd.R_drewN | apply Kd.R_drew)); exact Kd.R_mono (Kd.R_far (p := ⟨go18, ((rd x6_1 (rd l0 x8_1)) : Int).toNat, none⟩) (Kd.R_far (p := ⟨go18, (x8_1 : Int).toNat, none⟩) (Kd.R_mono HO489.out (fun k_ hk => (⟨hk, fun e_ => hk.1 (by rw [e_]; rfl)⟩ : _ ∧ k_ ≠ go18))) (fun _ hk => hk.2) (.int .i64 (rd x5_1 (rd x6_1 (rd l0 x8_1))))) (fun _ hk => hk.2) (.int .i64 (rd x5_1 x8_1))) (fun _ hk => ⟨hk.1.1, hk.1.2⟩)⟩
                                  have n3_ : Aside0 (Below w.heap.size w ((w28.setCell ⟨go18, (x8_1 : Int).toNat, none⟩ (.int .i64 (rd x5_1 (rd x6_1 (rd l0 x8_1))))).setCell ⟨go18, ((rd x6_1 (rd l0 x8_1)) : Int).toNat, none⟩ (.int .i64 (rd x5_1 x8_1)))) := ⟨by repeat (first | (with_reducible first | exact HB.out | apply below_alloc | apply pw_below_drewN | apply below_drew1 | refine below_set ?_ GB18.out | refine below_set ?_ GB18.out) | exact HB.out)⟩
                                  (try clear HO_5)
                                  (try clear HO_6)
                                  (try clear HO489)
                                  (try clear HB)
                                  generalize ((w28.setCell ⟨go18, (x8_1 : Int).toNat, none⟩ (.int .i64 (rd x5_1 (rd x6_1 (rd l0 x8_1))))).setCell ⟨go18, ((rd x6_1 (rd l0 x8_1)) : Int).toNat, none⟩ (.int .i64 (rd x5_1 x8_1))) = w32 at n0_ n1_ n2_ n3_ ⊢
                                  have HO_5 := n0_
                                  have HO_6 := n1_
                                  have HO489 := n2_
                                  have HB := n3_
                                  clear n0_ n1_ n2_ n3_
                                  have n0_ := Aside0.mk (Kd.R_drew HO_5.out)
                                  have n1_ := Aside0.mk (Kd.R_drew HO_6.out)
                                  have n2_ := Aside0.mk (Kd.R_drew HO489.out)
                                  have n3_ := Aside0.mk (below_drew1 HB.out)
                                  clear HO_5
                                  clear HO_6
                                  clear HO489
                                  clear HB
                                  have HO_5 := n0_
                                  have HO_6 := n1_
                                  have HO489 := n2_
                                  have HB := n3_
                                  clear n0_ n1_ n2_ n3_
                                  have p494 : 0 ≤ (x8_1 : Int) := of_decide_eq_true (by first | (with_reducible assumption) | assumption)
                                  have q494 : x8_1 < (y493.length : Int) := (by have h_ : (x8_1 : Int) < ((x5_1.length : Int) : Int) := of_decide_eq_true (by first | (with_reducible assumption) | assumption); first | (have e_ := (Kd.R_reads' HO_5.out).1; omega) | simpa only [Ny492.out, Ny493.out, List.length_set] using h_)
                                  have ql494 : ((x8_1 : Int) < ((x5_1.length : Int) : Int)) = True := eq_true (of_decide_eq_true (by first | (with_reducible assumption) | assumption))
                                  obtain ⟨ad494, e494, hx494_0⟩ := Kd.at_int (Kd.R_reads' HO_5.out).2.2 x8_1 p494 q494
                                  obtain rfl : (⟨go18, 0, none⟩ : Addr) = ad494 := (by injection e494)
                                  (first | simp only [add_plain] at hx494_0 | simp only [add_at] at hx494_0 | simp only [Addr.add, Nat.zero_add] at hx494_0 | skip)
                                  replace p494 := eq_true p494
                                  replace q494 := eq_true q494
                                  have p495 : 0 ≤ ((rd x6_1 (rd l0 x8_1)) : Int) := of_decide_eq_true (by first | (with_reducible assumption) | assumption)
                                  have q495 : (rd x6_1 (rd l0 x8_1)) < (y493.length : Int) := (by have h_ : ((rd x6_1 (rd l0 x8_1)) : Int) < ((x5_1.length : Int) : Int) := of_decide_eq_true (by first | (with_reducible assumption) | assumption); first | (have e_ := (Kd.R_reads' HO_5.out).1; omega) | simpa only [Ny492.out, Ny493.out, List.length_set] using h_)
                                  have ql495 : (((rd x6_1 (rd l0 x8_1)) : Int) < ((x5_1.length : Int) : Int)) = True := eq_true (of_decide_eq_true (by first | (with_reducible assumption) | assumption))
                                  obtain ⟨ad495, e495, hx495_0⟩ := Kd.at_int (Kd.R_reads' HO_5.out).2.2 (rd x6_1 (rd l0 x8_1)) p495 q495
                                  obtain rfl : (⟨go18, 0, none⟩ : Addr) = ad495 := (by injection e495)
                                  (first | simp only [add_plain] at hx495_0 | simp only [add_at] at hx495_0 | simp only [Addr.add, Nat.zero_add] at hx495_0 | skip)
                                  replace p495 := eq_true p495
                                  replace q495 := eq_true q495
                                  have p22 : 0 ≤ ((rd y493 x8_1) : Int) := of_decide_eq_true (by first | (with_reducible assumption) | assumption)
                                  have q22 : ((rd y493 x8_1) : Int) < ((x6_1.length : Int) : Int) := of_decide_eq_true (by first | (with_reducible assumption) | assumption)
                                  obtain ⟨go22, co22, eo22, gb22, gl22, cl22, HG22⟩ := Kd.R_form HO_6.out (by omega)
                                  (first | cases eo22 | (injection eo22 with ea_ en_ ec_; (first | subst ea_ | (injection ea_ with ea_; subst ea_)); subst ec_; clear en_))
                                  have GB22 := Aside0.mk gb22
                                  have GG22 := Aside0.mk HG22
                                  clear gb22 gl22 HG22
                                  (first | simp only [add_plain] at hx486_0 | skip)
                                  obtain ⟨hx22_0, hf22_0⟩ := Kd.R_celln 0 HO_6.out ((rd y493 x8_1) : Int) p22 q22
                                  replace p22 := eq_true p22
                                  replace q22 := eq_true q22
                                  have HP34 := Kd.R_putn HO_6.out ((rd y493 x8_1) : Int) x8_1
                                  rw [← Ny496.out] at HP34
                                  have HQ34 := Aside0.mk HP34
                                  clear HP34
                                  have p25 : 0 ≤ ((rd y493 (rd x6_1 (rd l0 x8_1))) : Int) := of_decide_eq_true (by first | (with_reducible assumption) | assumption)
                                  have q25 : ((rd y493 (rd x6_1 (rd l0 x8_1))) : Int) < ((x6_1.length : Int) : Int) := of_decide_eq_true (by first | (with_reducible assumption) | assumption)
                                  obtain ⟨hx25_0, hf25_0⟩ := Kd.R_celln 0 HQ34.out ((rd y493 (rd x6_1 (rd l0 x8_1))) : Int) p25 q25
                                  replace p25 := eq_true p25
                                  replace q25 := eq_true q25
                                  have HP35 := Kd.R_putn HQ34.out ((rd y493 (rd x6_1 (rd l0 x8_1))) : Int) (rd x6_1 (rd l0 x8_1))
                                  rw [← Ny497.out] at HP35
                                  have HQ35 := Aside0.mk HP35
                                  clear HP35
                                  refine start_ (n := 16) (S := fun w' => w'.cell? ⟨go18, (x8_1).toNat, none⟩ = some (.int .i64 (rd y493 x8_1)) ∧ w'.cell? ⟨go18, ((rd x6_1 (rd l0 x8_1))).toNat, none⟩ = some (.int .i64 (rd y493 (rd x6_1 (rd l0 x8_1))))) (ds := [13, 15]) #[false, false, false, false, false, false, false, false, false, false, false, false, false, false, false, false] (by kernel_rfl) rfl rfl ⟨hx494_0, hx495_0⟩ (fun hHeld => ?_); refine with_tabW perm_Draws.tab12 perm_Draws.bits12 (fun HT_ HW_ => ?_)
                                  generalize w32.drew = w33 at HO_5 HO_6 HO489 HB GG22 HQ31 HQ34 HQ35 hf22_0 hf25_0 hx22_0 hx25_0 hx486_0 hx494_0 hx495_0 hHeld ⊢
                                  refine pure_ (i := 0) (N := some 50) (v := ?_) (a' := ?_) #[true, false, false, false, false, false, false, false, false, false, false, false, false, false, false, false] rfl rfl (any_of HT_.out (by kernel_rfl)) (fun _ _ _ h => h) (Or.inl ⟨by rfl, ?_⟩) ?_ ?_
                                  rotate_left
                                  · intro w'
                                    go_simp
                                    with_reducible rfl
                                  rotate_left
                                  · simp only [Act.put, List.setIfInBounds_toArray, List.set_cons_zero, List.set_cons_succ, i64_w, i32_w]
                                    rfl
                                  refine pure_ (i := 1) (N := some 51) (v := ?_) (a' := ?_) #[true, true, false, false, false, false, false, false, false, false, false, false, false, false, false, false] rfl rfl (any_of HT_.out (by kernel_rfl)) (fun _ _ _ h => h) (Or.inl ⟨by rfl, ?_⟩) ?_ ?_
                                  rotate_left
                                  · intro w'
                                    go_simp
                                    with_reducible rfl
                                  rotate_left
                                  · simp only [Act.put, List.setIfInBounds_toArray, List.set_cons_zero, List.set_cons_succ, i64_w, i32_w]
                                    rfl
                                  refine pure_ (i := 2) (N := some 52) (v := ?_) (a' := ?_) #[true, true, true, false, false, false, false, false, false, false, false, false, false, false, false, false] rfl rfl (any_of HT_.out (by kernel_rfl)) (fun _ _ _ h => h) (Or.inl ⟨by rfl, ?_⟩) ?_ ?_
                                  rotate_left
                                  · intro w'
                                    go_simp
                                    with_reducible rfl
                                  rotate_left
                                  · simp only [Act.put, List.setIfInBounds_toArray, List.set_cons_zero, List.set_cons_succ, i64_w, i32_w]
                                    rfl
                                  refine pure_ (i := 3) (N := some 53) (v := ?_) (a' := ?_) #[true, true, true, true, false, false, false, false, false, false, false, false, false, false, false, false] rfl rfl (any_of HT_.out (by kernel_rfl)) (fun _ _ _ h => h) (Or.inl ⟨by rfl, ?_⟩) ?_ ?_
                                  rotate_left
                                  · intro w'
                                    go_simp
                                    with_reducible rfl
                                  rotate_left
                                  · simp only [Act.put, List.setIfInBounds_toArray, List.set_cons_zero, List.set_cons_succ, i64_w, i32_w]
                                    rfl
                                  refine pure_ (i := 5) (N := some 55) (v := ?_) (a' := ?_) #[true, true, true, true, false, true, false, false, false, false, false, false, false, false, false, false] rfl rfl (any_of HT_.out (by kernel_rfl)) (fun _ _ _ h => h) (Or.inl ⟨by rfl, ?_⟩) ?_ ?_
                                  rotate_left
                                  · intro w'
                                    go_simp
                                    with_reducible rfl
                                  rotate_left
                                  · simp only [Act.put, List.setIfInBounds_toArray, List.set_cons_zero, List.set_cons_succ, i64_w, i32_w]
                                    rfl
                                  refine pure_ (i := 6) (N := some 56) (v := ?_) (a' := ?_) #[true, true, true, true, false, true, true, false, false, false, false, false, false, false, false, false] rfl rfl (any_of HT_.out (by kernel_rfl)) (fun _ _ _ h => h) (Or.inl ⟨by rfl, ?_⟩) ?_ ?_
                                  rotate_left
                                  · intro w'
                                    go_simp
                                    with_reducible rfl
                                  rotate_left
                                  · simp only [Act.put, List.setIfInBounds_toArray, List.set_cons_zero, List.set_cons_succ, i64_w, i32_w]
                                    rfl
                                  refine pure_ (i := 7) (N := some 57) (v := ?_) (a' := ?_) #[true, true, true, true, false, true, true, true, false, false, false, false, false, false, false, false] rfl rfl (any_of HT_.out (by kernel_rfl)) (fun _ _ _ h => h) (Or.inl ⟨by rfl, ?_⟩) ?_ ?_
                                  rotate_left
                                  · intro w'
                                    go_simp
                                    with_reducible rfl
                                  rotate_left
                                  · simp only [Act.put, List.setIfInBounds_toArray, List.set_cons_zero, List.set_cons_succ, i64_w, i32_w]
                                    rfl
                                  refine pure_ (i := 8) (N := some 58) (v := ?_) (a' := ?_) #[true, true, true, true, false, true, true, true, true, false, false, false, false, false, false, false] rfl rfl (any_of HT_.out (by kernel_rfl)) (fun _ _ _ h => h) (Or.inl ⟨by rfl, ?_⟩) ?_ ?_
                                  rotate_left
                                  · intro w'
                                    go_simp
                                    with_reducible rfl
                                  rotate_left
                                  · simp only [Act.put, List.setIfInBounds_toArray, List.set_cons_zero, List.set_cons_succ, i64_w, i32_w]
                                    rfl
                                  refine pure_ (i := 10) (N := some 60) (v := ?_) (a' := ?_) #[true, true, true, true, false, true, true, true, true, false, true, false, false, false, false, false] rfl rfl (any_of HT_.out (by kernel_rfl)) (fun _ _ _ h => h) (Or.inl ⟨by rfl, ?_⟩) ?_ ?_
                                  rotate_left
                                  · intro w'
                                    go_simp
                                    with_reducible rfl
                                  rotate_left
                                  · simp only [Act.put, List.setIfInBounds_toArray, List.set_cons_zero, List.set_cons_succ, i64_w, i32_w]
                                    rfl
                                  refine pure_ (i := 11) (N := some 61) (v := ?_) (a' := ?_) #[true, true, true, true, false, true, true, true, true, false, true, true, false, false, false, false] rfl rfl (any_of HT_.out (by kernel_rfl)) (fun _ _ _ h => h) (Or.inl ⟨by rfl, ?_⟩) ?_ ?_
                                  rotate_left
                                  · intro w'
                                    go_simp
                                    with_reducible rfl
                                  rotate_left
                                  · simp only [Act.put, List.setIfInBounds_toArray, List.set_cons_zero, List.set_cons_succ, i64_w, i32_w]
                                    rfl
                                  refine take_ (i := 4) (N := some 54) (v := ?_) (a' := ?_) #[true, true, true, true, true, true, true, true, true, false, true, true, false, false, false, false] rfl rfl (take_ofW HT_.out HW_.out (by kernel_rfl)) (fun _ _ _ h => h) (Or.inl ⟨by rfl, ?_⟩) hHeld ?_ ?_
                                  rotate_left
                                  · rintro w' ⟨s0, s1⟩
                                    go_simp
                                    with_reducible rfl
                                  rotate_left
                                  · simp only [Act.put, List.setIfInBounds_toArray, List.set_cons_zero, List.set_cons_succ, i64_w, i32_w]
                                    rfl
                                  refine take_ (i := 9) (N := some 59) (v := ?_) (a' := ?_) #[true, true, true, true, true, true, true, true, true, true, true, true, false, false, false, false] rfl rfl (take_ofW HT_.out HW_.out (by kernel_rfl)) (fun _ _ _ h => h) (Or.inl ⟨by rfl, ?_⟩) hHeld ?_ ?_
                                  rotate_left
                                  · rintro w' ⟨s0, s1⟩
                                    go_simp
                                    with_reducible rfl
                                  rotate_left
                                  · simp only [Act.put, List.setIfInBounds_toArray, List.set_cons_zero, List.set_cons_succ, i64_w, i32_w]
                                    rfl
                                  refine pure_ (i := 12) (N := some 62) (v := ?_) (a' := ?_) #[true, true, true, true, true, true, true, true, true, true, true, true, true, false, false, false] rfl rfl (any_of HT_.out (by kernel_rfl)) (fun _ _ _ h => h) (Or.inl ⟨by rfl, ?_⟩) ?_ ?_
                                  rotate_left
                                  · intro w'
                                    go_simp
                                    with_reducible rfl
                                  rotate_left
                                  · simp only [Act.put, List.setIfInBounds_toArray, List.set_cons_zero, List.set_cons_succ, i64_w, i32_w]
                                    rfl
                                  refine last_ (i := 13) (N := none) #[true, true, true, true, true, true, true, true, true, true, true, true, true, true, false, false] rfl rfl (one_of HT_.out (by kernel_rfl)) (by decide) (fun K hK => ?_)
                                  refine skip_ (w1 := ?_) (by rfl) rfl ?_ ?_
                                  rotate_left
                                  · go_simp
                                    rfl
                                  refine hK.out _ _ ?_
                                  clear hK K
                                  refine pure_ (i := 14) (N := some 63) (v := ?_) (a' := ?_) #[true, true, true, true, true, true, true, true, true, true, true, true, true, true, true, false] rfl rfl (any_of HT_.out (by kernel_rfl)) (fun _ _ _ h => h) (Or.inl ⟨by rfl, ?_⟩) ?_ ?_
                                  rotate_left
                                  · intro w'
                                    go_simp
                                    with_reducible rfl
                                  rotate_left
                                  · simp only [Act.put, List.setIfInBounds_toArray, List.set_cons_zero, List.set_cons_succ, i64_w, i32_w]
                                    rfl
                                  refine last_ (i := 15) (N := none) #[true, true, true, true, true, true, true, true, true, true, true, true, true, true, true, true] rfl rfl (one_of HT_.out (by kernel_rfl)) (by decide) (fun K hK => ?_)
                                  refine skip_ (w1 := ?_) (by rfl) rfl ?_ ?_
                                  rotate_left
                                  · go_simp
                                    rfl
                                  refine hK.out _ _ ?_
                                  clear hK K
                                  refine done_ (done_of HT_.out (by kernel_rfl)) ?_
                                  try go_wp2
                                  go_roundg k1
                                  case measure => have := HK1.out; omega
                                  case rel => exact ⟨(y493), (y497), (y487), (wrap64 (x8_1 - 1)), (by first | rfl | (simp; done) | (simp [*]; done)), H', ⟨by have := HK1.out; omega⟩, ⟨by (with_reducible repeat (first | apply Kd.R_alloc | apply Kd.R_drewN | apply Kd.R_drew)); exact Kd.R_mono (Kd.R_far (p := ⟨go22, ((rd y493 (rd x6_1 (rd l0 x8_1))) : Int).toNat, none⟩) (Kd.R_far (p := ⟨go22, ((rd y493 x8_1) : Int).toNat, none⟩) (Kd.R_mono HO_5.out (fun k_ hk => (⟨hk, fun e_ => hk.1 (by rw [e_]; rfl)⟩ : _ ∧ k_ ≠ go22))) (fun _ hk => hk.2) (.int .i64 x8_1)) (fun _ hk => hk.2) (.int .i64 (rd x6_1 (rd l0 x8_1)))) (fun _ hk => ⟨hk.1.1, hk.1.2⟩)⟩, ⟨by (with_reducible repeat (first | apply Kd.R_alloc | apply Kd.R_drewN | apply Kd.R_drew)); exact HQ35.out⟩, ⟨by (with_reducible repeat (first | apply Kd.R_alloc | apply Kd.R_drewN | apply Kd.R_drew)); exact Kd.R_mono (Kd.R_far (p := ⟨go22, ((rd y493 (rd x6_1 (rd l0 x8_1))) : Int).toNat, none⟩) (Kd.R_far (p := ⟨go22, ((rd y493 x8_1) : Int).toNat, none⟩) (Kd.R_mono HO489.out (fun k_ hk => (⟨hk, fun e_ => hk.2 (by rw [e_]; rfl)⟩ : _ ∧ k_ ≠ go22))) (fun _ hk => hk.2) (.int .i64 x8_1)) (fun _ hk => hk.2) (.int .i64 (rd x6_1 (rd l0 x8_1)))) (fun _ hk => ⟨hk.1.1, hk.1.2⟩)⟩, ⟨by repeat (first | (with_reducible first | exact HB.out | apply below_alloc | apply pw_below_drewN | apply below_drew1 | refine below_set ?_ GB22.out | refine below_set ?_ GB22.out) | exact HB.out)⟩⟩
                                · rw [if_neg c24] at H
                                  exact absurd H (by simp)
                              · rw [if_neg c23] at H
                                exact absurd H (by simp)
                            · rw [if_neg c21] at H
                              exact absurd H (by simp)
                          · rw [if_neg c20] at H
                            exact absurd H (by simp)
                        · rw [if_neg c17] at H
                          exact absurd H (by simp)
                      · rw [if_neg c16] at H
                        exact absurd H (by simp)
                    · rw [if_neg c15] at H
                      exact absurd H (by simp)
                  · rw [if_neg c14] at H
                    exact absurd H (by simp)
                · rw [if_neg c13] at H
                  exact absurd H (by simp)
              · rw [if_neg c12] at H
                exact absurd H (by simp)
            · rw [if_neg c11] at H
              exact absurd H (by simp)
          · rw [if_neg c10] at H
            exact absurd H (by simp)
        · rw [if_neg c9] at H
          have c9b0 : decide (1 ≤ x8_1) = false := decide_eq_false c9
          clear c9
          simp only [Option.some.injEq, Prod.mk.injEq] at H
          obtain ⟨rfl, rfl⟩ := H
          go_wp2
          go_ret2
          exact ⟨_, by first | rfl | (simp [errW_none, errW_some] <;> rfl) | (simp [*, errW_none, errW_some] <;> rfl), by (with_reducible repeat (first | apply Kd.R_alloc | apply Kd.R_drewN | apply Kd.R_drew)); exact Kd.R_mono HO_7.out (fun _ hk => trivial), by repeat (first | (with_reducible first | exact HB.out | apply below_alloc | apply pw_below_drewN | apply below_drew1) | exact HB.out)⟩
  · replace c3 := Bool.eq_false_iff.mpr c3
    subst c3
    have H1 : (some (([] : List Int), 110)) = some (r1, r2) := by rw [if_neg (show ¬ (false = true) by decide)] at H; exact H
    clear H
    have H := H1
    clear H1
    simp only [Option.some.injEq, Prod.mk.injEq] at H
    obtain ⟨rfl, rfl⟩ := H
    go_enter Try.func33, Try.ntmps33
    go_wp2_with (first | ((with_reducible refine gate_callee (f := 36) rfl ?_); refine goesL_ (some 11) rfl rfl Try.func36 (by kernel_rfl) rfl #[.slice A0 l0.length c0] rfl (by (try simp only [List.map_toArray, List.map_cons, List.map_nil]); first | done | rfl | (simp only [List.length_drop, List.length_take]; rfl)) ?_; (with_reducible refine (perm_fits.calls k _ _ l0 false _ ?side1 ?side2 A2.out).mono ?_); (case side1 => repeat (first | exact HR0.out | (with_reducible refine Kd.C_alloc ?_ _) | (with_reducible refine Kd.C_drewN ?_ _) | (with_reducible refine Kd.C_drew ?_))); (case side2 => exact HC0.out); rintro e w36 ⟨rfl, hb⟩; refine ⟨_, rfl, ?_⟩; have n0_ := Aside0.mk (below_step (by repeat (first | (with_reducible first | exact HB.out | apply below_alloc | apply pw_below_drewN | apply below_drew1) | exact HB.out)) hb); clear HB; have HB := n0_; clear n0_; (try clear hb); (try clear hb2); (try clear hk); (try clear hi)))
    go_ret2
    exact ⟨_, by first | rfl | (simp [errW_none, errW_some] <;> rfl) | (simp [*, errW_none, errW_some] <;> rfl), by first | exact Kd.R_nil _ _ _ _ _ | exact Kd.N_nil _ _ _ _ _ | exact Kd.V_nil _ _ _ _ _ | exact Kd.Q_nil _ _ _ _ _ | exact Kd.S_nil _ _ _ _ _, by repeat (first | (with_reducible first | exact HB.out | apply below_alloc | apply pw_below_drewN | apply below_drew1) | exact HB.out)⟩

end Go.Proofs.Ytmbkgepfpfeahaa.Q
