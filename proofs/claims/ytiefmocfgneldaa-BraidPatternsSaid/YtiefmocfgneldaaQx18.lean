/- Functions of the program as plain Lean functions, each with a proof that its call comes to just these answers, or the row that joins them to the given statement; no condition beside the statement's own. Written for this claim by pf.py, this session's program over the kit's print. -/
import Derived.Test.YtiefmocfgneldaaQx0
import Derived.Test.YtiefmocfgneldaaQx16
namespace Go.Proofs.Ytiefmocfgneldaa.Q
open Go.RowKit Go.Proofs.YtiefmocfgneldaaW.PrintWords Go.Proofs.YtiefmocfgneldaaW.PrintLast Go.Proofs.YtiefmocfgneldaaW.PrintMore
attribute [local go_sem] max2_int min2_int max_two min_two max_three min_three max_four min_four   -- for this text's walks alone
set_option linter.unusedVariables false
set_option linter.unusedSimpArgs false

/-! ### churnref12_Draws: function 24 -/
mutual
def churnref12_Draws.j0 : Nat → List Int → List Int → List Int → Int → Bool → Option (List Int × Int)
  | 0, _, _, _, _, _ => none
  | k + 1, x0, x1, x2, x8, x34 => if x34 = true then (some (([] : List Int), 2)) else (churnref12_Draws.l0 k x0 x1 x2 x8 ([] : List Int) ([] : List Int) 0 0)
def churnref12_Draws.l0 : Nat → List Int → List Int → List Int → Int → List Int → List Int → Int → Int → Option (List Int × Int)
  | 0, _, _, _, _, _, _, _, _ => none
  | k + 1, x0, x1, x2, x8, x9, x10, x11, x12 => if x12 < (x0.length : Int) then (if 0 ≤ x12 then (if x9.length < 17592186044416 then (if x10.length < 17592186044416 then (churnref12_Draws.l0 k x0 x1 x2 x8 (x9 ++ [rd x0 x12]) (x10 ++ [x11]) (wrap64 (x11 + (rd x0 x12))) (wrap64 (x12 + 1))) else (none)) else (none)) else (none)) else (churnref12_Draws.l1 k x0 x1 x2 x8 x9 x10 ([] : List Int) 0)
def churnref12_Draws.l1 : Nat → List Int → List Int → List Int → Int → List Int → List Int → List Int → Int → Option (List Int × Int)
  | 0, _, _, _, _, _, _, _, _ => none
  | k + 1, x0, x1, x2, x8, x9, x10, x13, x14 => if x14 < x8 then (if 0 ≤ x14 then (if x14 < (x1.length : Int) then (if (rd x1 x14) < 0 then (churnref12_Draws.j3 k x0 x1 x2 x8 x9 x10 x13 x14 (rd x1 x14) true) else (if (rd x1 x14) ≥ (x0.length : Int) then (churnref12_Draws.j3 k x0 x1 x2 x8 x9 x10 x13 x14 (rd x1 x14) true) else (if 0 ≤ (rd x1 x14) then (if (rd x1 x14) < (x9.length : Int) then (churnref12_Draws.j3 k x0 x1 x2 x8 x9 x10 x13 x14 (rd x1 x14) ((rd x9 (rd x1 x14)) == 0)) else (none)) else (none)))) else (none)) else (none)) else (some (x13, 0))
def churnref12_Draws.j3 : Nat → List Int → List Int → List Int → Int → List Int → List Int → List Int → Int → Int → Bool → Option (List Int × Int)
  | 0, _, _, _, _, _, _, _, _, _, _ => none
  | k + 1, x0, x1, x2, x8, x9, x10, x13, x14, x15, x81 => if x81 = true then (some (([] : List Int), 2)) else (if 0 ≤ x15 then (if x15 < (x10.length : Int) then (if 0 ≤ (rd x10 x15) then (if (rd x10 x15) < (x2.length : Int) then (if (rd x2 (rd x10 x15)) < 0 then (churnref12_Draws.j4 k x0 x1 x2 x8 x9 x10 x13 x14 x15 (rd x2 (rd x10 x15)) true) else (if x15 < (x9.length : Int) then (churnref12_Draws.j4 k x0 x1 x2 x8 x9 x10 x13 x14 x15 (rd x2 (rd x10 x15)) (decide ((rd x2 (rd x10 x15)) ≥ (rd x9 x15)))) else (none))) else (none)) else (none)) else (none)) else (none))
def churnref12_Draws.j4 : Nat → List Int → List Int → List Int → Int → List Int → List Int → List Int → Int → Int → Int → Bool → Option (List Int × Int)
  | 0, _, _, _, _, _, _, _, _, _, _, _ => none
  | k + 1, x0, x1, x2, x8, x9, x10, x13, x14, x15, x16, x98 => if x98 = true then (some (([] : List Int), 2)) else (churnref12_Draws.l2 k x0 x1 x2 x8 x9 x10 x13 x14 x15 x16 0)
def churnref12_Draws.l2 : Nat → List Int → List Int → List Int → Int → List Int → List Int → List Int → Int → Int → Int → Int → Option (List Int × Int)
  | 0, _, _, _, _, _, _, _, _, _, _, _ => none
  | k + 1, x0, x1, x2, x8, x9, x10, x13, x14, x15, x17, x18 => if x18 < x15 then (if 0 ≤ x18 then (if x18 < (x9.length : Int) then (churnref12_Draws.l2 k x0 x1 x2 x8 x9 x10 x13 x14 x15 (wrap64 (x17 + (rd x9 x18))) (wrap64 (x18 + 1))) else (none)) else (none)) else (if x13.length < 17592186044416 then (if 0 ≤ x15 then (if x15 < (x9.length : Int) then (if x15 < (x10.length : Int) then (churnref12_Draws.l1 k x0 x1 x2 x8 (x9.set (x15 : Int).toNat (wrap64 ((rd x9 x15) - 1))) (x10.set (x15 : Int).toNat (wrap64 ((rd x10 x15) + 1))) (x13 ++ [x17]) (wrap64 (x14 + 1))) else (none)) else (none)) else (none)) else (none))
end
def churnref12_Draws.f (k : Nat) (l0 : List Int) (l1 : List Int) (l2 : List Int) : Option (List Int × Int) := (churnref12_total.f k l0).bind fun t266 => (if t266 < 0 then (churnref12_Draws.j0 k l0 l1 l2 t266 true) else (if (l1.length : Int) = t266 then (churnref12_Draws.j0 k l0 l1 l2 t266 ((l2.length : Int) != t266)) else (churnref12_Draws.j0 k l0 l1 l2 t266 true)))
theorem churnref12_Draws.mono_l : ∀ k, (∀ y0 y1 y2 y3 y4, LeO (churnref12_Draws.j0 k y0 y1 y2 y3 y4) (churnref12_Draws.j0 (k + 1) y0 y1 y2 y3 y4)) ∧ (∀ y0 y1 y2 y3 y4 y5 y6 y7, LeO (churnref12_Draws.l0 k y0 y1 y2 y3 y4 y5 y6 y7) (churnref12_Draws.l0 (k + 1) y0 y1 y2 y3 y4 y5 y6 y7)) ∧ (∀ y0 y1 y2 y3 y4 y5 y6 y7, LeO (churnref12_Draws.l1 k y0 y1 y2 y3 y4 y5 y6 y7) (churnref12_Draws.l1 (k + 1) y0 y1 y2 y3 y4 y5 y6 y7)) ∧ (∀ y0 y1 y2 y3 y4 y5 y6 y7 y8 y9, LeO (churnref12_Draws.j3 k y0 y1 y2 y3 y4 y5 y6 y7 y8 y9) (churnref12_Draws.j3 (k + 1) y0 y1 y2 y3 y4 y5 y6 y7 y8 y9)) ∧ (∀ y0 y1 y2 y3 y4 y5 y6 y7 y8 y9 y10, LeO (churnref12_Draws.j4 k y0 y1 y2 y3 y4 y5 y6 y7 y8 y9 y10) (churnref12_Draws.j4 (k + 1) y0 y1 y2 y3 y4 y5 y6 y7 y8 y9 y10)) ∧ (∀ y0 y1 y2 y3 y4 y5 y6 y7 y8 y9 y10, LeO (churnref12_Draws.l2 k y0 y1 y2 y3 y4 y5 y6 y7 y8 y9 y10) (churnref12_Draws.l2 (k + 1) y0 y1 y2 y3 y4 y5 y6 y7 y8 y9 y10))
  | 0 => ⟨fun _ _ _ _ _ r h => by simp [churnref12_Draws.j0] at h, fun _ _ _ _ _ _ _ _ r h => by simp [churnref12_Draws.l0] at h, fun _ _ _ _ _ _ _ _ r h => by simp [churnref12_Draws.l1] at h, fun _ _ _ _ _ _ _ _ _ _ r h => by simp [churnref12_Draws.j3] at h, fun _ _ _ _ _ _ _ _ _ _ _ r h => by simp [churnref12_Draws.j4] at h, fun _ _ _ _ _ _ _ _ _ _ _ r h => by simp [churnref12_Draws.l2] at h⟩
  | k + 1 => by
    obtain ⟨ih0, ih1, ih2, ih3, ih4, ih5⟩ := churnref12_Draws.mono_l k
    refine ⟨?_, ?_, ?_, ?_, ?_, ?_⟩
    · intro y0 y1 y2 y3 y4
      unfold churnref12_Draws.j0
      repeat' first
      | (with_reducible exact ih0 _ _ _ _ _)
      | (with_reducible exact ih1 _ _ _ _ _ _ _ _)
      | (with_reducible exact ih2 _ _ _ _ _ _ _ _)
      | (with_reducible exact ih3 _ _ _ _ _ _ _ _ _ _)
      | (with_reducible exact ih4 _ _ _ _ _ _ _ _ _ _ _)
      | (with_reducible exact ih5 _ _ _ _ _ _ _ _ _ _ _)
      | (with_reducible exact churnref12_total.mono _ _)
      | (with_reducible exact LeO.refl _)
      | (with_reducible exact LeO.none _)
      | (with_reducible refine LeO.ite ?_ ?_)
      | (with_reducible refine LeO.bind ?_ (fun _ => ?_))
      | exact ih0 _ _ _ _ _
      | exact ih1 _ _ _ _ _ _ _ _
      | exact ih2 _ _ _ _ _ _ _ _
      | exact ih3 _ _ _ _ _ _ _ _ _ _
      | exact ih4 _ _ _ _ _ _ _ _ _ _ _
      | exact ih5 _ _ _ _ _ _ _ _ _ _ _
      | exact churnref12_total.mono _ _
      | exact LeO.none _
      | refine LeO.ite ?_ ?_
      | refine LeO.bind ?_ (fun _ => ?_)
    · intro y0 y1 y2 y3 y4 y5 y6 y7
      unfold churnref12_Draws.l0
      repeat' first
      | (with_reducible exact ih0 _ _ _ _ _)
      | (with_reducible exact ih1 _ _ _ _ _ _ _ _)
      | (with_reducible exact ih2 _ _ _ _ _ _ _ _)
      | (with_reducible exact ih3 _ _ _ _ _ _ _ _ _ _)
      | (with_reducible exact ih4 _ _ _ _ _ _ _ _ _ _ _)
      | (with_reducible exact ih5 _ _ _ _ _ _ _ _ _ _ _)
      | (with_reducible exact churnref12_total.mono _ _)
      | (with_reducible exact LeO.refl _)
      | (with_reducible exact LeO.none _)
      | (with_reducible refine LeO.ite ?_ ?_)
      | (with_reducible refine LeO.bind ?_ (fun _ => ?_))
      | exact ih0 _ _ _ _ _
      | exact ih1 _ _ _ _ _ _ _ _
      | exact ih2 _ _ _ _ _ _ _ _
      | exact ih3 _ _ _ _ _ _ _ _ _ _
      | exact ih4 _ _ _ _ _ _ _ _ _ _ _
      | exact ih5 _ _ _ _ _ _ _ _ _ _ _
      | exact churnref12_total.mono _ _
      | exact LeO.none _
      | refine LeO.ite ?_ ?_
      | refine LeO.bind ?_ (fun _ => ?_)
    · intro y0 y1 y2 y3 y4 y5 y6 y7
      unfold churnref12_Draws.l1
      repeat' first
      | (with_reducible exact ih0 _ _ _ _ _)
      | (with_reducible exact ih1 _ _ _ _ _ _ _ _)
      | (with_reducible exact ih2 _ _ _ _ _ _ _ _)
      | (with_reducible exact ih3 _ _ _ _ _ _ _ _ _ _)
      | (with_reducible exact ih4 _ _ _ _ _ _ _ _ _ _ _)
      | (with_reducible exact ih5 _ _ _ _ _ _ _ _ _ _ _)
      | (with_reducible exact churnref12_total.mono _ _)
      | (with_reducible exact LeO.refl _)
      | (with_reducible exact LeO.none _)
      | (with_reducible refine LeO.ite ?_ ?_)
      | (with_reducible refine LeO.bind ?_ (fun _ => ?_))
      | exact ih0 _ _ _ _ _
      | exact ih1 _ _ _ _ _ _ _ _
      | exact ih2 _ _ _ _ _ _ _ _
      | exact ih3 _ _ _ _ _ _ _ _ _ _
      | exact ih4 _ _ _ _ _ _ _ _ _ _ _
      | exact ih5 _ _ _ _ _ _ _ _ _ _ _
      | exact churnref12_total.mono _ _
      | exact LeO.none _
      | refine LeO.ite ?_ ?_
      | refine LeO.bind ?_ (fun _ => ?_)
    · intro y0 y1 y2 y3 y4 y5 y6 y7 y8 y9
      unfold churnref12_Draws.j3
      repeat' first
      | (with_reducible exact ih0 _ _ _ _ _)
      | (with_reducible exact ih1 _ _ _ _ _ _ _ _)
      | (with_reducible exact ih2 _ _ _ _ _ _ _ _)
      | (with_reducible exact ih3 _ _ _ _ _ _ _ _ _ _)
      | (with_reducible exact ih4 _ _ _ _ _ _ _ _ _ _ _)
      | (with_reducible exact ih5 _ _ _ _ _ _ _ _ _ _ _)
      | (with_reducible exact churnref12_total.mono _ _)
      | (with_reducible exact LeO.refl _)
      | (with_reducible exact LeO.none _)
      | (with_reducible refine LeO.ite ?_ ?_)
      | (with_reducible refine LeO.bind ?_ (fun _ => ?_))
      | exact ih0 _ _ _ _ _
      | exact ih1 _ _ _ _ _ _ _ _
      | exact ih2 _ _ _ _ _ _ _ _
      | exact ih3 _ _ _ _ _ _ _ _ _ _
      | exact ih4 _ _ _ _ _ _ _ _ _ _ _
      | exact ih5 _ _ _ _ _ _ _ _ _ _ _
      | exact churnref12_total.mono _ _
      | exact LeO.none _
      | refine LeO.ite ?_ ?_
      | refine LeO.bind ?_ (fun _ => ?_)
    · intro y0 y1 y2 y3 y4 y5 y6 y7 y8 y9 y10
      unfold churnref12_Draws.j4
      repeat' first
      | (with_reducible exact ih0 _ _ _ _ _)
      | (with_reducible exact ih1 _ _ _ _ _ _ _ _)
      | (with_reducible exact ih2 _ _ _ _ _ _ _ _)
      | (with_reducible exact ih3 _ _ _ _ _ _ _ _ _ _)
      | (with_reducible exact ih4 _ _ _ _ _ _ _ _ _ _ _)
      | (with_reducible exact ih5 _ _ _ _ _ _ _ _ _ _ _)
      | (with_reducible exact churnref12_total.mono _ _)
      | (with_reducible exact LeO.refl _)
      | (with_reducible exact LeO.none _)
      | (with_reducible refine LeO.ite ?_ ?_)
      | (with_reducible refine LeO.bind ?_ (fun _ => ?_))
      | exact ih0 _ _ _ _ _
      | exact ih1 _ _ _ _ _ _ _ _
      | exact ih2 _ _ _ _ _ _ _ _
      | exact ih3 _ _ _ _ _ _ _ _ _ _
      | exact ih4 _ _ _ _ _ _ _ _ _ _ _
      | exact ih5 _ _ _ _ _ _ _ _ _ _ _
      | exact churnref12_total.mono _ _
      | exact LeO.none _
      | refine LeO.ite ?_ ?_
      | refine LeO.bind ?_ (fun _ => ?_)
    · intro y0 y1 y2 y3 y4 y5 y6 y7 y8 y9 y10
      unfold churnref12_Draws.l2
      repeat' first
      | (with_reducible exact ih0 _ _ _ _ _)
      | (with_reducible exact ih1 _ _ _ _ _ _ _ _)
      | (with_reducible exact ih2 _ _ _ _ _ _ _ _)
      | (with_reducible exact ih3 _ _ _ _ _ _ _ _ _ _)
      | (with_reducible exact ih4 _ _ _ _ _ _ _ _ _ _ _)
      | (with_reducible exact ih5 _ _ _ _ _ _ _ _ _ _ _)
      | (with_reducible exact churnref12_total.mono _ _)
      | (with_reducible exact LeO.refl _)
      | (with_reducible exact LeO.none _)
      | (with_reducible refine LeO.ite ?_ ?_)
      | (with_reducible refine LeO.bind ?_ (fun _ => ?_))
      | exact ih0 _ _ _ _ _
      | exact ih1 _ _ _ _ _ _ _ _
      | exact ih2 _ _ _ _ _ _ _ _
      | exact ih3 _ _ _ _ _ _ _ _ _ _
      | exact ih4 _ _ _ _ _ _ _ _ _ _ _
      | exact ih5 _ _ _ _ _ _ _ _ _ _ _
      | exact churnref12_total.mono _ _
      | exact LeO.none _
      | refine LeO.ite ?_ ?_
      | refine LeO.bind ?_ (fun _ => ?_)
theorem churnref12_Draws.mono : ∀ a0 a1 a2 k, LeO (churnref12_Draws.f k a0 a1 a2) (churnref12_Draws.f (k + 1) a0 a1 a2) := by
  intro a0 a1 a2 k
  obtain ⟨ih0, ih1, ih2, ih3, ih4, ih5⟩ := churnref12_Draws.mono_l k
  unfold churnref12_Draws.f
  repeat' first
      | (with_reducible exact ih0 _ _ _ _ _)
      | (with_reducible exact ih1 _ _ _ _ _ _ _ _)
      | (with_reducible exact ih2 _ _ _ _ _ _ _ _)
      | (with_reducible exact ih3 _ _ _ _ _ _ _ _ _ _)
      | (with_reducible exact ih4 _ _ _ _ _ _ _ _ _ _ _)
      | (with_reducible exact ih5 _ _ _ _ _ _ _ _ _ _ _)
      | (with_reducible exact churnref12_total.mono _ _)
      | (with_reducible exact LeO.refl _)
      | (with_reducible exact LeO.none _)
      | (with_reducible refine LeO.ite ?_ ?_)
      | (with_reducible refine LeO.bind ?_ (fun _ => ?_))
      | exact ih0 _ _ _ _ _
      | exact ih1 _ _ _ _ _ _ _ _
      | exact ih2 _ _ _ _ _ _ _ _
      | exact ih3 _ _ _ _ _ _ _ _ _ _
      | exact ih4 _ _ _ _ _ _ _ _ _ _ _
      | exact ih5 _ _ _ _ _ _ _ _ _ _ _
      | exact churnref12_total.mono _ _
      | exact LeO.none _
      | refine LeO.ite ?_ ?_
      | refine LeO.bind ?_ (fun _ => ?_)
set_option maxHeartbeats 8000000 in
set_option maxRecDepth 100000 in
theorem churnref12_Draws.calls (k : Nat) (A0 : Option Addr) (c0 : Nat) (l0 : List Int) (A1 : Option Addr) (c1 : Nat) (l1 : List Int) (A2 : Option Addr) (c2 : Nat) (l2 : List Int) (r1 : List Int) (r2 : Int) (w : World) (hr0 : Kd.C (Kd.int .i64) w A0 l0.length l0) (hc0 : l0.length ≤ c0) (hr1 : Kd.C (Kd.int .i64) w A1 l1.length l1) (hc1 : l1.length ≤ c1) (hr2 : Kd.C (Kd.int .i64) w A2 l2.length l2) (hc2 : l2.length ≤ c2) (h : churnref12_Draws.f k l0 l1 l2 = some (r1, r2)) :
    Calls Try.prog 24 #[.slice A0 l0.length c0, .slice A1 l1.length c1, .slice A2 l2.length c2] w fun e w' => ∃ v0_ : Value, e = .returned (.tuple #[v0_, .int .i64 r2]) ∧ Kd.R (Kd.int .i64) 3 w' w.heap.size (fun _ => True) v0_ r1 ∧ Below w.heap.size w w' := by
  have HR0 := Aside0.mk hr0
  have HC0 := Aside0.mk hc0
  clear hr0 hc0
  have HR1 := Aside0.mk hr1
  have HC1 := Aside0.mk hc1
  clear hr1 hc1
  have HR2 := Aside0.mk hr2
  have HC2 := Aside0.mk hc2
  clear hr2 hc2
  have HB := Aside0.mk (Below.refl w.heap.size w)
  have H : ((churnref12_total.f k l0).bind fun t266 => (if t266 < 0 then (churnref12_Draws.j0 k l0 l1 l2 t266 true) else (if (l1.length : Int) = t266 then (churnref12_Draws.j0 k l0 l1 l2 t266 ((l2.length : Int) != t266)) else (churnref12_Draws.j0 k l0 l1 l2 t266 true)))) = some (r1, r2) := h
  clear h
  replace H := Option.bind_eq_some_iff.mp H
  obtain ⟨t266, A40, H⟩ := H
  replace H : (if t266 < 0 then (churnref12_Draws.j0 k l0 l1 l2 t266 true) else (if (l1.length : Int) = t266 then (churnref12_Draws.j0 k l0 l1 l2 t266 ((l2.length : Int) != t266)) else (churnref12_Draws.j0 k l0 l1 l2 t266 true))) = some (r1, r2) := H
  have A4 := Aside0.mk A40
  clear A40
  have HC5 := Aside0.mk H
  clear H
  go_enter Try.func24, Try.ntmps24
  go_upto_region 2 with (first | ((with_reducible refine gate_callee (f := 29) rfl ?_); refine goesL_ (some 20) rfl rfl Try.func29 (by kernel_rfl) rfl #[.slice A0 l0.length c0] rfl (by (try simp only [List.map_toArray, List.map_cons, List.map_nil]); first | done | rfl | (simp only [List.length_drop, List.length_take]; rfl)) ?_; (with_reducible refine (churnref12_total.calls k _ _ l0 t266 _ ?side1 ?side2 A4.out).mono ?_); (case side1 => repeat (first | exact HR0.out | (with_reducible refine Kd.C_alloc ?_ _) | (with_reducible refine Kd.C_drewN ?_ _) | (with_reducible refine Kd.C_drew ?_))); (case side2 => exact HC0.out); rintro e w' ⟨rfl, ⟨nd, rfl⟩⟩; refine ⟨_, rfl, ?_⟩))
  (try simp only [Act.put, List.setIfInBounds_toArray, List.set_cons_zero, List.set_cons_succ])
  go_cut [34] (fun v34 wc => ∃ (kq : Nat) (x34_4 : Bool), v34 = .bool x34_4 ∧ Aside0 (churnref12_Draws.j0 kq l0 l1 l2 t266 x34_4 = some (r1, r2)) ∧ Aside0 (kq ≤ k) ∧ Aside0 (Below w.heap.size w wc))
  case first =>
    have H := HC5.out
    clear HC5
    by_cases c6 : t266 < 0
    · rw [if_pos c6] at H
      have c6b0 : decide (t266 < 0) = true := decide_eq_true c6
      clear c6
      (first | rw [c6b0] | (simp only [i64_w, i32_w]; rw [c6b0]) | skip)
      have H' := Aside0.mk H
      clear H
      go_wp2
      go_meet
      case rel => exact ⟨_, (true), (by first | rfl | (simp; done) | (simp [*]; done)), H', ⟨by first | omega | exact Nat.le_refl _⟩, ⟨by repeat (first | (with_reducible first | exact HB.out | apply below_alloc | apply pw_below_drewN | apply below_drew1) | exact HB.out)⟩⟩
    · rw [if_neg c6] at H
      have c6b0 : decide (t266 < 0) = false := decide_eq_false c6
      clear c6
      (first | rw [c6b0] | (simp only [i64_w, i32_w]; rw [c6b0]) | skip)
      by_cases c7 : (l1.length : Int) = t266
      · rw [if_pos c7] at H
        have c7b0 : ((l1.length : Int) == t266) = true := beq_iff_eq.mpr c7
        have c7b1 : ((l1.length : Int) != t266) = false := bne_eq_false_iff_eq.mpr c7
        clear c7
        have H' := Aside0.mk H
        clear H
        go_wp2
        go_meet
        case rel => exact ⟨_, (((l2.length : Int) != t266)), (by first | rfl | (simp; done) | (simp [*]; done)), H', ⟨by first | omega | exact Nat.le_refl _⟩, ⟨by repeat (first | (with_reducible first | exact HB.out | apply below_alloc | apply pw_below_drewN | apply below_drew1) | exact HB.out)⟩⟩
      · rw [if_neg c7] at H
        have c7b0 : ((l1.length : Int) == t266) = false := beq_eq_false_iff_ne.mpr c7
        have c7b1 : ((l1.length : Int) != t266) = true := bne_iff_ne.mpr c7
        have H' := Aside0.mk H
        clear H
        go_wp2
        go_meet
        case rel => exact ⟨_, (true), (by first | rfl | (simp; done) | (simp [*]; done)), H', ⟨by first | omega | exact Nat.le_refl _⟩, ⟨by repeat (first | (with_reducible first | exact HB.out | apply below_alloc | apply pw_below_drewN | apply below_drew1) | exact HB.out)⟩⟩
  case rest =>
    clear HC5
    try clear c1
    try clear c2
    try clear p2
    try clear c6
    try clear c6b0
    try clear c7
    try clear c7b0
    try clear c7b1
    obtain ⟨kq, x34_4, rfl, HA, HJ4, HB⟩ := hcut
    cases kq with
    | zero => exact absurd HA.out (by simp [churnref12_Draws.j0])
    | succ kj4 =>
      have H := HA.out
      clear HA
      simp only [churnref12_Draws.j0] at H
      by_cases c8 : x34_4 = true
      · subst c8
        have H1 : (some (([] : List Int), 2)) = some (r1, r2) := by rw [if_pos rfl] at H; exact H
        clear H
        have H := H1
        clear H1
        simp only [Option.some.injEq, Prod.mk.injEq] at H
        obtain ⟨rfl, rfl⟩ := H
        go_wp2
        go_ret2
        exact ⟨_, by first | rfl | (simp [errW_none, errW_some] <;> rfl) | (simp [*, errW_none, errW_some] <;> rfl), by first | exact Kd.R_nil _ _ _ _ _ | exact Kd.N_nil _ _ _ _ _ | exact Kd.V_nil _ _ _ _ _ | exact Kd.Q_nil _ _ _ _ _ | exact Kd.S_nil _ _ _ _ _, by repeat (first | (with_reducible first | exact HB.out | apply below_alloc | apply pw_below_drewN | apply below_drew1) | exact HB.out)⟩
      · replace c8 := Bool.eq_false_iff.mpr c8
        subst c8
        have H1 : (churnref12_Draws.l0 kj4 l0 l1 l2 t266 ([] : List Int) ([] : List Int) 0 0) = some (r1, r2) := by rw [if_neg (show ¬ (false = true) by decide)] at H; exact H
        clear H
        have H := H1
        clear H1
        have H' := Aside0.mk H
        clear H
        go_wp2
        go_loopg [9, 10, 11, 12] kj4 (fun kq v9 v10 v11 v12 w' => ∃ (x9_2 : List Int) (x10_2 : List Int) (x11_2 : Int) (x12_2 : Int), v11 = .int .i64 x11_2 ∧ v12 = .int .i64 x12_2 ∧ Aside0 (churnref12_Draws.l0 kq l0 l1 l2 t266 x9_2 x10_2 x11_2 x12_2 = some (r1, r2)) ∧ Aside0 (kq ≤ kj4) ∧ Aside0 (Kd.R (Kd.int .i64) 3 w' w.heap.size (fun k_ => some k_ ≠ (v10 : Value).ownBlock) v9 x9_2) ∧ Aside0 (Kd.R (Kd.int .i64) 3 w' w.heap.size (fun k_ => some k_ ≠ (v9 : Value).ownBlock) v10 x10_2) ∧ Aside0 (Below w.heap.size w w'))
        case atStart => exact ⟨(([] : List Int)), (([] : List Int)), (0), (0), (by first | rfl | (simp; done) | (simp [*]; done)), (by first | rfl | (simp; done) | (simp [*]; done)), H', ⟨Nat.le_refl _⟩, ⟨by first | exact Kd.R_nil _ _ _ _ _ | exact Kd.N_nil _ _ _ _ _ | exact Kd.V_nil _ _ _ _ _ | exact Kd.Q_nil _ _ _ _ _ | exact Kd.S_nil _ _ _ _ _⟩, ⟨by first | exact Kd.R_nil _ _ _ _ _ | exact Kd.N_nil _ _ _ _ _ | exact Kd.V_nil _ _ _ _ _ | exact Kd.Q_nil _ _ _ _ _ | exact Kd.S_nil _ _ _ _ _⟩, ⟨by repeat (first | (with_reducible first | exact HB.out | apply below_alloc | apply pw_below_drewN | apply below_drew1) | exact HB.out)⟩⟩
        case round =>
          clear H'
          try clear c1
          try clear c2
          try clear p2
          try clear c6
          try clear c6b0
          try clear c7
          try clear c7b0
          try clear c7b1
          try clear c8
          try clear p2
          obtain ⟨x9_2, x10_2, x11_2, x12_2, rfl, rfl, HA, HK2, HO_9, HO_10, HB⟩ := hrel
          cases gk with
          | zero => exact absurd HA.out (by simp [churnref12_Draws.l0])
          | succ k2 =>
            have H := HA.out
            clear HA
            simp only [churnref12_Draws.l0] at H
            by_cases c9 : x12_2 < (l0.length : Int)
            · rw [if_pos c9] at H
              have c9b0 : decide (x12_2 < (l0.length : Int)) = true := decide_eq_true c9
              clear c9
              by_cases c10 : 0 ≤ x12_2
              · rw [if_pos c10] at H
                have c10b0 : decide (0 ≤ x12_2) = true := decide_eq_true c10
                clear c10
                by_cases c11 : x9_2.length < 17592186044416
                · rw [if_pos c11] at H
                  have LMc11 := Aside0.mk c11
                  clear c11
                  obtain ⟨y268, hy268⟩ : ∃ y_ : List Int, y_ = (x9_2 ++ [rd l0 x12_2]) := ⟨_, rfl⟩
                  replace H : (if x10_2.length < 17592186044416 then (churnref12_Draws.l0 k2 l0 l1 l2 t266 y268 (x10_2 ++ [x11_2]) (wrap64 (x11_2 + (rd l0 x12_2))) (wrap64 (x12_2 + 1))) else (none)) = some (r1, r2) := by first | (rw [hy268]; with_reducible exact H) | (have H2_ := (Option.bind_some _ _).symm.trans H; rw [hy268]; with_reducible exact H2_) | (have H2_ := (Option.bind_some _ _).symm.trans H; with_reducible exact H2_) | with_reducible exact H | (rw [hy268]; exact H) | exact H
                  have Ny268 := Aside0.mk hy268
                  clear hy268
                  by_cases c12 : x10_2.length < 17592186044416
                  · rw [if_pos c12] at H
                    have LMc12 := Aside0.mk c12
                    clear c12
                    obtain ⟨y271, hy271⟩ : ∃ y_ : List Int, y_ = (x10_2 ++ [x11_2]) := ⟨_, rfl⟩
                    replace H : (churnref12_Draws.l0 k2 l0 l1 l2 t266 y268 y271 (wrap64 (x11_2 + (rd l0 x12_2))) (wrap64 (x12_2 + 1))) = some (r1, r2) := by first | (rw [hy271]; with_reducible exact H) | (have H2_ := (Option.bind_some _ _).symm.trans H; rw [hy271]; with_reducible exact H2_) | (have H2_ := (Option.bind_some _ _).symm.trans H; with_reducible exact H2_) | with_reducible exact H | (rw [hy271]; exact H) | exact H
                    have Ny271 := Aside0.mk hy271
                    clear hy271
                    have H' := Aside0.mk H
                    clear H
                    have p267 : 0 ≤ (x12_2 : Int) := of_decide_eq_true (by first | (with_reducible assumption) | assumption)
                    have q267 : x12_2 < (l0.length : Int) := of_decide_eq_true (by first | (with_reducible assumption) | assumption)
                    obtain ⟨ad267, e267, hx267_0⟩ := Kd.at_int HR0.out x12_2 p267 q267
                    cases e267
                    (try (replace hx267_0 := (HB.out.cell (World.block_lt_of_cell? w _ hx267_0)).trans hx267_0))
                    replace p267 := eq_true p267
                    replace q267 := eq_true q267
                    go_wp2_with (first | ((with_reducible refine gate_builtin (b := .append) (xs := #[.tmp 41, .tmp 46]) rfl ?_); (try (refine gate_guard (by rfl) ?_; dsimp only)); at_builtin; refine Kd.R_append (Kd.int .i64) (w0 := w) w.heap.size rfl (.tmp 41) (.tmp 46) 22 3 (.int .i64 0) 8 rfl Try.underlying22 info3 rfl (by decide) (by omega) u9 x9_2 (rd l0 x12_2) [.int .i64 (rd l0 x12_2)] (fun k_ => some k_ ≠ (u10 : Value).ownBlock) (fun _ => False) rfl rfl ?aP (fun _ hk => hk.elim) ?aF ?aO ?aB ?aS ?aL ?_; (case aP => exact rfl); (case aB => exact (by repeat (first | (with_reducible first | exact HB.out | apply below_alloc | apply pw_below_drewN | apply below_drew1) | exact HB.out))); (case aF => exact (fun k_ hk => Kd.fresh' (Kd.R_lt (by (with_reducible repeat (first | apply Kd.R_alloc | apply Kd.R_drewN | apply Kd.R_drew)); exact HO_10.out)) k_ hk)); (case aO => exact (by (with_reducible repeat (first | apply Kd.R_alloc | apply Kd.R_drewN | apply Kd.R_drew)); exact HO_9.out)); (case aS => exact (below_size (by repeat (first | (with_reducible first | exact HB.out | apply below_alloc | apply pw_below_drewN | apply below_drew1) | exact HB.out)))); (case aL => have := LMc11.out; omega); intro v269 w13 ho hb hg hat; rw [← Ny268.out] at ho; have n0_ := Aside0.mk (Kd.R_after (ok := (fun _ => True)) (by (with_reducible repeat (first | apply Kd.R_alloc | apply Kd.R_drewN | apply Kd.R_drew)); exact Kd.R_mono HO_10.out (fun _ hk => ⟨trivial, hk⟩)) hg hat); have n1_ := Aside0.mk (hb); have n2_ := Aside0.mk (ho); clear HO_10; clear HB; clear HO_9; have HO_10 := n0_; have HB := n1_; have HO270 := n2_; clear n0_ n1_ n2_; clear ho hb hg hat) | ((with_reducible refine gate_builtin (b := .append) (xs := #[.tmp 48, .tmp 50]) rfl ?_); (try (refine gate_guard (by rfl) ?_; dsimp only)); at_builtin; refine Kd.R_append (Kd.int .i64) (w0 := w) w.heap.size rfl (.tmp 48) (.tmp 50) 22 3 (.int .i64 0) 8 rfl Try.underlying22 info3 rfl (by decide) (by omega) u10 x10_2 x11_2 [.int .i64 x11_2] (fun k_ => some k_ ≠ (v269 : Value).ownBlock) (fun _ => False) rfl rfl ?aP (fun _ hk => hk.elim) ?aF ?aO ?aB ?aS ?aL ?_; (case aP => exact rfl); (case aB => exact (by repeat (first | (with_reducible first | exact HB.out | apply below_alloc | apply pw_below_drewN | apply below_drew1) | exact HB.out))); (case aF => exact (fun k_ hk => Kd.fresh' (Kd.R_lt (by (with_reducible repeat (first | apply Kd.R_alloc | apply Kd.R_drewN | apply Kd.R_drew)); exact HO270.out)) k_ hk)); (case aO => exact (by (with_reducible repeat (first | apply Kd.R_alloc | apply Kd.R_drewN | apply Kd.R_drew)); exact Kd.R_mono HO_10.out (fun _ hk => hk.2))); (case aS => exact (below_size (by repeat (first | (with_reducible first | exact HB.out | apply below_alloc | apply pw_below_drewN | apply below_drew1) | exact HB.out)))); (case aL => have := LMc12.out; omega); intro v272 w14 ho hb hg hat; rw [← Ny271.out] at ho; have n0_ := Aside0.mk (Kd.R_after (ok := (fun _ => True)) (by (with_reducible repeat (first | apply Kd.R_alloc | apply Kd.R_drewN | apply Kd.R_drew)); exact Kd.R_mono HO270.out (fun _ hk => ⟨trivial, hk⟩)) hg hat); have n1_ := Aside0.mk (hb); have n2_ := Aside0.mk (ho); clear HO270; clear HB; clear HO_10; have HO270 := n0_; have HB := n1_; have HO273 := n2_; clear n0_ n1_ n2_; clear ho hb hg hat; have p274 : 0 ≤ (x12_2 : Int) := of_decide_eq_true (by first | (with_reducible assumption) | assumption); have q274 : x12_2 < (l0.length : Int) := of_decide_eq_true (by first | (with_reducible assumption) | assumption); obtain ⟨ad274, e274, hx274_0⟩ := Kd.at_int HR0.out x12_2 p274 q274; obtain rfl : ad267 = ad274 := (by injection e274); replace hx274_0 := (HB.out.cell (World.block_lt_of_cell? w _ hx274_0)).trans hx274_0; replace p274 := eq_true p274; replace q274 := eq_true q274))
                    go_roundg k2
                    case measure => have := HJ4.out; have := HK2.out; omega
                    case rel => exact ⟨(y268), (y271), (wrap64 (x11_2 + (rd l0 x12_2))), (wrap64 (x12_2 + 1)), (by first | rfl | (simp; done) | (simp [*]; done)), (by first | rfl | (simp; done) | (simp [*]; done)), H', ⟨by have := HJ4.out; have := HK2.out; omega⟩, ⟨by (with_reducible repeat (first | apply Kd.R_alloc | apply Kd.R_drewN | apply Kd.R_drew)); exact Kd.R_mono HO270.out (fun _ hk => hk.2)⟩, ⟨by (with_reducible repeat (first | apply Kd.R_alloc | apply Kd.R_drewN | apply Kd.R_drew)); exact HO273.out⟩, ⟨by repeat (first | (with_reducible first | exact HB.out | apply below_alloc | apply pw_below_drewN | apply below_drew1) | exact HB.out)⟩⟩
                  · rw [if_neg c12] at H
                    exact absurd H (by simp)
                · rw [if_neg c11] at H
                  exact absurd H (by simp)
              · rw [if_neg c10] at H
                exact absurd H (by simp)
            · rw [if_neg c9] at H
              have c9b0 : decide (x12_2 < (l0.length : Int)) = false := decide_eq_false c9
              clear c9
              have H' := Aside0.mk H
              clear H
              go_wp2
              go_loopg [13, 14] k2 (fun kq v13 v14 w' => ∃ (x9_3 : List Int) (x10_3 : List Int) (x13_3 : List Int) (x14_3 : Int), v14 = .int .i64 x14_3 ∧ Aside0 (churnref12_Draws.l1 kq l0 l1 l2 t266 x9_3 x10_3 x13_3 x14_3 = some (r1, r2)) ∧ Aside0 (kq ≤ k2) ∧ Aside0 (Kd.R (Kd.int .i64) 3 w' w.heap.size (fun k_ => some k_ ≠ (u10 : Value).ownBlock ∧ some k_ ≠ (v13 : Value).ownBlock) u9 x9_3) ∧ Aside0 (Kd.R (Kd.int .i64) 3 w' w.heap.size (fun k_ => some k_ ≠ (u9 : Value).ownBlock ∧ some k_ ≠ (v13 : Value).ownBlock) u10 x10_3) ∧ Aside0 (Kd.R (Kd.int .i64) 3 w' w.heap.size (fun k_ => some k_ ≠ (u9 : Value).ownBlock ∧ some k_ ≠ (u10 : Value).ownBlock) v13 x13_3) ∧ Aside0 (Below w.heap.size w w'))
              case atStart => exact ⟨(x9_2), (x10_2), (([] : List Int)), (0), (by first | rfl | (simp; done) | (simp [*]; done)), H', ⟨Nat.le_refl _⟩, ⟨by (with_reducible repeat (first | apply Kd.R_alloc | apply Kd.R_drewN | apply Kd.R_drew)); exact Kd.R_mono HO_9.out (fun _ hk => ⟨hk, (by simp [Value.ownBlock])⟩)⟩, ⟨by (with_reducible repeat (first | apply Kd.R_alloc | apply Kd.R_drewN | apply Kd.R_drew)); exact Kd.R_mono HO_10.out (fun _ hk => ⟨hk, (by simp [Value.ownBlock])⟩)⟩, ⟨by first | exact Kd.R_nil _ _ _ _ _ | exact Kd.N_nil _ _ _ _ _ | exact Kd.V_nil _ _ _ _ _ | exact Kd.Q_nil _ _ _ _ _ | exact Kd.S_nil _ _ _ _ _⟩, ⟨by repeat (first | (with_reducible first | exact HB.out | apply below_alloc | apply pw_below_drewN | apply below_drew1) | exact HB.out)⟩⟩
              case round =>
                clear H'
                try clear c1
                try clear c2
                try clear p2
                try clear q2
                try clear hx2
                try clear c6
                try clear c6b0
                try clear p6
                try clear c7
                try clear c7b0
                try clear c7b1
                try clear c8
                try clear c9
                try clear c9b0
                try clear c10
                try clear c10b0
                try clear c11
                try clear c12
                try clear hx267_0
                try clear hx274_0
                try clear p2
                try clear p267
                try clear p274
                try clear q267
                try clear q274
                obtain ⟨x9_3, x10_3, x13_3, x14_3, rfl, HA, HK3, HO_9, HO_10, HO_13, HB⟩ := hrel
                cases gk with
                | zero => exact absurd HA.out (by simp [churnref12_Draws.l1])
                | succ k3 =>
                  have H := HA.out
                  clear HA
                  simp only [churnref12_Draws.l1] at H
                  by_cases c15 : x14_3 < t266
                  · rw [if_pos c15] at H
                    have c15b0 : decide (x14_3 < t266) = true := decide_eq_true c15
                    clear c15
                    by_cases c16 : 0 ≤ x14_3
                    · rw [if_pos c16] at H
                      have c16b0 : decide (0 ≤ x14_3) = true := decide_eq_true c16
                      clear c16
                      by_cases c17 : x14_3 < (l1.length : Int)
                      · rw [if_pos c17] at H
                        have c17b0 : decide (x14_3 < (l1.length : Int)) = true := decide_eq_true c17
                        clear c17
                        have HC18 := Aside0.mk H
                        clear H
                        have p275 : 0 ≤ (x14_3 : Int) := of_decide_eq_true (by first | (with_reducible assumption) | assumption)
                        have q275 : x14_3 < (l1.length : Int) := of_decide_eq_true (by first | (with_reducible assumption) | assumption)
                        obtain ⟨ad275, e275, hx275_0⟩ := Kd.at_int HR1.out x14_3 p275 q275
                        cases e275
                        (try (replace hx275_0 := (HB.out.cell (World.block_lt_of_cell? w _ hx275_0)).trans hx275_0))
                        replace p275 := eq_true p275
                        replace q275 := eq_true q275
                        go_upto_region 17 with (fail)
                        go_cut [81] (fun v81 wc => ∃ (kq : Nat) (x81_17 : Bool), v81 = .bool x81_17 ∧ Aside0 (churnref12_Draws.j3 kq l0 l1 l2 t266 x9_3 x10_3 x13_3 x14_3 (rd l1 x14_3) x81_17 = some (r1, r2)) ∧ Aside0 (kq ≤ k3) ∧ Aside0 (Kd.R (Kd.int .i64) 3 wc w.heap.size (fun k_ => some k_ ≠ (u10 : Value).ownBlock ∧ some k_ ≠ (u13 : Value).ownBlock) u9 x9_3) ∧ Aside0 (Kd.R (Kd.int .i64) 3 wc w.heap.size (fun k_ => some k_ ≠ (u9 : Value).ownBlock ∧ some k_ ≠ (u13 : Value).ownBlock) u10 x10_3) ∧ Aside0 (Kd.R (Kd.int .i64) 3 wc w.heap.size (fun k_ => some k_ ≠ (u9 : Value).ownBlock ∧ some k_ ≠ (u10 : Value).ownBlock) u13 x13_3) ∧ Aside0 (Below w.heap.size w wc))
                        case first =>
                          have H := HC18.out
                          clear HC18
                          by_cases c19 : (rd l1 x14_3) < 0
                          · rw [if_pos c19] at H
                            have c19b0 : decide ((rd l1 x14_3) < 0) = true := decide_eq_true c19
                            clear c19
                            (first | rw [c19b0] | (simp only [i64_w, i32_w]; rw [c19b0]) | skip)
                            have H' := Aside0.mk H
                            clear H
                            go_wp2
                            go_meet
                            case rel => exact ⟨_, (true), (by first | rfl | (simp; done) | (simp [*]; done)), H', ⟨by have := HJ4.out; have := HK2.out; have := HK3.out; first | omega | exact Nat.le_refl _⟩, ⟨by (with_reducible repeat (first | apply Kd.R_alloc | apply Kd.R_drewN | apply Kd.R_drew)); exact HO_9.out⟩, ⟨by (with_reducible repeat (first | apply Kd.R_alloc | apply Kd.R_drewN | apply Kd.R_drew)); exact HO_10.out⟩, ⟨by (with_reducible repeat (first | apply Kd.R_alloc | apply Kd.R_drewN | apply Kd.R_drew)); exact HO_13.out⟩, ⟨by repeat (first | (with_reducible first | exact HB.out | apply below_alloc | apply pw_below_drewN | apply below_drew1) | exact HB.out)⟩⟩
                          · rw [if_neg c19] at H
                            have c19b0 : decide ((rd l1 x14_3) < 0) = false := decide_eq_false c19
                            clear c19
                            (first | rw [c19b0] | (simp only [i64_w, i32_w]; rw [c19b0]) | skip)
                            by_cases c20 : (rd l1 x14_3) ≥ (l0.length : Int)
                            · rw [if_pos c20] at H
                              have c20b0 : decide ((l0.length : Int) ≤ (rd l1 x14_3)) = true := decide_eq_true c20
                              clear c20
                              have H' := Aside0.mk H
                              clear H
                              go_wp2
                              go_meet
                              case rel => exact ⟨_, (true), (by first | rfl | (simp; done) | (simp [*]; done)), H', ⟨by have := HJ4.out; have := HK2.out; have := HK3.out; first | omega | exact Nat.le_refl _⟩, ⟨by (with_reducible repeat (first | apply Kd.R_alloc | apply Kd.R_drewN | apply Kd.R_drew)); exact HO_9.out⟩, ⟨by (with_reducible repeat (first | apply Kd.R_alloc | apply Kd.R_drewN | apply Kd.R_drew)); exact HO_10.out⟩, ⟨by (with_reducible repeat (first | apply Kd.R_alloc | apply Kd.R_drewN | apply Kd.R_drew)); exact HO_13.out⟩, ⟨by repeat (first | (with_reducible first | exact HB.out | apply below_alloc | apply pw_below_drewN | apply below_drew1) | exact HB.out)⟩⟩
                            · rw [if_neg c20] at H
                              have c20b0 : decide ((l0.length : Int) ≤ (rd l1 x14_3)) = false := decide_eq_false c20
                              clear c20
                              by_cases c21 : 0 ≤ (rd l1 x14_3)
                              · rw [if_pos c21] at H
                                have c21b0 : decide (0 ≤ (rd l1 x14_3)) = true := decide_eq_true c21
                                clear c21
                                by_cases c22 : (rd l1 x14_3) < (x9_3.length : Int)
                                · rw [if_pos c22] at H
                                  have c22b0 : decide ((rd l1 x14_3) < (x9_3.length : Int)) = true := decide_eq_true c22
                                  clear c22
                                  have H' := Aside0.mk H
                                  clear H
                                  obtain ⟨Ao23, co23, eo23⟩ := Kd.R_slice HO_9.out
                                  subst eo23
                                  have p276 : 0 ≤ ((rd l1 x14_3) : Int) := of_decide_eq_true (by first | (with_reducible assumption) | assumption)
                                  have q276 : (rd l1 x14_3) < (x9_3.length : Int) := of_decide_eq_true (by first | (with_reducible assumption) | assumption)
                                  obtain ⟨ad276, e276, hx276_0⟩ := Kd.at_int (Kd.R_reads' HO_9.out).2.2 (rd l1 x14_3) p276 q276
                                  cases e276
                                  replace p276 := eq_true p276
                                  replace q276 := eq_true q276
                                  go_wp2
                                  go_meet
                                  case rel => exact ⟨_, (((rd x9_3 (rd l1 x14_3)) == 0)), (by first | rfl | (simp; done) | (simp [*]; done)), H', ⟨by have := HJ4.out; have := HK2.out; have := HK3.out; first | omega | exact Nat.le_refl _⟩, ⟨by (with_reducible repeat (first | apply Kd.R_alloc | apply Kd.R_drewN | apply Kd.R_drew)); exact HO_9.out⟩, ⟨by (with_reducible repeat (first | apply Kd.R_alloc | apply Kd.R_drewN | apply Kd.R_drew)); exact HO_10.out⟩, ⟨by (with_reducible repeat (first | apply Kd.R_alloc | apply Kd.R_drewN | apply Kd.R_drew)); exact HO_13.out⟩, ⟨by repeat (first | (with_reducible first | exact HB.out | apply below_alloc | apply pw_below_drewN | apply below_drew1) | exact HB.out)⟩⟩
                                · rw [if_neg c22] at H
                                  exact absurd H (by simp)
                              · rw [if_neg c21] at H
                                exact absurd H (by simp)
                        case rest =>
                          clear HC18
                          try clear c1
                          try clear c2
                          try clear p2
                          try clear q2
                          try clear hx2
                          try clear c6
                          try clear c6b0
                          try clear p6
                          try clear c7
                          try clear c7b0
                          try clear c7b1
                          try clear c8
                          try clear c9
                          try clear c9b0
                          try clear c10
                          try clear c10b0
                          try clear c11
                          try clear c12
                          try clear c15
                          try clear c15b0
                          try clear c16
                          try clear c16b0
                          try clear c17
                          try clear c17b0
                          try clear c19
                          try clear c19b0
                          try clear c20
                          try clear c20b0
                          try clear c21
                          try clear c21b0
                          try clear c22
                          try clear c22b0
                          try clear hx267_0
                          try clear hx274_0
                          try clear hx275_0
                          try clear hx276_0
                          try clear p2
                          try clear p267
                          try clear p274
                          try clear p275
                          try clear p276
                          try clear p6
                          try clear q2
                          try clear q267
                          try clear q274
                          try clear q275
                          try clear q276
                          obtain ⟨kq, x81_17, rfl, HA, HJ17, HO_9, HO_10, HO_13, HB⟩ := hcut
                          cases kq with
                          | zero => exact absurd HA.out (by simp [churnref12_Draws.j3])
                          | succ kj17 =>
                            have H := HA.out
                            clear HA
                            simp only [churnref12_Draws.j3] at H
                            by_cases c24 : x81_17 = true
                            · subst c24
                              have H1 : (some (([] : List Int), 2)) = some (r1, r2) := by rw [if_pos rfl] at H; exact H
                              clear H
                              have H := H1
                              clear H1
                              simp only [Option.some.injEq, Prod.mk.injEq] at H
                              obtain ⟨rfl, rfl⟩ := H
                              go_wp2
                              go_ret2
                              exact ⟨_, by first | rfl | (simp [errW_none, errW_some] <;> rfl) | (simp [*, errW_none, errW_some] <;> rfl), by first | exact Kd.R_nil _ _ _ _ _ | exact Kd.N_nil _ _ _ _ _ | exact Kd.V_nil _ _ _ _ _ | exact Kd.Q_nil _ _ _ _ _ | exact Kd.S_nil _ _ _ _ _, by repeat (first | (with_reducible first | exact HB.out | apply below_alloc | apply pw_below_drewN | apply below_drew1) | exact HB.out)⟩
                            · replace c24 := Bool.eq_false_iff.mpr c24
                              subst c24
                              have H1 : (if 0 ≤ (rd l1 x14_3) then (if (rd l1 x14_3) < (x10_3.length : Int) then (if 0 ≤ (rd x10_3 (rd l1 x14_3)) then (if (rd x10_3 (rd l1 x14_3)) < (l2.length : Int) then (if (rd l2 (rd x10_3 (rd l1 x14_3))) < 0 then (churnref12_Draws.j4 kj17 l0 l1 l2 t266 x9_3 x10_3 x13_3 x14_3 (rd l1 x14_3) (rd l2 (rd x10_3 (rd l1 x14_3))) true) else (if (rd l1 x14_3) < (x9_3.length : Int) then (churnref12_Draws.j4 kj17 l0 l1 l2 t266 x9_3 x10_3 x13_3 x14_3 (rd l1 x14_3) (rd l2 (rd x10_3 (rd l1 x14_3))) (decide ((rd l2 (rd x10_3 (rd l1 x14_3))) ≥ (rd x9_3 (rd l1 x14_3))))) else (none))) else (none)) else (none)) else (none)) else (none)) = some (r1, r2) := by rw [if_neg (show ¬ (false = true) by decide)] at H; exact H
                              clear H
                              have H := H1
                              clear H1
                              by_cases c25 : 0 ≤ (rd l1 x14_3)
                              · rw [if_pos c25] at H
                                have c25b0 : decide (0 ≤ (rd l1 x14_3)) = true := decide_eq_true c25
                                clear c25
                                by_cases c26 : (rd l1 x14_3) < (x10_3.length : Int)
                                · rw [if_pos c26] at H
                                  have c26b0 : decide ((rd l1 x14_3) < (x10_3.length : Int)) = true := decide_eq_true c26
                                  clear c26
                                  by_cases c27 : 0 ≤ (rd x10_3 (rd l1 x14_3))
                                  · rw [if_pos c27] at H
                                    have c27b0 : decide (0 ≤ (rd x10_3 (rd l1 x14_3))) = true := decide_eq_true c27
                                    clear c27
                                    by_cases c28 : (rd x10_3 (rd l1 x14_3)) < (l2.length : Int)
                                    · rw [if_pos c28] at H
                                      have c28b0 : decide ((rd x10_3 (rd l1 x14_3)) < (l2.length : Int)) = true := decide_eq_true c28
                                      clear c28
                                      have HC29 := Aside0.mk H
                                      clear H
                                      obtain ⟨Ao30, co30, eo30⟩ := Kd.R_slice HO_10.out
                                      subst eo30
                                      have p277 : 0 ≤ ((rd l1 x14_3) : Int) := of_decide_eq_true (by first | (with_reducible assumption) | assumption)
                                      have q277 : (rd l1 x14_3) < (x10_3.length : Int) := of_decide_eq_true (by first | (with_reducible assumption) | assumption)
                                      obtain ⟨ad277, e277, hx277_0⟩ := Kd.at_int (Kd.R_reads' HO_10.out).2.2 (rd l1 x14_3) p277 q277
                                      cases e277
                                      replace p277 := eq_true p277
                                      replace q277 := eq_true q277
                                      have p278 : 0 ≤ ((rd x10_3 (rd l1 x14_3)) : Int) := of_decide_eq_true (by first | (with_reducible assumption) | assumption)
                                      have q278 : (rd x10_3 (rd l1 x14_3)) < (l2.length : Int) := of_decide_eq_true (by first | (with_reducible assumption) | assumption)
                                      obtain ⟨ad278, e278, hx278_0⟩ := Kd.at_int HR2.out (rd x10_3 (rd l1 x14_3)) p278 q278
                                      cases e278
                                      (try (replace hx278_0 := (HB.out.cell (World.block_lt_of_cell? w _ hx278_0)).trans hx278_0))
                                      replace p278 := eq_true p278
                                      replace q278 := eq_true q278
                                      go_upto_region 20 with (fail)
                                      go_cut [98] (fun v98 wc => ∃ (kq : Nat) (x98_28 : Bool), v98 = .bool x98_28 ∧ Aside0 (churnref12_Draws.j4 kq l0 l1 l2 t266 x9_3 x10_3 x13_3 x14_3 (rd l1 x14_3) (rd l2 (rd x10_3 (rd l1 x14_3))) x98_28 = some (r1, r2)) ∧ Aside0 (kq ≤ kj17) ∧ Aside0 (Kd.R (Kd.int .i64) 3 wc w.heap.size (fun k_ => some k_ ≠ ((.slice (some ad277) x10_3.length co30) : Value).ownBlock ∧ some k_ ≠ (u13 : Value).ownBlock) u9 x9_3) ∧ Aside0 (Kd.R (Kd.int .i64) 3 wc w.heap.size (fun k_ => some k_ ≠ (u9 : Value).ownBlock ∧ some k_ ≠ (u13 : Value).ownBlock) (.slice (some ad277) x10_3.length co30) x10_3) ∧ Aside0 (Kd.R (Kd.int .i64) 3 wc w.heap.size (fun k_ => some k_ ≠ (u9 : Value).ownBlock ∧ some k_ ≠ ((.slice (some ad277) x10_3.length co30) : Value).ownBlock) u13 x13_3) ∧ Aside0 (Below w.heap.size w wc))
                                      case first =>
                                        have H := HC29.out
                                        clear HC29
                                        by_cases c31 : (rd l2 (rd x10_3 (rd l1 x14_3))) < 0
                                        · rw [if_pos c31] at H
                                          have c31b0 : decide ((rd l2 (rd x10_3 (rd l1 x14_3))) < 0) = true := decide_eq_true c31
                                          clear c31
                                          (first | rw [c31b0] | (simp only [i64_w, i32_w]; rw [c31b0]) | skip)
                                          have H' := Aside0.mk H
                                          clear H
                                          go_wp2
                                          go_meet
                                          case rel => exact ⟨_, (true), (by first | rfl | (simp; done) | (simp [*]; done)), H', ⟨by have := HJ4.out; have := HK2.out; have := HK3.out; have := HJ17.out; first | omega | exact Nat.le_refl _⟩, ⟨by (with_reducible repeat (first | apply Kd.R_alloc | apply Kd.R_drewN | apply Kd.R_drew)); exact HO_9.out⟩, ⟨by (with_reducible repeat (first | apply Kd.R_alloc | apply Kd.R_drewN | apply Kd.R_drew)); exact HO_10.out⟩, ⟨by (with_reducible repeat (first | apply Kd.R_alloc | apply Kd.R_drewN | apply Kd.R_drew)); exact HO_13.out⟩, ⟨by repeat (first | (with_reducible first | exact HB.out | apply below_alloc | apply pw_below_drewN | apply below_drew1) | exact HB.out)⟩⟩
                                        · rw [if_neg c31] at H
                                          have c31b0 : decide ((rd l2 (rd x10_3 (rd l1 x14_3))) < 0) = false := decide_eq_false c31
                                          clear c31
                                          (first | rw [c31b0] | (simp only [i64_w, i32_w]; rw [c31b0]) | skip)
                                          by_cases c32 : (rd l1 x14_3) < (x9_3.length : Int)
                                          · rw [if_pos c32] at H
                                            have c32b0 : decide ((rd l1 x14_3) < (x9_3.length : Int)) = true := decide_eq_true c32
                                            clear c32
                                            have H' := Aside0.mk H
                                            clear H
                                            obtain ⟨Ao33, co33, eo33⟩ := Kd.R_slice HO_9.out
                                            subst eo33
                                            have p279 : 0 ≤ ((rd l1 x14_3) : Int) := of_decide_eq_true (by first | (with_reducible assumption) | assumption)
                                            have q279 : (rd l1 x14_3) < (x9_3.length : Int) := of_decide_eq_true (by first | (with_reducible assumption) | assumption)
                                            obtain ⟨ad279, e279, hx279_0⟩ := Kd.at_int (Kd.R_reads' HO_9.out).2.2 (rd l1 x14_3) p279 q279
                                            cases e279
                                            replace p279 := eq_true p279
                                            replace q279 := eq_true q279
                                            go_wp2
                                            go_meet
                                            case rel => exact ⟨_, (decide ((rd l2 (rd x10_3 (rd l1 x14_3))) ≥ (rd x9_3 (rd l1 x14_3)))), (by first | rfl | (simp; done) | (simp [*]; done)), H', ⟨by have := HJ4.out; have := HK2.out; have := HK3.out; have := HJ17.out; first | omega | exact Nat.le_refl _⟩, ⟨by (with_reducible repeat (first | apply Kd.R_alloc | apply Kd.R_drewN | apply Kd.R_drew)); exact HO_9.out⟩, ⟨by (with_reducible repeat (first | apply Kd.R_alloc | apply Kd.R_drewN | apply Kd.R_drew)); exact HO_10.out⟩, ⟨by (with_reducible repeat (first | apply Kd.R_alloc | apply Kd.R_drewN | apply Kd.R_drew)); exact HO_13.out⟩, ⟨by repeat (first | (with_reducible first | exact HB.out | apply below_alloc | apply pw_below_drewN | apply below_drew1) | exact HB.out)⟩⟩
                                          · rw [if_neg c32] at H
                                            exact absurd H (by simp)
                                      case rest =>
                                        clear HC29
                                        try clear c1
                                        try clear c2
                                        try clear p2
                                        try clear q2
                                        try clear hx2
                                        try clear c3
                                        try clear c6
                                        try clear c6b0
                                        try clear p6
                                        try clear c7
                                        try clear c7b0
                                        try clear c7b1
                                        try clear c8
                                        try clear c9
                                        try clear c9b0
                                        try clear c10
                                        try clear c10b0
                                        try clear c11
                                        try clear c12
                                        try clear c15
                                        try clear c15b0
                                        try clear c16
                                        try clear c16b0
                                        try clear c17
                                        try clear c17b0
                                        try clear c19
                                        try clear c19b0
                                        try clear c20
                                        try clear c20b0
                                        try clear c21
                                        try clear c21b0
                                        try clear c22
                                        try clear c22b0
                                        try clear c24
                                        try clear c25
                                        try clear c25b0
                                        try clear c26
                                        try clear c26b0
                                        try clear p26
                                        try clear q26
                                        try clear hx26
                                        try clear c27
                                        try clear c27b0
                                        try clear p27
                                        try clear q27
                                        try clear hx27
                                        try clear c28
                                        try clear c28b0
                                        try clear c29
                                        try clear c31
                                        try clear c31b0
                                        try clear c32
                                        try clear c32b0
                                        try clear hx267_0
                                        try clear hx274_0
                                        try clear hx275_0
                                        try clear hx276_0
                                        try clear hx277_0
                                        try clear hx278_0
                                        try clear hx279_0
                                        try clear p2
                                        try clear p267
                                        try clear p274
                                        try clear p275
                                        try clear p276
                                        try clear p277
                                        try clear p278
                                        try clear p279
                                        try clear p6
                                        try clear q2
                                        try clear q267
                                        try clear q274
                                        try clear q275
                                        try clear q276
                                        try clear q277
                                        try clear q278
                                        try clear q279
                                        obtain ⟨kq, x98_28, rfl, HA, HJ28, HO_9, HO_10, HO_13, HB⟩ := hcut
                                        cases kq with
                                        | zero => exact absurd HA.out (by simp [churnref12_Draws.j4])
                                        | succ kj28 =>
                                          have H := HA.out
                                          clear HA
                                          simp only [churnref12_Draws.j4] at H
                                          by_cases c34 : x98_28 = true
                                          · subst c34
                                            have H1 : (some (([] : List Int), 2)) = some (r1, r2) := by rw [if_pos rfl] at H; exact H
                                            clear H
                                            have H := H1
                                            clear H1
                                            simp only [Option.some.injEq, Prod.mk.injEq] at H
                                            obtain ⟨rfl, rfl⟩ := H
                                            go_wp2
                                            go_ret2
                                            exact ⟨_, by first | rfl | (simp [errW_none, errW_some] <;> rfl) | (simp [*, errW_none, errW_some] <;> rfl), by first | exact Kd.R_nil _ _ _ _ _ | exact Kd.N_nil _ _ _ _ _ | exact Kd.V_nil _ _ _ _ _ | exact Kd.Q_nil _ _ _ _ _ | exact Kd.S_nil _ _ _ _ _, by repeat (first | (with_reducible first | exact HB.out | apply below_alloc | apply pw_below_drewN | apply below_drew1) | exact HB.out)⟩
                                          · replace c34 := Bool.eq_false_iff.mpr c34
                                            subst c34
                                            have H1 : (churnref12_Draws.l2 kj28 l0 l1 l2 t266 x9_3 x10_3 x13_3 x14_3 (rd l1 x14_3) (rd l2 (rd x10_3 (rd l1 x14_3))) 0) = some (r1, r2) := by rw [if_neg (show ¬ (false = true) by decide)] at H; exact H
                                            clear H
                                            have H := H1
                                            clear H1
                                            have H' := Aside0.mk H
                                            clear H
                                            go_wp2
                                            go_loopg [17, 18] kj28 (fun kq v17 v18 w' => ∃ (x17_6 : Int) (x18_6 : Int), v17 = .int .i64 x17_6 ∧ v18 = .int .i64 x18_6 ∧ Aside0 (churnref12_Draws.l2 kq l0 l1 l2 t266 x9_3 x10_3 x13_3 x14_3 (rd l1 x14_3) x17_6 x18_6 = some (r1, r2)) ∧ Aside0 (kq ≤ kj28) ∧ Aside0 (Kd.R (Kd.int .i64) 3 w' w.heap.size (fun k_ => some k_ ≠ ((.slice (some ad277) x10_3.length co30) : Value).ownBlock ∧ some k_ ≠ (u13 : Value).ownBlock) u9 x9_3) ∧ Aside0 (Kd.R (Kd.int .i64) 3 w' w.heap.size (fun k_ => some k_ ≠ (u9 : Value).ownBlock ∧ some k_ ≠ (u13 : Value).ownBlock) (.slice (some ad277) x10_3.length co30) x10_3) ∧ Aside0 (Kd.R (Kd.int .i64) 3 w' w.heap.size (fun k_ => some k_ ≠ (u9 : Value).ownBlock ∧ some k_ ≠ ((.slice (some ad277) x10_3.length co30) : Value).ownBlock) u13 x13_3) ∧ Aside0 (Below w.heap.size w w'))
                                            case atStart => exact ⟨((rd l2 (rd x10_3 (rd l1 x14_3)))), (0), (by first | rfl | (simp; done) | (simp [*]; done)), (by first | rfl | (simp; done) | (simp [*]; done)), H', ⟨Nat.le_refl _⟩, ⟨by (with_reducible repeat (first | apply Kd.R_alloc | apply Kd.R_drewN | apply Kd.R_drew)); exact HO_9.out⟩, ⟨by (with_reducible repeat (first | apply Kd.R_alloc | apply Kd.R_drewN | apply Kd.R_drew)); exact HO_10.out⟩, ⟨by (with_reducible repeat (first | apply Kd.R_alloc | apply Kd.R_drewN | apply Kd.R_drew)); exact HO_13.out⟩, ⟨by repeat (first | (with_reducible first | exact HB.out | apply below_alloc | apply pw_below_drewN | apply below_drew1) | exact HB.out)⟩⟩
                                            case round =>
                                              clear H'
                                              try clear c1
                                              try clear c2
                                              try clear p2
                                              try clear q2
                                              try clear hx2
                                              try clear c3
                                              try clear c6
                                              try clear c6b0
                                              try clear p6
                                              try clear c7
                                              try clear c7b0
                                              try clear c7b1
                                              try clear c8
                                              try clear c9
                                              try clear c9b0
                                              try clear c10
                                              try clear c10b0
                                              try clear c11
                                              try clear c12
                                              try clear c15
                                              try clear c15b0
                                              try clear c16
                                              try clear c16b0
                                              try clear c17
                                              try clear c17b0
                                              try clear c19
                                              try clear c19b0
                                              try clear c20
                                              try clear c20b0
                                              try clear c21
                                              try clear c21b0
                                              try clear c22
                                              try clear c22b0
                                              try clear c24
                                              try clear c25
                                              try clear c25b0
                                              try clear c26
                                              try clear c26b0
                                              try clear p26
                                              try clear q26
                                              try clear hx26
                                              try clear c27
                                              try clear c27b0
                                              try clear p27
                                              try clear q27
                                              try clear hx27
                                              try clear c28
                                              try clear c28b0
                                              try clear c29
                                              try clear c31
                                              try clear c31b0
                                              try clear c32
                                              try clear c32b0
                                              try clear c34
                                              try clear hx267_0
                                              try clear hx274_0
                                              try clear hx275_0
                                              try clear hx276_0
                                              try clear hx277_0
                                              try clear hx278_0
                                              try clear hx279_0
                                              try clear p2
                                              try clear p26
                                              try clear p267
                                              try clear p27
                                              try clear p274
                                              try clear p275
                                              try clear p276
                                              try clear p277
                                              try clear p278
                                              try clear p279
                                              try clear p6
                                              try clear q2
                                              try clear q26
                                              try clear q267
                                              try clear q27
                                              try clear q274
                                              try clear q275
                                              try clear q276
                                              try clear q277
                                              try clear q278
                                              try clear q279
                                              obtain ⟨x17_6, x18_6, rfl, rfl, HA, HK6, HO_9, HO_10, HO_13, HB⟩ := hrel
                                              cases gk with
                                              | zero => exact absurd HA.out (by simp [churnref12_Draws.l2])
                                              | succ k6 =>
                                                have H := HA.out
                                                clear HA
                                                simp only [churnref12_Draws.l2] at H
                                                by_cases c35 : x18_6 < (rd l1 x14_3)
                                                · rw [if_pos c35] at H
                                                  have c35b0 : decide (x18_6 < (rd l1 x14_3)) = true := decide_eq_true c35
                                                  clear c35
                                                  by_cases c36 : 0 ≤ x18_6
                                                  · rw [if_pos c36] at H
                                                    have c36b0 : decide (0 ≤ x18_6) = true := decide_eq_true c36
                                                    clear c36
                                                    by_cases c37 : x18_6 < (x9_3.length : Int)
                                                    · rw [if_pos c37] at H
                                                      have c37b0 : decide (x18_6 < (x9_3.length : Int)) = true := decide_eq_true c37
                                                      clear c37
                                                      have H' := Aside0.mk H
                                                      clear H
                                                      obtain ⟨Ao38, co38, eo38⟩ := Kd.R_slice HO_9.out
                                                      subst eo38
                                                      have p280 : 0 ≤ (x18_6 : Int) := of_decide_eq_true (by first | (with_reducible assumption) | assumption)
                                                      have q280 : x18_6 < (x9_3.length : Int) := of_decide_eq_true (by first | (with_reducible assumption) | assumption)
                                                      obtain ⟨ad280, e280, hx280_0⟩ := Kd.at_int (Kd.R_reads' HO_9.out).2.2 x18_6 p280 q280
                                                      cases e280
                                                      replace p280 := eq_true p280
                                                      replace q280 := eq_true q280
                                                      go_wp2
                                                      go_roundg k6
                                                      case measure => have := HJ4.out; have := HK2.out; have := HK3.out; have := HJ17.out; have := HJ28.out; have := HK6.out; omega
                                                      case rel => exact ⟨(wrap64 (x17_6 + (rd x9_3 x18_6))), (wrap64 (x18_6 + 1)), (by first | rfl | (simp; done) | (simp [*]; done)), (by first | rfl | (simp; done) | (simp [*]; done)), H', ⟨by have := HJ4.out; have := HK2.out; have := HK3.out; have := HJ17.out; have := HJ28.out; have := HK6.out; omega⟩, ⟨by (with_reducible repeat (first | apply Kd.R_alloc | apply Kd.R_drewN | apply Kd.R_drew)); exact HO_9.out⟩, ⟨by (with_reducible repeat (first | apply Kd.R_alloc | apply Kd.R_drewN | apply Kd.R_drew)); exact HO_10.out⟩, ⟨by (with_reducible repeat (first | apply Kd.R_alloc | apply Kd.R_drewN | apply Kd.R_drew)); exact HO_13.out⟩, ⟨by repeat (first | (with_reducible first | exact HB.out | apply below_alloc | apply pw_below_drewN | apply below_drew1) | exact HB.out)⟩⟩
                                                    · rw [if_neg c37] at H
                                                      exact absurd H (by simp)
                                                  · rw [if_neg c36] at H
                                                    exact absurd H (by simp)
                                                · rw [if_neg c35] at H
                                                  have c35b0 : decide (x18_6 < (rd l1 x14_3)) = false := decide_eq_false c35
                                                  clear c35
                                                  by_cases c39 : x13_3.length < 17592186044416
                                                  · rw [if_pos c39] at H
                                                    have LMc39 := Aside0.mk c39
                                                    clear c39
                                                    obtain ⟨y281, hy281⟩ : ∃ y_ : List Int, y_ = (x13_3 ++ [x17_6]) := ⟨_, rfl⟩
                                                    replace H : (if 0 ≤ (rd l1 x14_3) then (if (rd l1 x14_3) < (x9_3.length : Int) then (if (rd l1 x14_3) < (x10_3.length : Int) then (churnref12_Draws.l1 k6 l0 l1 l2 t266 (x9_3.set ((rd l1 x14_3) : Int).toNat (wrap64 ((rd x9_3 (rd l1 x14_3)) - 1))) (x10_3.set ((rd l1 x14_3) : Int).toNat (wrap64 ((rd x10_3 (rd l1 x14_3)) + 1))) y281 (wrap64 (x14_3 + 1))) else (none)) else (none)) else (none)) = some (r1, r2) := by first | (rw [hy281]; with_reducible exact H) | (have H2_ := (Option.bind_some _ _).symm.trans H; rw [hy281]; with_reducible exact H2_) | (have H2_ := (Option.bind_some _ _).symm.trans H; with_reducible exact H2_) | with_reducible exact H | (rw [hy281]; exact H) | exact H
                                                    have Ny281 := Aside0.mk hy281
                                                    clear hy281
                                                    by_cases c40 : 0 ≤ (rd l1 x14_3)
                                                    · rw [if_pos c40] at H
                                                      have c40b0 : decide (0 ≤ (rd l1 x14_3)) = true := decide_eq_true c40
                                                      clear c40
                                                      by_cases c41 : (rd l1 x14_3) < (x9_3.length : Int)
                                                      · rw [if_pos c41] at H
                                                        have c41b0 : decide ((rd l1 x14_3) < (x9_3.length : Int)) = true := decide_eq_true c41
                                                        clear c41
                                                        obtain ⟨y285, hy285⟩ : ∃ y_ : List Int, y_ = (x9_3.set ((rd l1 x14_3) : Int).toNat (wrap64 ((rd x9_3 (rd l1 x14_3)) - 1))) := ⟨_, rfl⟩
                                                        replace H : (if (rd l1 x14_3) < (x10_3.length : Int) then (churnref12_Draws.l1 k6 l0 l1 l2 t266 y285 (x10_3.set ((rd l1 x14_3) : Int).toNat (wrap64 ((rd x10_3 (rd l1 x14_3)) + 1))) y281 (wrap64 (x14_3 + 1))) else (none)) = some (r1, r2) := by first | (rw [hy285]; with_reducible exact H) | (have H2_ := (Option.bind_some _ _).symm.trans H; rw [hy285]; with_reducible exact H2_) | (have H2_ := (Option.bind_some _ _).symm.trans H; with_reducible exact H2_) | with_reducible exact H | (rw [hy285]; exact H) | exact H
                                                        have Ny285 := Aside0.mk hy285
                                                        clear hy285
                                                        by_cases c43 : (rd l1 x14_3) < (x10_3.length : Int)
                                                        · rw [if_pos c43] at H
                                                          have c43b0 : decide ((rd l1 x14_3) < (x10_3.length : Int)) = true := decide_eq_true c43
                                                          clear c43
                                                          obtain ⟨y287, hy287⟩ : ∃ y_ : List Int, y_ = (x10_3.set ((rd l1 x14_3) : Int).toNat (wrap64 ((rd x10_3 (rd l1 x14_3)) + 1))) := ⟨_, rfl⟩
                                                          replace H : (churnref12_Draws.l1 k6 l0 l1 l2 t266 y285 y287 y281 (wrap64 (x14_3 + 1))) = some (r1, r2) := by first | (rw [hy287]; with_reducible exact H) | (have H2_ := (Option.bind_some _ _).symm.trans H; rw [hy287]; with_reducible exact H2_) | (have H2_ := (Option.bind_some _ _).symm.trans H; with_reducible exact H2_) | with_reducible exact H | (rw [hy287]; exact H) | exact H
                                                          have Ny287 := Aside0.mk hy287
                                                          clear hy287
                                                          have H' := Aside0.mk H
                                                          clear H
                                                          go_wp2_with (first | ((with_reducible refine gate_builtin (b := .append) (xs := #[.tmp 111, .tmp 113]) rfl ?_); (try (refine gate_guard (by rfl) ?_; dsimp only)); at_builtin; refine Kd.R_append (Kd.int .i64) (w0 := w) w.heap.size rfl (.tmp 111) (.tmp 113) 22 3 (.int .i64 0) 8 rfl Try.underlying22 info3 rfl (by decide) (by omega) u13 x13_3 x17_6 [.int .i64 x17_6] (fun k_ => some k_ ≠ (u9 : Value).ownBlock ∧ some k_ ≠ (.slice (some ad277) x10_3.length co30 : Value).ownBlock) (fun _ => False) rfl rfl ?aP (fun _ hk => hk.elim) ?aF ?aO ?aB ?aS ?aL ?_; (case aP => exact rfl); (case aB => exact (by repeat (first | (with_reducible first | exact HB.out | apply below_alloc | apply pw_below_drewN | apply below_drew1) | exact HB.out))); (case aF => exact (fun k_ hk => ⟨Kd.fresh' (Kd.R_lt (by (with_reducible repeat (first | apply Kd.R_alloc | apply Kd.R_drewN | apply Kd.R_drew)); exact HO_9.out)) k_ hk, Kd.fresh' (Kd.R_lt (by (with_reducible repeat (first | apply Kd.R_alloc | apply Kd.R_drewN | apply Kd.R_drew)); exact HO_10.out)) k_ hk⟩)); (case aO => exact (by (with_reducible repeat (first | apply Kd.R_alloc | apply Kd.R_drewN | apply Kd.R_drew)); exact HO_13.out)); (case aS => exact (below_size (by repeat (first | (with_reducible first | exact HB.out | apply below_alloc | apply pw_below_drewN | apply below_drew1) | exact HB.out)))); (case aL => have := LMc39.out; omega); intro v282 w45 ho hb hg hat; rw [← Ny281.out] at ho; have n0_ := Aside0.mk (Kd.R_after (ok := (fun k_ => some k_ ≠ (.slice (some ad277) x10_3.length co30 : Value).ownBlock)) (by (with_reducible repeat (first | apply Kd.R_alloc | apply Kd.R_drewN | apply Kd.R_drew)); exact HO_9.out) hg hat); have n1_ := Aside0.mk (Kd.R_after (ok := (fun k_ => some k_ ≠ (u9 : Value).ownBlock)) (by (with_reducible repeat (first | apply Kd.R_alloc | apply Kd.R_drewN | apply Kd.R_drew)); exact HO_10.out) hg hat); have n2_ := Aside0.mk (hb); have n3_ := Aside0.mk (ho); clear HO_9; clear HO_10; clear HB; clear HO_13; have HO_9 := n0_; have HO_10 := n1_; have HB := n2_; have HO283 := n3_; clear n0_ n1_ n2_ n3_; clear ho hb hg hat; obtain ⟨Ao46, co46, eo46⟩ := Kd.R_slice HO_9.out; subst eo46; have p284 : 0 ≤ ((rd l1 x14_3) : Int) := of_decide_eq_true (by first | (with_reducible assumption) | assumption); have q284 : (rd l1 x14_3) < (x9_3.length : Int) := of_decide_eq_true (by first | (with_reducible assumption) | assumption); obtain ⟨ad284, e284, hx284_0⟩ := Kd.at_int (Kd.R_reads' HO_9.out).2.2 (rd l1 x14_3) p284 q284; cases e284; replace p284 := eq_true p284; replace q284 := eq_true q284; have p42 : 0 ≤ ((rd l1 x14_3) : Int) := of_decide_eq_true (by first | (with_reducible assumption) | assumption); have q42 : ((rd l1 x14_3) : Int) < ((x9_3.length : Int) : Int) := of_decide_eq_true (by first | (with_reducible assumption) | assumption); obtain ⟨go42, co42, eo42, gb42, gl42, cl42, HG42⟩ := Kd.R_form HO_9.out (by omega); (first | cases eo42 | (injection eo42 with ea_ en_ ec_; (first | subst ea_ | (injection ea_ with ea_; subst ea_)); subst ec_; clear en_)); have GB42 := Aside0.mk gb42; have GG42 := Aside0.mk HG42; clear gb42 gl42 HG42; (first | simp only [add_plain] at hx284_0 | skip); obtain ⟨hx42_0, hf42_0⟩ := Kd.R_celln 0 HO_9.out ((rd l1 x14_3) : Int) p42 q42; replace p42 := eq_true p42; replace q42 := eq_true q42; obtain ⟨hy47_, hz47_⟩ := Kd.R_celln 0 HO_9.out ((rd l1 x14_3) : Int) (of_decide_eq_true (by first | (with_reducible assumption) | assumption)) (of_decide_eq_true (by first | (with_reducible assumption) | assumption)); have HP47 := Kd.R_putg HO_9.out ((rd l1 x14_3) : Int) (wrap64 ((rd x9_3 (rd l1 x14_3)) - 1))) | ((with_reducible refine gate_store (t := 3) (p := 120) rfl ?_); refine store_event (t := 3) (p := 120) (v := ?vo_w48) (w1 := (w45.setCell ⟨go42, ((rd l1 x14_3) : Int).toNat, none⟩ (.int .i64 (wrap64 ((rd x9_3 (rd l1 x14_3)) - 1))))) ?hg ?ho ?hn ?hr ?_; (case ho => rfl); (case hg => rfl); (case hn => rfl); (case hr => first | (go_simp; done) | (go_simp; rfl)); intro w48 hw; have hg : w45.grownBy w48 (some go42) := (by rw [hw]; exact HP47.2); have hp_ : Kd.R (Kd.int .i64) 3 w48 w.heap.size (fun k_ => some k_ ≠ (.slice (some ad277) x10_3.length co30 : Value).ownBlock ∧ some k_ ≠ (v282 : Value).ownBlock) (.slice (some ⟨go42, 0, none⟩) x9_3.length co46) y285 := (by rw [hw, Ny285.out]; exact HP47.1); clear HP47; have n0_ := Aside0.mk (hp_); have n1_ := Aside0.mk (Kd.R_after (v := (.slice (some ⟨go42, 0, none⟩) x9_3.length co46)) (v1 := (.slice (some ⟨go42, 0, none⟩) x9_3.length co46)) (ok := (fun k_ => some k_ ≠ (v282 : Value).ownBlock)) (by (with_reducible repeat (first | apply Kd.R_alloc | apply Kd.R_drewN | apply Kd.R_drew)); exact Kd.R_mono HO_10.out (fun _ hk => ⟨hk.2, hk.1⟩)) hg (.inl rfl)); have n2_ := Aside0.mk (Kd.R_after (v := (.slice (some ⟨go42, 0, none⟩) x9_3.length co46)) (v1 := (.slice (some ⟨go42, 0, none⟩) x9_3.length co46)) (ok := (fun k_ => some k_ ≠ (.slice (some ad277) x10_3.length co30 : Value).ownBlock)) (by (with_reducible repeat (first | apply Kd.R_alloc | apply Kd.R_drewN | apply Kd.R_drew)); exact Kd.R_mono HO283.out (fun _ hk => ⟨hk.2, hk.1⟩)) hg (.inl rfl)); have n3_ := Aside0.mk ((by rw [hw]; exact below_set (HB.out) GB42.out : Below w.heap.size w w48)); clear HO_9; clear HO_10; clear HO283; clear HB; have HO_9 := n0_; have HO_10 := n1_; have HO283 := n2_; have HB := n3_; clear n0_ n1_ n2_ n3_; clear hg hw hp_; have p286 : 0 ≤ ((rd l1 x14_3) : Int) := of_decide_eq_true (by first | (with_reducible assumption) | assumption); have q286 : (rd l1 x14_3) < (x10_3.length : Int) := of_decide_eq_true (by first | (with_reducible assumption) | assumption); obtain ⟨ad286, e286, hx286_0⟩ := Kd.at_int (Kd.R_reads' HO_10.out).2.2 (rd l1 x14_3) p286 q286; obtain rfl : ad277 = ad286 := (by injection e286); replace p286 := eq_true p286; replace q286 := eq_true q286; have p44 : 0 ≤ ((rd l1 x14_3) : Int) := of_decide_eq_true (by first | (with_reducible assumption) | assumption); have q44 : ((rd l1 x14_3) : Int) < ((x10_3.length : Int) : Int) := of_decide_eq_true (by first | (with_reducible assumption) | assumption); obtain ⟨go44, co44, eo44, gb44, gl44, cl44, HG44⟩ := Kd.R_form HO_10.out (by omega); (first | cases eo44 | (injection eo44 with ea_ en_ ec_; (first | subst ea_ | (injection ea_ with ea_; subst ea_)); subst ec_; clear en_)); have GB44 := Aside0.mk gb44; have GG44 := Aside0.mk HG44; clear gb44 gl44 HG44; (first | simp only [add_plain] at hx277_0 | skip); (first | simp only [add_plain] at hx286_0 | skip); obtain ⟨hx44_0, hf44_0⟩ := Kd.R_celln 0 HO_10.out ((rd l1 x14_3) : Int) p44 q44; replace p44 := eq_true p44; replace q44 := eq_true q44; obtain ⟨hy49_, hz49_⟩ := Kd.R_celln 0 HO_10.out ((rd l1 x14_3) : Int) (of_decide_eq_true (by first | (with_reducible assumption) | assumption)) (of_decide_eq_true (by first | (with_reducible assumption) | assumption)); have HP49 := Kd.R_putg HO_10.out ((rd l1 x14_3) : Int) (wrap64 ((rd x10_3 (rd l1 x14_3)) + 1))) | ((with_reducible refine gate_store (t := 3) (p := 126) rfl ?_); refine store_event (t := 3) (p := 126) (v := ?vo_w50) (w1 := (w48.setCell ⟨go44, ((rd l1 x14_3) : Int).toNat, none⟩ (.int .i64 (wrap64 ((rd x10_3 (rd l1 x14_3)) + 1))))) ?hg ?ho ?hn ?hr ?_; (case ho => rfl); (case hg => rfl); (case hn => rfl); (case hr => first | (go_simp; done) | (go_simp; rfl)); intro w50 hw; have hg : w48.grownBy w50 (some go44) := (by rw [hw]; exact HP49.2); have hp_ : Kd.R (Kd.int .i64) 3 w50 w.heap.size (fun k_ => some k_ ≠ (v282 : Value).ownBlock ∧ some k_ ≠ (.slice (some ⟨go42, 0, none⟩) x9_3.length co46 : Value).ownBlock) (.slice (some ⟨go44, 0, none⟩) x10_3.length co30) y287 := (by rw [hw, Ny287.out]; exact HP49.1); clear HP49; have n0_ := Aside0.mk (Kd.R_after (v := (.slice (some ⟨go44, 0, none⟩) x10_3.length co30)) (v1 := (.slice (some ⟨go44, 0, none⟩) x10_3.length co30)) (ok := (fun k_ => some k_ ≠ (v282 : Value).ownBlock)) (by (with_reducible repeat (first | apply Kd.R_alloc | apply Kd.R_drewN | apply Kd.R_drew)); exact Kd.R_mono HO_9.out (fun _ hk => ⟨hk.2, hk.1⟩)) hg (.inl rfl)); have n1_ := Aside0.mk (hp_); have n2_ := Aside0.mk (Kd.R_after (v := (.slice (some ⟨go44, 0, none⟩) x10_3.length co30)) (v1 := (.slice (some ⟨go44, 0, none⟩) x10_3.length co30)) (ok := (fun k_ => some k_ ≠ (.slice (some ⟨go42, 0, none⟩) x9_3.length co46 : Value).ownBlock)) (by (with_reducible repeat (first | apply Kd.R_alloc | apply Kd.R_drewN | apply Kd.R_drew)); exact Kd.R_mono HO283.out (fun _ hk => ⟨hk.2, hk.1⟩)) hg (.inl rfl)); have n3_ := Aside0.mk ((by rw [hw]; exact below_set (HB.out) GB44.out : Below w.heap.size w w50)); clear HO_9; clear HO_10; clear HO283; clear HB; have HO_9 := n0_; have HO_10 := n1_; have HO283 := n2_; have HB := n3_; clear n0_ n1_ n2_ n3_; clear hg hw hp_))
                                                          go_roundg k6
                                                          case measure => have := HJ4.out; have := HK2.out; have := HK3.out; have := HJ17.out; have := HJ28.out; have := HK6.out; omega
                                                          case rel => exact ⟨(y285), (y287), (y281), (wrap64 (x14_3 + 1)), (by first | rfl | (simp; done) | (simp [*]; done)), H', ⟨by have := HJ4.out; have := HK2.out; have := HK3.out; have := HJ17.out; have := HJ28.out; have := HK6.out; omega⟩, ⟨by (with_reducible repeat (first | apply Kd.R_alloc | apply Kd.R_drewN | apply Kd.R_drew)); exact Kd.R_mono HO_9.out (fun _ hk => ⟨hk.2, hk.1⟩)⟩, ⟨by (with_reducible repeat (first | apply Kd.R_alloc | apply Kd.R_drewN | apply Kd.R_drew)); exact Kd.R_mono HO_10.out (fun _ hk => ⟨hk.2, hk.1⟩)⟩, ⟨by (with_reducible repeat (first | apply Kd.R_alloc | apply Kd.R_drewN | apply Kd.R_drew)); exact HO283.out⟩, ⟨by repeat (first | (with_reducible first | exact HB.out | apply below_alloc | apply pw_below_drewN | apply below_drew1) | exact HB.out)⟩⟩
                                                        · rw [if_neg c43] at H
                                                          exact absurd H (by simp)
                                                      · rw [if_neg c41] at H
                                                        exact absurd H (by simp)
                                                    · rw [if_neg c40] at H
                                                      exact absurd H (by simp)
                                                  · rw [if_neg c39] at H
                                                    exact absurd H (by simp)
                                    · rw [if_neg c28] at H
                                      exact absurd H (by simp)
                                  · rw [if_neg c27] at H
                                    exact absurd H (by simp)
                                · rw [if_neg c26] at H
                                  exact absurd H (by simp)
                              · rw [if_neg c25] at H
                                exact absurd H (by simp)
                      · rw [if_neg c17] at H
                        exact absurd H (by simp)
                    · rw [if_neg c16] at H
                      exact absurd H (by simp)
                  · rw [if_neg c15] at H
                    have c15b0 : decide (x14_3 < t266) = false := decide_eq_false c15
                    clear c15
                    simp only [Option.some.injEq, Prod.mk.injEq] at H
                    obtain ⟨rfl, rfl⟩ := H
                    go_wp2
                    go_ret2
                    exact ⟨_, by first | rfl | (simp [errW_none, errW_some] <;> rfl) | (simp [*, errW_none, errW_some] <;> rfl), by (with_reducible repeat (first | apply Kd.R_alloc | apply Kd.R_drewN | apply Kd.R_drew)); exact Kd.R_mono HO_13.out (fun _ hk => trivial), by repeat (first | (with_reducible first | exact HB.out | apply below_alloc | apply pw_below_drewN | apply below_drew1) | exact HB.out)⟩

end Go.Proofs.Ytiefmocfgneldaa.Q
