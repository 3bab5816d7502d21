/- Functions of the program as plain Lean functions, each with a proof that its call comes to just these answers, or the row that joins them to the given statement; no condition beside the statement's own. Written for this claim by pf.py, this session's program over the kit's print. -/
import Derived.Test.YtijnmfdpdjblbaaQx0
import Derived.Test.YtijnmfdpdjblbaaQx1
import Derived.Test.YtijnmfdpdjblbaaQx3
import Derived.Test.YtijnmfdpdjblbaaQx4
import Derived.Test.YtijnmfdpdjblbaaQx8
import Derived.Test.YtijnmfdpdjblbaaQx9
import Derived.Test.YtijnmfdpdjblbaaQx17
namespace Go.Proofs.Ytijnmfdpdjblbaa.Q
open Go.RowKit Go.Proofs.YtijnmfdpdjblbaaW.PrintWords Go.Proofs.YtijnmfdpdjblbaaW.PrintLast Go.Proofs.YtijnmfdpdjblbaaW.PrintMore
attribute [local go_sem] max2_int min2_int max_two min_two max_three min_three max_four min_four   -- for this text's walks alone
set_option linter.unusedVariables false
set_option linter.unusedSimpArgs false

/-! ### churnlaw10_DrawBelows: function 9 -/
mutual
def churnlaw10_DrawBelows.j0 : Nat → List Int → Int → List Int → Bool → Option (Bool)
  | 0, _, _, _, _ => none
  | k + 1, x0, x1, x2, x27 => if x27 = true then (churnlaw10_DrawBelows.j1 k x0 0 x2) else (churnlaw10_DrawBelows.j1 k x0 x1 x2)
def churnlaw10_DrawBelows.j1 : Nat → List Int → Int → List Int → Option (Bool)
  | 0, _, _, _ => none
  | k + 1, x0, x1, x2 => (tape_New.f x0).bind fun bt381 => ((tape_Tape_Take.f bt381.1 bt381.2 x1).bind fun bt383 => (if bt383.2.2.2 = 0 then (churnlaw10_DrawBelows.l0 k x0 x2 x1 0 bt383.2.1 bt383.2.2.1) else (some false)))
def churnlaw10_DrawBelows.l0 : Nat → List Int → List Int → Int → Int → ByteArray → Int → Option (Bool)
  | 0, _, _, _, _, _, _ => none
  | k + 1, x0, x2, x10, x11, x390000, x390001 => if x11 < (x2.length : Int) then (if 0 ≤ x11 then ((churnref10_Below.f k x0 x10 (rd x2 x11)).bind fun bt391 => ((draw_Below.f k x390000 x390001 (rd x2 x11)).bind fun bt395 => (if bt395.1 = bt391.1 then (if bt395.2.2.2 = bt391.2.2 then ((tape_Tape_Used.f x390000 x390001).bind fun t400 => (churnlaw10_DrawBelows.j3 k x0 x2 x10 x11 bt391.2.1 bt391.2.2 (t400 != x10) x390000 x390001 bt395.2.1 bt395.2.2.1)) else (churnlaw10_DrawBelows.j3 k x0 x2 x10 x11 bt391.2.1 bt391.2.2 true x390000 x390001 bt395.2.1 bt395.2.2.1)) else (churnlaw10_DrawBelows.j3 k x0 x2 x10 x11 bt391.2.1 bt391.2.2 true x390000 x390001 bt395.2.1 bt395.2.2.1)))) else (none)) else (some true)
def churnlaw10_DrawBelows.j3 : Nat → List Int → List Int → Int → Int → Int → Int → Bool → ByteArray → Int → ByteArray → Int → Option (Bool)
  | 0, _, _, _, _, _, _, _, _, _, _, _ => none
  | k + 1, x0, x2, x10, x11, x13, x14, x79, x390000, x390001, x400000, x400001 => if x79 = true then (some false) else (if x14 = 0 then ((tape_Tape_Used.f x400000 x400001).bind fun t403 => (if t403 = x13 then ((tape_Tape_Left.f x400000 x400001).bind fun t404 => (if t404 = (wrap64 ((x0.length : Int) - x13)) then (churnlaw10_DrawBelows.l0 k x0 x2 x13 (wrap64 (x11 + 1)) x400000 x400001) else (some false))) else (some false))) else ((tape_Tape_Left.f x400000 x400001).bind fun t401 => (if t401 = 0 then ((tape_Tape_Used.f x400000 x400001).bind fun t402 => (if t402 = 0 then (churnlaw10_DrawBelows.l0 k x0 x2 x10 (wrap64 (x11 + 1)) x390000 x390001) else (some false))) else (some false))))
end
def churnlaw10_DrawBelows.f (k : Nat) (l0 : List Int) (a1 : Int) (l2 : List Int) : Option (Bool) := (churnlaw10_alive.f).bind fun t380 => (if t380 = true then (if a1 < 0 then (churnlaw10_DrawBelows.j0 k l0 a1 l2 true) else (churnlaw10_DrawBelows.j0 k l0 a1 l2 (decide (a1 > (l0.length : Int))))) else (some false))
theorem churnlaw10_DrawBelows.mono_l : ∀ k, (∀ y0 y1 y2 y3, LeO (churnlaw10_DrawBelows.j0 k y0 y1 y2 y3) (churnlaw10_DrawBelows.j0 (k + 1) y0 y1 y2 y3)) ∧ (∀ y0 y1 y2, LeO (churnlaw10_DrawBelows.j1 k y0 y1 y2) (churnlaw10_DrawBelows.j1 (k + 1) y0 y1 y2)) ∧ (∀ y0 y1 y2 y3 y4 y5, LeO (churnlaw10_DrawBelows.l0 k y0 y1 y2 y3 y4 y5) (churnlaw10_DrawBelows.l0 (k + 1) y0 y1 y2 y3 y4 y5)) ∧ (∀ y0 y1 y2 y3 y4 y5 y6 y7 y8 y9 y10, LeO (churnlaw10_DrawBelows.j3 k y0 y1 y2 y3 y4 y5 y6 y7 y8 y9 y10) (churnlaw10_DrawBelows.j3 (k + 1) y0 y1 y2 y3 y4 y5 y6 y7 y8 y9 y10))
  | 0 => ⟨fun _ _ _ _ r h => by simp [churnlaw10_DrawBelows.j0] at h, fun _ _ _ r h => by simp [churnlaw10_DrawBelows.j1] at h, fun _ _ _ _ _ _ r h => by simp [churnlaw10_DrawBelows.l0] at h, fun _ _ _ _ _ _ _ _ _ _ _ r h => by simp [churnlaw10_DrawBelows.j3] at h⟩
  | k + 1 => by
    obtain ⟨ih0, ih1, ih2, ih3⟩ := churnlaw10_DrawBelows.mono_l k
    refine ⟨?_, ?_, ?_, ?_⟩
    · intro y0 y1 y2 y3
      unfold churnlaw10_DrawBelows.j0
      repeat' first
      | (with_reducible exact ih0 _ _ _ _)
      | (with_reducible exact ih1 _ _ _)
      | (with_reducible exact ih2 _ _ _ _ _ _)
      | (with_reducible exact ih3 _ _ _ _ _ _ _ _ _ _ _)
      | (with_reducible exact churnref10_Below.mono _ _ _ _)
      | (with_reducible exact draw_Below.mono _ _ _ _)
      | (with_reducible exact LeO.refl _)
      | (with_reducible exact LeO.none _)
      | (with_reducible refine LeO.ite ?_ ?_)
      | (with_reducible refine LeO.bind ?_ (fun _ => ?_))
      | exact ih0 _ _ _ _
      | exact ih1 _ _ _
      | exact ih2 _ _ _ _ _ _
      | exact ih3 _ _ _ _ _ _ _ _ _ _ _
      | exact churnref10_Below.mono _ _ _ _
      | exact draw_Below.mono _ _ _ _
      | exact LeO.none _
      | refine LeO.ite ?_ ?_
      | refine LeO.bind ?_ (fun _ => ?_)
    · intro y0 y1 y2
      unfold churnlaw10_DrawBelows.j1
      repeat' first
      | (with_reducible exact ih0 _ _ _ _)
      | (with_reducible exact ih1 _ _ _)
      | (with_reducible exact ih2 _ _ _ _ _ _)
      | (with_reducible exact ih3 _ _ _ _ _ _ _ _ _ _ _)
      | (with_reducible exact churnref10_Below.mono _ _ _ _)
      | (with_reducible exact draw_Below.mono _ _ _ _)
      | (with_reducible exact LeO.refl _)
      | (with_reducible exact LeO.none _)
      | (with_reducible refine LeO.ite ?_ ?_)
      | (with_reducible refine LeO.bind ?_ (fun _ => ?_))
      | exact ih0 _ _ _ _
      | exact ih1 _ _ _
      | exact ih2 _ _ _ _ _ _
      | exact ih3 _ _ _ _ _ _ _ _ _ _ _
      | exact churnref10_Below.mono _ _ _ _
      | exact draw_Below.mono _ _ _ _
      | exact LeO.none _
      | refine LeO.ite ?_ ?_
      | refine LeO.bind ?_ (fun _ => ?_)
    · intro y0 y1 y2 y3 y4 y5
      unfold churnlaw10_DrawBelows.l0
      repeat' first
      | (with_reducible exact ih0 _ _ _ _)
      | (with_reducible exact ih1 _ _ _)
      | (with_reducible exact ih2 _ _ _ _ _ _)
      | (with_reducible exact ih3 _ _ _ _ _ _ _ _ _ _ _)
      | (with_reducible exact churnref10_Below.mono _ _ _ _)
      | (with_reducible exact draw_Below.mono _ _ _ _)
      | (with_reducible exact LeO.refl _)
      | (with_reducible exact LeO.none _)
      | (with_reducible refine LeO.ite ?_ ?_)
      | (with_reducible refine LeO.bind ?_ (fun _ => ?_))
      | exact ih0 _ _ _ _
      | exact ih1 _ _ _
      | exact ih2 _ _ _ _ _ _
      | exact ih3 _ _ _ _ _ _ _ _ _ _ _
      | exact churnref10_Below.mono _ _ _ _
      | exact draw_Below.mono _ _ _ _
      | exact LeO.none _
      | refine LeO.ite ?_ ?_
      | refine LeO.bind ?_ (fun _ => ?_)
    · intro y0 y1 y2 y3 y4 y5 y6 y7 y8 y9 y10
      unfold churnlaw10_DrawBelows.j3
      repeat' first
      | (with_reducible exact ih0 _ _ _ _)
      | (with_reducible exact ih1 _ _ _)
      | (with_reducible exact ih2 _ _ _ _ _ _)
      | (with_reducible exact ih3 _ _ _ _ _ _ _ _ _ _ _)
      | (with_reducible exact churnref10_Below.mono _ _ _ _)
      | (with_reducible exact draw_Below.mono _ _ _ _)
      | (with_reducible exact LeO.refl _)
      | (with_reducible exact LeO.none _)
      | (with_reducible refine LeO.ite ?_ ?_)
      | (with_reducible refine LeO.bind ?_ (fun _ => ?_))
      | exact ih0 _ _ _ _
      | exact ih1 _ _ _
      | exact ih2 _ _ _ _ _ _
      | exact ih3 _ _ _ _ _ _ _ _ _ _ _
      | exact churnref10_Below.mono _ _ _ _
      | exact draw_Below.mono _ _ _ _
      | exact LeO.none _
      | refine LeO.ite ?_ ?_
      | refine LeO.bind ?_ (fun _ => ?_)
theorem churnlaw10_DrawBelows.mono : ∀ a0 a1 a2 k, LeO (churnlaw10_DrawBelows.f k a0 a1 a2) (churnlaw10_DrawBelows.f (k + 1) a0 a1 a2) := by
  intro a0 a1 a2 k
  obtain ⟨ih0, ih1, ih2, ih3⟩ := churnlaw10_DrawBelows.mono_l k
  unfold churnlaw10_DrawBelows.f
  repeat' first
      | (with_reducible exact ih0 _ _ _ _)
      | (with_reducible exact ih1 _ _ _)
      | (with_reducible exact ih2 _ _ _ _ _ _)
      | (with_reducible exact ih3 _ _ _ _ _ _ _ _ _ _ _)
      | (with_reducible exact churnref10_Below.mono _ _ _ _)
      | (with_reducible exact draw_Below.mono _ _ _ _)
      | (with_reducible exact LeO.refl _)
      | (with_reducible exact LeO.none _)
      | (with_reducible refine LeO.ite ?_ ?_)
      | (with_reducible refine LeO.bind ?_ (fun _ => ?_))
      | exact ih0 _ _ _ _
      | exact ih1 _ _ _
      | exact ih2 _ _ _ _ _ _
      | exact ih3 _ _ _ _ _ _ _ _ _ _ _
      | exact churnref10_Below.mono _ _ _ _
      | exact draw_Below.mono _ _ _ _
      | exact LeO.none _
      | refine LeO.ite ?_ ?_
      | refine LeO.bind ?_ (fun _ => ?_)
def churnlaw10_DrawBelows.T13 : Bool × List (List Nat × List Nat) := (true, [([], []), ([], []), ([], []), ([1, 2], [1, 2]), ([3], [3]), ([0, 4], [0, 4]), ([5], [5]), ([6], [6]), ([6], [6]), ([6], [6]), ([], []), ([7, 5, 0, 1, 2, 3, 4, 5, 6, 7, 10], [7]), ([10, 8, 11, 0, 1, 2, 3, 4, 5, 6, 7, 8, 10, 11], [8, 10]), ([9, 12, 0, 1, 2, 3, 4, 5, 6, 7, 8, 9, 10, 11, 12], [9])])
def churnlaw10_DrawBelows.B13 : List Nat := [0, 0, 0, 6, 14, 31, 63, 127, 127, 127, 0, 1279, 3583, 8191]
theorem churnlaw10_DrawBelows.tab13 : rtab .any (opsOf Try.f9 13) = churnlaw10_DrawBelows.T13 := by kernel_rfl
theorem churnlaw10_DrawBelows.bits13 : waitsOk churnlaw10_DrawBelows.T13.2 churnlaw10_DrawBelows.B13 = true := by kernel_rfl
set_option maxHeartbeats 8000000 in
set_option maxRecDepth 100000 in
theorem churnlaw10_DrawBelows.calls (k : Nat) (A0 : Option Addr) (c0 : Nat) (l0 : List Int) (a1 : Int) (A2 : Option Addr) (c2 : Nat) (l2 : List Int) (r : Bool) (w : World) (hr0 : Kd.C (Kd.int .u8) w A0 l0.length l0) (hc0 : l0.length ≤ c0) (hr2 : Kd.C (Kd.int .i64) w A2 l2.length l2) (hc2 : l2.length ≤ c2) (h : churnlaw10_DrawBelows.f k l0 a1 l2 = some r) :
    Calls Try.prog 9 #[.slice A0 l0.length c0, .int .i64 a1, .slice A2 l2.length c2] w fun e w' => e = .returned (.bool r) ∧ Below w.heap.size w w' := by
  have hu38 := Try.underlying38
  have HR0 := Aside0.mk hr0
  have HC0 := Aside0.mk hc0
  clear hr0 hc0
  have HR2 := Aside0.mk hr2
  have HC2 := Aside0.mk hc2
  clear hr2 hc2
  have HB := Aside0.mk (Below.refl w.heap.size w)
  have H : ((churnlaw10_alive.f).bind fun t380 => (if t380 = true then (if a1 < 0 then (churnlaw10_DrawBelows.j0 k l0 a1 l2 true) else (churnlaw10_DrawBelows.j0 k l0 a1 l2 (decide (a1 > (l0.length : Int))))) else (some false))) = some r := h
  clear h
  replace H := Option.bind_eq_some_iff.mp H
  obtain ⟨t380, A40, H⟩ := H
  replace H : (if t380 = true then (if a1 < 0 then (churnlaw10_DrawBelows.j0 k l0 a1 l2 true) else (churnlaw10_DrawBelows.j0 k l0 a1 l2 (decide (a1 > (l0.length : Int))))) else (some false)) = some r := H
  have A4 := Aside0.mk A40
  clear A40
  by_cases c5 : t380 = true
  · subst c5
    have H1 : (if a1 < 0 then (churnlaw10_DrawBelows.j0 k l0 a1 l2 true) else (churnlaw10_DrawBelows.j0 k l0 a1 l2 (decide (a1 > (l0.length : Int))))) = some r := by rw [if_pos rfl] at H; exact H
    clear H
    have H := H1
    clear H1
    have HC6 := Aside0.mk H
    clear H
    go_enter Try.func9, Try.ntmps9
    go_upto_region 3 with (first | ((with_reducible refine gate_callee (f := 10) rfl ?_); refine goesL_ (some 18) rfl rfl Try.func10 (by kernel_rfl) rfl #[] rfl (by (try simp only [List.map_toArray, List.map_cons, List.map_nil]); first | done | rfl | (simp only [List.length_drop, List.length_take]; rfl)) ?_; (with_reducible refine (churnlaw10_alive.calls  true _ A4.out).mono ?_); rintro e w7 ⟨rfl, hb⟩; refine ⟨_, rfl, ?_⟩; have n0_ := Aside0.mk (below_step (by repeat (first | (with_reducible first | exact HB.out | apply below_alloc | apply pw_below_drewN | apply below_drew1) | exact HB.out)) hb); clear HB; have HB := n0_; clear n0_; (try clear hb); (try clear hb2); (try clear hk); (try clear hi)))
    (try simp only [Act.put, List.setIfInBounds_toArray, List.set_cons_zero, List.set_cons_succ])
    go_cut [27] (fun v27 wc => ∃ (kq : Nat) (x27_5 : Bool), v27 = .bool x27_5 ∧ Aside0 (churnlaw10_DrawBelows.j0 kq l0 a1 l2 x27_5 = some r) ∧ Aside0 (kq ≤ k) ∧ Aside0 (Below w.heap.size w wc))
    case first =>
      have H := HC6.out
      clear HC6
      by_cases c8 : a1 < 0
      · rw [if_pos c8] at H
        have c8b0 : decide (a1 < 0) = true := decide_eq_true c8
        clear c8
        (first | rw [c8b0] | (simp only [i64_w, i32_w]; rw [c8b0]) | skip)
        have H' := Aside0.mk H
        clear H
        go_wp2
        go_meet
        case rel => exact ⟨_, (true), (by first | rfl | (simp; done) | (simp [*]; done)), H', ⟨by first | omega | exact Nat.le_refl _⟩, ⟨by repeat (first | (with_reducible first | exact HB.out | apply below_alloc | apply pw_below_drewN | apply below_drew1) | exact HB.out)⟩⟩
      · rw [if_neg c8] at H
        have c8b0 : decide (a1 < 0) = false := decide_eq_false c8
        clear c8
        (first | rw [c8b0] | (simp only [i64_w, i32_w]; rw [c8b0]) | skip)
        have H' := Aside0.mk H
        clear H
        go_wp2
        go_meet
        case rel => exact ⟨_, (decide (a1 > (l0.length : Int))), (by first | rfl | (simp; done) | (simp [*]; done)), H', ⟨by first | omega | exact Nat.le_refl _⟩, ⟨by repeat (first | (with_reducible first | exact HB.out | apply below_alloc | apply pw_below_drewN | apply below_drew1) | exact HB.out)⟩⟩
    case rest =>
      clear HC6
      try clear c1
      try clear c2
      try clear p2
      try clear c5
      try clear c8
      try clear c8b0
      obtain ⟨kq, x27_5, rfl, HA, HJ5, HB⟩ := hcut
      cases kq with
      | zero => exact absurd HA.out (by simp [churnlaw10_DrawBelows.j0])
      | succ kj5 =>
        have H := HA.out
        clear HA
        simp only [churnlaw10_DrawBelows.j0] at H
        have HC9 := Aside0.mk H
        clear H
        go_upto_if 27 with (fail)
        go_cut [1] (fun v1 wc => ∃ (kq : Nat) (x1_8 : Int), v1 = .int .i64 x1_8 ∧ Aside0 (churnlaw10_DrawBelows.j1 kq l0 x1_8 l2 = some r) ∧ Aside0 (kq ≤ kj5) ∧ Aside0 (Below w.heap.size w wc))
        case first =>
          have H := HC9.out
          clear HC9
          by_cases c10 : x27_5 = true
          · subst c10
            have H1 : (churnlaw10_DrawBelows.j1 kj5 l0 0 l2) = some r := by rw [if_pos rfl] at H; exact H
            clear H
            have H := H1
            clear H1
            have H' := Aside0.mk H
            clear H
            go_wp2
            go_meet
            case rel => exact ⟨_, (0), (by first | rfl | (simp; done) | (simp [*]; done)), H', ⟨by have := HJ5.out; first | omega | exact Nat.le_refl _⟩, ⟨by repeat (first | (with_reducible first | exact HB.out | apply below_alloc | apply pw_below_drewN | apply below_drew1) | exact HB.out)⟩⟩
          · replace c10 := Bool.eq_false_iff.mpr c10
            subst c10
            have H1 : (churnlaw10_DrawBelows.j1 kj5 l0 a1 l2) = some r := by rw [if_neg (show ¬ (false = true) by decide)] at H; exact H
            clear H
            have H := H1
            clear H1
            have H' := Aside0.mk H
            clear H
            go_wp2
            go_meet
            case rel => exact ⟨_, (a1), (by first | rfl | (simp; done) | (simp [*]; done)), H', ⟨by have := HJ5.out; first | omega | exact Nat.le_refl _⟩, ⟨by repeat (first | (with_reducible first | exact HB.out | apply below_alloc | apply pw_below_drewN | apply below_drew1) | exact HB.out)⟩⟩
        case rest =>
          clear HC9
          try clear c1
          try clear c2
          try clear p2
          try clear c5
          try clear c8
          try clear c8b0
          try clear c9
          try clear c10
          try clear p2
          obtain ⟨kq, x1_8, rfl, HA, HJ8, HB⟩ := hcut
          cases kq with
          | zero => exact absurd HA.out (by simp [churnlaw10_DrawBelows.j1])
          | succ kj8 =>
            have H := HA.out
            clear HA
            simp only [churnlaw10_DrawBelows.j1] at H
            replace H := Option.bind_eq_some_iff.mp H
            obtain ⟨⟨t381, t382⟩, A110, H⟩ := H
            replace H : ((tape_Tape_Take.f t381 t382 x1_8).bind fun bt383 => (if bt383.2.2.2 = 0 then (churnlaw10_DrawBelows.l0 kj8 l0 l2 x1_8 0 bt383.2.1 bt383.2.2.1) else (some false))) = some r := H
            have A11 := Aside0.mk A110
            clear A110
            replace H := Option.bind_eq_some_iff.mp H
            obtain ⟨⟨t383, t386, t387, t388⟩, A120, H⟩ := H
            replace H : (if t388 = 0 then (churnlaw10_DrawBelows.l0 kj8 l0 l2 x1_8 0 t386 t387) else (some false)) = some r := H
            have A12 := Aside0.mk A120
            clear A120
            by_cases c13 : t388 = 0
            · rw [if_pos c13] at H
              have c13b0 : (t388 == 0) = true := beq_iff_eq.mpr c13
              have c13b1 : (t388 != 0) = false := bne_eq_false_iff_eq.mpr c13
              clear c13
              have H' := Aside0.mk H
              clear H
              go_wp2_with (first | ((with_reducible refine gate_callee (f := 17) rfl ?_); refine goesL_ (some 30) rfl rfl Try.func17 (by kernel_rfl) rfl #[.slice A0 l0.length c0] rfl (by (try simp only [List.map_toArray, List.map_cons, List.map_nil]); first | done | rfl | (simp only [List.length_drop, List.length_take]; rfl)) ?_; (with_reducible refine (tape_New.calls _ _ l0 t381 t382 _ ?side1 ?side2 A11.out).mono ?_); (case side1 => repeat (first | exact (Kd.C_below HR0.out HB.out) | (with_reducible refine Kd.C_alloc ?_ _) | (with_reducible refine Kd.C_drewN ?_ _) | (with_reducible refine Kd.C_drew ?_))); (case side2 => exact HC0.out); rintro e w14 ⟨rfl, hb⟩; refine ⟨_, rfl, ?_⟩; have n0_ := Aside0.mk (below_step (by repeat (first | (with_reducible first | exact HB.out | apply below_alloc | apply pw_below_drewN | apply below_drew1) | exact HB.out)) hb); clear HB; have HB := n0_; clear n0_; (try clear hb); (try clear hb2); (try clear hk); (try clear hi)) | ((with_reducible refine gate_callee (f := 19) rfl ?_); refine goesL_ (some 32) rfl rfl Try.func19 (by kernel_rfl) rfl #[.agg #[.string t381, .int .i64 t382], .int .i64 x1_8] rfl (by (try simp only [List.map_toArray, List.map_cons, List.map_nil]); first | done | rfl | (simp only [List.length_drop, List.length_take]; rfl)) ?_; (with_reducible refine (tape_Tape_Take.calls t381 t382 x1_8 t383 t386 t387 t388 _ A12.out).mono ?_); rintro e w15 ⟨v384, rfl, ho0, hb⟩; refine ⟨_, rfl, ?_⟩; have n0_ := Aside0.mk (Kd.V_lower (Kd.V_mono (ok' := fun k_ => True) ho0 (fun k_ hk_ => trivial)) (below_size (by repeat (first | (with_reducible first | exact HB.out | apply below_alloc | apply pw_below_drewN | apply below_drew1) | exact HB.out)))); have n1_ := Aside0.mk (below_step (by repeat (first | (with_reducible first | exact HB.out | apply below_alloc | apply pw_below_drewN | apply below_drew1) | exact HB.out)) hb); clear HB; have HO385 := n0_; have HB := n1_; clear n0_ n1_; (try clear hb); (try clear hb2); (try clear hk); (try clear hi); (try clear ho0)) | ((with_reducible refine gate_dst (N := 8) rfl ?_); (try (refine gate_guard (by rfl) ?_; dsimp only)); refine box_event ?hg (N := 8) ?hd (cs := #[.string (⟨#[]⟩ : ByteArray), .int .i64 0]) (t := 38) ?hr ?_; (case hd => rfl); (case hg => rfl); (case hr => first | (go_simp; done) | (go_simp; rfl)); intro gb389 hg w16 hbox hb; have n0_ := Aside0.mk (Kd.V_below (Kd.V_elderB (by (with_reducible repeat (first | apply Kd.V_alloc | apply Kd.V_drewN | apply Kd.V_drew)); exact HO385.out) gb389 (Nat.le_of_eq hg.symm)) hb); have n1_ := Aside0.mk (below_step (by repeat (first | (with_reducible first | exact HB.out | apply below_alloc | apply pw_below_drewN | apply below_drew1) | exact HB.out)) hb); have n2_ := Aside0.mk (hbox); have n3_ := Aside0.mk ((by rw [hg]; exact (below_size (by repeat (first | (with_reducible first | exact HB.out | apply below_alloc | apply pw_below_drewN | apply below_drew1) | exact HB.out))) : w.heap.size ≤ gb389)); have n4_ := Aside0.mk ((by rw [hg]; exact (below_size (by repeat (first | (with_reducible first | exact HB.out | apply below_alloc | apply pw_below_drewN | apply below_drew1) | exact HB.out))) : w.heap.size ≤ gb389)); clear HO385; clear HB; have HO385 := n0_; have HB := n1_; have BK389 := n2_; have GW389 := n3_; have GE389 := n4_; clear n0_ n1_ n2_ n3_ n4_; clear hb hbox hg; have hcz17_0 : w16.cell? ⟨gb389, 0, none⟩ = some (.string (⟨#[]⟩ : ByteArray)) := (blk_cell BK389.out 0).trans rfl; have hcz17_1 : w16.cell? ⟨gb389, 1, none⟩ = some (.int .i64 0) := (blk_cell BK389.out 1).trans rfl; have hfz17_0 := blk_frozen BK389.out 0; have hfz17_1 := blk_frozen BK389.out 1))
              go_loopg [10, 11] kj8 (fun kq v10 v11 w' => ∃ (x10_3 : Int) (x11_3 : Int) (x390000_3 : ByteArray) (x390001_3 : Int), v10 = .int .i64 x10_3 ∧ v11 = .int .i64 x11_3 ∧ Aside0 (churnlaw10_DrawBelows.l0 kq l0 l2 x10_3 x11_3 x390000_3 x390001_3 = some r) ∧ Aside0 (kq ≤ kj8) ∧ Aside0 (w'.heap[gb389]? = some (.cells #[.string x390000_3, .int .i64 x390001_3] 38 (0, 0))) ∧ Aside0 (Below w.heap.size w w'))
              case atStart => exact ⟨(x1_8), (0), (t386), (t387), (by first | rfl | (simp; done) | (simp [*]; done)), (by first | rfl | (simp; done) | (simp [*]; done)), H', ⟨Nat.le_refl _⟩, ⟨by (with_reducible repeat (first | refine blk_drewN ?_ _ | refine blk_drew ?_ | refine blk_alloc ?_ _)); refine blk_put (cs := #[.string t386, .int .i64 0]) ?_ 1 _ rfl; (with_reducible repeat (first | refine blk_drewN ?_ _ | refine blk_drew ?_ | refine blk_alloc ?_ _)); refine blk_put (cs := #[.string (⟨#[]⟩ : ByteArray), .int .i64 0]) ?_ 0 _ rfl; (with_reducible repeat (first | refine blk_drewN ?_ _ | refine blk_drew ?_ | refine blk_alloc ?_ _)); exact BK389.out⟩, ⟨by repeat (first | (with_reducible first | exact HB.out | apply below_alloc | apply pw_below_drewN | apply below_drew1 | refine below_set ?_ GE389.out) | exact HB.out)⟩⟩
              case round =>
                clear H'
                try clear c1
                try clear c2
                try clear p2
                try clear c5
                try clear c8
                try clear c8b0
                try clear c9
                try clear c10
                try clear c13
                try clear c13b0
                try clear c13b1
                try clear c17
                try clear hcz17_0
                try clear hcz17_1
                try clear hfz17_0
                try clear hfz17_1
                try clear p2
                obtain ⟨x10_3, x11_3, x390000_3, x390001_3, rfl, rfl, HA, HK3, BK389, HB⟩ := hrel
                cases gk with
                | zero => exact absurd HA.out (by simp [churnlaw10_DrawBelows.l0])
                | succ k3 =>
                  have H := HA.out
                  clear HA
                  simp only [churnlaw10_DrawBelows.l0] at H
                  by_cases c18 : x11_3 < (l2.length : Int)
                  · rw [if_pos c18] at H
                    have c18b0 : decide (x11_3 < (l2.length : Int)) = true := decide_eq_true c18
                    clear c18
                    by_cases c19 : 0 ≤ x11_3
                    · rw [if_pos c19] at H
                      have c19b0 : decide (0 ≤ x11_3) = true := decide_eq_true c19
                      clear c19
                      replace H := Option.bind_eq_some_iff.mp H
                      obtain ⟨⟨t391, t392, t393⟩, A200, H⟩ := H
                      replace H : ((draw_Below.f k3 x390000_3 x390001_3 (rd l2 x11_3)).bind fun bt395 => (if bt395.1 = t391 then (if bt395.2.2.2 = t393 then ((tape_Tape_Used.f x390000_3 x390001_3).bind fun t400 => (churnlaw10_DrawBelows.j3 k3 l0 l2 x10_3 x11_3 t392 t393 (t400 != x10_3) x390000_3 x390001_3 bt395.2.1 bt395.2.2.1)) else (churnlaw10_DrawBelows.j3 k3 l0 l2 x10_3 x11_3 t392 t393 true x390000_3 x390001_3 bt395.2.1 bt395.2.2.1)) else (churnlaw10_DrawBelows.j3 k3 l0 l2 x10_3 x11_3 t392 t393 true x390000_3 x390001_3 bt395.2.1 bt395.2.2.1))) = some r := H
                      have A20 := Aside0.mk A200
                      clear A200
                      replace H := Option.bind_eq_some_iff.mp H
                      obtain ⟨⟨t395, t396, t397, t398⟩, A210, H⟩ := H
                      replace H : (if t395 = t391 then (if t398 = t393 then ((tape_Tape_Used.f x390000_3 x390001_3).bind fun t400 => (churnlaw10_DrawBelows.j3 k3 l0 l2 x10_3 x11_3 t392 t393 (t400 != x10_3) x390000_3 x390001_3 t396 t397)) else (churnlaw10_DrawBelows.j3 k3 l0 l2 x10_3 x11_3 t392 t393 true x390000_3 x390001_3 t396 t397)) else (churnlaw10_DrawBelows.j3 k3 l0 l2 x10_3 x11_3 t392 t393 true x390000_3 x390001_3 t396 t397)) = some r := H
                      have A21 := Aside0.mk A210
                      clear A210
                      have HC22 := Aside0.mk H
                      clear H
                      have p390 : 0 ≤ (x11_3 : Int) := of_decide_eq_true (by first | (with_reducible assumption) | assumption)
                      have q390 : x11_3 < (l2.length : Int) := of_decide_eq_true (by first | (with_reducible assumption) | assumption)
                      obtain ⟨ad390, e390, hx390_0⟩ := Kd.at_int HR2.out x11_3 p390 q390
                      cases e390
                      (try (replace hx390_0 := (HB.out.cell (World.block_lt_of_cell? w _ hx390_0)).trans hx390_0))
                      replace p390 := eq_true p390
                      replace q390 := eq_true q390
                      try go_wp2_with (first | ((with_reducible refine gate_callee (f := 20) rfl ?_); refine goesL_ (some 52) rfl rfl Try.func20 (by kernel_rfl) rfl #[.slice A0 l0.length c0, .int .i64 x10_3, .int .i64 (rd l2 x11_3)] rfl (by (try simp only [List.map_toArray, List.map_cons, List.map_nil]); first | done | rfl | (simp only [List.length_drop, List.length_take]; rfl)) ?_; (with_reducible refine (churnref10_Below.calls k3 _ _ l0 x10_3 (rd l2 x11_3) t391 t392 t393 _ ?side1 ?side2 A20.out).mono ?_); (case side1 => repeat (first | exact (Kd.C_below HR0.out HB.out) | (with_reducible refine Kd.C_alloc ?_ _) | (with_reducible refine Kd.C_drewN ?_ _) | (with_reducible refine Kd.C_drew ?_))); (case side2 => exact HC0.out); rintro e w' ⟨rfl, ⟨nd, rfl⟩⟩; refine ⟨_, rfl, ?_⟩; (try (rw [drewN_self wr]; generalize hq_ : World.drewN wr _ = wr; have n0_ : Aside0 (wr.heap[gb389]? = some (.cells #[.string x390000_3, .int .i64 x390001_3] 38 (0, 0))) := ⟨by rw [← hq_]; exact (by (with_reducible repeat (first | refine blk_drewN ?_ _ | refine blk_drew ?_ | refine blk_alloc ?_ _)); exact BK389.out)⟩; have n1_ : Aside0 (Below w.heap.size w wr) := ⟨by rw [← hq_]; exact (by repeat (first | (with_reducible first | exact HB.out | apply below_alloc | apply pw_below_drewN | apply below_drew1 | refine below_set ?_ GE389.out) | exact HB.out))⟩; clear BK389 HB hq_; have BK389 := n0_; have HB := n1_; clear n0_ n1_))))
                      have n0_ := Aside0.mk (blk_drew BK389.out)
                      have n1_ := Aside0.mk (below_drew1 HB.out)
                      clear BK389
                      clear HB
                      have BK389 := n0_
                      have HB := n1_
                      clear n0_ n1_
                      have p394 : 0 ≤ (x11_3 : Int) := of_decide_eq_true (by first | (with_reducible assumption) | assumption)
                      have q394 : x11_3 < (l2.length : Int) := of_decide_eq_true (by first | (with_reducible assumption) | assumption)
                      obtain ⟨ad394, e394, hx394_0⟩ := Kd.at_int HR2.out x11_3 p394 q394
                      have hw394_0 := hx394_0
                      obtain rfl : ad390 = ad394 := (by injection e394)
                      (try (replace hx394_0 := (HB.out.cell (World.block_lt_of_cell? w _ hx394_0)).trans hx394_0))
                      replace p394 := eq_true p394
                      replace q394 := eq_true q394
                      refine start_ (n := 14) (S := fun w' => w'.cell? ⟨gb389, 0, none⟩ = some (.string x390000_3) ∧ w'.cell? ⟨gb389, 1, none⟩ = some (.int .i64 x390001_3) ∧ w'.cell? (ad390.add (x11_3).toNat) = some (.int .i64 (rd l2 x11_3))) (ds := []) #[false, false, false, false, false, false, false, false, false, false, false, false, false, false] (by kernel_rfl) rfl rfl ⟨(blk_cell BK389.out 0).trans rfl, (blk_cell BK389.out 1).trans rfl, ((HB.out.cell (World.block_lt_of_cell? w _ hw394_0)).trans hw394_0)⟩ (fun hHeld => ?_); refine with_tabW churnlaw10_DrawBelows.tab13 churnlaw10_DrawBelows.bits13 (fun HT_ HW_ => ?_)
                      generalize wr.drew = w23 at BK389 HB hx394_0 hHeld ⊢
                      refine pure_ (i := 1) (N := some 58) (v := ?_) (a' := ?_) #[false, true, false, false, false, false, false, false, false, false, false, false, false, false] rfl rfl (any_of HT_.out (by kernel_rfl)) (fun _ _ _ h => h) (Or.inl ⟨by rfl, ?_⟩) ?_ ?_
                      rotate_left
                      · intro w'
                        go_simp
                        with_reducible rfl
                      rotate_left
                      · simp only [Act.put, List.setIfInBounds_toArray, List.set_cons_zero, List.set_cons_succ, i64_w, i32_w]
                        rfl
                      refine pure_ (i := 2) (N := some 59) (v := ?_) (a' := ?_) #[false, true, true, false, false, false, false, false, false, false, false, false, false, false] rfl rfl (any_of HT_.out (by kernel_rfl)) (fun _ _ _ h => h) (Or.inl ⟨by rfl, ?_⟩) ?_ ?_
                      rotate_left
                      · intro w'
                        go_simp
                        with_reducible rfl
                      rotate_left
                      · simp only [Act.put, List.setIfInBounds_toArray, List.set_cons_zero, List.set_cons_succ, i64_w, i32_w]
                        rfl
                      refine pure_ (i := 3) (N := some 60) (v := ?_) (a' := ?_) #[false, true, true, true, false, false, false, false, false, false, false, false, false, false] rfl rfl (any_of HT_.out (by kernel_rfl)) (fun _ _ _ h => h) (Or.inl ⟨by rfl, ?_⟩) ?_ ?_
                      rotate_left
                      · intro w'
                        go_simp
                        with_reducible rfl
                      rotate_left
                      · simp only [Act.put, List.setIfInBounds_toArray, List.set_cons_zero, List.set_cons_succ, i64_w, i32_w]
                        rfl
                      refine take_ (i := 0) (N := some 57) (v := ?_) (a' := ?_) #[true, true, true, true, false, false, false, false, false, false, false, false, false, false] rfl rfl (take_ofW HT_.out HW_.out (by kernel_rfl)) (fun _ _ _ h => h) (Or.inl ⟨by rfl, ?_⟩) hHeld ?_ ?_
                      rotate_left
                      · rintro w' ⟨s0, s1, s2⟩
                        go_simp
                        with_reducible rfl
                      rotate_left
                      · simp only [Act.put, List.setIfInBounds_toArray, List.set_cons_zero, List.set_cons_succ, i64_w, i32_w]
                        rfl
                      refine take_ (i := 4) (N := some 61) (v := ?_) (a' := ?_) #[true, true, true, true, true, false, false, false, false, false, false, false, false, false] rfl rfl (take_ofW HT_.out HW_.out (by kernel_rfl)) (fun _ _ _ h => h) (Or.inl ⟨by rfl, ?_⟩) hHeld ?_ ?_
                      rotate_left
                      · rintro w' ⟨s0, s1, s2⟩
                        go_simp
                        with_reducible rfl
                      rotate_left
                      · simp only [Act.put, List.setIfInBounds_toArray, List.set_cons_zero, List.set_cons_succ, i64_w, i32_w]
                        rfl
                      refine join_ (σ := Nat) 3 #[true, true, true, true, true, true, true, true, true, true, true, false, false, false] (fun s_ => [(62, .tuple #[.int .i64 t395, .agg #[.string t396, .int .i64 t397], .int .i64 t398]), (16, .pointer (some ⟨s_, 0, none⟩)), (56, .tuple #[.int .i64 t395, .agg #[.string t396, .int .i64 t397], .int .i64 t398]), (63, .int .i64 t395), (64, .agg #[.string t396, .int .i64 t397]), (65, .int .i64 t398)]) (fun s_ w' => (w'.cell? ⟨gb389, 0, none⟩ = some (.string x390000_3) ∧ w'.cell? ⟨gb389, 1, none⟩ = some (.int .i64 x390001_3) ∧ w'.cell? (ad390.add (x11_3).toNat) = some (.int .i64 (rd l2 x11_3))) ∧ (w'.heap[gb389]? = some (.cells #[.string x390000_3, .int .i64 x390001_3] 38 (0, 0))) ∧ (w'.heap[s_]? = some (.cells #[.string (⟨#[]⟩ : ByteArray), .int .i64 0] 38 (0, 0))) ∧ (w.heap.size ≤ s_) ∧ (w.heap.size ≤ s_) ∧ (gb389 ≠ s_) ∧ (s_ ≠ gb389) ∧ (Below w.heap.size w w')) ?_ ?_
                      rotate_left
                      · intro hCont
                        refine two_ (i := 5) (j := 10) (Ni := some 62) (Nj := some 16) #[true, true, true, true, true, true, false, false, false, false, false, false, false, false] #[true, true, true, true, true, false, false, false, false, false, true, false, false, false] rfl rfl rfl rfl (two_of HT_.out (by kernel_rfl)) (by decide) (by decide) (fun K hK => ?_) (fun K hK => ?_)
                        · skip
                          refine goes_ Try.func16 (by kernel_rfl) rfl #[.agg #[.string x390000_3, .int .i64 x390001_3], .int .i64 (rd l2 x11_3)] (by rfl) rfl rfl (by (try simp only [List.map_toArray, List.map_cons, List.map_nil]); first | done | rfl | (simp only [List.length_drop, List.length_take]; rfl)) ?_
                          with_reducible refine (draw_Below.calls k3 x390000_3 x390001_3 (rd l2 x11_3) t395 t396 t397 t398 _ A21.out).mono ?_
                          rintro e w24 ⟨rfl, hb⟩
                          refine ⟨_, rfl, ?_⟩
                          have n0_ := Aside0.mk (blk_below (g := gb389) (o := .cells #[.string x390000_3, .int .i64 x390001_3] 38 (0, 0)) (by (with_reducible repeat (first | refine blk_drewN ?_ _ | refine blk_drew ?_ | refine blk_alloc ?_ _)); exact BK389.out) hb)
                          have n1_ := Aside0.mk (below_step (by repeat (first | (with_reducible first | exact HB.out | apply below_alloc | apply pw_below_drewN | apply below_drew1 | refine below_set ?_ GE389.out) | exact HB.out)) hb)
                          clear BK389
                          clear HB
                          have BK389 := n0_
                          have HB := n1_
                          clear n0_ n1_
                          (try clear hb)
                          (try clear hb2)
                          (try clear hk)
                          (try clear hi)
                          refine hK.out _ _ ⟨(blk_cell BK389.out 0).trans rfl, (blk_cell BK389.out 1).trans rfl, ((HB.out.cell (World.block_lt_of_cell? w _ hw394_0)).trans hw394_0)⟩ (fun hHeld => ?_)
                          clear hK K
                          refine norm_ (a' := ?_) ?_ ?_
                          rotate_left
                          · show Act.put _ (some 62) _ = _
                            simp only [Act.put, List.setIfInBounds_toArray, List.set_cons_zero, List.set_cons_succ, i64_w, i32_w]
                            rfl
                          refine pure_ (i := 6) (N := some 56) (v := ?_) (a' := ?_) #[true, true, true, true, true, true, true, false, false, false, false, false, false, false] rfl rfl (any_of HT_.out (by kernel_rfl)) (fun _ _ _ h => h) (Or.inl ⟨by rfl, ?_⟩) ?_ ?_
                          rotate_left
                          · intro w'
                            go_simp
                            with_reducible rfl
                          rotate_left
                          · simp only [Act.put, List.setIfInBounds_toArray, List.set_cons_zero, List.set_cons_succ, i64_w, i32_w]
                            rfl
                          refine pure_ (i := 7) (N := some 63) (v := ?_) (a' := ?_) #[true, true, true, true, true, true, true, true, false, false, false, false, false, false] rfl rfl (any_of HT_.out (by kernel_rfl)) (fun _ _ _ h => h) (Or.inl ⟨by rfl, ?_⟩) ?_ ?_
                          rotate_left
                          · intro w'
                            go_simp
                            with_reducible rfl
                          rotate_left
                          · simp only [Act.put, List.setIfInBounds_toArray, List.set_cons_zero, List.set_cons_succ, i64_w, i32_w]
                            rfl
                          refine pure_ (i := 8) (N := some 64) (v := ?_) (a' := ?_) #[true, true, true, true, true, true, true, true, true, false, false, false, false, false] rfl rfl (any_of HT_.out (by kernel_rfl)) (fun _ _ _ h => h) (Or.inl ⟨by rfl, ?_⟩) ?_ ?_
                          rotate_left
                          · intro w'
                            go_simp
                            with_reducible rfl
                          rotate_left
                          · simp only [Act.put, List.setIfInBounds_toArray, List.set_cons_zero, List.set_cons_succ, i64_w, i32_w]
                            rfl
                          refine pure_ (i := 9) (N := some 65) (v := ?_) (a' := ?_) #[true, true, true, true, true, true, true, true, true, true, false, false, false, false] rfl rfl (any_of HT_.out (by kernel_rfl)) (fun _ _ _ h => h) (Or.inl ⟨by rfl, ?_⟩) ?_ ?_
                          rotate_left
                          · intro w'
                            go_simp
                            with_reducible rfl
                          rotate_left
                          · simp only [Act.put, List.setIfInBounds_toArray, List.set_cons_zero, List.set_cons_succ, i64_w, i32_w]
                            rfl
                          refine one_ (i := 10) (N := some 16) #[true, true, true, true, true, true, true, true, true, true, true, false, false, false] rfl rfl (one_of HT_.out (by kernel_rfl)) (by decide) (fun K hK => ?_)
                          refine box_step ?hg (N := 16) ?hd (cs := #[.string (⟨#[]⟩ : ByteArray), .int .i64 0]) (t := 38) ?hr ?_; (case hd => rfl); (case hg => rfl); (case hr => first | (go_simp; done) | (go_simp; rfl))
                          intro gb399 hg w25 hbox hb
                          have n0_ := Aside0.mk (blk_below (g := gb389) (o := .cells #[.string x390000_3, .int .i64 x390001_3] 38 (0, 0)) (by (with_reducible repeat (first | refine blk_drewN ?_ _ | refine blk_drew ?_ | refine blk_alloc ?_ _)); exact BK389.out) hb)
                          have n1_ := Aside0.mk (below_step (by repeat (first | (with_reducible first | exact HB.out | apply below_alloc | apply pw_below_drewN | apply below_drew1 | refine below_set ?_ GE389.out) | exact HB.out)) hb)
                          have n2_ := Aside0.mk (hbox)
                          have n3_ := Aside0.mk ((by rw [hg]; exact (below_size (by repeat (first | (with_reducible first | exact HB.out | apply below_alloc | apply pw_below_drewN | apply below_drew1 | refine below_set ?_ GE389.out) | exact HB.out))) : w.heap.size ≤ gb399))
                          have n4_ := Aside0.mk ((by rw [hg]; exact (below_size (by repeat (first | (with_reducible first | exact HB.out | apply below_alloc | apply pw_below_drewN | apply below_drew1 | refine below_set ?_ GE389.out) | exact HB.out))) : w.heap.size ≤ gb399))
                          have n5_ := Aside0.mk ((by rw [hg]; exact Nat.ne_of_lt (blk_lt (g := gb389) (o := .cells #[.string x390000_3, .int .i64 x390001_3] 38 (0, 0)) (by (with_reducible repeat (first | refine blk_drewN ?_ _ | refine blk_drew ?_ | refine blk_alloc ?_ _)); exact BK389.out)) : gb389 ≠ gb399))
                          have n6_ := Aside0.mk ((by rw [hg]; exact Nat.ne_of_gt (blk_lt (g := gb389) (o := .cells #[.string x390000_3, .int .i64 x390001_3] 38 (0, 0)) (by (with_reducible repeat (first | refine blk_drewN ?_ _ | refine blk_drew ?_ | refine blk_alloc ?_ _)); exact BK389.out)) : gb399 ≠ gb389))
                          clear BK389
                          clear HB
                          have BK389 := n0_
                          have HB := n1_
                          have BK399 := n2_
                          have GW399 := n3_
                          have GE399 := n4_
                          have NB389_399 := n5_
                          have NB399_389 := n6_
                          clear n0_ n1_ n2_ n3_ n4_ n5_ n6_
                          clear hb hbox hg
                          refine hK.out _ _ ⟨(blk_cell BK389.out 0).trans rfl, (blk_cell BK389.out 1).trans rfl, ((HB.out.cell (World.block_lt_of_cell? w _ hw394_0)).trans hw394_0)⟩ (fun hHeld => ?_)
                          clear hK K
                          refine norm_ (a' := ?_) ?_ ?_
                          rotate_left
                          · show Act.put _ (some 16) _ = _
                            simp only [Act.put, List.setIfInBounds_toArray, List.set_cons_zero, List.set_cons_succ, i64_w, i32_w]
                            rfl
                          exact norm_ (by simp only [putAll, Act.put, List.setIfInBounds_toArray, List.set_cons_zero, List.set_cons_succ]) (hCont (gb399) _ ⟨hHeld, (by (with_reducible repeat (first | refine blk_drewN ?_ _ | refine blk_drew ?_ | refine blk_alloc ?_ _)); exact BK389.out), (by (with_reducible repeat (first | refine blk_drewN ?_ _ | refine blk_drew ?_ | refine blk_alloc ?_ _)); exact BK399.out), GW399.out, GE399.out, NB389_399.out, NB399_389.out, (by repeat (first | (with_reducible first | exact HB.out | apply below_alloc | apply pw_below_drewN | apply below_drew1 | refine below_set ?_ GE389.out | refine below_set ?_ GE399.out) | exact HB.out))⟩)
                        · skip
                          refine box_step ?hg (N := 16) ?hd (cs := #[.string (⟨#[]⟩ : ByteArray), .int .i64 0]) (t := 38) ?hr ?_; (case hd => rfl); (case hg => rfl); (case hr => first | (go_simp; done) | (go_simp; rfl))
                          intro gb399 hg w24 hbox hb
                          have n0_ := Aside0.mk (blk_below (g := gb389) (o := .cells #[.string x390000_3, .int .i64 x390001_3] 38 (0, 0)) (by (with_reducible repeat (first | refine blk_drewN ?_ _ | refine blk_drew ?_ | refine blk_alloc ?_ _)); exact BK389.out) hb)
                          have n1_ := Aside0.mk (below_step (by repeat (first | (with_reducible first | exact HB.out | apply below_alloc | apply pw_below_drewN | apply below_drew1 | refine below_set ?_ GE389.out) | exact HB.out)) hb)
                          have n2_ := Aside0.mk (hbox)
                          have n3_ := Aside0.mk ((by rw [hg]; exact (below_size (by repeat (first | (with_reducible first | exact HB.out | apply below_alloc | apply pw_below_drewN | apply below_drew1 | refine below_set ?_ GE389.out) | exact HB.out))) : w.heap.size ≤ gb399))
                          have n4_ := Aside0.mk ((by rw [hg]; exact (below_size (by repeat (first | (with_reducible first | exact HB.out | apply below_alloc | apply pw_below_drewN | apply below_drew1 | refine below_set ?_ GE389.out) | exact HB.out))) : w.heap.size ≤ gb399))
                          have n5_ := Aside0.mk ((by rw [hg]; exact Nat.ne_of_lt (blk_lt (g := gb389) (o := .cells #[.string x390000_3, .int .i64 x390001_3] 38 (0, 0)) (by (with_reducible repeat (first | refine blk_drewN ?_ _ | refine blk_drew ?_ | refine blk_alloc ?_ _)); exact BK389.out)) : gb389 ≠ gb399))
                          have n6_ := Aside0.mk ((by rw [hg]; exact Nat.ne_of_gt (blk_lt (g := gb389) (o := .cells #[.string x390000_3, .int .i64 x390001_3] 38 (0, 0)) (by (with_reducible repeat (first | refine blk_drewN ?_ _ | refine blk_drew ?_ | refine blk_alloc ?_ _)); exact BK389.out)) : gb399 ≠ gb389))
                          clear BK389
                          clear HB
                          have BK389 := n0_
                          have HB := n1_
                          have BK399 := n2_
                          have GW399 := n3_
                          have GE399 := n4_
                          have NB389_399 := n5_
                          have NB399_389 := n6_
                          clear n0_ n1_ n2_ n3_ n4_ n5_ n6_
                          clear hb hbox hg
                          refine hK.out _ _ ⟨(blk_cell BK389.out 0).trans rfl, (blk_cell BK389.out 1).trans rfl, ((HB.out.cell (World.block_lt_of_cell? w _ hw394_0)).trans hw394_0)⟩ (fun hHeld => ?_)
                          clear hK K
                          refine norm_ (a' := ?_) ?_ ?_
                          rotate_left
                          · show Act.put _ (some 16) _ = _
                            simp only [Act.put, List.setIfInBounds_toArray, List.set_cons_zero, List.set_cons_succ, i64_w, i32_w]
                            rfl
                          refine one_ (i := 5) (N := some 62) #[true, true, true, true, true, true, false, false, false, false, true, false, false, false] rfl rfl (one_of HT_.out (by kernel_rfl)) (by decide) (fun K hK => ?_)
                          refine goes_ Try.func16 (by kernel_rfl) rfl #[.agg #[.string x390000_3, .int .i64 x390001_3], .int .i64 (rd l2 x11_3)] (by rfl) rfl rfl (by (try simp only [List.map_toArray, List.map_cons, List.map_nil]); first | done | rfl | (simp only [List.length_drop, List.length_take]; rfl)) ?_
                          with_reducible refine (draw_Below.calls k3 x390000_3 x390001_3 (rd l2 x11_3) t395 t396 t397 t398 _ A21.out).mono ?_
                          rintro e w25 ⟨rfl, hb⟩
                          refine ⟨_, rfl, ?_⟩
                          have n0_ := Aside0.mk (blk_below (g := gb389) (o := .cells #[.string x390000_3, .int .i64 x390001_3] 38 (0, 0)) (by (with_reducible repeat (first | refine blk_drewN ?_ _ | refine blk_drew ?_ | refine blk_alloc ?_ _)); exact BK389.out) hb)
                          have n1_ := Aside0.mk (blk_below (g := gb399) (o := .cells #[.string (⟨#[]⟩ : ByteArray), .int .i64 0] 38 (0, 0)) (by (with_reducible repeat (first | refine blk_drewN ?_ _ | refine blk_drew ?_ | refine blk_alloc ?_ _)); exact BK399.out) hb)
                          have n2_ := Aside0.mk (below_step (by repeat (first | (with_reducible first | exact HB.out | apply below_alloc | apply pw_below_drewN | apply below_drew1 | refine below_set ?_ GE389.out | refine below_set ?_ GE399.out) | exact HB.out)) hb)
                          clear BK389
                          clear BK399
                          clear HB
                          have BK389 := n0_
                          have BK399 := n1_
                          have HB := n2_
                          clear n0_ n1_ n2_
                          (try clear hb)
                          (try clear hb2)
                          (try clear hk)
                          (try clear hi)
                          refine hK.out _ _ ⟨(blk_cell BK389.out 0).trans rfl, (blk_cell BK389.out 1).trans rfl, ((HB.out.cell (World.block_lt_of_cell? w _ hw394_0)).trans hw394_0)⟩ (fun hHeld => ?_)
                          clear hK K
                          refine norm_ (a' := ?_) ?_ ?_
                          rotate_left
                          · show Act.put _ (some 62) _ = _
                            simp only [Act.put, List.setIfInBounds_toArray, List.set_cons_zero, List.set_cons_succ, i64_w, i32_w]
                            rfl
                          refine pure_ (i := 6) (N := some 56) (v := ?_) (a' := ?_) #[true, true, true, true, true, true, true, false, false, false, true, false, false, false] rfl rfl (any_of HT_.out (by kernel_rfl)) (fun _ _ _ h => h) (Or.inl ⟨by rfl, ?_⟩) ?_ ?_
                          rotate_left
                          · intro w'
                            go_simp
                            with_reducible rfl
                          rotate_left
                          · simp only [Act.put, List.setIfInBounds_toArray, List.set_cons_zero, List.set_cons_succ, i64_w, i32_w]
                            rfl
                          refine pure_ (i := 7) (N := some 63) (v := ?_) (a' := ?_) #[true, true, true, true, true, true, true, true, false, false, true, false, false, false] rfl rfl (any_of HT_.out (by kernel_rfl)) (fun _ _ _ h => h) (Or.inl ⟨by rfl, ?_⟩) ?_ ?_
                          rotate_left
                          · intro w'
                            go_simp
                            with_reducible rfl
                          rotate_left
                          · simp only [Act.put, List.setIfInBounds_toArray, List.set_cons_zero, List.set_cons_succ, i64_w, i32_w]
                            rfl
                          refine pure_ (i := 8) (N := some 64) (v := ?_) (a' := ?_) #[true, true, true, true, true, true, true, true, true, false, true, false, false, false] rfl rfl (any_of HT_.out (by kernel_rfl)) (fun _ _ _ h => h) (Or.inl ⟨by rfl, ?_⟩) ?_ ?_
                          rotate_left
                          · intro w'
                            go_simp
                            with_reducible rfl
                          rotate_left
                          · simp only [Act.put, List.setIfInBounds_toArray, List.set_cons_zero, List.set_cons_succ, i64_w, i32_w]
                            rfl
                          refine pure_ (i := 9) (N := some 65) (v := ?_) (a' := ?_) #[true, true, true, true, true, true, true, true, true, true, true, false, false, false] rfl rfl (any_of HT_.out (by kernel_rfl)) (fun _ _ _ h => h) (Or.inl ⟨by rfl, ?_⟩) ?_ ?_
                          rotate_left
                          · intro w'
                            go_simp
                            with_reducible rfl
                          rotate_left
                          · simp only [Act.put, List.setIfInBounds_toArray, List.set_cons_zero, List.set_cons_succ, i64_w, i32_w]
                            rfl
                          exact norm_ (by simp only [putAll, Act.put, List.setIfInBounds_toArray, List.set_cons_zero, List.set_cons_succ]) (hCont (gb399) _ ⟨hHeld, (by (with_reducible repeat (first | refine blk_drewN ?_ _ | refine blk_drew ?_ | refine blk_alloc ?_ _)); exact BK389.out), (by (with_reducible repeat (first | refine blk_drewN ?_ _ | refine blk_drew ?_ | refine blk_alloc ?_ _)); exact BK399.out), GW399.out, GE399.out, NB389_399.out, NB399_389.out, (by repeat (first | (with_reducible first | exact HB.out | apply below_alloc | apply pw_below_drewN | apply below_drew1 | refine below_set ?_ GE389.out | refine below_set ?_ GE399.out) | exact HB.out))⟩)
                      rintro gb399 w26 ⟨hS_, h0_, h1_, h2_, h3_, h4_, h5_, h6_⟩
                      have n0_ : Aside0 (w26.heap[gb389]? = some (.cells #[.string x390000_3, .int .i64 x390001_3] 38 (0, 0))) := ⟨h0_⟩
                      have n1_ : Aside0 (w26.heap[gb399]? = some (.cells #[.string (⟨#[]⟩ : ByteArray), .int .i64 0] 38 (0, 0))) := ⟨h1_⟩
                      have n2_ : Aside0 (w.heap.size ≤ gb399) := ⟨h2_⟩
                      have n3_ : Aside0 (w.heap.size ≤ gb399) := ⟨h3_⟩
                      have n4_ : Aside0 (gb389 ≠ gb399) := ⟨h4_⟩
                      have n5_ : Aside0 (gb399 ≠ gb389) := ⟨h5_⟩
                      have n6_ : Aside0 (Below w.heap.size w w26) := ⟨h6_⟩
                      clear BK389
                      clear HB
                      clear h0_ h1_ h2_ h3_ h4_ h5_ h6_
                      have BK389 := n0_
                      have BK399 := n1_
                      have GW399 := n2_
                      have GE399 := n3_
                      have NB389_399 := n4_
                      have NB399_389 := n5_
                      have HB := n6_
                      clear n0_ n1_ n2_ n3_ n4_ n5_ n6_
                      have hHeld : w26.cell? ⟨gb389, 0, none⟩ = some (.string x390000_3) ∧ w26.cell? ⟨gb389, 1, none⟩ = some (.int .i64 x390001_3) ∧ w26.cell? (ad390.add (x11_3).toNat) = some (.int .i64 (rd l2 x11_3)) := hS_
                      refine norm_ (a' := ?_) ?_ ?_
                      rotate_left
                      · simp only [putAll, Act.put, List.setIfInBounds_toArray, List.set_cons_zero, List.set_cons_succ]
                        rfl
                      refine pure_ (i := 11) (N := some 15) (v := ?_) (a' := ?_) #[true, true, true, true, true, true, true, true, true, true, true, true, false, false] rfl rfl (any_of HT_.out (by kernel_rfl)) (fun _ _ _ h => h) (Or.inl ⟨by rfl, ?_⟩) ?_ ?_
                      rotate_left
                      · intro w'
                        go_simp
                        with_reducible rfl
                      rotate_left
                      · simp only [Act.put, List.setIfInBounds_toArray, List.set_cons_zero, List.set_cons_succ, i64_w, i32_w]
                        rfl
                      refine one_ (i := 12) (N := none) #[true, true, true, true, true, true, true, true, true, true, true, true, true, false] rfl rfl (one_of HT_.out (by kernel_rfl)) (by decide) (fun K hK => ?_)
                      have hs27 : w26.cell? ⟨gb399, 0, none⟩ = some (.string (⟨#[]⟩ : ByteArray)) := (blk_cell BK399.out 0).trans rfl
                      have hfs27 := blk_frozen BK399.out 0
                      have hns27_0 := NB389_399.out
                      have hms27_0 := NB399_389.out
                      have hs28 : w26.cell? ⟨gb399, 1, none⟩ = some (.int .i64 0) := (blk_cell BK399.out 1).trans rfl
                      have hfs28 := blk_frozen BK399.out 1
                      have hns28_0 := NB389_399.out
                      have hms28_0 := NB399_389.out
                      refine skip_ (w1 := ?_) (by rfl) rfl ?_ ?_
                      rotate_left
                      · go_simp
                        rfl
                      refine hK.out _ _ ⟨((cell_far (p := ⟨gb399, _, none⟩) NB389_399.out _).trans (((cell_far (p := ⟨gb399, _, none⟩) NB389_399.out _).trans (hHeld.1)))), ((cell_far (p := ⟨gb399, _, none⟩) NB389_399.out _).trans (((cell_far (p := ⟨gb399, _, none⟩) NB389_399.out _).trans (hHeld.2.1)))), ((cell_far (p := ⟨gb399, _, none⟩) (by first | exact Nat.ne_of_lt (Nat.lt_of_lt_of_le (by have := World.block_lt_of_cell? _ _ hw394_0; first | rwa [add_block] at this | exact this) GW399.out) | (rw [add_block]; exact Nat.ne_of_lt (Nat.lt_of_lt_of_le (by have := World.block_lt_of_cell? _ _ hw394_0; first | rwa [add_block] at this | exact this) GW399.out)) | (show (Addr.add _ _).block ≠ _; rw [add_block]; exact Nat.ne_of_lt (Nat.lt_of_lt_of_le (by have := World.block_lt_of_cell? _ _ hw394_0; first | rwa [add_block] at this | exact this) GW399.out)) | (dsimp only; exact Nat.ne_of_lt (Nat.lt_of_lt_of_le (by have := World.block_lt_of_cell? _ _ hw394_0; first | rwa [add_block] at this | exact this) GW399.out))) _).trans (((cell_far (p := ⟨gb399, _, none⟩) (by first | exact Nat.ne_of_lt (Nat.lt_of_lt_of_le (by have := World.block_lt_of_cell? _ _ hw394_0; first | rwa [add_block] at this | exact this) GW399.out) | (rw [add_block]; exact Nat.ne_of_lt (Nat.lt_of_lt_of_le (by have := World.block_lt_of_cell? _ _ hw394_0; first | rwa [add_block] at this | exact this) GW399.out)) | (show (Addr.add _ _).block ≠ _; rw [add_block]; exact Nat.ne_of_lt (Nat.lt_of_lt_of_le (by have := World.block_lt_of_cell? _ _ hw394_0; first | rwa [add_block] at this | exact this) GW399.out)) | (dsimp only; exact Nat.ne_of_lt (Nat.lt_of_lt_of_le (by have := World.block_lt_of_cell? _ _ hw394_0; first | rwa [add_block] at this | exact this) GW399.out))) _).trans (hHeld.2.2))))⟩ (fun hHeld => ?_)
                      clear hK K
                      refine pure_ (i := 13) (N := some 17) (v := ?_) (a' := ?_) #[true, true, true, true, true, true, true, true, true, true, true, true, true, true] rfl rfl (any_of HT_.out (by kernel_rfl)) (fun _ _ _ h => h) (Or.inl ⟨by rfl, ?_⟩) ?_ ?_
                      rotate_left
                      · intro w'
                        go_simp
                        with_reducible rfl
                      rotate_left
                      · simp only [Act.put, List.setIfInBounds_toArray, List.set_cons_zero, List.set_cons_succ, i64_w, i32_w]
                        rfl
                      refine done_ (done_of HT_.out (by kernel_rfl)) ?_
                      go_upto_region 14 with (fail)
                      go_cut [79] (fun v79 wc => ∃ (kq : Nat) (x79_21 : Bool), v79 = .bool x79_21 ∧ Aside0 (churnlaw10_DrawBelows.j3 kq l0 l2 x10_3 x11_3 t392 t393 x79_21 x390000_3 x390001_3 t396 t397 = some r) ∧ Aside0 (kq ≤ k3) ∧ Aside0 (wc.heap[gb389]? = some (.cells #[.string x390000_3, .int .i64 x390001_3] 38 (0, 0))) ∧ Aside0 (wc.heap[gb399]? = some (.cells #[.string t396, .int .i64 t397] 38 (0, 0))) ∧ Aside0 (Below w.heap.size w wc))
                      case first =>
                        have H := HC22.out
                        clear HC22
                        by_cases c29 : t395 = t391
                        · rw [if_pos c29] at H
                          have c29b0 : (t395 == t391) = true := beq_iff_eq.mpr c29
                          have c29b1 : (t395 != t391) = false := bne_eq_false_iff_eq.mpr c29
                          clear c29
                          (first | rw [c29b0] | (simp only [i64_w, i32_w]; rw [c29b0]) | skip)
                          by_cases c30 : t398 = t393
                          · rw [if_pos c30] at H
                            have c30b0 : (t398 == t393) = true := beq_iff_eq.mpr c30
                            have c30b1 : (t398 != t393) = false := bne_eq_false_iff_eq.mpr c30
                            clear c30
                            replace H := Option.bind_eq_some_iff.mp H
                            obtain ⟨t400, A310, H⟩ := H
                            replace H : (churnlaw10_DrawBelows.j3 k3 l0 l2 x10_3 x11_3 t392 t393 (t400 != x10_3) x390000_3 x390001_3 t396 t397) = some r := H
                            have A31 := Aside0.mk A310
                            clear A310
                            have H' := Aside0.mk H
                            clear H
                            have hnb32 := NB389_399.out
                            have hnc32 := NB399_389.out
                            have hcz33_0 : w26.cell? ⟨gb389, 0, none⟩ = some (.string x390000_3) := (blk_cell BK389.out 0).trans rfl
                            have hcz33_1 : w26.cell? ⟨gb389, 1, none⟩ = some (.int .i64 x390001_3) := (blk_cell BK389.out 1).trans rfl
                            have hfz33_0 := blk_frozen BK389.out 0
                            have hfz33_1 := blk_frozen BK389.out 1
                            go_wp2_with (first | (go_at_call 21; (with_reducible refine (tape_Tape_Used.calls x390000_3 x390001_3 t400 _ A31.out).mono ?_); rintro e w34 ⟨rfl, hb⟩; have n0_ := Aside0.mk (blk_below (g := gb389) (o := .cells #[.string x390000_3, .int .i64 x390001_3] 38 (0, 0)) (by (with_reducible repeat (first | refine blk_drewN ?_ _ | refine blk_drew ?_ | refine blk_alloc ?_ _)); refine blk_far ?_ NB389_399.out _; (with_reducible repeat (first | refine blk_drewN ?_ _ | refine blk_drew ?_ | refine blk_alloc ?_ _)); refine blk_far ?_ NB389_399.out _; (with_reducible repeat (first | refine blk_drewN ?_ _ | refine blk_drew ?_ | refine blk_alloc ?_ _)); exact BK389.out) hb); have n1_ := Aside0.mk (blk_below (g := gb399) (o := .cells #[.string t396, .int .i64 t397] 38 (0, 0)) (by (with_reducible repeat (first | refine blk_drewN ?_ _ | refine blk_drew ?_ | refine blk_alloc ?_ _)); refine blk_put (cs := #[.string t396, .int .i64 0]) ?_ 1 _ rfl; (with_reducible repeat (first | refine blk_drewN ?_ _ | refine blk_drew ?_ | refine blk_alloc ?_ _)); refine blk_put (cs := #[.string (⟨#[]⟩ : ByteArray), .int .i64 0]) ?_ 0 _ rfl; (with_reducible repeat (first | refine blk_drewN ?_ _ | refine blk_drew ?_ | refine blk_alloc ?_ _)); exact BK399.out) hb); have n2_ := Aside0.mk (below_step (by repeat (first | (with_reducible first | exact HB.out | apply below_alloc | apply pw_below_drewN | apply below_drew1 | refine below_set ?_ GE389.out | refine below_set ?_ GE399.out) | exact HB.out)) hb); clear BK389; clear BK399; clear HB; have BK389 := n0_; have BK399 := n1_; have HB := n2_; clear n0_ n1_ n2_; (try clear hb); (try clear hb2); (try clear hk); (try clear hi)))
                            go_meet
                            case rel => exact ⟨_, ((t400 != x10_3)), (by first | rfl | (simp; done) | (simp [*]; done)), H', ⟨by have := HJ5.out; have := HJ8.out; have := HK3.out; first | omega | exact Nat.le_refl _⟩, ⟨by (with_reducible repeat (first | refine blk_drewN ?_ _ | refine blk_drew ?_ | refine blk_alloc ?_ _)); exact BK389.out⟩, ⟨by (with_reducible repeat (first | refine blk_drewN ?_ _ | refine blk_drew ?_ | refine blk_alloc ?_ _)); exact BK399.out⟩, ⟨by repeat (first | (with_reducible first | exact HB.out | apply below_alloc | apply pw_below_drewN | apply below_drew1 | refine below_set ?_ GE389.out | refine below_set ?_ GE399.out) | exact HB.out)⟩⟩
                          · rw [if_neg c30] at H
                            have c30b0 : (t398 == t393) = false := beq_eq_false_iff_ne.mpr c30
                            have c30b1 : (t398 != t393) = true := bne_iff_ne.mpr c30
                            have H' := Aside0.mk H
                            clear H
                            go_wp2
                            go_meet
                            case rel => exact ⟨_, (true), (by first | rfl | (simp; done) | (simp [*]; done)), H', ⟨by have := HJ5.out; have := HJ8.out; have := HK3.out; first | omega | exact Nat.le_refl _⟩, ⟨by (with_reducible repeat (first | refine blk_drewN ?_ _ | refine blk_drew ?_ | refine blk_alloc ?_ _)); refine blk_far ?_ NB389_399.out _; (with_reducible repeat (first | refine blk_drewN ?_ _ | refine blk_drew ?_ | refine blk_alloc ?_ _)); refine blk_far ?_ NB389_399.out _; (with_reducible repeat (first | refine blk_drewN ?_ _ | refine blk_drew ?_ | refine blk_alloc ?_ _)); exact BK389.out⟩, ⟨by (with_reducible repeat (first | refine blk_drewN ?_ _ | refine blk_drew ?_ | refine blk_alloc ?_ _)); refine blk_put (cs := #[.string t396, .int .i64 0]) ?_ 1 _ rfl; (with_reducible repeat (first | refine blk_drewN ?_ _ | refine blk_drew ?_ | refine blk_alloc ?_ _)); refine blk_put (cs := #[.string (⟨#[]⟩ : ByteArray), .int .i64 0]) ?_ 0 _ rfl; (with_reducible repeat (first | refine blk_drewN ?_ _ | refine blk_drew ?_ | refine blk_alloc ?_ _)); exact BK399.out⟩, ⟨by repeat (first | (with_reducible first | exact HB.out | apply below_alloc | apply pw_below_drewN | apply below_drew1 | refine below_set ?_ GE389.out | refine below_set ?_ GE399.out) | exact HB.out)⟩⟩
                        · rw [if_neg c29] at H
                          have c29b0 : (t395 == t391) = false := beq_eq_false_iff_ne.mpr c29
                          have c29b1 : (t395 != t391) = true := bne_iff_ne.mpr c29
                          (first | rw [c29b0] | (simp only [i64_w, i32_w]; rw [c29b0]) | skip)
                          have H' := Aside0.mk H
                          clear H
                          go_wp2
                          go_meet
                          case rel => exact ⟨_, (true), (by first | rfl | (simp; done) | (simp [*]; done)), H', ⟨by have := HJ5.out; have := HJ8.out; have := HK3.out; first | omega | exact Nat.le_refl _⟩, ⟨by (with_reducible repeat (first | refine blk_drewN ?_ _ | refine blk_drew ?_ | refine blk_alloc ?_ _)); refine blk_far ?_ NB389_399.out _; (with_reducible repeat (first | refine blk_drewN ?_ _ | refine blk_drew ?_ | refine blk_alloc ?_ _)); refine blk_far ?_ NB389_399.out _; (with_reducible repeat (first | refine blk_drewN ?_ _ | refine blk_drew ?_ | refine blk_alloc ?_ _)); exact BK389.out⟩, ⟨by (with_reducible repeat (first | refine blk_drewN ?_ _ | refine blk_drew ?_ | refine blk_alloc ?_ _)); refine blk_put (cs := #[.string t396, .int .i64 0]) ?_ 1 _ rfl; (with_reducible repeat (first | refine blk_drewN ?_ _ | refine blk_drew ?_ | refine blk_alloc ?_ _)); refine blk_put (cs := #[.string (⟨#[]⟩ : ByteArray), .int .i64 0]) ?_ 0 _ rfl; (with_reducible repeat (first | refine blk_drewN ?_ _ | refine blk_drew ?_ | refine blk_alloc ?_ _)); exact BK399.out⟩, ⟨by repeat (first | (with_reducible first | exact HB.out | apply below_alloc | apply pw_below_drewN | apply below_drew1 | refine below_set ?_ GE389.out | refine below_set ?_ GE399.out) | exact HB.out)⟩⟩
                      case rest =>
                        clear HC22
                        try clear c1
                        try clear c2
                        try clear p2
                        try clear c3
                        try clear p3
                        try clear q3
                        try clear hx3
                        try clear c5
                        try clear c8
                        try clear c8b0
                        try clear c9
                        try clear c10
                        try clear c13
                        try clear c13b0
                        try clear c13b1
                        try clear c16
                        try clear c17
                        try clear c18
                        try clear c18b0
                        try clear c19
                        try clear c19b0
                        try clear c20
                        try clear c29
                        try clear c29b0
                        try clear c29b1
                        try clear c30
                        try clear c30b0
                        try clear c30b1
                        try clear c32
                        try clear hcz17_0
                        try clear hcz17_1
                        try clear hcz33_0
                        try clear hcz33_1
                        try clear hfz17_0
                        try clear hfz17_1
                        try clear hfz33_0
                        try clear hfz33_1
                        try clear hx390_0
                        try clear hx394_0
                        try clear p2
                        try clear p390
                        try clear p394
                        try clear q390
                        try clear q394
                        obtain ⟨kq, x79_21, rfl, HA, HJ21, BK389, BK399, HB⟩ := hcut
                        cases kq with
                        | zero => exact absurd HA.out (by simp [churnlaw10_DrawBelows.j3])
                        | succ kj21 =>
                          have H := HA.out
                          clear HA
                          simp only [churnlaw10_DrawBelows.j3] at H
                          by_cases c35 : x79_21 = true
                          · subst c35
                            have H1 : (some false) = some r := by rw [if_pos rfl] at H; exact H
                            clear H
                            have H := H1
                            clear H1
                            obtain rfl := Option.some.inj H
                            go_wp2
                            go_ret
                            exact ⟨by first | rfl | (simp [errW_none, errW_some] <;> rfl) | (simp [*, errW_none, errW_some] <;> rfl), by repeat (first | (with_reducible first | exact HB.out | apply below_alloc | apply pw_below_drewN | apply below_drew1 | refine below_set ?_ GE389.out | refine below_set ?_ GE399.out) | exact HB.out)⟩
                          · replace c35 := Bool.eq_false_iff.mpr c35
                            subst c35
                            have H1 : (if t393 = 0 then ((tape_Tape_Used.f t396 t397).bind fun t403 => (if t403 = t392 then ((tape_Tape_Left.f t396 t397).bind fun t404 => (if t404 = (wrap64 ((l0.length : Int) - t392)) then (churnlaw10_DrawBelows.l0 kj21 l0 l2 t392 (wrap64 (x11_3 + 1)) t396 t397) else (some false))) else (some false))) else ((tape_Tape_Left.f t396 t397).bind fun t401 => (if t401 = 0 then ((tape_Tape_Used.f t396 t397).bind fun t402 => (if t402 = 0 then (churnlaw10_DrawBelows.l0 kj21 l0 l2 x10_3 (wrap64 (x11_3 + 1)) x390000_3 x390001_3) else (some false))) else (some false)))) = some r := by rw [if_neg (show ¬ (false = true) by decide)] at H; exact H
                            clear H
                            have H := H1
                            clear H1
                            by_cases c36 : t393 = 0
                            · rw [if_pos c36] at H
                              have c36b0 : (t393 == 0) = true := beq_iff_eq.mpr c36
                              have c36b1 : (t393 != 0) = false := bne_eq_false_iff_eq.mpr c36
                              clear c36
                              replace H := Option.bind_eq_some_iff.mp H
                              obtain ⟨t403, A370, H⟩ := H
                              replace H : (if t403 = t392 then ((tape_Tape_Left.f t396 t397).bind fun t404 => (if t404 = (wrap64 ((l0.length : Int) - t392)) then (churnlaw10_DrawBelows.l0 kj21 l0 l2 t392 (wrap64 (x11_3 + 1)) t396 t397) else (some false))) else (some false)) = some r := H
                              have A37 := Aside0.mk A370
                              clear A370
                              by_cases c38 : t403 = t392
                              · rw [if_pos c38] at H
                                have c38b0 : (t403 == t392) = true := beq_iff_eq.mpr c38
                                have c38b1 : (t403 != t392) = false := bne_eq_false_iff_eq.mpr c38
                                clear c38
                                replace H := Option.bind_eq_some_iff.mp H
                                obtain ⟨t404, A390, H⟩ := H
                                replace H : (if t404 = (wrap64 ((l0.length : Int) - t392)) then (churnlaw10_DrawBelows.l0 kj21 l0 l2 t392 (wrap64 (x11_3 + 1)) t396 t397) else (some false)) = some r := H
                                have A39 := Aside0.mk A390
                                clear A390
                                by_cases c40 : t404 = (wrap64 ((l0.length : Int) - t392))
                                · rw [if_pos c40] at H
                                  have c40b0 : (t404 == (wrap64 ((l0.length : Int) - t392))) = true := beq_iff_eq.mpr c40
                                  have c40b1 : (t404 != (wrap64 ((l0.length : Int) - t392))) = false := bne_eq_false_iff_eq.mpr c40
                                  clear c40
                                  have H' := Aside0.mk H
                                  clear H
                                  have hnb41 := NB399_389.out
                                  have hnc41 := NB389_399.out
                                  have hcz42_0 : wc.cell? ⟨gb399, 0, none⟩ = some (.string t396) := (blk_cell BK399.out 0).trans rfl
                                  have hcz42_1 : wc.cell? ⟨gb399, 1, none⟩ = some (.int .i64 t397) := (blk_cell BK399.out 1).trans rfl
                                  have hfz42_0 := blk_frozen BK399.out 0
                                  have hfz42_1 := blk_frozen BK399.out 1
                                  go_wp2_with (first | ((with_reducible refine gate_callee (f := 21) rfl ?_); refine goesL_ (some 91) rfl rfl Try.func21 (by kernel_rfl) rfl #[.agg #[.string t396, .int .i64 t397]] rfl (by (try simp only [List.map_toArray, List.map_cons, List.map_nil]); first | done | rfl | (simp only [List.length_drop, List.length_take]; rfl)) ?_; (with_reducible refine (tape_Tape_Used.calls t396 t397 t403 _ A37.out).mono ?_); rintro e w43 ⟨rfl, hb⟩; refine ⟨_, rfl, ?_⟩; have n0_ := Aside0.mk (blk_below (g := gb389) (o := .cells #[.string x390000_3, .int .i64 x390001_3] 38 (0, 0)) (by (with_reducible repeat (first | refine blk_drewN ?_ _ | refine blk_drew ?_ | refine blk_alloc ?_ _)); exact BK389.out) hb); have n1_ := Aside0.mk (blk_below (g := gb399) (o := .cells #[.string t396, .int .i64 t397] 38 (0, 0)) (by (with_reducible repeat (first | refine blk_drewN ?_ _ | refine blk_drew ?_ | refine blk_alloc ?_ _)); exact BK399.out) hb); have n2_ := Aside0.mk (below_step (by repeat (first | (with_reducible first | exact HB.out | apply below_alloc | apply pw_below_drewN | apply below_drew1 | refine below_set ?_ GE389.out | refine below_set ?_ GE399.out) | exact HB.out)) hb); clear BK389; clear BK399; clear HB; have BK389 := n0_; have BK399 := n1_; have HB := n2_; clear n0_ n1_ n2_; (try clear hb); (try clear hb2); (try clear hk); (try clear hi); have hcz44_0 : w43.cell? ⟨gb399, 0, none⟩ = some (.string t396) := (blk_cell BK399.out 0).trans rfl; have hcz44_1 : w43.cell? ⟨gb399, 1, none⟩ = some (.int .i64 t397) := (blk_cell BK399.out 1).trans rfl; have hfz44_0 := blk_frozen BK399.out 0; have hfz44_1 := blk_frozen BK399.out 1) | (go_at_call 18; (with_reducible refine (tape_Tape_Left.calls t396 t397 t404 _ A39.out).mono ?_); rintro e w45 ⟨rfl, hb⟩; have n0_ := Aside0.mk (blk_below (g := gb389) (o := .cells #[.string x390000_3, .int .i64 x390001_3] 38 (0, 0)) (by (with_reducible repeat (first | refine blk_drewN ?_ _ | refine blk_drew ?_ | refine blk_alloc ?_ _)); exact BK389.out) hb); have n1_ := Aside0.mk (blk_below (g := gb399) (o := .cells #[.string t396, .int .i64 t397] 38 (0, 0)) (by (with_reducible repeat (first | refine blk_drewN ?_ _ | refine blk_drew ?_ | refine blk_alloc ?_ _)); exact BK399.out) hb); have n2_ := Aside0.mk (below_step (by repeat (first | (with_reducible first | exact HB.out | apply below_alloc | apply pw_below_drewN | apply below_drew1 | refine below_set ?_ GE389.out | refine below_set ?_ GE399.out) | exact HB.out)) hb); clear BK389; clear BK399; clear HB; have BK389 := n0_; have BK399 := n1_; have HB := n2_; clear n0_ n1_ n2_; (try clear hb); (try clear hb2); (try clear hk); (try clear hi); have hcz46_0 : w45.cell? ⟨gb399, 0, none⟩ = some (.string t396) := (blk_cell BK399.out 0).trans rfl; have hcz46_1 : w45.cell? ⟨gb399, 1, none⟩ = some (.int .i64 t397) := (blk_cell BK399.out 1).trans rfl; have hfz46_0 := blk_frozen BK399.out 0; have hfz46_1 := blk_frozen BK399.out 1; have hcz47_0 : w45.cell? ⟨gb389, 0, none⟩ = some (.string x390000_3) := (blk_cell BK389.out 0).trans rfl; have hcz47_1 : w45.cell? ⟨gb389, 1, none⟩ = some (.int .i64 x390001_3) := (blk_cell BK389.out 1).trans rfl; have hfz47_0 := blk_frozen BK389.out 0; have hfz47_1 := blk_frozen BK389.out 1))
                                  go_roundg kj21
                                  case measure => have := HJ5.out; have := HJ8.out; have := HK3.out; have := HJ21.out; omega
                                  case rel => exact ⟨(t392), (wrap64 (x11_3 + 1)), (t396), (t397), (by first | rfl | (simp; done) | (simp [*]; done)), (by first | rfl | (simp; done) | (simp [*]; done)), H', ⟨by have := HJ5.out; have := HJ8.out; have := HK3.out; have := HJ21.out; omega⟩, ⟨by (with_reducible repeat (first | refine blk_drewN ?_ _ | refine blk_drew ?_ | refine blk_alloc ?_ _)); refine blk_put (cs := #[.string t396, .int .i64 x390001_3]) ?_ 1 _ rfl; (with_reducible repeat (first | refine blk_drewN ?_ _ | refine blk_drew ?_ | refine blk_alloc ?_ _)); refine blk_put (cs := #[.string x390000_3, .int .i64 x390001_3]) ?_ 0 _ rfl; (with_reducible repeat (first | refine blk_drewN ?_ _ | refine blk_drew ?_ | refine blk_alloc ?_ _)); exact BK389.out⟩, ⟨by repeat (first | (with_reducible first | exact HB.out | apply below_alloc | apply pw_below_drewN | apply below_drew1 | refine below_set ?_ GE389.out | refine below_set ?_ GE399.out) | exact HB.out)⟩⟩
                                · rw [if_neg c40] at H
                                  have c40b0 : (t404 == (wrap64 ((l0.length : Int) - t392))) = false := beq_eq_false_iff_ne.mpr c40
                                  have c40b1 : (t404 != (wrap64 ((l0.length : Int) - t392))) = true := bne_iff_ne.mpr c40
                                  obtain rfl := Option.some.inj H
                                  have hnb48 := NB399_389.out
                                  have hnc48 := NB389_399.out
                                  have hcz49_0 : wc.cell? ⟨gb399, 0, none⟩ = some (.string t396) := (blk_cell BK399.out 0).trans rfl
                                  have hcz49_1 : wc.cell? ⟨gb399, 1, none⟩ = some (.int .i64 t397) := (blk_cell BK399.out 1).trans rfl
                                  have hfz49_0 := blk_frozen BK399.out 0
                                  have hfz49_1 := blk_frozen BK399.out 1
                                  go_wp2_with (first | ((with_reducible refine gate_callee (f := 21) rfl ?_); refine goesL_ (some 91) rfl rfl Try.func21 (by kernel_rfl) rfl #[.agg #[.string t396, .int .i64 t397]] rfl (by (try simp only [List.map_toArray, List.map_cons, List.map_nil]); first | done | rfl | (simp only [List.length_drop, List.length_take]; rfl)) ?_; (with_reducible refine (tape_Tape_Used.calls t396 t397 t403 _ A37.out).mono ?_); rintro e w50 ⟨rfl, hb⟩; refine ⟨_, rfl, ?_⟩; have n0_ := Aside0.mk (blk_below (g := gb389) (o := .cells #[.string x390000_3, .int .i64 x390001_3] 38 (0, 0)) (by (with_reducible repeat (first | refine blk_drewN ?_ _ | refine blk_drew ?_ | refine blk_alloc ?_ _)); exact BK389.out) hb); have n1_ := Aside0.mk (blk_below (g := gb399) (o := .cells #[.string t396, .int .i64 t397] 38 (0, 0)) (by (with_reducible repeat (first | refine blk_drewN ?_ _ | refine blk_drew ?_ | refine blk_alloc ?_ _)); exact BK399.out) hb); have n2_ := Aside0.mk (below_step (by repeat (first | (with_reducible first | exact HB.out | apply below_alloc | apply pw_below_drewN | apply below_drew1 | refine below_set ?_ GE389.out | refine below_set ?_ GE399.out) | exact HB.out)) hb); clear BK389; clear BK399; clear HB; have BK389 := n0_; have BK399 := n1_; have HB := n2_; clear n0_ n1_ n2_; (try clear hb); (try clear hb2); (try clear hk); (try clear hi); have hcz51_0 : w50.cell? ⟨gb399, 0, none⟩ = some (.string t396) := (blk_cell BK399.out 0).trans rfl; have hcz51_1 : w50.cell? ⟨gb399, 1, none⟩ = some (.int .i64 t397) := (blk_cell BK399.out 1).trans rfl; have hfz51_0 := blk_frozen BK399.out 0; have hfz51_1 := blk_frozen BK399.out 1) | (go_at_call 18; (with_reducible refine (tape_Tape_Left.calls t396 t397 t404 _ A39.out).mono ?_); rintro e w52 ⟨rfl, hb⟩; have n0_ := Aside0.mk (blk_below (g := gb389) (o := .cells #[.string x390000_3, .int .i64 x390001_3] 38 (0, 0)) (by (with_reducible repeat (first | refine blk_drewN ?_ _ | refine blk_drew ?_ | refine blk_alloc ?_ _)); exact BK389.out) hb); have n1_ := Aside0.mk (blk_below (g := gb399) (o := .cells #[.string t396, .int .i64 t397] 38 (0, 0)) (by (with_reducible repeat (first | refine blk_drewN ?_ _ | refine blk_drew ?_ | refine blk_alloc ?_ _)); exact BK399.out) hb); have n2_ := Aside0.mk (below_step (by repeat (first | (with_reducible first | exact HB.out | apply below_alloc | apply pw_below_drewN | apply below_drew1 | refine below_set ?_ GE389.out | refine below_set ?_ GE399.out) | exact HB.out)) hb); clear BK389; clear BK399; clear HB; have BK389 := n0_; have BK399 := n1_; have HB := n2_; clear n0_ n1_ n2_; (try clear hb); (try clear hb2); (try clear hk); (try clear hi)))
                                  go_ret
                                  exact ⟨by first | rfl | (simp [errW_none, errW_some] <;> rfl) | (simp [*, errW_none, errW_some] <;> rfl), by repeat (first | (with_reducible first | exact HB.out | apply below_alloc | apply pw_below_drewN | apply below_drew1 | refine below_set ?_ GE389.out | refine below_set ?_ GE399.out) | exact HB.out)⟩
                              · rw [if_neg c38] at H
                                have c38b0 : (t403 == t392) = false := beq_eq_false_iff_ne.mpr c38
                                have c38b1 : (t403 != t392) = true := bne_iff_ne.mpr c38
                                obtain rfl := Option.some.inj H
                                have hnb53 := NB399_389.out
                                have hnc53 := NB389_399.out
                                have hcz54_0 : wc.cell? ⟨gb399, 0, none⟩ = some (.string t396) := (blk_cell BK399.out 0).trans rfl
                                have hcz54_1 : wc.cell? ⟨gb399, 1, none⟩ = some (.int .i64 t397) := (blk_cell BK399.out 1).trans rfl
                                have hfz54_0 := blk_frozen BK399.out 0
                                have hfz54_1 := blk_frozen BK399.out 1
                                go_wp2_with (first | ((with_reducible refine gate_callee (f := 21) rfl ?_); refine goesL_ (some 91) rfl rfl Try.func21 (by kernel_rfl) rfl #[.agg #[.string t396, .int .i64 t397]] rfl (by (try simp only [List.map_toArray, List.map_cons, List.map_nil]); first | done | rfl | (simp only [List.length_drop, List.length_take]; rfl)) ?_; (with_reducible refine (tape_Tape_Used.calls t396 t397 t403 _ A37.out).mono ?_); rintro e w55 ⟨rfl, hb⟩; refine ⟨_, rfl, ?_⟩; have n0_ := Aside0.mk (blk_below (g := gb389) (o := .cells #[.string x390000_3, .int .i64 x390001_3] 38 (0, 0)) (by (with_reducible repeat (first | refine blk_drewN ?_ _ | refine blk_drew ?_ | refine blk_alloc ?_ _)); exact BK389.out) hb); have n1_ := Aside0.mk (blk_below (g := gb399) (o := .cells #[.string t396, .int .i64 t397] 38 (0, 0)) (by (with_reducible repeat (first | refine blk_drewN ?_ _ | refine blk_drew ?_ | refine blk_alloc ?_ _)); exact BK399.out) hb); have n2_ := Aside0.mk (below_step (by repeat (first | (with_reducible first | exact HB.out | apply below_alloc | apply pw_below_drewN | apply below_drew1 | refine below_set ?_ GE389.out | refine below_set ?_ GE399.out) | exact HB.out)) hb); clear BK389; clear BK399; clear HB; have BK389 := n0_; have BK399 := n1_; have HB := n2_; clear n0_ n1_ n2_; (try clear hb); (try clear hb2); (try clear hk); (try clear hi)))
                                go_ret
                                exact ⟨by first | rfl | (simp [errW_none, errW_some] <;> rfl) | (simp [*, errW_none, errW_some] <;> rfl), by repeat (first | (with_reducible first | exact HB.out | apply below_alloc | apply pw_below_drewN | apply below_drew1 | refine below_set ?_ GE389.out | refine below_set ?_ GE399.out) | exact HB.out)⟩
                            · rw [if_neg c36] at H
                              have c36b0 : (t393 == 0) = false := beq_eq_false_iff_ne.mpr c36
                              have c36b1 : (t393 != 0) = true := bne_iff_ne.mpr c36
                              replace H := Option.bind_eq_some_iff.mp H
                              obtain ⟨t401, A560, H⟩ := H
                              replace H : (if t401 = 0 then ((tape_Tape_Used.f t396 t397).bind fun t402 => (if t402 = 0 then (churnlaw10_DrawBelows.l0 kj21 l0 l2 x10_3 (wrap64 (x11_3 + 1)) x390000_3 x390001_3) else (some false))) else (some false)) = some r := H
                              have A56 := Aside0.mk A560
                              clear A560
                              by_cases c57 : t401 = 0
                              · rw [if_pos c57] at H
                                have c57b0 : (t401 == 0) = true := beq_iff_eq.mpr c57
                                have c57b1 : (t401 != 0) = false := bne_eq_false_iff_eq.mpr c57
                                clear c57
                                replace H := Option.bind_eq_some_iff.mp H
                                obtain ⟨t402, A580, H⟩ := H
                                replace H : (if t402 = 0 then (churnlaw10_DrawBelows.l0 kj21 l0 l2 x10_3 (wrap64 (x11_3 + 1)) x390000_3 x390001_3) else (some false)) = some r := H
                                have A58 := Aside0.mk A580
                                clear A580
                                by_cases c59 : t402 = 0
                                · rw [if_pos c59] at H
                                  have c59b0 : (t402 == 0) = true := beq_iff_eq.mpr c59
                                  have c59b1 : (t402 != 0) = false := bne_eq_false_iff_eq.mpr c59
                                  clear c59
                                  have H' := Aside0.mk H
                                  clear H
                                  have hnb60 := NB399_389.out
                                  have hnc60 := NB389_399.out
                                  have hcz61_0 : wc.cell? ⟨gb399, 0, none⟩ = some (.string t396) := (blk_cell BK399.out 0).trans rfl
                                  have hcz61_1 : wc.cell? ⟨gb399, 1, none⟩ = some (.int .i64 t397) := (blk_cell BK399.out 1).trans rfl
                                  have hfz61_0 := blk_frozen BK399.out 0
                                  have hfz61_1 := blk_frozen BK399.out 1
                                  go_wp2_with (first | ((with_reducible refine gate_callee (f := 18) rfl ?_); refine goesL_ (some 83) rfl rfl Try.func18 (by kernel_rfl) rfl #[.agg #[.string t396, .int .i64 t397]] rfl (by (try simp only [List.map_toArray, List.map_cons, List.map_nil]); first | done | rfl | (simp only [List.length_drop, List.length_take]; rfl)) ?_; (with_reducible refine (tape_Tape_Left.calls t396 t397 t401 _ A56.out).mono ?_); rintro e w62 ⟨rfl, hb⟩; refine ⟨_, rfl, ?_⟩; have n0_ := Aside0.mk (blk_below (g := gb389) (o := .cells #[.string x390000_3, .int .i64 x390001_3] 38 (0, 0)) (by (with_reducible repeat (first | refine blk_drewN ?_ _ | refine blk_drew ?_ | refine blk_alloc ?_ _)); exact BK389.out) hb); have n1_ := Aside0.mk (blk_below (g := gb399) (o := .cells #[.string t396, .int .i64 t397] 38 (0, 0)) (by (with_reducible repeat (first | refine blk_drewN ?_ _ | refine blk_drew ?_ | refine blk_alloc ?_ _)); exact BK399.out) hb); have n2_ := Aside0.mk (below_step (by repeat (first | (with_reducible first | exact HB.out | apply below_alloc | apply pw_below_drewN | apply below_drew1 | refine below_set ?_ GE389.out | refine below_set ?_ GE399.out) | exact HB.out)) hb); clear BK389; clear BK399; clear HB; have BK389 := n0_; have BK399 := n1_; have HB := n2_; clear n0_ n1_ n2_; (try clear hb); (try clear hb2); (try clear hk); (try clear hi); have hcz63_0 : w62.cell? ⟨gb399, 0, none⟩ = some (.string t396) := (blk_cell BK399.out 0).trans rfl; have hcz63_1 : w62.cell? ⟨gb399, 1, none⟩ = some (.int .i64 t397) := (blk_cell BK399.out 1).trans rfl; have hfz63_0 := blk_frozen BK399.out 0; have hfz63_1 := blk_frozen BK399.out 1) | (go_at_call 21; (with_reducible refine (tape_Tape_Used.calls t396 t397 t402 _ A58.out).mono ?_); rintro e w64 ⟨rfl, hb⟩; have n0_ := Aside0.mk (blk_below (g := gb389) (o := .cells #[.string x390000_3, .int .i64 x390001_3] 38 (0, 0)) (by (with_reducible repeat (first | refine blk_drewN ?_ _ | refine blk_drew ?_ | refine blk_alloc ?_ _)); exact BK389.out) hb); have n1_ := Aside0.mk (blk_below (g := gb399) (o := .cells #[.string t396, .int .i64 t397] 38 (0, 0)) (by (with_reducible repeat (first | refine blk_drewN ?_ _ | refine blk_drew ?_ | refine blk_alloc ?_ _)); exact BK399.out) hb); have n2_ := Aside0.mk (below_step (by repeat (first | (with_reducible first | exact HB.out | apply below_alloc | apply pw_below_drewN | apply below_drew1 | refine below_set ?_ GE389.out | refine below_set ?_ GE399.out) | exact HB.out)) hb); clear BK389; clear BK399; clear HB; have BK389 := n0_; have BK399 := n1_; have HB := n2_; clear n0_ n1_ n2_; (try clear hb); (try clear hb2); (try clear hk); (try clear hi)))
                                  go_roundg kj21
                                  case measure => have := HJ5.out; have := HJ8.out; have := HK3.out; have := HJ21.out; omega
                                  case rel => exact ⟨(x10_3), (wrap64 (x11_3 + 1)), (x390000_3), (x390001_3), (by first | rfl | (simp; done) | (simp [*]; done)), (by first | rfl | (simp; done) | (simp [*]; done)), H', ⟨by have := HJ5.out; have := HJ8.out; have := HK3.out; have := HJ21.out; omega⟩, ⟨by (with_reducible repeat (first | refine blk_drewN ?_ _ | refine blk_drew ?_ | refine blk_alloc ?_ _)); exact BK389.out⟩, ⟨by repeat (first | (with_reducible first | exact HB.out | apply below_alloc | apply pw_below_drewN | apply below_drew1 | refine below_set ?_ GE389.out | refine below_set ?_ GE399.out) | exact HB.out)⟩⟩
                                · rw [if_neg c59] at H
                                  have c59b0 : (t402 == 0) = false := beq_eq_false_iff_ne.mpr c59
                                  have c59b1 : (t402 != 0) = true := bne_iff_ne.mpr c59
                                  obtain rfl := Option.some.inj H
                                  have hnb65 := NB399_389.out
                                  have hnc65 := NB389_399.out
                                  have hcz66_0 : wc.cell? ⟨gb399, 0, none⟩ = some (.string t396) := (blk_cell BK399.out 0).trans rfl
                                  have hcz66_1 : wc.cell? ⟨gb399, 1, none⟩ = some (.int .i64 t397) := (blk_cell BK399.out 1).trans rfl
                                  have hfz66_0 := blk_frozen BK399.out 0
                                  have hfz66_1 := blk_frozen BK399.out 1
                                  go_wp2_with (first | ((with_reducible refine gate_callee (f := 18) rfl ?_); refine goesL_ (some 83) rfl rfl Try.func18 (by kernel_rfl) rfl #[.agg #[.string t396, .int .i64 t397]] rfl (by (try simp only [List.map_toArray, List.map_cons, List.map_nil]); first | done | rfl | (simp only [List.length_drop, List.length_take]; rfl)) ?_; (with_reducible refine (tape_Tape_Left.calls t396 t397 t401 _ A56.out).mono ?_); rintro e w67 ⟨rfl, hb⟩; refine ⟨_, rfl, ?_⟩; have n0_ := Aside0.mk (blk_below (g := gb389) (o := .cells #[.string x390000_3, .int .i64 x390001_3] 38 (0, 0)) (by (with_reducible repeat (first | refine blk_drewN ?_ _ | refine blk_drew ?_ | refine blk_alloc ?_ _)); exact BK389.out) hb); have n1_ := Aside0.mk (blk_below (g := gb399) (o := .cells #[.string t396, .int .i64 t397] 38 (0, 0)) (by (with_reducible repeat (first | refine blk_drewN ?_ _ | refine blk_drew ?_ | refine blk_alloc ?_ _)); exact BK399.out) hb); have n2_ := Aside0.mk (below_step (by repeat (first | (with_reducible first | exact HB.out | apply below_alloc | apply pw_below_drewN | apply below_drew1 | refine below_set ?_ GE389.out | refine below_set ?_ GE399.out) | exact HB.out)) hb); clear BK389; clear BK399; clear HB; have BK389 := n0_; have BK399 := n1_; have HB := n2_; clear n0_ n1_ n2_; (try clear hb); (try clear hb2); (try clear hk); (try clear hi); have hcz68_0 : w67.cell? ⟨gb399, 0, none⟩ = some (.string t396) := (blk_cell BK399.out 0).trans rfl; have hcz68_1 : w67.cell? ⟨gb399, 1, none⟩ = some (.int .i64 t397) := (blk_cell BK399.out 1).trans rfl; have hfz68_0 := blk_frozen BK399.out 0; have hfz68_1 := blk_frozen BK399.out 1) | (go_at_call 21; (with_reducible refine (tape_Tape_Used.calls t396 t397 t402 _ A58.out).mono ?_); rintro e w69 ⟨rfl, hb⟩; have n0_ := Aside0.mk (blk_below (g := gb389) (o := .cells #[.string x390000_3, .int .i64 x390001_3] 38 (0, 0)) (by (with_reducible repeat (first | refine blk_drewN ?_ _ | refine blk_drew ?_ | refine blk_alloc ?_ _)); exact BK389.out) hb); have n1_ := Aside0.mk (blk_below (g := gb399) (o := .cells #[.string t396, .int .i64 t397] 38 (0, 0)) (by (with_reducible repeat (first | refine blk_drewN ?_ _ | refine blk_drew ?_ | refine blk_alloc ?_ _)); exact BK399.out) hb); have n2_ := Aside0.mk (below_step (by repeat (first | (with_reducible first | exact HB.out | apply below_alloc | apply pw_below_drewN | apply below_drew1 | refine below_set ?_ GE389.out | refine below_set ?_ GE399.out) | exact HB.out)) hb); clear BK389; clear BK399; clear HB; have BK389 := n0_; have BK399 := n1_; have HB := n2_; clear n0_ n1_ n2_; (try clear hb); (try clear hb2); (try clear hk); (try clear hi)))
                                  go_ret
                                  exact ⟨by first | rfl | (simp [errW_none, errW_some] <;> rfl) | (simp [*, errW_none, errW_some] <;> rfl), by repeat (first | (with_reducible first | exact HB.out | apply below_alloc | apply pw_below_drewN | apply below_drew1 | refine below_set ?_ GE389.out | refine below_set ?_ GE399.out) | exact HB.out)⟩
                              · rw [if_neg c57] at H
                                have c57b0 : (t401 == 0) = false := beq_eq_false_iff_ne.mpr c57
                                have c57b1 : (t401 != 0) = true := bne_iff_ne.mpr c57
                                obtain rfl := Option.some.inj H
                                have hnb70 := NB399_389.out
                                have hnc70 := NB389_399.out
                                have hcz71_0 : wc.cell? ⟨gb399, 0, none⟩ = some (.string t396) := (blk_cell BK399.out 0).trans rfl
                                have hcz71_1 : wc.cell? ⟨gb399, 1, none⟩ = some (.int .i64 t397) := (blk_cell BK399.out 1).trans rfl
                                have hfz71_0 := blk_frozen BK399.out 0
                                have hfz71_1 := blk_frozen BK399.out 1
                                go_wp2_with (first | ((with_reducible refine gate_callee (f := 18) rfl ?_); refine goesL_ (some 83) rfl rfl Try.func18 (by kernel_rfl) rfl #[.agg #[.string t396, .int .i64 t397]] rfl (by (try simp only [List.map_toArray, List.map_cons, List.map_nil]); first | done | rfl | (simp only [List.length_drop, List.length_take]; rfl)) ?_; (with_reducible refine (tape_Tape_Left.calls t396 t397 t401 _ A56.out).mono ?_); rintro e w72 ⟨rfl, hb⟩; refine ⟨_, rfl, ?_⟩; have n0_ := Aside0.mk (blk_below (g := gb389) (o := .cells #[.string x390000_3, .int .i64 x390001_3] 38 (0, 0)) (by (with_reducible repeat (first | refine blk_drewN ?_ _ | refine blk_drew ?_ | refine blk_alloc ?_ _)); exact BK389.out) hb); have n1_ := Aside0.mk (blk_below (g := gb399) (o := .cells #[.string t396, .int .i64 t397] 38 (0, 0)) (by (with_reducible repeat (first | refine blk_drewN ?_ _ | refine blk_drew ?_ | refine blk_alloc ?_ _)); exact BK399.out) hb); have n2_ := Aside0.mk (below_step (by repeat (first | (with_reducible first | exact HB.out | apply below_alloc | apply pw_below_drewN | apply below_drew1 | refine below_set ?_ GE389.out | refine below_set ?_ GE399.out) | exact HB.out)) hb); clear BK389; clear BK399; clear HB; have BK389 := n0_; have BK399 := n1_; have HB := n2_; clear n0_ n1_ n2_; (try clear hb); (try clear hb2); (try clear hk); (try clear hi)))
                                go_ret
                                exact ⟨by first | rfl | (simp [errW_none, errW_some] <;> rfl) | (simp [*, errW_none, errW_some] <;> rfl), by repeat (first | (with_reducible first | exact HB.out | apply below_alloc | apply pw_below_drewN | apply below_drew1 | refine below_set ?_ GE389.out | refine below_set ?_ GE399.out) | exact HB.out)⟩
                    · rw [if_neg c19] at H
                      exact absurd H (by simp)
                  · rw [if_neg c18] at H
                    have c18b0 : decide (x11_3 < (l2.length : Int)) = false := decide_eq_false c18
                    clear c18
                    obtain rfl := Option.some.inj H
                    go_wp2
                    go_ret
                    exact ⟨by first | rfl | (simp [errW_none, errW_some] <;> rfl) | (simp [*, errW_none, errW_some] <;> rfl), by repeat (first | (with_reducible first | exact HB.out | apply below_alloc | apply pw_below_drewN | apply below_drew1 | refine below_set ?_ GE389.out) | exact HB.out)⟩
            · rw [if_neg c13] at H
              have c13b0 : (t388 == 0) = false := beq_eq_false_iff_ne.mpr c13
              have c13b1 : (t388 != 0) = true := bne_iff_ne.mpr c13
              obtain rfl := Option.some.inj H
              go_wp2_with (first | ((with_reducible refine gate_callee (f := 17) rfl ?_); refine goesL_ (some 30) rfl rfl Try.func17 (by kernel_rfl) rfl #[.slice A0 l0.length c0] rfl (by (try simp only [List.map_toArray, List.map_cons, List.map_nil]); first | done | rfl | (simp only [List.length_drop, List.length_take]; rfl)) ?_; (with_reducible refine (tape_New.calls _ _ l0 t381 t382 _ ?side1 ?side2 A11.out).mono ?_); (case side1 => repeat (first | exact (Kd.C_below HR0.out HB.out) | (with_reducible refine Kd.C_alloc ?_ _) | (with_reducible refine Kd.C_drewN ?_ _) | (with_reducible refine Kd.C_drew ?_))); (case side2 => exact HC0.out); rintro e w73 ⟨rfl, hb⟩; refine ⟨_, rfl, ?_⟩; have n0_ := Aside0.mk (below_step (by repeat (first | (with_reducible first | exact HB.out | apply below_alloc | apply pw_below_drewN | apply below_drew1) | exact HB.out)) hb); clear HB; have HB := n0_; clear n0_; (try clear hb); (try clear hb2); (try clear hk); (try clear hi)) | ((with_reducible refine gate_callee (f := 19) rfl ?_); refine goesL_ (some 32) rfl rfl Try.func19 (by kernel_rfl) rfl #[.agg #[.string t381, .int .i64 t382], .int .i64 x1_8] rfl (by (try simp only [List.map_toArray, List.map_cons, List.map_nil]); first | done | rfl | (simp only [List.length_drop, List.length_take]; rfl)) ?_; (with_reducible refine (tape_Tape_Take.calls t381 t382 x1_8 t383 t386 t387 t388 _ A12.out).mono ?_); rintro e w74 ⟨v384, rfl, ho0, hb⟩; refine ⟨_, rfl, ?_⟩; have n0_ := Aside0.mk (Kd.V_lower (Kd.V_mono (ok' := fun k_ => True) ho0 (fun k_ hk_ => trivial)) (below_size (by repeat (first | (with_reducible first | exact HB.out | apply below_alloc | apply pw_below_drewN | apply below_drew1) | exact HB.out)))); have n1_ := Aside0.mk (below_step (by repeat (first | (with_reducible first | exact HB.out | apply below_alloc | apply pw_below_drewN | apply below_drew1) | exact HB.out)) hb); clear HB; have HO385 := n0_; have HB := n1_; clear n0_ n1_; (try clear hb); (try clear hb2); (try clear hk); (try clear hi); (try clear ho0)) | ((with_reducible refine gate_dst (N := 8) rfl ?_); (try (refine gate_guard (by rfl) ?_; dsimp only)); refine box_event ?hg (N := 8) ?hd (cs := #[.string (⟨#[]⟩ : ByteArray), .int .i64 0]) (t := 38) ?hr ?_; (case hd => rfl); (case hg => rfl); (case hr => first | (go_simp; done) | (go_simp; rfl)); intro gb389 hg w75 hbox hb; have n0_ := Aside0.mk (Kd.V_below (Kd.V_elderB (by (with_reducible repeat (first | apply Kd.V_alloc | apply Kd.V_drewN | apply Kd.V_drew)); exact HO385.out) gb389 (Nat.le_of_eq hg.symm)) hb); have n1_ := Aside0.mk (below_step (by repeat (first | (with_reducible first | exact HB.out | apply below_alloc | apply pw_below_drewN | apply below_drew1) | exact HB.out)) hb); have n2_ := Aside0.mk (hbox); have n3_ := Aside0.mk ((by rw [hg]; exact (below_size (by repeat (first | (with_reducible first | exact HB.out | apply below_alloc | apply pw_below_drewN | apply below_drew1) | exact HB.out))) : w.heap.size ≤ gb389)); have n4_ := Aside0.mk ((by rw [hg]; exact (below_size (by repeat (first | (with_reducible first | exact HB.out | apply below_alloc | apply pw_below_drewN | apply below_drew1) | exact HB.out))) : w.heap.size ≤ gb389)); clear HO385; clear HB; have HO385 := n0_; have HB := n1_; have BK389 := n2_; have GW389 := n3_; have GE389 := n4_; clear n0_ n1_ n2_ n3_ n4_; clear hb hbox hg; have hcz76_0 : w75.cell? ⟨gb389, 0, none⟩ = some (.string (⟨#[]⟩ : ByteArray)) := (blk_cell BK389.out 0).trans rfl; have hcz76_1 : w75.cell? ⟨gb389, 1, none⟩ = some (.int .i64 0) := (blk_cell BK389.out 1).trans rfl; have hfz76_0 := blk_frozen BK389.out 0; have hfz76_1 := blk_frozen BK389.out 1))
              go_ret
              exact ⟨by first | rfl | (simp [errW_none, errW_some] <;> rfl) | (simp [*, errW_none, errW_some] <;> rfl), by repeat (first | (with_reducible first | exact HB.out | apply below_alloc | apply pw_below_drewN | apply below_drew1 | refine below_set ?_ GE389.out) | exact HB.out)⟩
  · replace c5 := Bool.eq_false_iff.mpr c5
    subst c5
    have H1 : (some false) = some r := by rw [if_neg (show ¬ (false = true) by decide)] at H; exact H
    clear H
    have H := H1
    clear H1
    obtain rfl := Option.some.inj H
    go_enter Try.func9, Try.ntmps9
    go_wp2_with (first | ((with_reducible refine gate_callee (f := 10) rfl ?_); refine goesL_ (some 18) rfl rfl Try.func10 (by kernel_rfl) rfl #[] rfl (by (try simp only [List.map_toArray, List.map_cons, List.map_nil]); first | done | rfl | (simp only [List.length_drop, List.length_take]; rfl)) ?_; (with_reducible refine (churnlaw10_alive.calls  false _ A4.out).mono ?_); rintro e w77 ⟨rfl, hb⟩; refine ⟨_, rfl, ?_⟩; have n0_ := Aside0.mk (below_step (by repeat (first | (with_reducible first | exact HB.out | apply below_alloc | apply pw_below_drewN | apply below_drew1) | exact HB.out)) hb); clear HB; have HB := n0_; clear n0_; (try clear hb); (try clear hb2); (try clear hk); (try clear hi)))
    go_ret
    exact ⟨by first | rfl | (simp [errW_none, errW_some] <;> rfl) | (simp [*, errW_none, errW_some] <;> rfl), by repeat (first | (with_reducible first | exact HB.out | apply below_alloc | apply pw_below_drewN | apply below_drew1) | exact HB.out)⟩

/-- THE ONE PURE STATEMENT of churnlaw10_DrawBelows: yours. -/
def churnlaw10_DrawBelows.Pure : Prop := ∀ (l0 : List Int) (a1 : Int) (l2 : List Int), l0.length ≤ maxLen → l0.length * 1 ≤ 140737488351232 → (∀ x ∈ l0, (Lit.int .u8 x).wf = true) → (Lit.int .i64 a1).wf = true → l2.length ≤ maxLen → l2.length * 8 ≤ 140737488351232 → (∀ x ∈ l2, (Lit.int .i64 x).wf = true) → ∃ k, churnlaw10_DrawBelows.f k l0 a1 l2 = some true
theorem churnlaw10_DrawBelows.walk (P : churnlaw10_DrawBelows.Pure) (a0 : Option Addr) (len0 cap0 : Nat) (z0 : List Int) (a1 : Int) (a2 : Option Addr) (len2 cap2 : Nat) (z2 : List Int) (w : World) (w0 : (a0 = none ∧ len0 = 0 ∧ cap0 = 0 ∧ z0 = []) ∨ ∃ x, a0 = some x ∧ len0 ≤ cap0 ∧ cap0 ≤ maxLen ∧ z0.length = cap0 ∧ (∀ i, i < z0.length → w.cell? (x.add i) = some (.int .u8 (z0.getD i 0))) ∧ ∀ n ∈ z0, (Lit.int .u8 n).wf = true) (y0 : len0 * 1 ≤ 140737488351232) (w1 : (Lit.int .i64 a1).wf = true) (w2 : (a2 = none ∧ len2 = 0 ∧ cap2 = 0 ∧ z2 = []) ∨ ∃ x, a2 = some x ∧ len2 ≤ cap2 ∧ cap2 ≤ maxLen ∧ z2.length = cap2 ∧ (∀ i, i < z2.length → w.cell? (x.add i) = some (.int .i64 (z2.getD i 0))) ∧ ∀ n ∈ z2, (Lit.int .i64 n).wf = true) (y2 : len2 * 8 ≤ 140737488351232) :
    Calls Try.prog 9 #[.slice a0 len0 cap0, .int .i64 a1, .slice a2 len2 cap2] w fun e w' => e = .returned (.bool true) ∧ Below w.heap.size w w' := by
  obtain ⟨l0, rfl, hr0, hm0, hw0, hc0⟩ := ReadsInt.ofRowC w0
  obtain ⟨l2, rfl, hr2, hm2, hw2, hc2⟩ := ReadsInt.ofRowC w2
  obtain ⟨k, h⟩ := P l0 a1 l2 hm0 y0 hw0 w1 hm2 y2 hw2
  refine (churnlaw10_DrawBelows.calls k _ _ l0 a1 _ _ l2 true w (Kd.C_of_reads (d := (0 : Int)) (h1 := fun _ => rfl) hr0) hc0 (Kd.C_of_reads (d := (0 : Int)) (h1 := fun _ => rfl) hr2) hc2 h).mono ?_
  rintro e w' ⟨rfl, hd⟩
  exact ⟨rfl, hd⟩

end Go.Proofs.Ytijnmfdpdjblbaa.Q
