/- Functions of the program as plain Lean functions, each with a proof that its call comes to just these answers, or the row that joins them to the given statement; no condition beside the statement's own. Written for this claim by pf.py, this session's program over the kit's print. -/
import Derived.Test.YtijnmfdpdjblbaaQx0
import Derived.Test.YtijnmfdpdjblbaaQx1
import Derived.Test.YtijnmfdpdjblbaaQx3
import Derived.Test.YtijnmfdpdjblbaaQx4
import Derived.Test.YtijnmfdpdjblbaaQx8
namespace Go.Proofs.Ytijnmfdpdjblbaa.Q
open Go.RowKit Go.Proofs.YtijnmfdpdjblbaaW.PrintWords Go.Proofs.YtijnmfdpdjblbaaW.PrintLast Go.Proofs.YtijnmfdpdjblbaaW.PrintMore
attribute [local go_sem] max2_int min2_int max_two min_two max_three min_three max_four min_four   -- for this text's walks alone
set_option linter.unusedVariables false
set_option linter.unusedSimpArgs false

/-! ### churnlaw10_DrawBytes: function 6 -/
mutual
def churnlaw10_DrawBytes.l0 : Nat → Int → List Int → Int → Int → Option (Bool)
  | 0, _, _, _, _ => none
  | k + 1, x0, x3, x4, x5 => if x5 < 256 then ((tape_New.f (([(x5) % 256] : List Int))).bind fun bt215 => ((draw_Below.f k bt215.1 bt215.2 x0).bind fun bt217 => (if x0 < 1 then (churnlaw10_DrawBytes.j1 k x0 x3 x4 x5 bt217.1 bt217.2.2.2 true bt217.2.1 bt217.2.2.1) else (churnlaw10_DrawBytes.j1 k x0 x3 x4 x5 bt217.1 bt217.2.2.2 (decide (x0 > 256)) bt217.2.1 bt217.2.2.1)))) else (if x0 < 1 then (churnlaw10_DrawBytes.j2 k x0 x3 x4 true) else (churnlaw10_DrawBytes.j2 k x0 x3 x4 (decide (x0 > 256))))
def churnlaw10_DrawBytes.j1 : Nat → Int → List Int → Int → Int → Int → Int → Bool → ByteArray → Int → Option (Bool)
  | 0, _, _, _, _, _, _, _, _, _ => none
  | k + 1, x0, x3, x4, x5, x6, x8, x32, x222000, x222001 => if x32 = true then (if x8 = 2 then (churnlaw10_DrawBytes.l0 k x0 x3 x4 (wrap64 (x5 + 1))) else (some false)) else (if x8 = 3 then (churnlaw10_DrawBytes.l0 k x0 x3 (wrap64 (x4 + 1)) (wrap64 (x5 + 1))) else (if x8 = 0 then (if x6 < 0 then (some false) else (if x6 ≥ x0 then (some false) else (if x0 = 1 then ((tape_Tape_Left.f x222000 x222001).bind fun t222 => (if t222 = 1 then (if x0 > 1 then ((tape_Tape_Left.f x222000 x222001).bind fun t223 => (if t223 = 0 then (if 0 ≤ x6 then (if x6 < (x3.length : Int) then (churnlaw10_DrawBytes.l0 k x0 (x3.set (x6 : Int).toNat (wrap64 ((rd x3 x6) + 1))) x4 (wrap64 (x5 + 1))) else (none)) else (none)) else (some false))) else (if 0 ≤ x6 then (if x6 < (x3.length : Int) then (churnlaw10_DrawBytes.l0 k x0 (x3.set (x6 : Int).toNat (wrap64 ((rd x3 x6) + 1))) x4 (wrap64 (x5 + 1))) else (none)) else (none))) else (some false))) else (if x0 > 1 then ((tape_Tape_Left.f x222000 x222001).bind fun t228 => (if t228 = 0 then (if 0 ≤ x6 then (if x6 < (x3.length : Int) then (churnlaw10_DrawBytes.l0 k x0 (x3.set (x6 : Int).toNat (wrap64 ((rd x3 x6) + 1))) x4 (wrap64 (x5 + 1))) else (none)) else (none)) else (some false))) else (if 0 ≤ x6 then (if x6 < (x3.length : Int) then (churnlaw10_DrawBytes.l0 k x0 (x3.set (x6 : Int).toNat (wrap64 ((rd x3 x6) + 1))) x4 (wrap64 (x5 + 1))) else (none)) else (none)))))) else (some false)))
def churnlaw10_DrawBytes.j2 : Nat → Int → List Int → Int → Bool → Option (Bool)
  | 0, _, _, _, _ => none
  | k + 1, x0, x3, x4, x81 => if x81 = true then (some true) else (churnlaw10_DrawBytes.l1 k x0 x3 x4 1)
def churnlaw10_DrawBytes.l1 : Nat → Int → List Int → Int → Int → Option (Bool)
  | 0, _, _, _, _ => none
  | k + 1, x0, x3, x4, x9 => if x9 < x0 then (if 0 ≤ x9 then (if x9 < (x3.length : Int) then (if 0 < (x3.length : Int) then (if (rd x3 x9) = (rd x3 0) then (churnlaw10_DrawBytes.l1 k x0 x3 x4 (wrap64 (x9 + 1))) else (some false)) else (none)) else (none)) else (none)) else (if x4 < x0 then (if 0 < (x3.length : Int) then (some ((wrap64 (x4 + (wrap64 (x0 * (rd x3 0))))) == 256)) else (none)) else (some false))
end
def churnlaw10_DrawBytes.f (k : Nat) (a0 : Int) : Option (Bool) := (churnlaw10_alive.f).bind fun t208 => (if t208 = true then (if 256 ≤ 35184372088832 then (churnlaw10_DrawBytes.l0 k a0 (List.replicate 256 0) 0 0) else (none)) else (some false))
theorem churnlaw10_DrawBytes.mono_l : ∀ k, (∀ y0 y1 y2 y3, LeO (churnlaw10_DrawBytes.l0 k y0 y1 y2 y3) (churnlaw10_DrawBytes.l0 (k + 1) y0 y1 y2 y3)) ∧ (∀ y0 y1 y2 y3 y4 y5 y6 y7 y8, LeO (churnlaw10_DrawBytes.j1 k y0 y1 y2 y3 y4 y5 y6 y7 y8) (churnlaw10_DrawBytes.j1 (k + 1) y0 y1 y2 y3 y4 y5 y6 y7 y8)) ∧ (∀ y0 y1 y2 y3, LeO (churnlaw10_DrawBytes.j2 k y0 y1 y2 y3) (churnlaw10_DrawBytes.j2 (k + 1) y0 y1 y2 y3)) ∧ (∀ y0 y1 y2 y3, LeO (churnlaw10_DrawBytes.l1 k y0 y1 y2 y3) (churnlaw10_DrawBytes.l1 (k + 1) y0 y1 y2 y3))
  | 0 => ⟨fun _ _ _ _ r h => by simp [churnlaw10_DrawBytes.l0] at h, fun _ _ _ _ _ _ _ _ _ r h => by simp [churnlaw10_DrawBytes.j1] at h, fun _ _ _ _ r h => by simp [churnlaw10_DrawBytes.j2] at h, fun _ _ _ _ r h => by simp [churnlaw10_DrawBytes.l1] at h⟩
  | k + 1 => by
    obtain ⟨ih0, ih1, ih2, ih3⟩ := churnlaw10_DrawBytes.mono_l k
    refine ⟨?_, ?_, ?_, ?_⟩
    · intro y0 y1 y2 y3
      unfold churnlaw10_DrawBytes.l0
      repeat' first
      | (with_reducible exact ih0 _ _ _ _)
      | (with_reducible exact ih1 _ _ _ _ _ _ _ _ _)
      | (with_reducible exact ih2 _ _ _ _)
      | (with_reducible exact ih3 _ _ _ _)
      | (with_reducible exact draw_Below.mono _ _ _ _)
      | (with_reducible exact LeO.refl _)
      | (with_reducible exact LeO.none _)
      | (with_reducible refine LeO.ite ?_ ?_)
      | (with_reducible refine LeO.bind ?_ (fun _ => ?_))
      | exact ih0 _ _ _ _
      | exact ih1 _ _ _ _ _ _ _ _ _
      | exact ih2 _ _ _ _
      | exact ih3 _ _ _ _
      | exact draw_Below.mono _ _ _ _
      | exact LeO.none _
      | refine LeO.ite ?_ ?_
      | refine LeO.bind ?_ (fun _ => ?_)
    · intro y0 y1 y2 y3 y4 y5 y6 y7 y8
      unfold churnlaw10_DrawBytes.j1
      repeat' first
      | (with_reducible exact ih0 _ _ _ _)
      | (with_reducible exact ih1 _ _ _ _ _ _ _ _ _)
      | (with_reducible exact ih2 _ _ _ _)
      | (with_reducible exact ih3 _ _ _ _)
      | (with_reducible exact draw_Below.mono _ _ _ _)
      | (with_reducible exact LeO.refl _)
      | (with_reducible exact LeO.none _)
      | (with_reducible refine LeO.ite ?_ ?_)
      | (with_reducible refine LeO.bind ?_ (fun _ => ?_))
      | exact ih0 _ _ _ _
      | exact ih1 _ _ _ _ _ _ _ _ _
      | exact ih2 _ _ _ _
      | exact ih3 _ _ _ _
      | exact draw_Below.mono _ _ _ _
      | exact LeO.none _
      | refine LeO.ite ?_ ?_
      | refine LeO.bind ?_ (fun _ => ?_)
    · intro y0 y1 y2 y3
      unfold churnlaw10_DrawBytes.j2
      repeat' first
      | (with_reducible exact ih0 _ _ _ _)
      | (with_reducible exact ih1 _ _ _ _ _ _ _ _ _)
      | (with_reducible exact ih2 _ _ _ _)
      | (with_reducible exact ih3 _ _ _ _)
      | (with_reducible exact draw_Below.mono _ _ _ _)
      | (with_reducible exact LeO.refl _)
      | (with_reducible exact LeO.none _)
      | (with_reducible refine LeO.ite ?_ ?_)
      | (with_reducible refine LeO.bind ?_ (fun _ => ?_))
      | exact ih0 _ _ _ _
      | exact ih1 _ _ _ _ _ _ _ _ _
      | exact ih2 _ _ _ _
      | exact ih3 _ _ _ _
      | exact draw_Below.mono _ _ _ _
      | exact LeO.none _
      | refine LeO.ite ?_ ?_
      | refine LeO.bind ?_ (fun _ => ?_)
    · intro y0 y1 y2 y3
      unfold churnlaw10_DrawBytes.l1
      repeat' first
      | (with_reducible exact ih0 _ _ _ _)
      | (with_reducible exact ih1 _ _ _ _ _ _ _ _ _)
      | (with_reducible exact ih2 _ _ _ _)
      | (with_reducible exact ih3 _ _ _ _)
      | (with_reducible exact draw_Below.mono _ _ _ _)
      | (with_reducible exact LeO.refl _)
      | (with_reducible exact LeO.none _)
      | (with_reducible refine LeO.ite ?_ ?_)
      | (with_reducible refine LeO.bind ?_ (fun _ => ?_))
      | exact ih0 _ _ _ _
      | exact ih1 _ _ _ _ _ _ _ _ _
      | exact ih2 _ _ _ _
      | exact ih3 _ _ _ _
      | exact draw_Below.mono _ _ _ _
      | exact LeO.none _
      | refine LeO.ite ?_ ?_
      | refine LeO.bind ?_ (fun _ => ?_)
theorem churnlaw10_DrawBytes.mono : ∀ a0 k, LeO (churnlaw10_DrawBytes.f k a0) (churnlaw10_DrawBytes.f (k + 1) a0) := by
  intro a0 k
  obtain ⟨ih0, ih1, ih2, ih3⟩ := churnlaw10_DrawBytes.mono_l k
  unfold churnlaw10_DrawBytes.f
  repeat' first
      | (with_reducible exact ih0 _ _ _ _)
      | (with_reducible exact ih1 _ _ _ _ _ _ _ _ _)
      | (with_reducible exact ih2 _ _ _ _)
      | (with_reducible exact ih3 _ _ _ _)
      | (with_reducible exact draw_Below.mono _ _ _ _)
      | (with_reducible exact LeO.refl _)
      | (with_reducible exact LeO.none _)
      | (with_reducible refine LeO.ite ?_ ?_)
      | (with_reducible refine LeO.bind ?_ (fun _ => ?_))
      | exact ih0 _ _ _ _
      | exact ih1 _ _ _ _ _ _ _ _ _
      | exact ih2 _ _ _ _
      | exact ih3 _ _ _ _
      | exact draw_Below.mono _ _ _ _
      | exact LeO.none _
      | refine LeO.ite ?_ ?_
      | refine LeO.bind ?_ (fun _ => ?_)
set_option maxHeartbeats 8000000 in
set_option maxRecDepth 100000 in
theorem churnlaw10_DrawBytes.calls (k : Nat) (a0 : Int) (r : Bool) (w : World) (h : churnlaw10_DrawBytes.f k a0 = some r) :
    Calls Try.prog 6 #[.int .i64 a0] w fun e w' => e = .returned (.bool r) ∧ Below w.heap.size w w' := by
  have hu38 := Try.underlying38
  have HB := Aside0.mk (Below.refl w.heap.size w)
  have H : ((churnlaw10_alive.f).bind fun t208 => (if t208 = true then (if 256 ≤ 35184372088832 then (churnlaw10_DrawBytes.l0 k a0 (List.replicate 256 0) 0 0) else (none)) else (some false))) = some r := h
  clear h
  replace H := Option.bind_eq_some_iff.mp H
  obtain ⟨t208, A20, H⟩ := H
  replace H : (if t208 = true then (if 256 ≤ 35184372088832 then (churnlaw10_DrawBytes.l0 k a0 (List.replicate 256 0) 0 0) else (none)) else (some false)) = some r := H
  have A2 := Aside0.mk A20
  clear A20
  by_cases c3 : t208 = true
  · subst c3
    have H1 : (if 256 ≤ 35184372088832 then (churnlaw10_DrawBytes.l0 k a0 (List.replicate 256 0) 0 0) else (none)) = some r := by rw [if_pos rfl] at H; exact H
    clear H
    have H := H1
    clear H1
    by_cases c4 : 256 ≤ 35184372088832
    · rw [if_pos c4] at H
      have c4b0 := eq_true c4
      have c4b1 : decide (256 ≤ 35184372088832) = true := decide_eq_true c4
      clear c4
      obtain ⟨y209, hy209⟩ : ∃ y_ : List Int, y_ = (List.replicate 256 0) := ⟨_, rfl⟩
      replace H : (churnlaw10_DrawBytes.l0 k a0 y209 0 0) = some r := by first | (rw [hy209]; with_reducible exact H) | (have H2_ := (Option.bind_some _ _).symm.trans H; rw [hy209]; with_reducible exact H2_) | (have H2_ := (Option.bind_some _ _).symm.trans H; with_reducible exact H2_) | with_reducible exact H | (rw [hy209]; exact H) | exact H
      have Ny209 := Aside0.mk hy209
      clear hy209
      have H' := Aside0.mk H
      clear H
      go_enter Try.func6, Try.ntmps6
      go_wp2_with (first | (go_at_call 10; (with_reducible refine (churnlaw10_alive.calls  true _ A2.out).mono ?_); rintro e w5 ⟨rfl, hb⟩; have n0_ := Aside0.mk (below_step (by repeat (first | (with_reducible first | exact HB.out | apply below_alloc | apply pw_below_drewN | apply below_drew1) | exact HB.out)) hb); clear HB; have HB := n0_; clear n0_; (try clear hb); (try clear hb2); (try clear hk); (try clear hi)) | ((with_reducible refine gate_dst (N := 12) rfl ?_); refine Kd.R_make (Kd.int .i64) _ 3 rfl (N := 12) rfl 23 _ _ rfl 256 rfl rfl Try.underlying23 (.int .i64 0) 8 info3 rfl (by decide) (by omega) 0 (ok := fun _ => True) (okp := fun _ => True) rfl (fun _ hk => hk) trivial (by omega) (by omega) (Below.refl _ _) (Nat.le_refl _) ?_; intro v210 w6 ho7 hb hg_ hnew_; clear hg_ hnew_; (first | rw [← Ny209.out] at ho7 | (simp only [Int.reduceToNat] at ho7; rw [← Ny209.out] at ho7)); have n0_ := Aside0.mk (Kd.R_lower ho7 (below_size (by repeat (first | (with_reducible first | exact HB.out | apply below_alloc | apply pw_below_drewN | apply below_drew1) | exact HB.out)))); have n1_ := Aside0.mk (below_step (by repeat (first | (with_reducible first | exact HB.out | apply below_alloc | apply pw_below_drewN | apply below_drew1) | exact HB.out)) hb); clear HB; have HO211 := n0_; have HB := n1_; clear n0_ n1_; clear hb ho7))
      repeat (go_quiet (first | (go_at_call 10; (with_reducible refine (churnlaw10_alive.calls  true _ A2.out).mono ?_); rintro e w5 ⟨rfl, hb⟩; have n0_ := Aside0.mk (below_step (by repeat (first | (with_reducible first | exact HB.out | apply below_alloc | apply pw_below_drewN | apply below_drew1) | exact HB.out)) hb); clear HB; have HB := n0_; clear n0_; (try clear hb); (try clear hb2); (try clear hk); (try clear hi)) | ((with_reducible refine gate_dst (N := 12) rfl ?_); refine Kd.R_make (Kd.int .i64) _ 3 rfl (N := 12) rfl 23 _ _ rfl 256 rfl rfl Try.underlying23 (.int .i64 0) 8 info3 rfl (by decide) (by omega) 0 (ok := fun _ => True) (okp := fun _ => True) rfl (fun _ hk => hk) trivial (by omega) (by omega) (Below.refl _ _) (Nat.le_refl _) ?_; intro v210 w6 ho7 hb hg_ hnew_; clear hg_ hnew_; (first | rw [← Ny209.out] at ho7 | (simp only [Int.reduceToNat] at ho7; rw [← Ny209.out] at ho7)); have n0_ := Aside0.mk (Kd.R_lower ho7 (below_size (by repeat (first | (with_reducible first | exact HB.out | apply below_alloc | apply pw_below_drewN | apply below_drew1) | exact HB.out)))); have n1_ := Aside0.mk (below_step (by repeat (first | (with_reducible first | exact HB.out | apply below_alloc | apply pw_below_drewN | apply below_drew1) | exact HB.out)) hb); clear HB; have HO211 := n0_; have HB := n1_; clear n0_ n1_; clear hb ho7)); try go_wp2_with (first | (go_at_call 10; (with_reducible refine (churnlaw10_alive.calls  true _ A2.out).mono ?_); rintro e w5 ⟨rfl, hb⟩; have n0_ := Aside0.mk (below_step (by repeat (first | (with_reducible first | exact HB.out | apply below_alloc | apply pw_below_drewN | apply below_drew1) | exact HB.out)) hb); clear HB; have HB := n0_; clear n0_; (try clear hb); (try clear hb2); (try clear hk); (try clear hi)) | ((with_reducible refine gate_dst (N := 12) rfl ?_); refine Kd.R_make (Kd.int .i64) _ 3 rfl (N := 12) rfl 23 _ _ rfl 256 rfl rfl Try.underlying23 (.int .i64 0) 8 info3 rfl (by decide) (by omega) 0 (ok := fun _ => True) (okp := fun _ => True) rfl (fun _ hk => hk) trivial (by omega) (by omega) (Below.refl _ _) (Nat.le_refl _) ?_; intro v210 w6 ho7 hb hg_ hnew_; clear hg_ hnew_; (first | rw [← Ny209.out] at ho7 | (simp only [Int.reduceToNat] at ho7; rw [← Ny209.out] at ho7)); have n0_ := Aside0.mk (Kd.R_lower ho7 (below_size (by repeat (first | (with_reducible first | exact HB.out | apply below_alloc | apply pw_below_drewN | apply below_drew1) | exact HB.out)))); have n1_ := Aside0.mk (below_step (by repeat (first | (with_reducible first | exact HB.out | apply below_alloc | apply pw_below_drewN | apply below_drew1) | exact HB.out)) hb); clear HB; have HO211 := n0_; have HB := n1_; clear n0_ n1_; clear hb ho7)))
      go_loopg [4, 5] k (fun kq v4 v5 w' => ∃ (x3_1 : List Int) (x4_1 : Int) (x5_1 : Int), v4 = .int .i64 x4_1 ∧ v5 = .int .i64 x5_1 ∧ Aside0 (churnlaw10_DrawBytes.l0 kq a0 x3_1 x4_1 x5_1 = some r) ∧ Aside0 (kq ≤ k) ∧ Aside0 (Kd.R (Kd.int .i64) 3 w' w.heap.size (fun _ => True) v210 x3_1) ∧ Aside0 (Below w.heap.size w w'))
      case atStart => exact ⟨(y209), (0), (0), (by first | rfl | (simp; done) | (simp [*]; done)), (by first | rfl | (simp; done) | (simp [*]; done)), H', ⟨Nat.le_refl _⟩, ⟨by (with_reducible repeat (first | apply Kd.R_alloc | apply Kd.R_drewN | apply Kd.R_drew)); exact HO211.out⟩, ⟨by repeat (first | (with_reducible first | exact HB.out | apply below_alloc | apply pw_below_drewN | apply below_drew1) | exact HB.out)⟩⟩
      case round =>
        clear H'
        try clear p2
        try clear c3
        try clear c4
        try clear c4b0
        try clear c4b1
        try clear c6
        obtain ⟨x3_1, x4_1, x5_1, rfl, rfl, HA, HK1, HO_3, HB⟩ := hrel
        cases gk with
        | zero => exact absurd HA.out (by simp [churnlaw10_DrawBytes.l0])
        | succ k1 =>
          have H := HA.out
          clear HA
          simp only [churnlaw10_DrawBytes.l0] at H
          by_cases c8 : x5_1 < 256
          · rw [if_pos c8] at H
            have c8b0 : decide (x5_1 < 256) = true := decide_eq_true c8
            clear c8
            obtain ⟨y212, hy212⟩ : ∃ y_ : List Int, y_ = (([(x5_1) % 256] : List Int)) := ⟨_, rfl⟩
            replace H : ((tape_New.f y212).bind fun bt215 => ((draw_Below.f k1 bt215.1 bt215.2 a0).bind fun bt217 => (if a0 < 1 then (churnlaw10_DrawBytes.j1 k1 a0 x3_1 x4_1 x5_1 bt217.1 bt217.2.2.2 true bt217.2.1 bt217.2.2.1) else (churnlaw10_DrawBytes.j1 k1 a0 x3_1 x4_1 x5_1 bt217.1 bt217.2.2.2 (decide (a0 > 256)) bt217.2.1 bt217.2.2.1)))) = some r := by first | (rw [hy212]; with_reducible exact H) | (have H2_ := (Option.bind_some _ _).symm.trans H; rw [hy212]; with_reducible exact H2_) | (have H2_ := (Option.bind_some _ _).symm.trans H; with_reducible exact H2_) | with_reducible exact H | (rw [hy212]; exact H) | exact H
            have Ny212 := Aside0.mk hy212
            clear hy212
            replace H := Option.bind_eq_some_iff.mp H
            obtain ⟨⟨t215, t216⟩, A90, H⟩ := H
            replace H : ((draw_Below.f k1 t215 t216 a0).bind fun bt217 => (if a0 < 1 then (churnlaw10_DrawBytes.j1 k1 a0 x3_1 x4_1 x5_1 bt217.1 bt217.2.2.2 true bt217.2.1 bt217.2.2.1) else (churnlaw10_DrawBytes.j1 k1 a0 x3_1 x4_1 x5_1 bt217.1 bt217.2.2.2 (decide (a0 > 256)) bt217.2.1 bt217.2.2.1))) = some r := H
            have A9 := Aside0.mk A90
            clear A90
            replace H := Option.bind_eq_some_iff.mp H
            obtain ⟨⟨t217, t218, t219, t220⟩, A100, H⟩ := H
            replace H : (if a0 < 1 then (churnlaw10_DrawBytes.j1 k1 a0 x3_1 x4_1 x5_1 t217 t220 true t218 t219) else (churnlaw10_DrawBytes.j1 k1 a0 x3_1 x4_1 x5_1 t217 t220 (decide (a0 > 256)) t218 t219)) = some r := H
            have A10 := Aside0.mk A100
            clear A100
            have HC11 := Aside0.mk H
            clear H
            go_upto_region 9 with (first | ((with_reducible refine gate_dst (N := 20) rfl ?_); refine Kd.R_lit (Kd.int .u8) _ 5 ?hg (N := 20) ?hd (xs := ([(x5_1) % 256] : List Int)) (inner := [.int .u8 ((x5_1) % 256)]) (ok := fun _ => True) (okp := fun _ => True) ?hr ?hp (fun _ hk => hk) trivial (Below.refl _ _) (Nat.le_refl _) (by simp) ?_; (case hd => rfl); (case hg => rfl); (case hr => first | (go_simp; done) | (go_simp; rfl)); (case hp => exact (Reps.one (show Kd.M (Kd.int .u8) _ _ _ ((x5_1) % 256) [.int .u8 ((x5_1) % 256)] from rfl) (Reps.none _ _))); intro v213 w12 ho13 hb hg_ hnew_; clear hg_ hnew_; (first | rw [← Ny212.out] at ho13 | (simp only [Int.reduceToNat] at ho13; rw [← Ny212.out] at ho13)); have n0_ := Aside0.mk (Kd.R_below (by (with_reducible repeat (first | apply Kd.R_alloc | apply Kd.R_drewN | apply Kd.R_drew)); exact HO_3.out) hb); have n1_ := Aside0.mk (Kd.R_lower ho13 (below_size (by repeat (first | (with_reducible first | exact HB.out | apply below_alloc | apply pw_below_drewN | apply below_drew1) | exact HB.out)))); have n2_ := Aside0.mk (below_step (by repeat (first | (with_reducible first | exact HB.out | apply below_alloc | apply pw_below_drewN | apply below_drew1) | exact HB.out)) hb); clear HO_3; clear HB; have HO_3 := n0_; have HO214 := n1_; have HB := n2_; clear n0_ n1_ n2_; clear hb ho13; obtain ⟨Ao14, co14, eo14⟩ := Kd.R_slice HO214.out; subst eo14) | (go_at_call 17; (with_reducible refine (tape_New.calls _ _ y212 t215 t216 _ ?side1 ?side2 A9.out).mono ?_); (case side1 => repeat (first | exact (Kd.R_reads' HO214.out).2.2 | (with_reducible refine Kd.C_alloc ?_ _) | (with_reducible refine Kd.C_drewN ?_ _) | (with_reducible refine Kd.C_drew ?_))); (case side2 => exact (Kd.R_reads' HO214.out).2.1); rintro e w15 ⟨rfl, hb⟩; have n0_ := Aside0.mk (Kd.R_below (by (with_reducible repeat (first | apply Kd.R_alloc | apply Kd.R_drewN | apply Kd.R_drew)); exact HO_3.out) hb); have n1_ := Aside0.mk (Kd.R_below (by (with_reducible repeat (first | apply Kd.R_alloc | apply Kd.R_drewN | apply Kd.R_drew)); exact HO214.out) hb); have n2_ := Aside0.mk (below_step (by repeat (first | (with_reducible first | exact HB.out | apply below_alloc | apply pw_below_drewN | apply below_drew1) | exact HB.out)) hb); clear HO_3; clear HO214; clear HB; have HO_3 := n0_; have HO214 := n1_; have HB := n2_; clear n0_ n1_ n2_; (try clear hb); (try clear hb2); (try clear hk); (try clear hi)) | (go_at_call 16; (with_reducible refine (draw_Below.calls k1 t215 t216 a0 t217 t218 t219 t220 _ A10.out).mono ?_); rintro e w16 ⟨rfl, hb⟩; have n0_ := Aside0.mk (Kd.R_below (by (with_reducible repeat (first | apply Kd.R_alloc | apply Kd.R_drewN | apply Kd.R_drew)); exact HO_3.out) hb); have n1_ := Aside0.mk (Kd.R_below (by (with_reducible repeat (first | apply Kd.R_alloc | apply Kd.R_drewN | apply Kd.R_drew)); exact HO214.out) hb); have n2_ := Aside0.mk (below_step (by repeat (first | (with_reducible first | exact HB.out | apply below_alloc | apply pw_below_drewN | apply below_drew1) | exact HB.out)) hb); clear HO_3; clear HO214; clear HB; have HO_3 := n0_; have HO214 := n1_; have HB := n2_; clear n0_ n1_ n2_; (try clear hb); (try clear hb2); (try clear hk); (try clear hi)) | ((with_reducible refine gate_dst (N := 7) rfl ?_); refine box_event ?hg (N := 7) ?hd (cs := #[.string (⟨#[]⟩ : ByteArray), .int .i64 0]) (t := 38) ?hr ?_; (case hd => rfl); (case hg => rfl); (case hr => first | (go_simp; done) | (go_simp; rfl)); intro gb221 hg w17 hbox hb; have n0_ := Aside0.mk (Kd.R_below (by (with_reducible repeat (first | apply Kd.R_alloc | apply Kd.R_drewN | apply Kd.R_drew)); exact HO_3.out) hb); have n1_ := Aside0.mk (Kd.R_below (by (with_reducible repeat (first | apply Kd.R_alloc | apply Kd.R_drewN | apply Kd.R_drew)); exact HO214.out) hb); have n2_ := Aside0.mk (below_step (by repeat (first | (with_reducible first | exact HB.out | apply below_alloc | apply pw_below_drewN | apply below_drew1) | exact HB.out)) hb); have n3_ := Aside0.mk (hbox); have n4_ := Aside0.mk ((by rw [hg]; exact (below_size (by repeat (first | (with_reducible first | exact HB.out | apply below_alloc | apply pw_below_drewN | apply below_drew1) | exact HB.out))) : w.heap.size ≤ gb221)); have n5_ := Aside0.mk ((by rw [hg]; exact (below_size (by repeat (first | (with_reducible first | exact HB.out | apply below_alloc | apply pw_below_drewN | apply below_drew1) | exact HB.out))) : w.heap.size ≤ gb221)); clear HO_3; clear HO214; clear HB; have HO_3 := n0_; have HO214 := n1_; have HB := n2_; have BK221 := n3_; have GW221 := n4_; have GE221 := n5_; clear n0_ n1_ n2_ n3_ n4_ n5_; clear hb hbox hg; have hcz18_0 : w17.cell? ⟨gb221, 0, none⟩ = some (.string (⟨#[]⟩ : ByteArray)) := (blk_cell BK221.out 0).trans rfl; have hcz18_1 : w17.cell? ⟨gb221, 1, none⟩ = some (.int .i64 0) := (blk_cell BK221.out 1).trans rfl; have hfz18_0 := blk_frozen BK221.out 0; have hfz18_1 := blk_frozen BK221.out 1))
            repeat (go_quiet (first | ((with_reducible refine gate_dst (N := 20) rfl ?_); refine Kd.R_lit (Kd.int .u8) _ 5 ?hg (N := 20) ?hd (xs := ([(x5_1) % 256] : List Int)) (inner := [.int .u8 ((x5_1) % 256)]) (ok := fun _ => True) (okp := fun _ => True) ?hr ?hp (fun _ hk => hk) trivial (Below.refl _ _) (Nat.le_refl _) (by simp) ?_; (case hd => rfl); (case hg => rfl); (case hr => first | (go_simp; done) | (go_simp; rfl)); (case hp => exact (Reps.one (show Kd.M (Kd.int .u8) _ _ _ ((x5_1) % 256) [.int .u8 ((x5_1) % 256)] from rfl) (Reps.none _ _))); intro v213 w12 ho13 hb hg_ hnew_; clear hg_ hnew_; (first | rw [← Ny212.out] at ho13 | (simp only [Int.reduceToNat] at ho13; rw [← Ny212.out] at ho13)); have n0_ := Aside0.mk (Kd.R_below (by (with_reducible repeat (first | apply Kd.R_alloc | apply Kd.R_drewN | apply Kd.R_drew)); exact HO_3.out) hb); have n1_ := Aside0.mk (Kd.R_lower ho13 (below_size (by repeat (first | (with_reducible first | exact HB.out | apply below_alloc | apply pw_below_drewN | apply below_drew1) | exact HB.out)))); have n2_ := Aside0.mk (below_step (by repeat (first | (with_reducible first | exact HB.out | apply below_alloc | apply pw_below_drewN | apply below_drew1) | exact HB.out)) hb); clear HO_3; clear HB; have HO_3 := n0_; have HO214 := n1_; have HB := n2_; clear n0_ n1_ n2_; clear hb ho13; obtain ⟨Ao14, co14, eo14⟩ := Kd.R_slice HO214.out; subst eo14) | (go_at_call 17; (with_reducible refine (tape_New.calls _ _ y212 t215 t216 _ ?side1 ?side2 A9.out).mono ?_); (case side1 => repeat (first | exact (Kd.R_reads' HO214.out).2.2 | (with_reducible refine Kd.C_alloc ?_ _) | (with_reducible refine Kd.C_drewN ?_ _) | (with_reducible refine Kd.C_drew ?_))); (case side2 => exact (Kd.R_reads' HO214.out).2.1); rintro e w15 ⟨rfl, hb⟩; have n0_ := Aside0.mk (Kd.R_below (by (with_reducible repeat (first | apply Kd.R_alloc | apply Kd.R_drewN | apply Kd.R_drew)); exact HO_3.out) hb); have n1_ := Aside0.mk (Kd.R_below (by (with_reducible repeat (first | apply Kd.R_alloc | apply Kd.R_drewN | apply Kd.R_drew)); exact HO214.out) hb); have n2_ := Aside0.mk (below_step (by repeat (first | (with_reducible first | exact HB.out | apply below_alloc | apply pw_below_drewN | apply below_drew1) | exact HB.out)) hb); clear HO_3; clear HO214; clear HB; have HO_3 := n0_; have HO214 := n1_; have HB := n2_; clear n0_ n1_ n2_; (try clear hb); (try clear hb2); (try clear hk); (try clear hi)) | (go_at_call 16; (with_reducible refine (draw_Below.calls k1 t215 t216 a0 t217 t218 t219 t220 _ A10.out).mono ?_); rintro e w16 ⟨rfl, hb⟩; have n0_ := Aside0.mk (Kd.R_below (by (with_reducible repeat (first | apply Kd.R_alloc | apply Kd.R_drewN | apply Kd.R_drew)); exact HO_3.out) hb); have n1_ := Aside0.mk (Kd.R_below (by (with_reducible repeat (first | apply Kd.R_alloc | apply Kd.R_drewN | apply Kd.R_drew)); exact HO214.out) hb); have n2_ := Aside0.mk (below_step (by repeat (first | (with_reducible first | exact HB.out | apply below_alloc | apply pw_below_drewN | apply below_drew1) | exact HB.out)) hb); clear HO_3; clear HO214; clear HB; have HO_3 := n0_; have HO214 := n1_; have HB := n2_; clear n0_ n1_ n2_; (try clear hb); (try clear hb2); (try clear hk); (try clear hi)) | ((with_reducible refine gate_dst (N := 7) rfl ?_); refine box_event ?hg (N := 7) ?hd (cs := #[.string (⟨#[]⟩ : ByteArray), .int .i64 0]) (t := 38) ?hr ?_; (case hd => rfl); (case hg => rfl); (case hr => first | (go_simp; done) | (go_simp; rfl)); intro gb221 hg w17 hbox hb; have n0_ := Aside0.mk (Kd.R_below (by (with_reducible repeat (first | apply Kd.R_alloc | apply Kd.R_drewN | apply Kd.R_drew)); exact HO_3.out) hb); have n1_ := Aside0.mk (Kd.R_below (by (with_reducible repeat (first | apply Kd.R_alloc | apply Kd.R_drewN | apply Kd.R_drew)); exact HO214.out) hb); have n2_ := Aside0.mk (below_step (by repeat (first | (with_reducible first | exact HB.out | apply below_alloc | apply pw_below_drewN | apply below_drew1) | exact HB.out)) hb); have n3_ := Aside0.mk (hbox); have n4_ := Aside0.mk ((by rw [hg]; exact (below_size (by repeat (first | (with_reducible first | exact HB.out | apply below_alloc | apply pw_below_drewN | apply below_drew1) | exact HB.out))) : w.heap.size ≤ gb221)); have n5_ := Aside0.mk ((by rw [hg]; exact (below_size (by repeat (first | (with_reducible first | exact HB.out | apply below_alloc | apply pw_below_drewN | apply below_drew1) | exact HB.out))) : w.heap.size ≤ gb221)); clear HO_3; clear HO214; clear HB; have HO_3 := n0_; have HO214 := n1_; have HB := n2_; have BK221 := n3_; have GW221 := n4_; have GE221 := n5_; clear n0_ n1_ n2_ n3_ n4_ n5_; clear hb hbox hg; have hcz18_0 : w17.cell? ⟨gb221, 0, none⟩ = some (.string (⟨#[]⟩ : ByteArray)) := (blk_cell BK221.out 0).trans rfl; have hcz18_1 : w17.cell? ⟨gb221, 1, none⟩ = some (.int .i64 0) := (blk_cell BK221.out 1).trans rfl; have hfz18_0 := blk_frozen BK221.out 0; have hfz18_1 := blk_frozen BK221.out 1)); go_upto_region 9 with (first | ((with_reducible refine gate_dst (N := 20) rfl ?_); refine Kd.R_lit (Kd.int .u8) _ 5 ?hg (N := 20) ?hd (xs := ([(x5_1) % 256] : List Int)) (inner := [.int .u8 ((x5_1) % 256)]) (ok := fun _ => True) (okp := fun _ => True) ?hr ?hp (fun _ hk => hk) trivial (Below.refl _ _) (Nat.le_refl _) (by simp) ?_; (case hd => rfl); (case hg => rfl); (case hr => first | (go_simp; done) | (go_simp; rfl)); (case hp => exact (Reps.one (show Kd.M (Kd.int .u8) _ _ _ ((x5_1) % 256) [.int .u8 ((x5_1) % 256)] from rfl) (Reps.none _ _))); intro v213 w12 ho13 hb hg_ hnew_; clear hg_ hnew_; (first | rw [← Ny212.out] at ho13 | (simp only [Int.reduceToNat] at ho13; rw [← Ny212.out] at ho13)); have n0_ := Aside0.mk (Kd.R_below (by (with_reducible repeat (first | apply Kd.R_alloc | apply Kd.R_drewN | apply Kd.R_drew)); exact HO_3.out) hb); have n1_ := Aside0.mk (Kd.R_lower ho13 (below_size (by repeat (first | (with_reducible first | exact HB.out | apply below_alloc | apply pw_below_drewN | apply below_drew1) | exact HB.out)))); have n2_ := Aside0.mk (below_step (by repeat (first | (with_reducible first | exact HB.out | apply below_alloc | apply pw_below_drewN | apply below_drew1) | exact HB.out)) hb); clear HO_3; clear HB; have HO_3 := n0_; have HO214 := n1_; have HB := n2_; clear n0_ n1_ n2_; clear hb ho13; obtain ⟨Ao14, co14, eo14⟩ := Kd.R_slice HO214.out; subst eo14) | (go_at_call 17; (with_reducible refine (tape_New.calls _ _ y212 t215 t216 _ ?side1 ?side2 A9.out).mono ?_); (case side1 => repeat (first | exact (Kd.R_reads' HO214.out).2.2 | (with_reducible refine Kd.C_alloc ?_ _) | (with_reducible refine Kd.C_drewN ?_ _) | (with_reducible refine Kd.C_drew ?_))); (case side2 => exact (Kd.R_reads' HO214.out).2.1); rintro e w15 ⟨rfl, hb⟩; have n0_ := Aside0.mk (Kd.R_below (by (with_reducible repeat (first | apply Kd.R_alloc | apply Kd.R_drewN | apply Kd.R_drew)); exact HO_3.out) hb); have n1_ := Aside0.mk (Kd.R_below (by (with_reducible repeat (first | apply Kd.R_alloc | apply Kd.R_drewN | apply Kd.R_drew)); exact HO214.out) hb); have n2_ := Aside0.mk (below_step (by repeat (first | (with_reducible first | exact HB.out | apply below_alloc | apply pw_below_drewN | apply below_drew1) | exact HB.out)) hb); clear HO_3; clear HO214; clear HB; have HO_3 := n0_; have HO214 := n1_; have HB := n2_; clear n0_ n1_ n2_; (try clear hb); (try clear hb2); (try clear hk); (try clear hi)) | (go_at_call 16; (with_reducible refine (draw_Below.calls k1 t215 t216 a0 t217 t218 t219 t220 _ A10.out).mono ?_); rintro e w16 ⟨rfl, hb⟩; have n0_ := Aside0.mk (Kd.R_below (by (with_reducible repeat (first | apply Kd.R_alloc | apply Kd.R_drewN | apply Kd.R_drew)); exact HO_3.out) hb); have n1_ := Aside0.mk (Kd.R_below (by (with_reducible repeat (first | apply Kd.R_alloc | apply Kd.R_drewN | apply Kd.R_drew)); exact HO214.out) hb); have n2_ := Aside0.mk (below_step (by repeat (first | (with_reducible first | exact HB.out | apply below_alloc | apply pw_below_drewN | apply below_drew1) | exact HB.out)) hb); clear HO_3; clear HO214; clear HB; have HO_3 := n0_; have HO214 := n1_; have HB := n2_; clear n0_ n1_ n2_; (try clear hb); (try clear hb2); (try clear hk); (try clear hi)) | ((with_reducible refine gate_dst (N := 7) rfl ?_); refine box_event ?hg (N := 7) ?hd (cs := #[.string (⟨#[]⟩ : ByteArray), .int .i64 0]) (t := 38) ?hr ?_; (case hd => rfl); (case hg => rfl); (case hr => first | (go_simp; done) | (go_simp; rfl)); intro gb221 hg w17 hbox hb; have n0_ := Aside0.mk (Kd.R_below (by (with_reducible repeat (first | apply Kd.R_alloc | apply Kd.R_drewN | apply Kd.R_drew)); exact HO_3.out) hb); have n1_ := Aside0.mk (Kd.R_below (by (with_reducible repeat (first | apply Kd.R_alloc | apply Kd.R_drewN | apply Kd.R_drew)); exact HO214.out) hb); have n2_ := Aside0.mk (below_step (by repeat (first | (with_reducible first | exact HB.out | apply below_alloc | apply pw_below_drewN | apply below_drew1) | exact HB.out)) hb); have n3_ := Aside0.mk (hbox); have n4_ := Aside0.mk ((by rw [hg]; exact (below_size (by repeat (first | (with_reducible first | exact HB.out | apply below_alloc | apply pw_below_drewN | apply below_drew1) | exact HB.out))) : w.heap.size ≤ gb221)); have n5_ := Aside0.mk ((by rw [hg]; exact (below_size (by repeat (first | (with_reducible first | exact HB.out | apply below_alloc | apply pw_below_drewN | apply below_drew1) | exact HB.out))) : w.heap.size ≤ gb221)); clear HO_3; clear HO214; clear HB; have HO_3 := n0_; have HO214 := n1_; have HB := n2_; have BK221 := n3_; have GW221 := n4_; have GE221 := n5_; clear n0_ n1_ n2_ n3_ n4_ n5_; clear hb hbox hg; have hcz18_0 : w17.cell? ⟨gb221, 0, none⟩ = some (.string (⟨#[]⟩ : ByteArray)) := (blk_cell BK221.out 0).trans rfl; have hcz18_1 : w17.cell? ⟨gb221, 1, none⟩ = some (.int .i64 0) := (blk_cell BK221.out 1).trans rfl; have hfz18_0 := blk_frozen BK221.out 0; have hfz18_1 := blk_frozen BK221.out 1)))
            (try simp only [Act.put, List.setIfInBounds_toArray, List.set_cons_zero, List.set_cons_succ])
            go_cut [32] (fun v32 wc => ∃ (kq : Nat) (x32_10 : Bool), v32 = .bool x32_10 ∧ Aside0 (churnlaw10_DrawBytes.j1 kq a0 x3_1 x4_1 x5_1 t217 t220 x32_10 t218 t219 = some r) ∧ Aside0 (kq ≤ k1) ∧ Aside0 (Kd.R (Kd.int .i64) 3 wc w.heap.size (fun _ => True) v210 x3_1) ∧ Aside0 (wc.heap[gb221]? = some (.cells #[.string t218, .int .i64 t219] 38 (0, 0))) ∧ Aside0 (Below w.heap.size w wc))
            case first =>
              have H := HC11.out
              clear HC11
              by_cases c19 : a0 < 1
              · rw [if_pos c19] at H
                have c19b0 : decide (a0 < 1) = true := decide_eq_true c19
                clear c19
                (first | rw [c19b0] | (simp only [i64_w, i32_w]; rw [c19b0]) | skip)
                have H' := Aside0.mk H
                clear H
                go_wp2
                repeat (go_quiet (fail); try go_wp2)
                go_meet
                case rel => exact ⟨_, (true), (by first | rfl | (simp; done) | (simp [*]; done)), H', ⟨by have := HK1.out; first | omega | exact Nat.le_refl _⟩, ⟨by (with_reducible repeat (first | apply Kd.R_alloc | apply Kd.R_drewN | apply Kd.R_drew)); exact Kd.R_mono (Kd.R_far (p := ⟨gb221, 1, none⟩) (Kd.R_far (p := ⟨gb221, 0, none⟩) (Kd.R_types HO_3.out BK221.out (by decide)) (fun _ hk => hk.2) (.string t218)) (fun _ hk => hk.2) (.int .i64 t219)) (fun _ hk => trivial)⟩, ⟨by (with_reducible repeat (first | refine blk_drewN ?_ _ | refine blk_drew ?_ | refine blk_alloc ?_ _)); refine blk_put (cs := #[.string t218, .int .i64 0]) ?_ 1 _ rfl; (with_reducible repeat (first | refine blk_drewN ?_ _ | refine blk_drew ?_ | refine blk_alloc ?_ _)); refine blk_put (cs := #[.string (⟨#[]⟩ : ByteArray), .int .i64 0]) ?_ 0 _ rfl; (with_reducible repeat (first | refine blk_drewN ?_ _ | refine blk_drew ?_ | refine blk_alloc ?_ _)); exact BK221.out⟩, ⟨by repeat (first | (with_reducible first | exact HB.out | apply below_alloc | apply pw_below_drewN | apply below_drew1 | refine below_set ?_ GE221.out) | exact HB.out)⟩⟩
              · rw [if_neg c19] at H
                have c19b0 : decide (a0 < 1) = false := decide_eq_false c19
                clear c19
                (first | rw [c19b0] | (simp only [i64_w, i32_w]; rw [c19b0]) | skip)
                have H' := Aside0.mk H
                clear H
                go_wp2
                repeat (go_quiet (fail); try go_wp2)
                go_meet
                case rel => exact ⟨_, (decide (a0 > 256)), (by first | rfl | (simp; done) | (simp [*]; done)), H', ⟨by have := HK1.out; first | omega | exact Nat.le_refl _⟩, ⟨by (with_reducible repeat (first | apply Kd.R_alloc | apply Kd.R_drewN | apply Kd.R_drew)); exact Kd.R_mono (Kd.R_far (p := ⟨gb221, 1, none⟩) (Kd.R_far (p := ⟨gb221, 0, none⟩) (Kd.R_types HO_3.out BK221.out (by decide)) (fun _ hk => hk.2) (.string t218)) (fun _ hk => hk.2) (.int .i64 t219)) (fun _ hk => trivial)⟩, ⟨by (with_reducible repeat (first | refine blk_drewN ?_ _ | refine blk_drew ?_ | refine blk_alloc ?_ _)); refine blk_put (cs := #[.string t218, .int .i64 0]) ?_ 1 _ rfl; (with_reducible repeat (first | refine blk_drewN ?_ _ | refine blk_drew ?_ | refine blk_alloc ?_ _)); refine blk_put (cs := #[.string (⟨#[]⟩ : ByteArray), .int .i64 0]) ?_ 0 _ rfl; (with_reducible repeat (first | refine blk_drewN ?_ _ | refine blk_drew ?_ | refine blk_alloc ?_ _)); exact BK221.out⟩, ⟨by repeat (first | (with_reducible first | exact HB.out | apply below_alloc | apply pw_below_drewN | apply below_drew1 | refine below_set ?_ GE221.out) | exact HB.out)⟩⟩
            case rest =>
              clear HC11
              try clear c1
              try clear p2
              try clear c3
              try clear c4
              try clear c4b0
              try clear c4b1
              try clear c6
              try clear c8
              try clear c8b0
              try clear c19
              try clear c19b0
              try clear hcz18_0
              try clear hcz18_1
              try clear hfz18_0
              try clear hfz18_1
              try clear p2
              obtain ⟨kq, x32_10, rfl, HA, HJ10, HO_3, BK221, HB⟩ := hcut
              cases kq with
              | zero => exact absurd HA.out (by simp [churnlaw10_DrawBytes.j1])
              | succ kj10 =>
                have H := HA.out
                clear HA
                simp only [churnlaw10_DrawBytes.j1] at H
                by_cases c20 : x32_10 = true
                · subst c20
                  have H1 : (if t220 = 2 then (churnlaw10_DrawBytes.l0 kj10 a0 x3_1 x4_1 (wrap64 (x5_1 + 1))) else (some false)) = some r := by rw [if_pos rfl] at H; exact H
                  clear H
                  have H := H1
                  clear H1
                  by_cases c21 : t220 = 2
                  · rw [if_pos c21] at H
                    have c21b0 : (t220 == 2) = true := beq_iff_eq.mpr c21
                    have c21b1 : (t220 != 2) = false := bne_eq_false_iff_eq.mpr c21
                    clear c21
                    have H' := Aside0.mk H
                    clear H
                    go_wp2
                    repeat (go_quiet (fail); try go_wp2)
                    go_roundg kj10
                    case measure => have := HK1.out; have := HJ10.out; omega
                    case rel => exact ⟨(x3_1), (x4_1), (wrap64 (x5_1 + 1)), (by first | rfl | (simp; done) | (simp [*]; done)), (by first | rfl | (simp; done) | (simp [*]; done)), H', ⟨by have := HK1.out; have := HJ10.out; omega⟩, ⟨by (with_reducible repeat (first | apply Kd.R_alloc | apply Kd.R_drewN | apply Kd.R_drew)); exact HO_3.out⟩, ⟨by repeat (first | (with_reducible first | exact HB.out | apply below_alloc | apply pw_below_drewN | apply below_drew1 | refine below_set ?_ GE221.out) | exact HB.out)⟩⟩
                  · rw [if_neg c21] at H
                    have c21b0 : (t220 == 2) = false := beq_eq_false_iff_ne.mpr c21
                    have c21b1 : (t220 != 2) = true := bne_iff_ne.mpr c21
                    obtain rfl := Option.some.inj H
                    go_wp2
                    repeat (go_quiet (fail); try go_wp2)
                    go_ret
                    exact ⟨by first | rfl | (simp [errW_none, errW_some] <;> rfl) | (simp [*, errW_none, errW_some] <;> rfl), by repeat (first | (with_reducible first | exact HB.out | apply below_alloc | apply pw_below_drewN | apply below_drew1 | refine below_set ?_ GE221.out) | exact HB.out)⟩
                · replace c20 := Bool.eq_false_iff.mpr c20
                  subst c20
                  have H1 : (if t220 = 3 then (churnlaw10_DrawBytes.l0 kj10 a0 x3_1 (wrap64 (x4_1 + 1)) (wrap64 (x5_1 + 1))) else (if t220 = 0 then (if t217 < 0 then (some false) else (if t217 ≥ a0 then (some false) else (if a0 = 1 then ((tape_Tape_Left.f t218 t219).bind fun t222 => (if t222 = 1 then (if a0 > 1 then ((tape_Tape_Left.f t218 t219).bind fun t223 => (if t223 = 0 then (if 0 ≤ t217 then (if t217 < (x3_1.length : Int) then (churnlaw10_DrawBytes.l0 kj10 a0 (x3_1.set (t217 : Int).toNat (wrap64 ((rd x3_1 t217) + 1))) x4_1 (wrap64 (x5_1 + 1))) else (none)) else (none)) else (some false))) else (if 0 ≤ t217 then (if t217 < (x3_1.length : Int) then (churnlaw10_DrawBytes.l0 kj10 a0 (x3_1.set (t217 : Int).toNat (wrap64 ((rd x3_1 t217) + 1))) x4_1 (wrap64 (x5_1 + 1))) else (none)) else (none))) else (some false))) else (if a0 > 1 then ((tape_Tape_Left.f t218 t219).bind fun t228 => (if t228 = 0 then (if 0 ≤ t217 then (if t217 < (x3_1.length : Int) then (churnlaw10_DrawBytes.l0 kj10 a0 (x3_1.set (t217 : Int).toNat (wrap64 ((rd x3_1 t217) + 1))) x4_1 (wrap64 (x5_1 + 1))) else (none)) else (none)) else (some false))) else (if 0 ≤ t217 then (if t217 < (x3_1.length : Int) then (churnlaw10_DrawBytes.l0 kj10 a0 (x3_1.set (t217 : Int).toNat (wrap64 ((rd x3_1 t217) + 1))) x4_1 (wrap64 (x5_1 + 1))) else (none)) else (none)))))) else (some false))) = some r := by rw [if_neg (show ¬ (false = true) by decide)] at H; exact H
                  clear H
                  have H := H1
                  clear H1
                  by_cases c22 : t220 = 3
                  · rw [if_pos c22] at H
                    have c22b0 : (t220 == 3) = true := beq_iff_eq.mpr c22
                    have c22b1 : (t220 != 3) = false := bne_eq_false_iff_eq.mpr c22
                    clear c22
                    have H' := Aside0.mk H
                    clear H
                    go_wp2
                    repeat (go_quiet (fail); try go_wp2)
                    go_roundg kj10
                    case measure => have := HK1.out; have := HJ10.out; omega
                    case rel => exact ⟨(x3_1), (wrap64 (x4_1 + 1)), (wrap64 (x5_1 + 1)), (by first | rfl | (simp; done) | (simp [*]; done)), (by first | rfl | (simp; done) | (simp [*]; done)), H', ⟨by have := HK1.out; have := HJ10.out; omega⟩, ⟨by (with_reducible repeat (first | apply Kd.R_alloc | apply Kd.R_drewN | apply Kd.R_drew)); exact HO_3.out⟩, ⟨by repeat (first | (with_reducible first | exact HB.out | apply below_alloc | apply pw_below_drewN | apply below_drew1 | refine below_set ?_ GE221.out) | exact HB.out)⟩⟩
                  · rw [if_neg c22] at H
                    have c22b0 : (t220 == 3) = false := beq_eq_false_iff_ne.mpr c22
                    have c22b1 : (t220 != 3) = true := bne_iff_ne.mpr c22
                    by_cases c23 : t220 = 0
                    · rw [if_pos c23] at H
                      have c23b0 : (t220 == 0) = true := beq_iff_eq.mpr c23
                      have c23b1 : (t220 != 0) = false := bne_eq_false_iff_eq.mpr c23
                      clear c23
                      by_cases c24 : t217 < 0
                      · rw [if_pos c24] at H
                        have c24b0 : decide (t217 < 0) = true := decide_eq_true c24
                        clear c24
                        obtain rfl := Option.some.inj H
                        go_wp2
                        repeat (go_quiet (fail); try go_wp2)
                        go_ret
                        exact ⟨by first | rfl | (simp [errW_none, errW_some] <;> rfl) | (simp [*, errW_none, errW_some] <;> rfl), by repeat (first | (with_reducible first | exact HB.out | apply below_alloc | apply pw_below_drewN | apply below_drew1 | refine below_set ?_ GE221.out) | exact HB.out)⟩
                      · rw [if_neg c24] at H
                        have c24b0 : decide (t217 < 0) = false := decide_eq_false c24
                        clear c24
                        by_cases c25 : t217 ≥ a0
                        · rw [if_pos c25] at H
                          have c25b0 : decide (a0 ≤ t217) = true := decide_eq_true c25
                          clear c25
                          obtain rfl := Option.some.inj H
                          go_wp2
                          repeat (go_quiet (fail); try go_wp2)
                          go_ret
                          exact ⟨by first | rfl | (simp [errW_none, errW_some] <;> rfl) | (simp [*, errW_none, errW_some] <;> rfl), by repeat (first | (with_reducible first | exact HB.out | apply below_alloc | apply pw_below_drewN | apply below_drew1 | refine below_set ?_ GE221.out) | exact HB.out)⟩
                        · rw [if_neg c25] at H
                          have c25b0 : decide (a0 ≤ t217) = false := decide_eq_false c25
                          clear c25
                          by_cases c26 : a0 = 1
                          · rw [if_pos c26] at H
                            have c26b0 : (a0 == 1) = true := beq_iff_eq.mpr c26
                            have c26b1 : (a0 != 1) = false := bne_eq_false_iff_eq.mpr c26
                            clear c26
                            replace H := Option.bind_eq_some_iff.mp H
                            obtain ⟨t222, A270, H⟩ := H
                            replace H : (if t222 = 1 then (if a0 > 1 then ((tape_Tape_Left.f t218 t219).bind fun t223 => (if t223 = 0 then (if 0 ≤ t217 then (if t217 < (x3_1.length : Int) then (churnlaw10_DrawBytes.l0 kj10 a0 (x3_1.set (t217 : Int).toNat (wrap64 ((rd x3_1 t217) + 1))) x4_1 (wrap64 (x5_1 + 1))) else (none)) else (none)) else (some false))) else (if 0 ≤ t217 then (if t217 < (x3_1.length : Int) then (churnlaw10_DrawBytes.l0 kj10 a0 (x3_1.set (t217 : Int).toNat (wrap64 ((rd x3_1 t217) + 1))) x4_1 (wrap64 (x5_1 + 1))) else (none)) else (none))) else (some false)) = some r := H
                            have A27 := Aside0.mk A270
                            clear A270
                            by_cases c28 : t222 = 1
                            · rw [if_pos c28] at H
                              have c28b0 : (t222 == 1) = true := beq_iff_eq.mpr c28
                              have c28b1 : (t222 != 1) = false := bne_eq_false_iff_eq.mpr c28
                              clear c28
                              by_cases c29 : a0 > 1
                              · exact absurd c29 (by have := beq_iff_eq.mp c26b0; omega)
                              · rw [if_neg c29] at H
                                have c29b0 : decide (1 < a0) = false := decide_eq_false c29
                                clear c29
                                by_cases c46 : 0 ≤ t217
                                · rw [if_pos c46] at H
                                  have c46b0 : decide (0 ≤ t217) = true := decide_eq_true c46
                                  clear c46
                                  by_cases c47 : t217 < (x3_1.length : Int)
                                  · rw [if_pos c47] at H
                                    have c47b0 : decide (t217 < (x3_1.length : Int)) = true := decide_eq_true c47
                                    clear c47
                                    obtain ⟨y227, hy227⟩ : ∃ y_ : List Int, y_ = (x3_1.set (t217 : Int).toNat (wrap64 ((rd x3_1 t217) + 1))) := ⟨_, rfl⟩
                                    replace H : (churnlaw10_DrawBytes.l0 kj10 a0 y227 x4_1 (wrap64 (x5_1 + 1))) = some r := by first | (rw [hy227]; with_reducible exact H) | (have H2_ := (Option.bind_some _ _).symm.trans H; rw [hy227]; with_reducible exact H2_) | (have H2_ := (Option.bind_some _ _).symm.trans H; with_reducible exact H2_) | with_reducible exact H | (rw [hy227]; exact H) | exact H
                                    have Ny227 := Aside0.mk hy227
                                    clear hy227
                                    have H' := Aside0.mk H
                                    clear H
                                    have hcz49_0 : wc.cell? ⟨gb221, 0, none⟩ = some (.string t218) := (blk_cell BK221.out 0).trans rfl
                                    have hcz49_1 : wc.cell? ⟨gb221, 1, none⟩ = some (.int .i64 t219) := (blk_cell BK221.out 1).trans rfl
                                    have hfz49_0 := blk_frozen BK221.out 0
                                    have hfz49_1 := blk_frozen BK221.out 1
                                    go_wp2_with (first | (go_at_call 18; (with_reducible refine (tape_Tape_Left.calls t218 t219 t222 _ A27.out).mono ?_); rintro e w50 ⟨rfl, hb⟩; have n0_ := Aside0.mk (Kd.R_below (by (with_reducible repeat (first | apply Kd.R_alloc | apply Kd.R_drewN | apply Kd.R_drew)); exact HO_3.out) hb); have n1_ := Aside0.mk (blk_below (g := gb221) (o := .cells #[.string t218, .int .i64 t219] 38 (0, 0)) (by (with_reducible repeat (first | refine blk_drewN ?_ _ | refine blk_drew ?_ | refine blk_alloc ?_ _)); exact BK221.out) hb); have n2_ := Aside0.mk (below_step (by repeat (first | (with_reducible first | exact HB.out | apply below_alloc | apply pw_below_drewN | apply below_drew1 | refine below_set ?_ GE221.out) | exact HB.out)) hb); clear HO_3; clear BK221; clear HB; have HO_3 := n0_; have BK221 := n1_; have HB := n2_; clear n0_ n1_ n2_; (try clear hb); (try clear hb2); (try clear hk); (try clear hi); obtain ⟨Ao51, co51, eo51⟩ := Kd.R_slice HO_3.out; subst eo51; have p226 : 0 ≤ (t217 : Int) := of_decide_eq_true (by first | (with_reducible assumption) | assumption); have q226 : t217 < (x3_1.length : Int) := of_decide_eq_true (by first | (with_reducible assumption) | assumption); obtain ⟨ad226, e226, hx226_0⟩ := Kd.at_int (Kd.R_reads' HO_3.out).2.2 t217 p226 q226; cases e226; replace p226 := eq_true p226; replace q226 := eq_true q226; have p48 : 0 ≤ (t217 : Int) := of_decide_eq_true (by first | (with_reducible assumption) | assumption); have q48 : (t217 : Int) < ((x3_1.length : Int) : Int) := of_decide_eq_true (by first | (with_reducible assumption) | assumption); obtain ⟨go48, co48, eo48, gb48, gl48, cl48, HG48⟩ := Kd.R_form HO_3.out (by omega); (first | cases eo48 | (injection eo48 with ea_ en_ ec_; (first | subst ea_ | (injection ea_ with ea_; subst ea_)); subst ec_; clear en_)); have GB48 := Aside0.mk gb48; have GG48 := Aside0.mk HG48; clear gb48 gl48 HG48; (first | simp only [add_plain] at hx226_0 | skip); obtain ⟨hx48_0, hf48_0⟩ := Kd.R_celln 0 HO_3.out (t217 : Int) p48 q48; replace p48 := eq_true p48; replace q48 := eq_true q48; obtain ⟨hy52_, hz52_⟩ := Kd.R_celln 0 HO_3.out (t217 : Int) (of_decide_eq_true (by first | (with_reducible assumption) | assumption)) (of_decide_eq_true (by first | (with_reducible assumption) | assumption)); have HP52 := Kd.R_putg HO_3.out (t217 : Int) (wrap64 ((rd x3_1 t217) + 1))) | ((with_reducible refine gate_store (t := 3) (p := 40) rfl ?_); (try (rw [drewN_self w50]; generalize hq_ : World.drewN w50 _ = w50; have n0_ := Aside0.mk (Kd.R_at hq_ HO_3.out); have n1_ := Aside0.mk (blk_at hq_ BK221.out); have n2_ := Aside0.mk (below_at hq_ HB.out); clear hq_ HO_3 BK221 HB; have HO_3 := n0_; have BK221 := n1_; have HB := n2_; clear n0_ n1_ n2_; (try (obtain ⟨hy52_, hz52_⟩ := Kd.R_celln 0 HO_3.out (t217 : Int) (of_decide_eq_true (by first | (with_reducible assumption) | assumption)) (of_decide_eq_true (by first | (with_reducible assumption) | assumption)))); (try (have HP52 := Kd.R_putg HO_3.out (t217 : Int) (wrap64 ((rd x3_1 t217) + 1)))))); refine store_event (t := 3) (p := 40) (v := ?vo_w53) (w1 := (w50.setCell ⟨go48, (t217 : Int).toNat, none⟩ (.int .i64 (wrap64 ((rd x3_1 t217) + 1))))) ?hg ?ho ?hn ?hr ?_; (case ho => rfl); (case hg => rfl); (case hn => rfl); (case hr => first | (go_simp; done) | (go_simp; rfl)); intro w53 hw; have hg : w50.grownBy w53 (some go48) := (by rw [hw]; exact HP52.2); have hp_ : Kd.R (Kd.int .i64) 3 w53 w.heap.size (fun _ => True) (.slice (some ⟨go48, 0, none⟩) x3_1.length co51) y227 := (by rw [hw, Ny227.out]; exact HP52.1); clear HP52; have n0_ := Aside0.mk (hp_); have n1_ := Aside0.mk (blk_grown (g := gb221) (o := .cells #[.string t218, .int .i64 t219] 38 (0, 0)) (by (with_reducible repeat (first | refine blk_drewN ?_ _ | refine blk_drew ?_ | refine blk_alloc ?_ _)); exact BK221.out) hg (Kd.R_ne HO_3.out BK221.out (by decide))); have n2_ := Aside0.mk ((by rw [hw]; exact below_set (HB.out) GB48.out : Below w.heap.size w w53)); clear HO_3; clear BK221; clear HB; have HO_3 := n0_; have BK221 := n1_; have HB := n2_; clear n0_ n1_ n2_; clear hg hw hp_))
                                    repeat (go_quiet (first | (go_at_call 18; (with_reducible refine (tape_Tape_Left.calls t218 t219 t222 _ A27.out).mono ?_); rintro e w50 ⟨rfl, hb⟩; have n0_ := Aside0.mk (Kd.R_below (by (with_reducible repeat (first | apply Kd.R_alloc | apply Kd.R_drewN | apply Kd.R_drew)); exact HO_3.out) hb); have n1_ := Aside0.mk (blk_below (g := gb221) (o := .cells #[.string t218, .int .i64 t219] 38 (0, 0)) (by (with_reducible repeat (first | refine blk_drewN ?_ _ | refine blk_drew ?_ | refine blk_alloc ?_ _)); exact BK221.out) hb); have n2_ := Aside0.mk (below_step (by repeat (first | (with_reducible first | exact HB.out | apply below_alloc | apply pw_below_drewN | apply below_drew1 | refine below_set ?_ GE221.out) | exact HB.out)) hb); clear HO_3; clear BK221; clear HB; have HO_3 := n0_; have BK221 := n1_; have HB := n2_; clear n0_ n1_ n2_; (try clear hb); (try clear hb2); (try clear hk); (try clear hi); obtain ⟨Ao51, co51, eo51⟩ := Kd.R_slice HO_3.out; subst eo51; have p226 : 0 ≤ (t217 : Int) := of_decide_eq_true (by first | (with_reducible assumption) | assumption); have q226 : t217 < (x3_1.length : Int) := of_decide_eq_true (by first | (with_reducible assumption) | assumption); obtain ⟨ad226, e226, hx226_0⟩ := Kd.at_int (Kd.R_reads' HO_3.out).2.2 t217 p226 q226; cases e226; replace p226 := eq_true p226; replace q226 := eq_true q226; have p48 : 0 ≤ (t217 : Int) := of_decide_eq_true (by first | (with_reducible assumption) | assumption); have q48 : (t217 : Int) < ((x3_1.length : Int) : Int) := of_decide_eq_true (by first | (with_reducible assumption) | assumption); obtain ⟨go48, co48, eo48, gb48, gl48, cl48, HG48⟩ := Kd.R_form HO_3.out (by omega); (first | cases eo48 | (injection eo48 with ea_ en_ ec_; (first | subst ea_ | (injection ea_ with ea_; subst ea_)); subst ec_; clear en_)); have GB48 := Aside0.mk gb48; have GG48 := Aside0.mk HG48; clear gb48 gl48 HG48; (first | simp only [add_plain] at hx226_0 | skip); obtain ⟨hx48_0, hf48_0⟩ := Kd.R_celln 0 HO_3.out (t217 : Int) p48 q48; replace p48 := eq_true p48; replace q48 := eq_true q48; obtain ⟨hy52_, hz52_⟩ := Kd.R_celln 0 HO_3.out (t217 : Int) (of_decide_eq_true (by first | (with_reducible assumption) | assumption)) (of_decide_eq_true (by first | (with_reducible assumption) | assumption)); have HP52 := Kd.R_putg HO_3.out (t217 : Int) (wrap64 ((rd x3_1 t217) + 1))) | ((with_reducible refine gate_store (t := 3) (p := 40) rfl ?_); (try (rw [drewN_self w50]; generalize hq_ : World.drewN w50 _ = w50; have n0_ := Aside0.mk (Kd.R_at hq_ HO_3.out); have n1_ := Aside0.mk (blk_at hq_ BK221.out); have n2_ := Aside0.mk (below_at hq_ HB.out); clear hq_ HO_3 BK221 HB; have HO_3 := n0_; have BK221 := n1_; have HB := n2_; clear n0_ n1_ n2_; (try (obtain ⟨hy52_, hz52_⟩ := Kd.R_celln 0 HO_3.out (t217 : Int) (of_decide_eq_true (by first | (with_reducible assumption) | assumption)) (of_decide_eq_true (by first | (with_reducible assumption) | assumption)))); (try (have HP52 := Kd.R_putg HO_3.out (t217 : Int) (wrap64 ((rd x3_1 t217) + 1)))))); refine store_event (t := 3) (p := 40) (v := ?vo_w53) (w1 := (w50.setCell ⟨go48, (t217 : Int).toNat, none⟩ (.int .i64 (wrap64 ((rd x3_1 t217) + 1))))) ?hg ?ho ?hn ?hr ?_; (case ho => rfl); (case hg => rfl); (case hn => rfl); (case hr => first | (go_simp; done) | (go_simp; rfl)); intro w53 hw; have hg : w50.grownBy w53 (some go48) := (by rw [hw]; exact HP52.2); have hp_ : Kd.R (Kd.int .i64) 3 w53 w.heap.size (fun _ => True) (.slice (some ⟨go48, 0, none⟩) x3_1.length co51) y227 := (by rw [hw, Ny227.out]; exact HP52.1); clear HP52; have n0_ := Aside0.mk (hp_); have n1_ := Aside0.mk (blk_grown (g := gb221) (o := .cells #[.string t218, .int .i64 t219] 38 (0, 0)) (by (with_reducible repeat (first | refine blk_drewN ?_ _ | refine blk_drew ?_ | refine blk_alloc ?_ _)); exact BK221.out) hg (Kd.R_ne HO_3.out BK221.out (by decide))); have n2_ := Aside0.mk ((by rw [hw]; exact below_set (HB.out) GB48.out : Below w.heap.size w w53)); clear HO_3; clear BK221; clear HB; have HO_3 := n0_; have BK221 := n1_; have HB := n2_; clear n0_ n1_ n2_; clear hg hw hp_)); try go_wp2_with (first | (go_at_call 18; (with_reducible refine (tape_Tape_Left.calls t218 t219 t222 _ A27.out).mono ?_); rintro e w50 ⟨rfl, hb⟩; have n0_ := Aside0.mk (Kd.R_below (by (with_reducible repeat (first | apply Kd.R_alloc | apply Kd.R_drewN | apply Kd.R_drew)); exact HO_3.out) hb); have n1_ := Aside0.mk (blk_below (g := gb221) (o := .cells #[.string t218, .int .i64 t219] 38 (0, 0)) (by (with_reducible repeat (first | refine blk_drewN ?_ _ | refine blk_drew ?_ | refine blk_alloc ?_ _)); exact BK221.out) hb); have n2_ := Aside0.mk (below_step (by repeat (first | (with_reducible first | exact HB.out | apply below_alloc | apply pw_below_drewN | apply below_drew1 | refine below_set ?_ GE221.out) | exact HB.out)) hb); clear HO_3; clear BK221; clear HB; have HO_3 := n0_; have BK221 := n1_; have HB := n2_; clear n0_ n1_ n2_; (try clear hb); (try clear hb2); (try clear hk); (try clear hi); obtain ⟨Ao51, co51, eo51⟩ := Kd.R_slice HO_3.out; subst eo51; have p226 : 0 ≤ (t217 : Int) := of_decide_eq_true (by first | (with_reducible assumption) | assumption); have q226 : t217 < (x3_1.length : Int) := of_decide_eq_true (by first | (with_reducible assumption) | assumption); obtain ⟨ad226, e226, hx226_0⟩ := Kd.at_int (Kd.R_reads' HO_3.out).2.2 t217 p226 q226; cases e226; replace p226 := eq_true p226; replace q226 := eq_true q226; have p48 : 0 ≤ (t217 : Int) := of_decide_eq_true (by first | (with_reducible assumption) | assumption); have q48 : (t217 : Int) < ((x3_1.length : Int) : Int) := of_decide_eq_true (by first | (with_reducible assumption) | assumption); obtain ⟨go48, co48, eo48, gb48, gl48, cl48, HG48⟩ := Kd.R_form HO_3.out (by omega); (first | cases eo48 | (injection eo48 with ea_ en_ ec_; (first | subst ea_ | (injection ea_ with ea_; subst ea_)); subst ec_; clear en_)); have GB48 := Aside0.mk gb48; have GG48 := Aside0.mk HG48; clear gb48 gl48 HG48; (first | simp only [add_plain] at hx226_0 | skip); obtain ⟨hx48_0, hf48_0⟩ := Kd.R_celln 0 HO_3.out (t217 : Int) p48 q48; replace p48 := eq_true p48; replace q48 := eq_true q48; obtain ⟨hy52_, hz52_⟩ := Kd.R_celln 0 HO_3.out (t217 : Int) (of_decide_eq_true (by first | (with_reducible assumption) | assumption)) (of_decide_eq_true (by first | (with_reducible assumption) | assumption)); have HP52 := Kd.R_putg HO_3.out (t217 : Int) (wrap64 ((rd x3_1 t217) + 1))) | ((with_reducible refine gate_store (t := 3) (p := 40) rfl ?_); (try (rw [drewN_self w50]; generalize hq_ : World.drewN w50 _ = w50; have n0_ := Aside0.mk (Kd.R_at hq_ HO_3.out); have n1_ := Aside0.mk (blk_at hq_ BK221.out); have n2_ := Aside0.mk (below_at hq_ HB.out); clear hq_ HO_3 BK221 HB; have HO_3 := n0_; have BK221 := n1_; have HB := n2_; clear n0_ n1_ n2_; (try (obtain ⟨hy52_, hz52_⟩ := Kd.R_celln 0 HO_3.out (t217 : Int) (of_decide_eq_true (by first | (with_reducible assumption) | assumption)) (of_decide_eq_true (by first | (with_reducible assumption) | assumption)))); (try (have HP52 := Kd.R_putg HO_3.out (t217 : Int) (wrap64 ((rd x3_1 t217) + 1)))))); refine store_event (t := 3) (p := 40) (v := ?vo_w53) (w1 := (w50.setCell ⟨go48, (t217 : Int).toNat, none⟩ (.int .i64 (wrap64 ((rd x3_1 t217) + 1))))) ?hg ?ho ?hn ?hr ?_; (case ho => rfl); (case hg => rfl); (case hn => rfl); (case hr => first | (go_simp; done) | (go_simp; rfl)); intro w53 hw; have hg : w50.grownBy w53 (some go48) := (by rw [hw]; exact HP52.2); have hp_ : Kd.R (Kd.int .i64) 3 w53 w.heap.size (fun _ => True) (.slice (some ⟨go48, 0, none⟩) x3_1.length co51) y227 := (by rw [hw, Ny227.out]; exact HP52.1); clear HP52; have n0_ := Aside0.mk (hp_); have n1_ := Aside0.mk (blk_grown (g := gb221) (o := .cells #[.string t218, .int .i64 t219] 38 (0, 0)) (by (with_reducible repeat (first | refine blk_drewN ?_ _ | refine blk_drew ?_ | refine blk_alloc ?_ _)); exact BK221.out) hg (Kd.R_ne HO_3.out BK221.out (by decide))); have n2_ := Aside0.mk ((by rw [hw]; exact below_set (HB.out) GB48.out : Below w.heap.size w w53)); clear HO_3; clear BK221; clear HB; have HO_3 := n0_; have BK221 := n1_; have HB := n2_; clear n0_ n1_ n2_; clear hg hw hp_)))
                                    go_roundg kj10
                                    case measure => have := HK1.out; have := HJ10.out; omega
                                    case rel => exact ⟨(y227), (x4_1), (wrap64 (x5_1 + 1)), (by first | rfl | (simp; done) | (simp [*]; done)), (by first | rfl | (simp; done) | (simp [*]; done)), H', ⟨by have := HK1.out; have := HJ10.out; omega⟩, ⟨by (with_reducible repeat (first | apply Kd.R_alloc | apply Kd.R_drewN | apply Kd.R_drew)); exact HO_3.out⟩, ⟨by repeat (first | (with_reducible first | exact HB.out | apply below_alloc | apply pw_below_drewN | apply below_drew1 | refine below_set ?_ GE221.out) | exact HB.out)⟩⟩
                                  · rw [if_neg c47] at H
                                    exact absurd H (by simp)
                                · rw [if_neg c46] at H
                                  exact absurd H (by simp)
                            · rw [if_neg c28] at H
                              have c28b0 : (t222 == 1) = false := beq_eq_false_iff_ne.mpr c28
                              have c28b1 : (t222 != 1) = true := bne_iff_ne.mpr c28
                              obtain rfl := Option.some.inj H
                              have hcz54_0 : wc.cell? ⟨gb221, 0, none⟩ = some (.string t218) := (blk_cell BK221.out 0).trans rfl
                              have hcz54_1 : wc.cell? ⟨gb221, 1, none⟩ = some (.int .i64 t219) := (blk_cell BK221.out 1).trans rfl
                              have hfz54_0 := blk_frozen BK221.out 0
                              have hfz54_1 := blk_frozen BK221.out 1
                              go_wp2_with (first | (go_at_call 18; (with_reducible refine (tape_Tape_Left.calls t218 t219 t222 _ A27.out).mono ?_); rintro e w55 ⟨rfl, hb⟩; have n0_ := Aside0.mk (Kd.R_below (by (with_reducible repeat (first | apply Kd.R_alloc | apply Kd.R_drewN | apply Kd.R_drew)); exact HO_3.out) hb); have n1_ := Aside0.mk (blk_below (g := gb221) (o := .cells #[.string t218, .int .i64 t219] 38 (0, 0)) (by (with_reducible repeat (first | refine blk_drewN ?_ _ | refine blk_drew ?_ | refine blk_alloc ?_ _)); exact BK221.out) hb); have n2_ := Aside0.mk (below_step (by repeat (first | (with_reducible first | exact HB.out | apply below_alloc | apply pw_below_drewN | apply below_drew1 | refine below_set ?_ GE221.out) | exact HB.out)) hb); clear HO_3; clear BK221; clear HB; have HO_3 := n0_; have BK221 := n1_; have HB := n2_; clear n0_ n1_ n2_; (try clear hb); (try clear hb2); (try clear hk); (try clear hi)))
                              repeat (go_quiet (first | (go_at_call 18; (with_reducible refine (tape_Tape_Left.calls t218 t219 t222 _ A27.out).mono ?_); rintro e w55 ⟨rfl, hb⟩; have n0_ := Aside0.mk (Kd.R_below (by (with_reducible repeat (first | apply Kd.R_alloc | apply Kd.R_drewN | apply Kd.R_drew)); exact HO_3.out) hb); have n1_ := Aside0.mk (blk_below (g := gb221) (o := .cells #[.string t218, .int .i64 t219] 38 (0, 0)) (by (with_reducible repeat (first | refine blk_drewN ?_ _ | refine blk_drew ?_ | refine blk_alloc ?_ _)); exact BK221.out) hb); have n2_ := Aside0.mk (below_step (by repeat (first | (with_reducible first | exact HB.out | apply below_alloc | apply pw_below_drewN | apply below_drew1 | refine below_set ?_ GE221.out) | exact HB.out)) hb); clear HO_3; clear BK221; clear HB; have HO_3 := n0_; have BK221 := n1_; have HB := n2_; clear n0_ n1_ n2_; (try clear hb); (try clear hb2); (try clear hk); (try clear hi))); try go_wp2_with (first | (go_at_call 18; (with_reducible refine (tape_Tape_Left.calls t218 t219 t222 _ A27.out).mono ?_); rintro e w55 ⟨rfl, hb⟩; have n0_ := Aside0.mk (Kd.R_below (by (with_reducible repeat (first | apply Kd.R_alloc | apply Kd.R_drewN | apply Kd.R_drew)); exact HO_3.out) hb); have n1_ := Aside0.mk (blk_below (g := gb221) (o := .cells #[.string t218, .int .i64 t219] 38 (0, 0)) (by (with_reducible repeat (first | refine blk_drewN ?_ _ | refine blk_drew ?_ | refine blk_alloc ?_ _)); exact BK221.out) hb); have n2_ := Aside0.mk (below_step (by repeat (first | (with_reducible first | exact HB.out | apply below_alloc | apply pw_below_drewN | apply below_drew1 | refine below_set ?_ GE221.out) | exact HB.out)) hb); clear HO_3; clear BK221; clear HB; have HO_3 := n0_; have BK221 := n1_; have HB := n2_; clear n0_ n1_ n2_; (try clear hb); (try clear hb2); (try clear hk); (try clear hi))))
                              go_ret
                              exact ⟨by first | rfl | (simp [errW_none, errW_some] <;> rfl) | (simp [*, errW_none, errW_some] <;> rfl), by repeat (first | (with_reducible first | exact HB.out | apply below_alloc | apply pw_below_drewN | apply below_drew1 | refine below_set ?_ GE221.out) | exact HB.out)⟩
                          · rw [if_neg c26] at H
                            have c26b0 : (a0 == 1) = false := beq_eq_false_iff_ne.mpr c26
                            have c26b1 : (a0 != 1) = true := bne_iff_ne.mpr c26
                            by_cases c56 : a0 > 1
                            · rw [if_pos c56] at H
                              have c56b0 : decide (1 < a0) = true := decide_eq_true c56
                              clear c56
                              replace H := Option.bind_eq_some_iff.mp H
                              obtain ⟨t228, A570, H⟩ := H
                              replace H : (if t228 = 0 then (if 0 ≤ t217 then (if t217 < (x3_1.length : Int) then (churnlaw10_DrawBytes.l0 kj10 a0 (x3_1.set (t217 : Int).toNat (wrap64 ((rd x3_1 t217) + 1))) x4_1 (wrap64 (x5_1 + 1))) else (none)) else (none)) else (some false)) = some r := H
                              have A57 := Aside0.mk A570
                              clear A570
                              by_cases c58 : t228 = 0
                              · rw [if_pos c58] at H
                                have c58b0 : (t228 == 0) = true := beq_iff_eq.mpr c58
                                have c58b1 : (t228 != 0) = false := bne_eq_false_iff_eq.mpr c58
                                clear c58
                                by_cases c59 : 0 ≤ t217
                                · rw [if_pos c59] at H
                                  have c59b0 : decide (0 ≤ t217) = true := decide_eq_true c59
                                  clear c59
                                  by_cases c60 : t217 < (x3_1.length : Int)
                                  · rw [if_pos c60] at H
                                    have c60b0 : decide (t217 < (x3_1.length : Int)) = true := decide_eq_true c60
                                    clear c60
                                    obtain ⟨y230, hy230⟩ : ∃ y_ : List Int, y_ = (x3_1.set (t217 : Int).toNat (wrap64 ((rd x3_1 t217) + 1))) := ⟨_, rfl⟩
                                    replace H : (churnlaw10_DrawBytes.l0 kj10 a0 y230 x4_1 (wrap64 (x5_1 + 1))) = some r := by first | (rw [hy230]; with_reducible exact H) | (have H2_ := (Option.bind_some _ _).symm.trans H; rw [hy230]; with_reducible exact H2_) | (have H2_ := (Option.bind_some _ _).symm.trans H; with_reducible exact H2_) | with_reducible exact H | (rw [hy230]; exact H) | exact H
                                    have Ny230 := Aside0.mk hy230
                                    clear hy230
                                    have H' := Aside0.mk H
                                    clear H
                                    have hcz62_0 : wc.cell? ⟨gb221, 0, none⟩ = some (.string t218) := (blk_cell BK221.out 0).trans rfl
                                    have hcz62_1 : wc.cell? ⟨gb221, 1, none⟩ = some (.int .i64 t219) := (blk_cell BK221.out 1).trans rfl
                                    have hfz62_0 := blk_frozen BK221.out 0
                                    have hfz62_1 := blk_frozen BK221.out 1
                                    go_wp2_with (first | (go_at_call 18; (with_reducible refine (tape_Tape_Left.calls t218 t219 t228 _ A57.out).mono ?_); rintro e w63 ⟨rfl, hb⟩; have n0_ := Aside0.mk (Kd.R_below (by (with_reducible repeat (first | apply Kd.R_alloc | apply Kd.R_drewN | apply Kd.R_drew)); exact HO_3.out) hb); have n1_ := Aside0.mk (blk_below (g := gb221) (o := .cells #[.string t218, .int .i64 t219] 38 (0, 0)) (by (with_reducible repeat (first | refine blk_drewN ?_ _ | refine blk_drew ?_ | refine blk_alloc ?_ _)); exact BK221.out) hb); have n2_ := Aside0.mk (below_step (by repeat (first | (with_reducible first | exact HB.out | apply below_alloc | apply pw_below_drewN | apply below_drew1 | refine below_set ?_ GE221.out) | exact HB.out)) hb); clear HO_3; clear BK221; clear HB; have HO_3 := n0_; have BK221 := n1_; have HB := n2_; clear n0_ n1_ n2_; (try clear hb); (try clear hb2); (try clear hk); (try clear hi); obtain ⟨Ao64, co64, eo64⟩ := Kd.R_slice HO_3.out; subst eo64; have p229 : 0 ≤ (t217 : Int) := of_decide_eq_true (by first | (with_reducible assumption) | assumption); have q229 : t217 < (x3_1.length : Int) := of_decide_eq_true (by first | (with_reducible assumption) | assumption); obtain ⟨ad229, e229, hx229_0⟩ := Kd.at_int (Kd.R_reads' HO_3.out).2.2 t217 p229 q229; cases e229; replace p229 := eq_true p229; replace q229 := eq_true q229; have p61 : 0 ≤ (t217 : Int) := of_decide_eq_true (by first | (with_reducible assumption) | assumption); have q61 : (t217 : Int) < ((x3_1.length : Int) : Int) := of_decide_eq_true (by first | (with_reducible assumption) | assumption); obtain ⟨go61, co61, eo61, gb61, gl61, cl61, HG61⟩ := Kd.R_form HO_3.out (by omega); (first | cases eo61 | (injection eo61 with ea_ en_ ec_; (first | subst ea_ | (injection ea_ with ea_; subst ea_)); subst ec_; clear en_)); have GB61 := Aside0.mk gb61; have GG61 := Aside0.mk HG61; clear gb61 gl61 HG61; (first | simp only [add_plain] at hx229_0 | skip); obtain ⟨hx61_0, hf61_0⟩ := Kd.R_celln 0 HO_3.out (t217 : Int) p61 q61; replace p61 := eq_true p61; replace q61 := eq_true q61; obtain ⟨hy65_, hz65_⟩ := Kd.R_celln 0 HO_3.out (t217 : Int) (of_decide_eq_true (by first | (with_reducible assumption) | assumption)) (of_decide_eq_true (by first | (with_reducible assumption) | assumption)); have HP65 := Kd.R_putg HO_3.out (t217 : Int) (wrap64 ((rd x3_1 t217) + 1))) | ((with_reducible refine gate_store (t := 3) (p := 40) rfl ?_); (try (rw [drewN_self w63]; generalize hq_ : World.drewN w63 _ = w63; have n0_ := Aside0.mk (Kd.R_at hq_ HO_3.out); have n1_ := Aside0.mk (blk_at hq_ BK221.out); have n2_ := Aside0.mk (below_at hq_ HB.out); clear hq_ HO_3 BK221 HB; have HO_3 := n0_; have BK221 := n1_; have HB := n2_; clear n0_ n1_ n2_; (try (obtain ⟨hy65_, hz65_⟩ := Kd.R_celln 0 HO_3.out (t217 : Int) (of_decide_eq_true (by first | (with_reducible assumption) | assumption)) (of_decide_eq_true (by first | (with_reducible assumption) | assumption)))); (try (have HP65 := Kd.R_putg HO_3.out (t217 : Int) (wrap64 ((rd x3_1 t217) + 1)))))); refine store_event (t := 3) (p := 40) (v := ?vo_w66) (w1 := (w63.setCell ⟨go61, (t217 : Int).toNat, none⟩ (.int .i64 (wrap64 ((rd x3_1 t217) + 1))))) ?hg ?ho ?hn ?hr ?_; (case ho => rfl); (case hg => rfl); (case hn => rfl); (case hr => first | (go_simp; done) | (go_simp; rfl)); intro w66 hw; have hg : w63.grownBy w66 (some go61) := (by rw [hw]; exact HP65.2); have hp_ : Kd.R (Kd.int .i64) 3 w66 w.heap.size (fun _ => True) (.slice (some ⟨go61, 0, none⟩) x3_1.length co64) y230 := (by rw [hw, Ny230.out]; exact HP65.1); clear HP65; have n0_ := Aside0.mk (hp_); have n1_ := Aside0.mk (blk_grown (g := gb221) (o := .cells #[.string t218, .int .i64 t219] 38 (0, 0)) (by (with_reducible repeat (first | refine blk_drewN ?_ _ | refine blk_drew ?_ | refine blk_alloc ?_ _)); exact BK221.out) hg (Kd.R_ne HO_3.out BK221.out (by decide))); have n2_ := Aside0.mk ((by rw [hw]; exact below_set (HB.out) GB61.out : Below w.heap.size w w66)); clear HO_3; clear BK221; clear HB; have HO_3 := n0_; have BK221 := n1_; have HB := n2_; clear n0_ n1_ n2_; clear hg hw hp_))
                                    repeat (go_quiet (first | (go_at_call 18; (with_reducible refine (tape_Tape_Left.calls t218 t219 t228 _ A57.out).mono ?_); rintro e w63 ⟨rfl, hb⟩; have n0_ := Aside0.mk (Kd.R_below (by (with_reducible repeat (first | apply Kd.R_alloc | apply Kd.R_drewN | apply Kd.R_drew)); exact HO_3.out) hb); have n1_ := Aside0.mk (blk_below (g := gb221) (o := .cells #[.string t218, .int .i64 t219] 38 (0, 0)) (by (with_reducible repeat (first | refine blk_drewN ?_ _ | refine blk_drew ?_ | refine blk_alloc ?_ _)); exact BK221.out) hb); have n2_ := Aside0.mk (below_step (by repeat (first | (with_reducible first | exact HB.out | apply below_alloc | apply pw_below_drewN | apply below_drew1 | refine below_set ?_ GE221.out) | exact HB.out)) hb); clear HO_3; clear BK221; clear HB; have HO_3 := n0_; have BK221 := n1_; have HB := n2_; clear n0_ n1_ n2_; (try clear hb); (try clear hb2); (try clear hk); (try clear hi); obtain ⟨Ao64, co64, eo64⟩ := Kd.R_slice HO_3.out; subst eo64; have p229 : 0 ≤ (t217 : Int) := of_decide_eq_true (by first | (with_reducible assumption) | assumption); have q229 : t217 < (x3_1.length : Int) := of_decide_eq_true (by first | (with_reducible assumption) | assumption); obtain ⟨ad229, e229, hx229_0⟩ := Kd.at_int (Kd.R_reads' HO_3.out).2.2 t217 p229 q229; cases e229; replace p229 := eq_true p229; replace q229 := eq_true q229; have p61 : 0 ≤ (t217 : Int) := of_decide_eq_true (by first | (with_reducible assumption) | assumption); have q61 : (t217 : Int) < ((x3_1.length : Int) : Int) := of_decide_eq_true (by first | (with_reducible assumption) | assumption); obtain ⟨go61, co61, eo61, gb61, gl61, cl61, HG61⟩ := Kd.R_form HO_3.out (by omega); (first | cases eo61 | (injection eo61 with ea_ en_ ec_; (first | subst ea_ | (injection ea_ with ea_; subst ea_)); subst ec_; clear en_)); have GB61 := Aside0.mk gb61; have GG61 := Aside0.mk HG61; clear gb61 gl61 HG61; (first | simp only [add_plain] at hx229_0 | skip); obtain ⟨hx61_0, hf61_0⟩ := Kd.R_celln 0 HO_3.out (t217 : Int) p61 q61; replace p61 := eq_true p61; replace q61 := eq_true q61; obtain ⟨hy65_, hz65_⟩ := Kd.R_celln 0 HO_3.out (t217 : Int) (of_decide_eq_true (by first | (with_reducible assumption) | assumption)) (of_decide_eq_true (by first | (with_reducible assumption) | assumption)); have HP65 := Kd.R_putg HO_3.out (t217 : Int) (wrap64 ((rd x3_1 t217) + 1))) | ((with_reducible refine gate_store (t := 3) (p := 40) rfl ?_); (try (rw [drewN_self w63]; generalize hq_ : World.drewN w63 _ = w63; have n0_ := Aside0.mk (Kd.R_at hq_ HO_3.out); have n1_ := Aside0.mk (blk_at hq_ BK221.out); have n2_ := Aside0.mk (below_at hq_ HB.out); clear hq_ HO_3 BK221 HB; have HO_3 := n0_; have BK221 := n1_; have HB := n2_; clear n0_ n1_ n2_; (try (obtain ⟨hy65_, hz65_⟩ := Kd.R_celln 0 HO_3.out (t217 : Int) (of_decide_eq_true (by first | (with_reducible assumption) | assumption)) (of_decide_eq_true (by first | (with_reducible assumption) | assumption)))); (try (have HP65 := Kd.R_putg HO_3.out (t217 : Int) (wrap64 ((rd x3_1 t217) + 1)))))); refine store_event (t := 3) (p := 40) (v := ?vo_w66) (w1 := (w63.setCell ⟨go61, (t217 : Int).toNat, none⟩ (.int .i64 (wrap64 ((rd x3_1 t217) + 1))))) ?hg ?ho ?hn ?hr ?_; (case ho => rfl); (case hg => rfl); (case hn => rfl); (case hr => first | (go_simp; done) | (go_simp; rfl)); intro w66 hw; have hg : w63.grownBy w66 (some go61) := (by rw [hw]; exact HP65.2); have hp_ : Kd.R (Kd.int .i64) 3 w66 w.heap.size (fun _ => True) (.slice (some ⟨go61, 0, none⟩) x3_1.length co64) y230 := (by rw [hw, Ny230.out]; exact HP65.1); clear HP65; have n0_ := Aside0.mk (hp_); have n1_ := Aside0.mk (blk_grown (g := gb221) (o := .cells #[.string t218, .int .i64 t219] 38 (0, 0)) (by (with_reducible repeat (first | refine blk_drewN ?_ _ | refine blk_drew ?_ | refine blk_alloc ?_ _)); exact BK221.out) hg (Kd.R_ne HO_3.out BK221.out (by decide))); have n2_ := Aside0.mk ((by rw [hw]; exact below_set (HB.out) GB61.out : Below w.heap.size w w66)); clear HO_3; clear BK221; clear HB; have HO_3 := n0_; have BK221 := n1_; have HB := n2_; clear n0_ n1_ n2_; clear hg hw hp_)); try go_wp2_with (first | (go_at_call 18; (with_reducible refine (tape_Tape_Left.calls t218 t219 t228 _ A57.out).mono ?_); rintro e w63 ⟨rfl, hb⟩; have n0_ := Aside0.mk (Kd.R_below (by (with_reducible repeat (first | apply Kd.R_alloc | apply Kd.R_drewN | apply Kd.R_drew)); exact HO_3.out) hb); have n1_ := Aside0.mk (blk_below (g := gb221) (o := .cells #[.string t218, .int .i64 t219] 38 (0, 0)) (by (with_reducible repeat (first | refine blk_drewN ?_ _ | refine blk_drew ?_ | refine blk_alloc ?_ _)); exact BK221.out) hb); have n2_ := Aside0.mk (below_step (by repeat (first | (with_reducible first | exact HB.out | apply below_alloc | apply pw_below_drewN | apply below_drew1 | refine below_set ?_ GE221.out) | exact HB.out)) hb); clear HO_3; clear BK221; clear HB; have HO_3 := n0_; have BK221 := n1_; have HB := n2_; clear n0_ n1_ n2_; (try clear hb); (try clear hb2); (try clear hk); (try clear hi); obtain ⟨Ao64, co64, eo64⟩ := Kd.R_slice HO_3.out; subst eo64; have p229 : 0 ≤ (t217 : Int) := of_decide_eq_true (by first | (with_reducible assumption) | assumption); have q229 : t217 < (x3_1.length : Int) := of_decide_eq_true (by first | (with_reducible assumption) | assumption); obtain ⟨ad229, e229, hx229_0⟩ := Kd.at_int (Kd.R_reads' HO_3.out).2.2 t217 p229 q229; cases e229; replace p229 := eq_true p229; replace q229 := eq_true q229; have p61 : 0 ≤ (t217 : Int) := of_decide_eq_true (by first | (with_reducible assumption) | assumption); have q61 : (t217 : Int) < ((x3_1.length : Int) : Int) := of_decide_eq_true (by first | (with_reducible assumption) | assumption); obtain ⟨go61, co61, eo61, gb61, gl61, cl61, HG61⟩ := Kd.R_form HO_3.out (by omega); (first | cases eo61 | (injection eo61 with ea_ en_ ec_; (first | subst ea_ | (injection ea_ with ea_; subst ea_)); subst ec_; clear en_)); have GB61 := Aside0.mk gb61; have GG61 := Aside0.mk HG61; clear gb61 gl61 HG61; (first | simp only [add_plain] at hx229_0 | skip); obtain ⟨hx61_0, hf61_0⟩ := Kd.R_celln 0 HO_3.out (t217 : Int) p61 q61; replace p61 := eq_true p61; replace q61 := eq_true q61; obtain ⟨hy65_, hz65_⟩ := Kd.R_celln 0 HO_3.out (t217 : Int) (of_decide_eq_true (by first | (with_reducible assumption) | assumption)) (of_decide_eq_true (by first | (with_reducible assumption) | assumption)); have HP65 := Kd.R_putg HO_3.out (t217 : Int) (wrap64 ((rd x3_1 t217) + 1))) | ((with_reducible refine gate_store (t := 3) (p := 40) rfl ?_); (try (rw [drewN_self w63]; generalize hq_ : World.drewN w63 _ = w63; have n0_ := Aside0.mk (Kd.R_at hq_ HO_3.out); have n1_ := Aside0.mk (blk_at hq_ BK221.out); have n2_ := Aside0.mk (below_at hq_ HB.out); clear hq_ HO_3 BK221 HB; have HO_3 := n0_; have BK221 := n1_; have HB := n2_; clear n0_ n1_ n2_; (try (obtain ⟨hy65_, hz65_⟩ := Kd.R_celln 0 HO_3.out (t217 : Int) (of_decide_eq_true (by first | (with_reducible assumption) | assumption)) (of_decide_eq_true (by first | (with_reducible assumption) | assumption)))); (try (have HP65 := Kd.R_putg HO_3.out (t217 : Int) (wrap64 ((rd x3_1 t217) + 1)))))); refine store_event (t := 3) (p := 40) (v := ?vo_w66) (w1 := (w63.setCell ⟨go61, (t217 : Int).toNat, none⟩ (.int .i64 (wrap64 ((rd x3_1 t217) + 1))))) ?hg ?ho ?hn ?hr ?_; (case ho => rfl); (case hg => rfl); (case hn => rfl); (case hr => first | (go_simp; done) | (go_simp; rfl)); intro w66 hw; have hg : w63.grownBy w66 (some go61) := (by rw [hw]; exact HP65.2); have hp_ : Kd.R (Kd.int .i64) 3 w66 w.heap.size (fun _ => True) (.slice (some ⟨go61, 0, none⟩) x3_1.length co64) y230 := (by rw [hw, Ny230.out]; exact HP65.1); clear HP65; have n0_ := Aside0.mk (hp_); have n1_ := Aside0.mk (blk_grown (g := gb221) (o := .cells #[.string t218, .int .i64 t219] 38 (0, 0)) (by (with_reducible repeat (first | refine blk_drewN ?_ _ | refine blk_drew ?_ | refine blk_alloc ?_ _)); exact BK221.out) hg (Kd.R_ne HO_3.out BK221.out (by decide))); have n2_ := Aside0.mk ((by rw [hw]; exact below_set (HB.out) GB61.out : Below w.heap.size w w66)); clear HO_3; clear BK221; clear HB; have HO_3 := n0_; have BK221 := n1_; have HB := n2_; clear n0_ n1_ n2_; clear hg hw hp_)))
                                    go_roundg kj10
                                    case measure => have := HK1.out; have := HJ10.out; omega
                                    case rel => exact ⟨(y230), (x4_1), (wrap64 (x5_1 + 1)), (by first | rfl | (simp; done) | (simp [*]; done)), (by first | rfl | (simp; done) | (simp [*]; done)), H', ⟨by have := HK1.out; have := HJ10.out; omega⟩, ⟨by (with_reducible repeat (first | apply Kd.R_alloc | apply Kd.R_drewN | apply Kd.R_drew)); exact HO_3.out⟩, ⟨by repeat (first | (with_reducible first | exact HB.out | apply below_alloc | apply pw_below_drewN | apply below_drew1 | refine below_set ?_ GE221.out) | exact HB.out)⟩⟩
                                  · rw [if_neg c60] at H
                                    exact absurd H (by simp)
                                · rw [if_neg c59] at H
                                  exact absurd H (by simp)
                              · rw [if_neg c58] at H
                                have c58b0 : (t228 == 0) = false := beq_eq_false_iff_ne.mpr c58
                                have c58b1 : (t228 != 0) = true := bne_iff_ne.mpr c58
                                obtain rfl := Option.some.inj H
                                have hcz67_0 : wc.cell? ⟨gb221, 0, none⟩ = some (.string t218) := (blk_cell BK221.out 0).trans rfl
                                have hcz67_1 : wc.cell? ⟨gb221, 1, none⟩ = some (.int .i64 t219) := (blk_cell BK221.out 1).trans rfl
                                have hfz67_0 := blk_frozen BK221.out 0
                                have hfz67_1 := blk_frozen BK221.out 1
                                go_wp2_with (first | (go_at_call 18; (with_reducible refine (tape_Tape_Left.calls t218 t219 t228 _ A57.out).mono ?_); rintro e w68 ⟨rfl, hb⟩; have n0_ := Aside0.mk (Kd.R_below (by (with_reducible repeat (first | apply Kd.R_alloc | apply Kd.R_drewN | apply Kd.R_drew)); exact HO_3.out) hb); have n1_ := Aside0.mk (blk_below (g := gb221) (o := .cells #[.string t218, .int .i64 t219] 38 (0, 0)) (by (with_reducible repeat (first | refine blk_drewN ?_ _ | refine blk_drew ?_ | refine blk_alloc ?_ _)); exact BK221.out) hb); have n2_ := Aside0.mk (below_step (by repeat (first | (with_reducible first | exact HB.out | apply below_alloc | apply pw_below_drewN | apply below_drew1 | refine below_set ?_ GE221.out) | exact HB.out)) hb); clear HO_3; clear BK221; clear HB; have HO_3 := n0_; have BK221 := n1_; have HB := n2_; clear n0_ n1_ n2_; (try clear hb); (try clear hb2); (try clear hk); (try clear hi)))
                                repeat (go_quiet (first | (go_at_call 18; (with_reducible refine (tape_Tape_Left.calls t218 t219 t228 _ A57.out).mono ?_); rintro e w68 ⟨rfl, hb⟩; have n0_ := Aside0.mk (Kd.R_below (by (with_reducible repeat (first | apply Kd.R_alloc | apply Kd.R_drewN | apply Kd.R_drew)); exact HO_3.out) hb); have n1_ := Aside0.mk (blk_below (g := gb221) (o := .cells #[.string t218, .int .i64 t219] 38 (0, 0)) (by (with_reducible repeat (first | refine blk_drewN ?_ _ | refine blk_drew ?_ | refine blk_alloc ?_ _)); exact BK221.out) hb); have n2_ := Aside0.mk (below_step (by repeat (first | (with_reducible first | exact HB.out | apply below_alloc | apply pw_below_drewN | apply below_drew1 | refine below_set ?_ GE221.out) | exact HB.out)) hb); clear HO_3; clear BK221; clear HB; have HO_3 := n0_; have BK221 := n1_; have HB := n2_; clear n0_ n1_ n2_; (try clear hb); (try clear hb2); (try clear hk); (try clear hi))); try go_wp2_with (first | (go_at_call 18; (with_reducible refine (tape_Tape_Left.calls t218 t219 t228 _ A57.out).mono ?_); rintro e w68 ⟨rfl, hb⟩; have n0_ := Aside0.mk (Kd.R_below (by (with_reducible repeat (first | apply Kd.R_alloc | apply Kd.R_drewN | apply Kd.R_drew)); exact HO_3.out) hb); have n1_ := Aside0.mk (blk_below (g := gb221) (o := .cells #[.string t218, .int .i64 t219] 38 (0, 0)) (by (with_reducible repeat (first | refine blk_drewN ?_ _ | refine blk_drew ?_ | refine blk_alloc ?_ _)); exact BK221.out) hb); have n2_ := Aside0.mk (below_step (by repeat (first | (with_reducible first | exact HB.out | apply below_alloc | apply pw_below_drewN | apply below_drew1 | refine below_set ?_ GE221.out) | exact HB.out)) hb); clear HO_3; clear BK221; clear HB; have HO_3 := n0_; have BK221 := n1_; have HB := n2_; clear n0_ n1_ n2_; (try clear hb); (try clear hb2); (try clear hk); (try clear hi))))
                                go_ret
                                exact ⟨by first | rfl | (simp [errW_none, errW_some] <;> rfl) | (simp [*, errW_none, errW_some] <;> rfl), by repeat (first | (with_reducible first | exact HB.out | apply below_alloc | apply pw_below_drewN | apply below_drew1 | refine below_set ?_ GE221.out) | exact HB.out)⟩
                            · rw [if_neg c56] at H
                              have c56b0 : decide (1 < a0) = false := decide_eq_false c56
                              clear c56
                              by_cases c69 : 0 ≤ t217
                              · rw [if_pos c69] at H
                                have c69b0 : decide (0 ≤ t217) = true := decide_eq_true c69
                                clear c69
                                by_cases c70 : t217 < (x3_1.length : Int)
                                · rw [if_pos c70] at H
                                  have c70b0 : decide (t217 < (x3_1.length : Int)) = true := decide_eq_true c70
                                  clear c70
                                  obtain ⟨y232, hy232⟩ : ∃ y_ : List Int, y_ = (x3_1.set (t217 : Int).toNat (wrap64 ((rd x3_1 t217) + 1))) := ⟨_, rfl⟩
                                  replace H : (churnlaw10_DrawBytes.l0 kj10 a0 y232 x4_1 (wrap64 (x5_1 + 1))) = some r := by first | (rw [hy232]; with_reducible exact H) | (have H2_ := (Option.bind_some _ _).symm.trans H; rw [hy232]; with_reducible exact H2_) | (have H2_ := (Option.bind_some _ _).symm.trans H; with_reducible exact H2_) | with_reducible exact H | (rw [hy232]; exact H) | exact H
                                  have Ny232 := Aside0.mk hy232
                                  clear hy232
                                  have H' := Aside0.mk H
                                  clear H
                                  obtain ⟨Ao72, co72, eo72⟩ := Kd.R_slice HO_3.out
                                  subst eo72
                                  have p231 : 0 ≤ (t217 : Int) := of_decide_eq_true (by first | (with_reducible assumption) | assumption)
                                  have q231 : t217 < (x3_1.length : Int) := of_decide_eq_true (by first | (with_reducible assumption) | assumption)
                                  obtain ⟨ad231, e231, hx231_0⟩ := Kd.at_int (Kd.R_reads' HO_3.out).2.2 t217 p231 q231
                                  cases e231
                                  replace p231 := eq_true p231
                                  replace q231 := eq_true q231
                                  have p71 : 0 ≤ (t217 : Int) := of_decide_eq_true (by first | (with_reducible assumption) | assumption)
                                  have q71 : (t217 : Int) < ((x3_1.length : Int) : Int) := of_decide_eq_true (by first | (with_reducible assumption) | assumption)
                                  obtain ⟨go71, co71, eo71, gb71, gl71, cl71, HG71⟩ := Kd.R_form HO_3.out (by omega)
                                  (first | cases eo71 | (injection eo71 with ea_ en_ ec_; (first | subst ea_ | (injection ea_ with ea_; subst ea_)); subst ec_; clear en_))
                                  have GB71 := Aside0.mk gb71
                                  have GG71 := Aside0.mk HG71
                                  clear gb71 gl71 HG71
                                  (first | simp only [add_plain] at hx231_0 | skip)
                                  obtain ⟨hx71_0, hf71_0⟩ := Kd.R_celln 0 HO_3.out (t217 : Int) p71 q71
                                  replace p71 := eq_true p71
                                  replace q71 := eq_true q71
                                  have HP73 := Kd.R_putg HO_3.out (t217 : Int) (wrap64 ((rd x3_1 t217) + 1))
                                  go_wp2_with (first | ((with_reducible refine gate_store (t := 3) (p := 40) rfl ?_); (try (rw [drewN_self wc]; generalize hq_ : World.drewN wc _ = wc; have n0_ := Aside0.mk (Kd.R_at hq_ HO_3.out); have n1_ := Aside0.mk (blk_at hq_ BK221.out); have n2_ := Aside0.mk (below_at hq_ HB.out); clear hq_ HO_3 BK221 HB; have HO_3 := n0_; have BK221 := n1_; have HB := n2_; clear n0_ n1_ n2_; (try (have HP73 := Kd.R_putg HO_3.out (t217 : Int) (wrap64 ((rd x3_1 t217) + 1)))))); refine store_event (t := 3) (p := 40) (v := ?vo_w74) (w1 := (wc.setCell ⟨go71, (t217 : Int).toNat, none⟩ (.int .i64 (wrap64 ((rd x3_1 t217) + 1))))) ?hg ?ho ?hn ?hr ?_; (case ho => rfl); (case hg => rfl); (case hn => rfl); (case hr => first | (go_simp; done) | (go_simp; rfl)); intro w74 hw; have hg : wc.grownBy w74 (some go71) := (by rw [hw]; exact HP73.2); have hp_ : Kd.R (Kd.int .i64) 3 w74 w.heap.size (fun _ => True) (.slice (some ⟨go71, 0, none⟩) x3_1.length co72) y232 := (by rw [hw, Ny232.out]; exact HP73.1); clear HP73; have n0_ := Aside0.mk (hp_); have n1_ := Aside0.mk (blk_grown (g := gb221) (o := .cells #[.string t218, .int .i64 t219] 38 (0, 0)) (by (with_reducible repeat (first | refine blk_drewN ?_ _ | refine blk_drew ?_ | refine blk_alloc ?_ _)); exact BK221.out) hg (Kd.R_ne HO_3.out BK221.out (by decide))); have n2_ := Aside0.mk ((by rw [hw]; exact below_set (HB.out) GB71.out : Below w.heap.size w w74)); clear HO_3; clear BK221; clear HB; have HO_3 := n0_; have BK221 := n1_; have HB := n2_; clear n0_ n1_ n2_; clear hg hw hp_))
                                  repeat (go_quiet (first | ((with_reducible refine gate_store (t := 3) (p := 40) rfl ?_); (try (rw [drewN_self wc]; generalize hq_ : World.drewN wc _ = wc; have n0_ := Aside0.mk (Kd.R_at hq_ HO_3.out); have n1_ := Aside0.mk (blk_at hq_ BK221.out); have n2_ := Aside0.mk (below_at hq_ HB.out); clear hq_ HO_3 BK221 HB; have HO_3 := n0_; have BK221 := n1_; have HB := n2_; clear n0_ n1_ n2_; (try (have HP73 := Kd.R_putg HO_3.out (t217 : Int) (wrap64 ((rd x3_1 t217) + 1)))))); refine store_event (t := 3) (p := 40) (v := ?vo_w74) (w1 := (wc.setCell ⟨go71, (t217 : Int).toNat, none⟩ (.int .i64 (wrap64 ((rd x3_1 t217) + 1))))) ?hg ?ho ?hn ?hr ?_; (case ho => rfl); (case hg => rfl); (case hn => rfl); (case hr => first | (go_simp; done) | (go_simp; rfl)); intro w74 hw; have hg : wc.grownBy w74 (some go71) := (by rw [hw]; exact HP73.2); have hp_ : Kd.R (Kd.int .i64) 3 w74 w.heap.size (fun _ => True) (.slice (some ⟨go71, 0, none⟩) x3_1.length co72) y232 := (by rw [hw, Ny232.out]; exact HP73.1); clear HP73; have n0_ := Aside0.mk (hp_); have n1_ := Aside0.mk (blk_grown (g := gb221) (o := .cells #[.string t218, .int .i64 t219] 38 (0, 0)) (by (with_reducible repeat (first | refine blk_drewN ?_ _ | refine blk_drew ?_ | refine blk_alloc ?_ _)); exact BK221.out) hg (Kd.R_ne HO_3.out BK221.out (by decide))); have n2_ := Aside0.mk ((by rw [hw]; exact below_set (HB.out) GB71.out : Below w.heap.size w w74)); clear HO_3; clear BK221; clear HB; have HO_3 := n0_; have BK221 := n1_; have HB := n2_; clear n0_ n1_ n2_; clear hg hw hp_)); try go_wp2_with (first | ((with_reducible refine gate_store (t := 3) (p := 40) rfl ?_); (try (rw [drewN_self wc]; generalize hq_ : World.drewN wc _ = wc; have n0_ := Aside0.mk (Kd.R_at hq_ HO_3.out); have n1_ := Aside0.mk (blk_at hq_ BK221.out); have n2_ := Aside0.mk (below_at hq_ HB.out); clear hq_ HO_3 BK221 HB; have HO_3 := n0_; have BK221 := n1_; have HB := n2_; clear n0_ n1_ n2_; (try (have HP73 := Kd.R_putg HO_3.out (t217 : Int) (wrap64 ((rd x3_1 t217) + 1)))))); refine store_event (t := 3) (p := 40) (v := ?vo_w74) (w1 := (wc.setCell ⟨go71, (t217 : Int).toNat, none⟩ (.int .i64 (wrap64 ((rd x3_1 t217) + 1))))) ?hg ?ho ?hn ?hr ?_; (case ho => rfl); (case hg => rfl); (case hn => rfl); (case hr => first | (go_simp; done) | (go_simp; rfl)); intro w74 hw; have hg : wc.grownBy w74 (some go71) := (by rw [hw]; exact HP73.2); have hp_ : Kd.R (Kd.int .i64) 3 w74 w.heap.size (fun _ => True) (.slice (some ⟨go71, 0, none⟩) x3_1.length co72) y232 := (by rw [hw, Ny232.out]; exact HP73.1); clear HP73; have n0_ := Aside0.mk (hp_); have n1_ := Aside0.mk (blk_grown (g := gb221) (o := .cells #[.string t218, .int .i64 t219] 38 (0, 0)) (by (with_reducible repeat (first | refine blk_drewN ?_ _ | refine blk_drew ?_ | refine blk_alloc ?_ _)); exact BK221.out) hg (Kd.R_ne HO_3.out BK221.out (by decide))); have n2_ := Aside0.mk ((by rw [hw]; exact below_set (HB.out) GB71.out : Below w.heap.size w w74)); clear HO_3; clear BK221; clear HB; have HO_3 := n0_; have BK221 := n1_; have HB := n2_; clear n0_ n1_ n2_; clear hg hw hp_)))
                                  go_roundg kj10
                                  case measure => have := HK1.out; have := HJ10.out; omega
                                  case rel => exact ⟨(y232), (x4_1), (wrap64 (x5_1 + 1)), (by first | rfl | (simp; done) | (simp [*]; done)), (by first | rfl | (simp; done) | (simp [*]; done)), H', ⟨by have := HK1.out; have := HJ10.out; omega⟩, ⟨by (with_reducible repeat (first | apply Kd.R_alloc | apply Kd.R_drewN | apply Kd.R_drew)); exact HO_3.out⟩, ⟨by repeat (first | (with_reducible first | exact HB.out | apply below_alloc | apply pw_below_drewN | apply below_drew1 | refine below_set ?_ GE221.out) | exact HB.out)⟩⟩
                                · rw [if_neg c70] at H
                                  exact absurd H (by simp)
                              · rw [if_neg c69] at H
                                exact absurd H (by simp)
                    · rw [if_neg c23] at H
                      have c23b0 : (t220 == 0) = false := beq_eq_false_iff_ne.mpr c23
                      have c23b1 : (t220 != 0) = true := bne_iff_ne.mpr c23
                      obtain rfl := Option.some.inj H
                      go_wp2
                      repeat (go_quiet (fail); try go_wp2)
                      go_ret
                      exact ⟨by first | rfl | (simp [errW_none, errW_some] <;> rfl) | (simp [*, errW_none, errW_some] <;> rfl), by repeat (first | (with_reducible first | exact HB.out | apply below_alloc | apply pw_below_drewN | apply below_drew1 | refine below_set ?_ GE221.out) | exact HB.out)⟩
          · rw [if_neg c8] at H
            have c8b0 : decide (x5_1 < 256) = false := decide_eq_false c8
            clear c8
            have HC75 := Aside0.mk H
            clear H
            go_upto_region 17 with (fail)
            repeat (go_quiet (fail); go_upto_region 17 with (fail))
            go_cut [81] (fun v81 wc => ∃ (kq : Nat) (x81_74 : Bool), v81 = .bool x81_74 ∧ Aside0 (churnlaw10_DrawBytes.j2 kq a0 x3_1 x4_1 x81_74 = some r) ∧ Aside0 (kq ≤ k1) ∧ Aside0 (Kd.R (Kd.int .i64) 3 wc w.heap.size (fun _ => True) v210 x3_1) ∧ Aside0 (Below w.heap.size w wc))
            case first =>
              have H := HC75.out
              clear HC75
              by_cases c76 : a0 < 1
              · rw [if_pos c76] at H
                have c76b0 : decide (a0 < 1) = true := decide_eq_true c76
                clear c76
                (first | rw [c76b0] | (simp only [i64_w, i32_w]; rw [c76b0]) | skip)
                have H' := Aside0.mk H
                clear H
                go_wp2
                repeat (go_quiet (fail); try go_wp2)
                go_meet
                case rel => exact ⟨_, (true), (by first | rfl | (simp; done) | (simp [*]; done)), H', ⟨by have := HK1.out; first | omega | exact Nat.le_refl _⟩, ⟨by (with_reducible repeat (first | apply Kd.R_alloc | apply Kd.R_drewN | apply Kd.R_drew)); exact HO_3.out⟩, ⟨by repeat (first | (with_reducible first | exact HB.out | apply below_alloc | apply pw_below_drewN | apply below_drew1) | exact HB.out)⟩⟩
              · rw [if_neg c76] at H
                have c76b0 : decide (a0 < 1) = false := decide_eq_false c76
                clear c76
                (first | rw [c76b0] | (simp only [i64_w, i32_w]; rw [c76b0]) | skip)
                have H' := Aside0.mk H
                clear H
                go_wp2
                repeat (go_quiet (fail); try go_wp2)
                go_meet
                case rel => exact ⟨_, (decide (a0 > 256)), (by first | rfl | (simp; done) | (simp [*]; done)), H', ⟨by have := HK1.out; first | omega | exact Nat.le_refl _⟩, ⟨by (with_reducible repeat (first | apply Kd.R_alloc | apply Kd.R_drewN | apply Kd.R_drew)); exact HO_3.out⟩, ⟨by repeat (first | (with_reducible first | exact HB.out | apply below_alloc | apply pw_below_drewN | apply below_drew1) | exact HB.out)⟩⟩
            case rest =>
              clear HC75
              try clear c1
              try clear c2
              try clear p2
              try clear q2
              try clear hx2
              try clear c3
              try clear p3
              try clear q3
              try clear hx3
              try clear hf3
              try clear c4
              try clear c4b0
              try clear c4b1
              try clear p4
              try clear q4
              try clear hx4
              try clear hf4
              try clear c5
              try clear c6
              try clear p6
              try clear q6
              try clear hx6
              try clear hf6
              try clear c7
              try clear p7
              try clear q7
              try clear hx7
              try clear hf7
              try clear c8
              try clear c8b0
              try clear c19
              try clear c19b0
              try clear c20
              try clear c21
              try clear c21b0
              try clear c21b1
              try clear c22
              try clear c22b0
              try clear c22b1
              try clear p22
              try clear q22
              try clear hx22
              try clear c23
              try clear c23b0
              try clear c23b1
              try clear p23
              try clear q23
              try clear hx23
              try clear c24
              try clear c24b0
              try clear c25
              try clear c25b0
              try clear c26
              try clear c26b0
              try clear c26b1
              try clear c28
              try clear c28b0
              try clear c28b1
              try clear c29
              try clear c29b0
              try clear c31
              try clear c31b0
              try clear c31b1
              try clear c32
              try clear c32b0
              try clear c33
              try clear c33b0
              try clear p34
              try clear q34
              try clear hx34
              try clear hf34
              try clear c46
              try clear c46b0
              try clear c47
              try clear c47b0
              try clear p48
              try clear q48
              try clear hx48
              try clear hf48
              try clear c56
              try clear c56b0
              try clear c58
              try clear c58b0
              try clear c58b1
              try clear c59
              try clear c59b0
              try clear c60
              try clear c60b0
              try clear p61
              try clear q61
              try clear hx61
              try clear hf61
              try clear p64
              try clear c69
              try clear c69b0
              try clear c70
              try clear c70b0
              try clear p71
              try clear q71
              try clear hx71
              try clear hf71
              try clear c76
              try clear c76b0
              try clear hcz18_0
              try clear hcz18_1
              try clear hcz35_0
              try clear hcz35_1
              try clear hcz37_0
              try clear hcz37_1
              try clear hcz42_0
              try clear hcz42_1
              try clear hcz44_0
              try clear hcz44_1
              try clear hcz49_0
              try clear hcz49_1
              try clear hcz54_0
              try clear hcz54_1
              try clear hcz62_0
              try clear hcz62_1
              try clear hcz67_0
              try clear hcz67_1
              try clear hfz18_0
              try clear hfz18_1
              try clear hfz35_0
              try clear hfz35_1
              try clear hfz37_0
              try clear hfz37_1
              try clear hfz42_0
              try clear hfz42_1
              try clear hfz44_0
              try clear hfz44_1
              try clear hfz49_0
              try clear hfz49_1
              try clear hfz54_0
              try clear hfz54_1
              try clear hfz62_0
              try clear hfz62_1
              try clear hfz67_0
              try clear hfz67_1
              try clear hx224_0
              try clear hx226_0
              try clear hx229_0
              try clear hx231_0
              try clear hx34_0
              try clear hx48_0
              try clear hx61_0
              try clear hx71_0
              try clear p2
              try clear p224
              try clear p226
              try clear p229
              try clear p231
              try clear p34
              try clear p48
              try clear p61
              try clear p71
              try clear q224
              try clear q226
              try clear q229
              try clear q231
              try clear q34
              try clear q48
              try clear q61
              try clear q71
              obtain ⟨kq, x81_74, rfl, HA, HJ74, HO_3, HB⟩ := hcut
              cases kq with
              | zero => exact absurd HA.out (by simp [churnlaw10_DrawBytes.j2])
              | succ kj74 =>
                have H := HA.out
                clear HA
                simp only [churnlaw10_DrawBytes.j2] at H
                by_cases c77 : x81_74 = true
                · subst c77
                  have H1 : (some true) = some r := by rw [if_pos rfl] at H; exact H
                  clear H
                  have H := H1
                  clear H1
                  obtain rfl := Option.some.inj H
                  go_wp2
                  repeat (go_quiet (fail); try go_wp2)
                  go_ret
                  exact ⟨by first | rfl | (simp [errW_none, errW_some] <;> rfl) | (simp [*, errW_none, errW_some] <;> rfl), by repeat (first | (with_reducible first | exact HB.out | apply below_alloc | apply pw_below_drewN | apply below_drew1) | exact HB.out)⟩
                · replace c77 := Bool.eq_false_iff.mpr c77
                  subst c77
                  have H1 : (churnlaw10_DrawBytes.l1 kj74 a0 x3_1 x4_1 1) = some r := by rw [if_neg (show ¬ (false = true) by decide)] at H; exact H
                  clear H
                  have H := H1
                  clear H1
                  have H' := Aside0.mk H
                  clear H
                  go_wp2
                  repeat (go_quiet (fail); try go_wp2)
                  go_loopg [9] kj74 (fun kq v9 w' => ∃ (x9_3 : Int), v9 = .int .i64 x9_3 ∧ Aside0 (churnlaw10_DrawBytes.l1 kq a0 x3_1 x4_1 x9_3 = some r) ∧ Aside0 (kq ≤ kj74) ∧ Aside0 (Kd.R (Kd.int .i64) 3 w' w.heap.size (fun _ => True) v210 x3_1) ∧ Aside0 (Below w.heap.size w w'))
                  case atStart => exact ⟨(1), (by first | rfl | (simp; done) | (simp [*]; done)), H', ⟨Nat.le_refl _⟩, ⟨by (with_reducible repeat (first | apply Kd.R_alloc | apply Kd.R_drewN | apply Kd.R_drew)); exact HO_3.out⟩, ⟨by repeat (first | (with_reducible first | exact HB.out | apply below_alloc | apply pw_below_drewN | apply below_drew1) | exact HB.out)⟩⟩
                  case round =>
                    clear H'
                    try clear c1
                    try clear c2
                    try clear p2
                    try clear q2
                    try clear hx2
                    try clear c3
                    try clear p3
                    try clear q3
                    try clear hx3
                    try clear hf3
                    try clear c4
                    try clear c4b0
                    try clear c4b1
                    try clear p4
                    try clear q4
                    try clear hx4
                    try clear hf4
                    try clear c5
                    try clear c6
                    try clear p6
                    try clear q6
                    try clear hx6
                    try clear hf6
                    try clear c7
                    try clear p7
                    try clear q7
                    try clear hx7
                    try clear hf7
                    try clear c8
                    try clear c8b0
                    try clear c19
                    try clear c19b0
                    try clear c20
                    try clear c21
                    try clear c21b0
                    try clear c21b1
                    try clear c22
                    try clear c22b0
                    try clear c22b1
                    try clear p22
                    try clear q22
                    try clear hx22
                    try clear c23
                    try clear c23b0
                    try clear c23b1
                    try clear p23
                    try clear q23
                    try clear hx23
                    try clear c24
                    try clear c24b0
                    try clear c25
                    try clear c25b0
                    try clear c26
                    try clear c26b0
                    try clear c26b1
                    try clear c28
                    try clear c28b0
                    try clear c28b1
                    try clear c29
                    try clear c29b0
                    try clear c31
                    try clear c31b0
                    try clear c31b1
                    try clear c32
                    try clear c32b0
                    try clear c33
                    try clear c33b0
                    try clear p34
                    try clear q34
                    try clear hx34
                    try clear hf34
                    try clear c46
                    try clear c46b0
                    try clear c47
                    try clear c47b0
                    try clear p48
                    try clear q48
                    try clear hx48
                    try clear hf48
                    try clear c56
                    try clear c56b0
                    try clear c58
                    try clear c58b0
                    try clear c58b1
                    try clear c59
                    try clear c59b0
                    try clear c60
                    try clear c60b0
                    try clear p61
                    try clear q61
                    try clear hx61
                    try clear hf61
                    try clear p64
                    try clear c69
                    try clear c69b0
                    try clear c70
                    try clear c70b0
                    try clear p71
                    try clear q71
                    try clear hx71
                    try clear hf71
                    try clear c76
                    try clear c76b0
                    try clear c77
                    try clear hcz18_0
                    try clear hcz18_1
                    try clear hcz35_0
                    try clear hcz35_1
                    try clear hcz37_0
                    try clear hcz37_1
                    try clear hcz42_0
                    try clear hcz42_1
                    try clear hcz44_0
                    try clear hcz44_1
                    try clear hcz49_0
                    try clear hcz49_1
                    try clear hcz54_0
                    try clear hcz54_1
                    try clear hcz62_0
                    try clear hcz62_1
                    try clear hcz67_0
                    try clear hcz67_1
                    try clear hfz18_0
                    try clear hfz18_1
                    try clear hfz35_0
                    try clear hfz35_1
                    try clear hfz37_0
                    try clear hfz37_1
                    try clear hfz42_0
                    try clear hfz42_1
                    try clear hfz44_0
                    try clear hfz44_1
                    try clear hfz49_0
                    try clear hfz49_1
                    try clear hfz54_0
                    try clear hfz54_1
                    try clear hfz62_0
                    try clear hfz62_1
                    try clear hfz67_0
                    try clear hfz67_1
                    try clear hx224_0
                    try clear hx226_0
                    try clear hx229_0
                    try clear hx231_0
                    try clear hx34_0
                    try clear hx48_0
                    try clear hx61_0
                    try clear hx71_0
                    try clear p2
                    try clear p22
                    try clear p224
                    try clear p226
                    try clear p229
                    try clear p23
                    try clear p231
                    try clear p3
                    try clear p34
                    try clear p4
                    try clear p48
                    try clear p6
                    try clear p61
                    try clear p64
                    try clear p7
                    try clear p71
                    try clear q2
                    try clear q22
                    try clear q224
                    try clear q226
                    try clear q229
                    try clear q23
                    try clear q231
                    try clear q3
                    try clear q34
                    try clear q4
                    try clear q48
                    try clear q6
                    try clear q61
                    try clear q7
                    try clear q71
                    obtain ⟨x9_3, rfl, HA, HK3, HO_3, HB⟩ := hrel
                    cases gk with
                    | zero => exact absurd HA.out (by simp [churnlaw10_DrawBytes.l1])
                    | succ k3 =>
                      have H := HA.out
                      clear HA
                      simp only [churnlaw10_DrawBytes.l1] at H
                      by_cases c78 : x9_3 < a0
                      · rw [if_pos c78] at H
                        have c78b0 : decide (x9_3 < a0) = true := decide_eq_true c78
                        clear c78
                        by_cases c79 : 0 ≤ x9_3
                        · rw [if_pos c79] at H
                          have c79b0 : decide (0 ≤ x9_3) = true := decide_eq_true c79
                          clear c79
                          by_cases c80 : x9_3 < (x3_1.length : Int)
                          · rw [if_pos c80] at H
                            have c80b0 : decide (x9_3 < (x3_1.length : Int)) = true := decide_eq_true c80
                            clear c80
                            by_cases c81 : 0 < (x3_1.length : Int)
                            · rw [if_pos c81] at H
                              have c81b0 : decide (0 < (x3_1.length : Int)) = true := decide_eq_true c81
                              have c81b1 : decide (0 < x3_1.length) = true := decide_eq_true (by omega)
                              clear c81
                              by_cases c82 : (rd x3_1 x9_3) = (rd x3_1 0)
                              · rw [if_pos c82] at H
                                have c82b0 : ((rd x3_1 x9_3) == (rd x3_1 0)) = true := beq_iff_eq.mpr c82
                                have c82b1 : ((rd x3_1 x9_3) != (rd x3_1 0)) = false := bne_eq_false_iff_eq.mpr c82
                                clear c82
                                have H' := Aside0.mk H
                                clear H
                                obtain ⟨Ao83, co83, eo83⟩ := Kd.R_slice HO_3.out
                                subst eo83
                                have p233 : 0 ≤ (x9_3 : Int) := of_decide_eq_true (by first | (with_reducible assumption) | assumption)
                                have q233 : x9_3 < (x3_1.length : Int) := of_decide_eq_true (by first | (with_reducible assumption) | assumption)
                                obtain ⟨ad233, e233, hx233_0⟩ := Kd.at_int (Kd.R_reads' HO_3.out).2.2 x9_3 p233 q233
                                cases e233
                                replace p233 := eq_true p233
                                replace q233 := eq_true q233
                                have p234 : 0 ≤ (0 : Int) := (by omega)
                                have q234 : 0 < (x3_1.length : Int) := of_decide_eq_true (by first | (with_reducible assumption) | assumption)
                                obtain ⟨ad234, e234, hx234_0⟩ := Kd.at_int (Kd.R_reads' HO_3.out).2.2 0 p234 q234
                                obtain rfl : ad233 = ad234 := (by injection e234)
                                have qi234 : (0 < x3_1.length) = True := eq_true (by omega)
                                (try rw [show ((0 : Int)).toNat = 0 from rfl] at hx234_0)
                                (try rw [Addr.add_zero'] at hx234_0)
                                replace p234 := eq_true p234
                                replace q234 := eq_true q234
                                go_wp2
                                repeat (go_quiet (fail); try go_wp2)
                                go_roundg k3
                                case measure => have := HK1.out; have := HJ74.out; have := HK3.out; omega
                                case rel => exact ⟨(wrap64 (x9_3 + 1)), (by first | rfl | (simp; done) | (simp [*]; done)), H', ⟨by have := HK1.out; have := HJ74.out; have := HK3.out; omega⟩, ⟨by (with_reducible repeat (first | apply Kd.R_alloc | apply Kd.R_drewN | apply Kd.R_drew)); exact HO_3.out⟩, ⟨by repeat (first | (with_reducible first | exact HB.out | apply below_alloc | apply pw_below_drewN | apply below_drew1) | exact HB.out)⟩⟩
                              · rw [if_neg c82] at H
                                have c82b0 : ((rd x3_1 x9_3) == (rd x3_1 0)) = false := beq_eq_false_iff_ne.mpr c82
                                have c82b1 : ((rd x3_1 x9_3) != (rd x3_1 0)) = true := bne_iff_ne.mpr c82
                                obtain rfl := Option.some.inj H
                                obtain ⟨Ao84, co84, eo84⟩ := Kd.R_slice HO_3.out
                                subst eo84
                                have p233 : 0 ≤ (x9_3 : Int) := of_decide_eq_true (by first | (with_reducible assumption) | assumption)
                                have q233 : x9_3 < (x3_1.length : Int) := of_decide_eq_true (by first | (with_reducible assumption) | assumption)
                                obtain ⟨ad233, e233, hx233_0⟩ := Kd.at_int (Kd.R_reads' HO_3.out).2.2 x9_3 p233 q233
                                cases e233
                                replace p233 := eq_true p233
                                replace q233 := eq_true q233
                                have p234 : 0 ≤ (0 : Int) := (by omega)
                                have q234 : 0 < (x3_1.length : Int) := of_decide_eq_true (by first | (with_reducible assumption) | assumption)
                                obtain ⟨ad234, e234, hx234_0⟩ := Kd.at_int (Kd.R_reads' HO_3.out).2.2 0 p234 q234
                                obtain rfl : ad233 = ad234 := (by injection e234)
                                have qi234 : (0 < x3_1.length) = True := eq_true (by omega)
                                (try rw [show ((0 : Int)).toNat = 0 from rfl] at hx234_0)
                                (try rw [Addr.add_zero'] at hx234_0)
                                replace p234 := eq_true p234
                                replace q234 := eq_true q234
                                go_wp2
                                repeat (go_quiet (fail); try go_wp2)
                                go_ret
                                exact ⟨by first | rfl | (simp [errW_none, errW_some] <;> rfl) | (simp [*, errW_none, errW_some] <;> rfl), by repeat (first | (with_reducible first | exact HB.out | apply below_alloc | apply pw_below_drewN | apply below_drew1) | exact HB.out)⟩
                            · rw [if_neg c81] at H
                              exact absurd H (by simp)
                          · rw [if_neg c80] at H
                            exact absurd H (by simp)
                        · rw [if_neg c79] at H
                          exact absurd H (by simp)
                      · rw [if_neg c78] at H
                        have c78b0 : decide (x9_3 < a0) = false := decide_eq_false c78
                        clear c78
                        by_cases c85 : x4_1 < a0
                        · rw [if_pos c85] at H
                          have c85b0 : decide (x4_1 < a0) = true := decide_eq_true c85
                          clear c85
                          by_cases c86 : 0 < (x3_1.length : Int)
                          · rw [if_pos c86] at H
                            have c86b0 : decide (0 < (x3_1.length : Int)) = true := decide_eq_true c86
                            have c86b1 : decide (0 < x3_1.length) = true := decide_eq_true (by omega)
                            clear c86
                            obtain rfl := Option.some.inj H
                            obtain ⟨Ao87, co87, eo87⟩ := Kd.R_slice HO_3.out
                            subst eo87
                            have p235 : 0 ≤ (0 : Int) := (by omega)
                            have q235 : 0 < (x3_1.length : Int) := of_decide_eq_true (by first | (with_reducible assumption) | assumption)
                            obtain ⟨ad235, e235, hx235_0⟩ := Kd.at_int (Kd.R_reads' HO_3.out).2.2 0 p235 q235
                            cases e235
                            have qi235 : (0 < x3_1.length) = True := eq_true (by omega)
                            (try rw [show ((0 : Int)).toNat = 0 from rfl] at hx235_0)
                            (try rw [Addr.add_zero'] at hx235_0)
                            replace p235 := eq_true p235
                            replace q235 := eq_true q235
                            go_wp2
                            repeat (go_quiet (fail); try go_wp2)
                            go_ret
                            exact ⟨by first | rfl | (simp [errW_none, errW_some] <;> rfl) | (simp [*, errW_none, errW_some] <;> rfl), by repeat (first | (with_reducible first | exact HB.out | apply below_alloc | apply pw_below_drewN | apply below_drew1) | exact HB.out)⟩
                          · rw [if_neg c86] at H
                            exact absurd H (by simp)
                        · rw [if_neg c85] at H
                          have c85b0 : decide (x4_1 < a0) = false := decide_eq_false c85
                          clear c85
                          obtain rfl := Option.some.inj H
                          go_wp2
                          repeat (go_quiet (fail); try go_wp2)
                          go_ret
                          exact ⟨by first | rfl | (simp [errW_none, errW_some] <;> rfl) | (simp [*, errW_none, errW_some] <;> rfl), by repeat (first | (with_reducible first | exact HB.out | apply below_alloc | apply pw_below_drewN | apply below_drew1) | exact HB.out)⟩
    · rw [if_neg c4] at H
      exact absurd H (by simp)
  · replace c3 := Bool.eq_false_iff.mpr c3
    subst c3
    have H1 : (some false) = some r := by rw [if_neg (show ¬ (false = true) by decide)] at H; exact H
    clear H
    have H := H1
    clear H1
    obtain rfl := Option.some.inj H
    go_enter Try.func6, Try.ntmps6
    go_wp2_with (first | (go_at_call 10; (with_reducible refine (churnlaw10_alive.calls  false _ A2.out).mono ?_); rintro e w88 ⟨rfl, hb⟩; have n0_ := Aside0.mk (below_step (by repeat (first | (with_reducible first | exact HB.out | apply below_alloc | apply pw_below_drewN | apply below_drew1) | exact HB.out)) hb); clear HB; have HB := n0_; clear n0_; (try clear hb); (try clear hb2); (try clear hk); (try clear hi)))
    repeat (go_quiet (first | (go_at_call 10; (with_reducible refine (churnlaw10_alive.calls  false _ A2.out).mono ?_); rintro e w88 ⟨rfl, hb⟩; have n0_ := Aside0.mk (below_step (by repeat (first | (with_reducible first | exact HB.out | apply below_alloc | apply pw_below_drewN | apply below_drew1) | exact HB.out)) hb); clear HB; have HB := n0_; clear n0_; (try clear hb); (try clear hb2); (try clear hk); (try clear hi))); try go_wp2_with (first | (go_at_call 10; (with_reducible refine (churnlaw10_alive.calls  false _ A2.out).mono ?_); rintro e w88 ⟨rfl, hb⟩; have n0_ := Aside0.mk (below_step (by repeat (first | (with_reducible first | exact HB.out | apply below_alloc | apply pw_below_drewN | apply below_drew1) | exact HB.out)) hb); clear HB; have HB := n0_; clear n0_; (try clear hb); (try clear hb2); (try clear hk); (try clear hi))))
    go_ret
    exact ⟨by first | rfl | (simp [errW_none, errW_some] <;> rfl) | (simp [*, errW_none, errW_some] <;> rfl), by repeat (first | (with_reducible first | exact HB.out | apply below_alloc | apply pw_below_drewN | apply below_drew1) | exact HB.out)⟩

/-- THE ONE PURE STATEMENT of churnlaw10_DrawBytes: yours. -/
def churnlaw10_DrawBytes.Pure : Prop := ∀ (a0 : Int), (Lit.int .i64 a0).wf = true → ∃ k, churnlaw10_DrawBytes.f k a0 = some true
theorem churnlaw10_DrawBytes.walk (P : churnlaw10_DrawBytes.Pure) (a0 : Int) (w : World) (w0 : (Lit.int .i64 a0).wf = true) :
    Calls Try.prog 6 #[.int .i64 a0] w fun e w' => e = .returned (.bool true) ∧ Below w.heap.size w w' := by
  obtain ⟨k, h⟩ := P a0 w0
  refine (churnlaw10_DrawBytes.calls k a0 true w h).mono ?_
  rintro e w' ⟨rfl, hd⟩
  exact ⟨rfl, hd⟩

end Go.Proofs.Ytijnmfdpdjblbaa.Q
