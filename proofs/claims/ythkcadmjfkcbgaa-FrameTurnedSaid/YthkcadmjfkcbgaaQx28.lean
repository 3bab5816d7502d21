/- Functions of the program as plain Lean functions, each with a proof that its call comes to just these answers, or the row that joins them to the given statement; no condition beside the statement's own. Written for this claim by pf.py, this session's program over the kit's print. -/
import Derived.Test.YthkcadmjfkcbgaaQx0
import Derived.Test.YthkcadmjfkcbgaaQx1
import Derived.Test.YthkcadmjfkcbgaaQx5
import Derived.Test.YthkcadmjfkcbgaaQx8
import Derived.Test.YthkcadmjfkcbgaaQx9
import Derived.Test.YthkcadmjfkcbgaaQx10
import Derived.Test.YthkcadmjfkcbgaaQx27
namespace Go.Proofs.Ythkcadmjfkcbgaa.Q
open Go.RowKit Go.Proofs.YthkcadmjfkcbgaaW.PrintWords Go.Proofs.YthkcadmjfkcbgaaW.PrintLast Go.Proofs.YthkcadmjfkcbgaaW.PrintMore
attribute [local go_sem] max2_int min2_int max_two min_two max_three min_three max_four min_four   -- for this text's walks alone
set_option linter.unusedVariables false
set_option linter.unusedSimpArgs false

attribute [local go_sem high] eqA23
/-! ### churnlaw06_FrameTurned: function 6 -/
def churnlaw06_FrameTurned.j0 : Nat → Int → Int → List Int → Bool → Option (Bool)
  | 0, _, _, _, _ => none
  | k + 1, x1, x2, x7, x33 => if x33 = true then (some (decide ((x7.length : Int) ≥ 28))) else ((churnlaw06_place.f x1 (x7.length : Int)).bind fun t460 => (if 0 ≤ t460 then (if t460 < (x7.length : Int) then ((frame_Read.f (x7.set (t460 : Int).toNat (Go.bits .xor .u8 (rd x7 t460) x2))).bind fun bt463 => (if bt463.2.2.2.2.2 = 0 then (some false) else (if (bt463.2.2.2.1.length : Int) = 0 then (some (bt463.1 == 0 && (bt463.2.1 == 0 && (bt463.2.2.1 == 0)))) else (some false)))) else (none)) else (none)))
def churnlaw06_FrameTurned.f (k : Nat) (a0_0 : Int) (a0_1 : Int) (a0_2 : Int) (l0_3 : List (List Int)) (a1 : Int) (a2 : Int) : Option (Bool) := (churnlaw06_awake.f k).bind fun t454 => (if t454 = true then ((churnlaw06_great.f k l0_3).bind fun t455 => (if t455 = true then (some true) else ((frame_Pack.f k a0_0 a0_1 a0_2 l0_3).bind fun bt456 => (if bt456.2 = 0 then (if (bt456.1.length : Int) < 28 then (churnlaw06_FrameTurned.j0 k a1 a2 bt456.1 true) else (churnlaw06_FrameTurned.j0 k a1 a2 bt456.1 (a2 == 0))) else (some ((bt456.1.length : Int) == 0)))))) else (some false))
theorem churnlaw06_FrameTurned.mono_l : ∀ k, (∀ y0 y1 y2 y3, LeO (churnlaw06_FrameTurned.j0 k y0 y1 y2 y3) (churnlaw06_FrameTurned.j0 (k + 1) y0 y1 y2 y3))
  | 0 => fun _ _ _ _ r h => by simp [churnlaw06_FrameTurned.j0] at h
  | k + 1 => by
    have ih0 := churnlaw06_FrameTurned.mono_l k
    · intro y0 y1 y2 y3
      unfold churnlaw06_FrameTurned.j0
      repeat' first
      | (with_reducible exact ih0 _ _ _ _)
      | (with_reducible exact churnlaw06_awake.mono _)
      | (with_reducible exact churnlaw06_great.mono _ _)
      | (with_reducible exact frame_Pack.mono _ _ _ _ _)
      | (with_reducible exact LeO.refl _)
      | (with_reducible exact LeO.none _)
      | (with_reducible refine LeO.ite ?_ ?_)
      | (with_reducible refine LeO.bind ?_ (fun _ => ?_))
      | exact ih0 _ _ _ _
      | exact churnlaw06_awake.mono _
      | exact churnlaw06_great.mono _ _
      | exact frame_Pack.mono _ _ _ _ _
      | exact LeO.none _
      | refine LeO.ite ?_ ?_
      | refine LeO.bind ?_ (fun _ => ?_)
theorem churnlaw06_FrameTurned.mono : ∀ a0 a1 a2 a3 a4 a5 k, LeO (churnlaw06_FrameTurned.f k a0 a1 a2 a3 a4 a5) (churnlaw06_FrameTurned.f (k + 1) a0 a1 a2 a3 a4 a5) := by
  intro a0 a1 a2 a3 a4 a5 k
  have ih0 := churnlaw06_FrameTurned.mono_l k
  unfold churnlaw06_FrameTurned.f
  repeat' first
      | (with_reducible exact ih0 _ _ _ _)
      | (with_reducible exact churnlaw06_awake.mono _)
      | (with_reducible exact churnlaw06_great.mono _ _)
      | (with_reducible exact frame_Pack.mono _ _ _ _ _)
      | (with_reducible exact LeO.refl _)
      | (with_reducible exact LeO.none _)
      | (with_reducible refine LeO.ite ?_ ?_)
      | (with_reducible refine LeO.bind ?_ (fun _ => ?_))
      | exact ih0 _ _ _ _
      | exact churnlaw06_awake.mono _
      | exact churnlaw06_great.mono _ _
      | exact frame_Pack.mono _ _ _ _ _
      | exact LeO.none _
      | refine LeO.ite ?_ ?_
      | refine LeO.bind ?_ (fun _ => ?_)
set_option maxHeartbeats 8000000 in
set_option maxRecDepth 100000 in
theorem churnlaw06_FrameTurned.calls (k : Nat) (a0_0 : Int) (a0_1 : Int) (a0_2 : Int) (A0_3 : Option Addr) (c0_3 : Nat) (l0_3 : List (List Int)) (a1 : Int) (a2 : Int) (r : Bool) (w : World) (hr0_3 : Kd.C (Kd.slice 5 (Kd.int .u8)) w A0_3 l0_3.length l0_3) (hc0_3 : l0_3.length ≤ c0_3) (hr_ : r = true) (h : churnlaw06_FrameTurned.f k a0_0 a0_1 a0_2 l0_3 a1 a2 = some r) :
    Calls Try.prog 6 #[.agg #[.int .i64 a0_0, .int .i64 a0_1, .int .i64 a0_2, .slice A0_3 l0_3.length c0_3], .int .i64 a1, .int .u8 a2] w fun e w' => e = .returned (.bool r) ∧ Below w.heap.size w w' := by
  have HR_ := Aside0.mk hr_
  clear hr_
  have hu26 := Try.underlying26
  have hu23 := Try.underlying23
  have HR0_3 := Aside0.mk hr0_3
  have HC0_3 := Aside0.mk hc0_3
  clear hr0_3 hc0_3
  have HB := Aside0.mk (Below.refl w.heap.size w)
  have H : ((churnlaw06_awake.f k).bind fun t454 => (if t454 = true then ((churnlaw06_great.f k l0_3).bind fun t455 => (if t455 = true then (some true) else ((frame_Pack.f k a0_0 a0_1 a0_2 l0_3).bind fun bt456 => (if bt456.2 = 0 then (if (bt456.1.length : Int) < 28 then (churnlaw06_FrameTurned.j0 k a1 a2 bt456.1 true) else (churnlaw06_FrameTurned.j0 k a1 a2 bt456.1 (a2 == 0))) else (some ((bt456.1.length : Int) == 0)))))) else (some false))) = some r := h
  clear h
  replace H := Option.bind_eq_some_iff.mp H
  obtain ⟨t454, A40, H⟩ := H
  replace H : (if t454 = true then ((churnlaw06_great.f k l0_3).bind fun t455 => (if t455 = true then (some true) else ((frame_Pack.f k a0_0 a0_1 a0_2 l0_3).bind fun bt456 => (if bt456.2 = 0 then (if (bt456.1.length : Int) < 28 then (churnlaw06_FrameTurned.j0 k a1 a2 bt456.1 true) else (churnlaw06_FrameTurned.j0 k a1 a2 bt456.1 (a2 == 0))) else (some ((bt456.1.length : Int) == 0)))))) else (some false)) = some r := H
  have A4 := Aside0.mk A40
  clear A40
  by_cases c5 : t454 = true
  · subst c5
    have H1 : ((churnlaw06_great.f k l0_3).bind fun t455 => (if t455 = true then (some true) else ((frame_Pack.f k a0_0 a0_1 a0_2 l0_3).bind fun bt456 => (if bt456.2 = 0 then (if (bt456.1.length : Int) < 28 then (churnlaw06_FrameTurned.j0 k a1 a2 bt456.1 true) else (churnlaw06_FrameTurned.j0 k a1 a2 bt456.1 (a2 == 0))) else (some ((bt456.1.length : Int) == 0)))))) = some r := by rw [if_pos rfl] at H; exact H
    clear H
    have H := H1
    clear H1
    replace H := Option.bind_eq_some_iff.mp H
    obtain ⟨t455, A60, H⟩ := H
    replace H : (if t455 = true then (some true) else ((frame_Pack.f k a0_0 a0_1 a0_2 l0_3).bind fun bt456 => (if bt456.2 = 0 then (if (bt456.1.length : Int) < 28 then (churnlaw06_FrameTurned.j0 k a1 a2 bt456.1 true) else (churnlaw06_FrameTurned.j0 k a1 a2 bt456.1 (a2 == 0))) else (some ((bt456.1.length : Int) == 0))))) = some r := H
    have A6 := Aside0.mk A60
    clear A60
    by_cases c7 : t455 = true
    · subst c7
      have H1 : (some true) = some r := by rw [if_pos rfl] at H; exact H
      clear H
      have H := H1
      clear H1
      obtain rfl := Option.some.inj H
      simp only [Option.some.injEq, Prod.mk.injEq] at H
      obtain ⟨rfl⟩ := H
      go_enter Try.func6, Try.ntmps6
      go_wp2_with (first | ((with_reducible refine gate_dst (N := 3) rfl ?_); (try (refine gate_guard (by rfl) ?_; dsimp only)); refine box_event ?hg (N := 3) ?hd (cs := #[.int .i64 a0_0, .int .i64 a0_1, .int .i64 a0_2, .slice A0_3 l0_3.length c0_3]) (t := 26) ?hr ?_; (case hd => rfl); (case hg => rfl); (case hr => first | (go_simp; done) | (go_simp; rfl)); intro gb453 hg w8 hbox hb; have n0_ := Aside0.mk (below_step (by repeat (first | (with_reducible first | exact HB.out | apply below_alloc | apply pw_below_drewN | apply below_drew1) | exact HB.out)) hb); have n1_ := Aside0.mk (hbox); have n2_ := Aside0.mk ((by rw [hg]; exact (below_size (by repeat (first | (with_reducible first | exact HB.out | apply below_alloc | apply pw_below_drewN | apply below_drew1) | exact HB.out))) : w.heap.size ≤ gb453)); have n3_ := Aside0.mk ((by rw [hg]; exact (below_size (by repeat (first | (with_reducible first | exact HB.out | apply below_alloc | apply pw_below_drewN | apply below_drew1) | exact HB.out))) : w.heap.size ≤ gb453)); clear HB; have HB := n0_; have BK453 := n1_; have GW453 := n2_; have GE453 := n3_; clear n0_ n1_ n2_ n3_; clear hb hbox hg) | ((with_reducible refine gate_callee (f := 10) rfl ?_); refine goesL_ (some 12) rfl rfl Try.func10 (by kernel_rfl) rfl #[] rfl (by (try simp only [List.map_toArray, List.map_cons, List.map_nil]); first | done | rfl | (simp only [List.length_drop, List.length_take]; rfl)) ?_; (with_reducible refine (churnlaw06_awake.calls k  true _ rfl A4.out).mono ?_); rintro e w9 ⟨rfl, hb⟩; refine ⟨_, rfl, ?_⟩; have n0_ := Aside0.mk (blk_below (g := gb453) (o := .cells #[.int .i64 a0_0, .int .i64 a0_1, .int .i64 a0_2, .slice A0_3 l0_3.length c0_3] 26 (0, 0)) (by (with_reducible repeat (first | refine blk_drewN ?_ _ | refine blk_drew ?_ | refine blk_alloc ?_ _)); exact BK453.out) hb); have n1_ := Aside0.mk (below_step (by repeat (first | (with_reducible first | exact HB.out | apply below_alloc | apply pw_below_drewN | apply below_drew1 | refine below_set ?_ GE453.out) | exact HB.out)) hb); clear BK453; clear HB; have BK453 := n0_; have HB := n1_; clear n0_ n1_; (try clear hb); (try clear hb2); (try clear hk); (try clear hi); have hcz10_0 : w9.cell? ⟨gb453, 0, none⟩ = some (.int .i64 a0_0) := (blk_cell BK453.out 0).trans rfl; have hcz10_1 : w9.cell? ⟨gb453, 1, none⟩ = some (.int .i64 a0_1) := (blk_cell BK453.out 1).trans rfl; have hcz10_2 : w9.cell? ⟨gb453, 2, none⟩ = some (.int .i64 a0_2) := (blk_cell BK453.out 2).trans rfl; have hcz10_3 : w9.cell? ⟨gb453, 3, none⟩ = some (.slice A0_3 l0_3.length c0_3) := (blk_cell BK453.out 3).trans rfl; have hfz10_0 := blk_frozen BK453.out 0; have hfz10_1 := blk_frozen BK453.out 1; have hfz10_2 := blk_frozen BK453.out 2; have hfz10_3 := blk_frozen BK453.out 3) | ((with_reducible refine gate_callee (f := 11) rfl ?_); refine goesL_ (some 16) rfl rfl Try.func11 (by kernel_rfl) rfl #[.slice A0_3 l0_3.length c0_3] rfl (by (try simp only [List.map_toArray, List.map_cons, List.map_nil]); first | done | rfl | (simp only [List.length_drop, List.length_take]; rfl)) ?_; (with_reducible refine (churnlaw06_great.calls k _ _ l0_3 true _ ?side1 ?side2 A6.out).mono ?_); (case side1 => repeat (first | exact (Kd.C_below HR0_3.out HB.out) | (with_reducible refine Kd.C_alloc ?_ _) | (with_reducible refine Kd.C_drewN ?_ _) | (with_reducible refine Kd.C_drew ?_))); (case side2 => exact HC0_3.out); rintro e w' ⟨rfl, ⟨nd, rfl⟩⟩; refine ⟨_, rfl, ?_⟩))
      go_ret
      exact ⟨by first | rfl | (simp [errW_none, errW_some] <;> rfl) | (simp [*, errW_none, errW_some] <;> rfl), by repeat (first | (with_reducible first | exact HB.out | apply below_alloc | apply pw_below_drewN | apply below_drew1 | refine below_set ?_ GE453.out) | exact HB.out)⟩
    · replace c7 := Bool.eq_false_iff.mpr c7
      subst c7
      have H1 : ((frame_Pack.f k a0_0 a0_1 a0_2 l0_3).bind fun bt456 => (if bt456.2 = 0 then (if (bt456.1.length : Int) < 28 then (churnlaw06_FrameTurned.j0 k a1 a2 bt456.1 true) else (churnlaw06_FrameTurned.j0 k a1 a2 bt456.1 (a2 == 0))) else (some ((bt456.1.length : Int) == 0)))) = some r := by rw [if_neg (show ¬ (false = true) by decide)] at H; exact H
      clear H
      have H := H1
      clear H1
      replace H := Option.bind_eq_some_iff.mp H
      obtain ⟨⟨t456, t459⟩, A110, H⟩ := H
      replace H : (if t459 = 0 then (if (t456.length : Int) < 28 then (churnlaw06_FrameTurned.j0 k a1 a2 t456 true) else (churnlaw06_FrameTurned.j0 k a1 a2 t456 (a2 == 0))) else (some ((t456.length : Int) == 0))) = some r := H
      have A11 := Aside0.mk A110
      clear A110
      by_cases c12 : t459 = 0
      · rw [if_pos c12] at H
        have c12b0 : (t459 == 0) = true := beq_iff_eq.mpr c12
        have c12b1 : (t459 != 0) = false := bne_eq_false_iff_eq.mpr c12
        clear c12
        have HC13 := Aside0.mk H
        clear H
        go_enter Try.func6, Try.ntmps6
        go_upto_region 8 with (first | ((with_reducible refine gate_dst (N := 3) rfl ?_); (try (refine gate_guard (by rfl) ?_; dsimp only)); refine box_event ?hg (N := 3) ?hd (cs := #[.int .i64 a0_0, .int .i64 a0_1, .int .i64 a0_2, .slice A0_3 l0_3.length c0_3]) (t := 26) ?hr ?_; (case hd => rfl); (case hg => rfl); (case hr => first | (go_simp; done) | (go_simp; rfl)); intro gb453 hg w14 hbox hb; have n0_ := Aside0.mk (below_step (by repeat (first | (with_reducible first | exact HB.out | apply below_alloc | apply pw_below_drewN | apply below_drew1) | exact HB.out)) hb); have n1_ := Aside0.mk (hbox); have n2_ := Aside0.mk ((by rw [hg]; exact (below_size (by repeat (first | (with_reducible first | exact HB.out | apply below_alloc | apply pw_below_drewN | apply below_drew1) | exact HB.out))) : w.heap.size ≤ gb453)); have n3_ := Aside0.mk ((by rw [hg]; exact (below_size (by repeat (first | (with_reducible first | exact HB.out | apply below_alloc | apply pw_below_drewN | apply below_drew1) | exact HB.out))) : w.heap.size ≤ gb453)); clear HB; have HB := n0_; have BK453 := n1_; have GW453 := n2_; have GE453 := n3_; clear n0_ n1_ n2_ n3_; clear hb hbox hg) | ((with_reducible refine gate_callee (f := 10) rfl ?_); refine goesL_ (some 12) rfl rfl Try.func10 (by kernel_rfl) rfl #[] rfl (by (try simp only [List.map_toArray, List.map_cons, List.map_nil]); first | done | rfl | (simp only [List.length_drop, List.length_take]; rfl)) ?_; (with_reducible refine (churnlaw06_awake.calls k  true _ rfl A4.out).mono ?_); rintro e w15 ⟨rfl, hb⟩; refine ⟨_, rfl, ?_⟩; have n0_ := Aside0.mk (blk_below (g := gb453) (o := .cells #[.int .i64 a0_0, .int .i64 a0_1, .int .i64 a0_2, .slice A0_3 l0_3.length c0_3] 26 (0, 0)) (by (with_reducible repeat (first | refine blk_drewN ?_ _ | refine blk_drew ?_ | refine blk_alloc ?_ _)); exact BK453.out) hb); have n1_ := Aside0.mk (below_step (by repeat (first | (with_reducible first | exact HB.out | apply below_alloc | apply pw_below_drewN | apply below_drew1 | refine below_set ?_ GE453.out) | exact HB.out)) hb); clear BK453; clear HB; have BK453 := n0_; have HB := n1_; clear n0_ n1_; (try clear hb); (try clear hb2); (try clear hk); (try clear hi); have hcz16_0 : w15.cell? ⟨gb453, 0, none⟩ = some (.int .i64 a0_0) := (blk_cell BK453.out 0).trans rfl; have hcz16_1 : w15.cell? ⟨gb453, 1, none⟩ = some (.int .i64 a0_1) := (blk_cell BK453.out 1).trans rfl; have hcz16_2 : w15.cell? ⟨gb453, 2, none⟩ = some (.int .i64 a0_2) := (blk_cell BK453.out 2).trans rfl; have hcz16_3 : w15.cell? ⟨gb453, 3, none⟩ = some (.slice A0_3 l0_3.length c0_3) := (blk_cell BK453.out 3).trans rfl; have hfz16_0 := blk_frozen BK453.out 0; have hfz16_1 := blk_frozen BK453.out 1; have hfz16_2 := blk_frozen BK453.out 2; have hfz16_3 := blk_frozen BK453.out 3) | ((with_reducible refine gate_callee (f := 11) rfl ?_); refine goesL_ (some 16) rfl rfl Try.func11 (by kernel_rfl) rfl #[.slice A0_3 l0_3.length c0_3] rfl (by (try simp only [List.map_toArray, List.map_cons, List.map_nil]); first | done | rfl | (simp only [List.length_drop, List.length_take]; rfl)) ?_; (with_reducible refine (churnlaw06_great.calls k _ _ l0_3 false _ ?side1 ?side2 A6.out).mono ?_); (case side1 => repeat (first | exact (Kd.C_below HR0_3.out HB.out) | (with_reducible refine Kd.C_alloc ?_ _) | (with_reducible refine Kd.C_drewN ?_ _) | (with_reducible refine Kd.C_drew ?_))); (case side2 => exact HC0_3.out); rintro e w' ⟨rfl, ⟨nd, rfl⟩⟩; refine ⟨_, rfl, ?_⟩) | ((with_reducible refine gate_callee (f := 14) rfl ?_); refine goesL_ (some 19) rfl rfl Try.func14 (by kernel_rfl) rfl #[.agg #[.int .i64 a0_0, .int .i64 a0_1, .int .i64 a0_2, .slice A0_3 l0_3.length c0_3]] rfl (by (try simp only [List.map_toArray, List.map_cons, List.map_nil]); first | done | rfl | (simp only [List.length_drop, List.length_take]; rfl)) ?_; (with_reducible refine (frame_Pack.calls k a0_0 a0_1 a0_2 _ _ l0_3 t456 t459 _ ?side1 ?side2 A11.out).mono ?_); (case side1 => repeat (first | exact (Kd.C_below HR0_3.out (by repeat (first | (with_reducible first | exact HB.out | apply below_alloc | apply pw_below_drewN | apply below_drew1 | refine below_set ?_ GE453.out) | exact HB.out))) | (with_reducible refine Kd.C_alloc ?_ _) | (with_reducible refine Kd.C_drewN ?_ _) | (with_reducible refine Kd.C_drew ?_))); (case side2 => exact HC0_3.out); rintro e w17 ⟨v457, rfl, ho0, hb⟩; refine ⟨_, rfl, ?_⟩; have n0_ := Aside0.mk (Kd.R_lower ho0 (below_size (by repeat (first | (with_reducible first | exact HB.out | apply below_alloc | apply pw_below_drewN | apply below_drew1 | refine below_set ?_ GE453.out) | exact HB.out)))); have n1_ := Aside0.mk (blk_below (g := gb453) (o := .cells #[.int .i64 a0_0, .int .i64 a0_1, .int .i64 a0_2, .slice A0_3 l0_3.length c0_3] 26 (0, 0)) (by (with_reducible repeat (first | refine blk_drewN ?_ _ | refine blk_drew ?_ | refine blk_alloc ?_ _)); exact BK453.out) hb); have n2_ := Aside0.mk (below_step (by repeat (first | (with_reducible first | exact HB.out | apply below_alloc | apply pw_below_drewN | apply below_drew1 | refine below_set ?_ GE453.out) | exact HB.out)) hb); clear BK453; clear HB; have HO458 := n0_; have BK453 := n1_; have HB := n2_; clear n0_ n1_ n2_; (try clear hb); (try clear hb2); (try clear hk); (try clear hi); (try clear ho0)))
        (try simp only [Act.put, List.setIfInBounds_toArray, List.set_cons_zero, List.set_cons_succ])
        go_cut [33] (fun v33 wc => ∃ (kq : Nat) (x33_12 : Bool), v33 = .bool x33_12 ∧ Aside0 (churnlaw06_FrameTurned.j0 kq a1 a2 t456 x33_12 = some r) ∧ Aside0 (kq ≤ k) ∧ Aside0 (Kd.R (Kd.int .u8) 5 wc w.heap.size (fun _ => True) v457 t456) ∧ Aside0 (wc.heap[gb453]? = some (.cells #[.int .i64 a0_0, .int .i64 a0_1, .int .i64 a0_2, (.slice A0_3 l0_3.length c0_3)] 26 (0, 0))) ∧ Aside0 (Below w.heap.size w wc))
        case first =>
          have H := HC13.out
          clear HC13
          by_cases c18 : (t456.length : Int) < 28
          · rw [if_pos c18] at H
            have c18b0 : decide ((t456.length : Int) < 28) = true := decide_eq_true c18
            have c18b1 : decide (t456.length < 28) = true := decide_eq_true (by omega)
            clear c18
            (first | rw [c18b0] | (simp only [i64_w, i32_w]; rw [c18b0]) | skip)
            have H' := Aside0.mk H
            clear H
            obtain ⟨Ao19, co19, eo19⟩ := Kd.R_slice HO458.out
            subst eo19
            go_wp2
            go_meet
            case rel => exact ⟨_, (true), (by first | rfl | (simp; done) | (simp [*]; done)), H', ⟨by first | omega | exact Nat.le_refl _⟩, ⟨by (with_reducible repeat (first | apply Kd.R_alloc | apply Kd.R_drewN | apply Kd.R_drew)); exact HO458.out⟩, ⟨by (with_reducible repeat (first | refine blk_drewN ?_ _ | refine blk_drew ?_ | refine blk_alloc ?_ _)); exact BK453.out⟩, ⟨by repeat (first | (with_reducible first | exact HB.out | apply below_alloc | apply pw_below_drewN | apply below_drew1 | refine below_set ?_ GE453.out) | exact HB.out)⟩⟩
          · rw [if_neg c18] at H
            have c18b0 : decide ((t456.length : Int) < 28) = false := decide_eq_false c18
            have c18b1 : decide (t456.length < 28) = false := decide_eq_false (by omega)
            clear c18
            (first | rw [c18b0] | (simp only [i64_w, i32_w]; rw [c18b0]) | skip)
            have H' := Aside0.mk H
            clear H
            obtain ⟨Ao20, co20, eo20⟩ := Kd.R_slice HO458.out
            subst eo20
            go_wp2
            go_meet
            case rel => exact ⟨_, ((a2 == 0)), (by first | rfl | (simp; done) | (simp [*]; done)), H', ⟨by first | omega | exact Nat.le_refl _⟩, ⟨by (with_reducible repeat (first | apply Kd.R_alloc | apply Kd.R_drewN | apply Kd.R_drew)); exact HO458.out⟩, ⟨by (with_reducible repeat (first | refine blk_drewN ?_ _ | refine blk_drew ?_ | refine blk_alloc ?_ _)); exact BK453.out⟩, ⟨by repeat (first | (with_reducible first | exact HB.out | apply below_alloc | apply pw_below_drewN | apply below_drew1 | refine below_set ?_ GE453.out) | exact HB.out)⟩⟩
        case rest =>
          clear HC13
          try clear c1
          try clear p2
          try clear c5
          try clear c6
          try clear c7
          try clear c10
          try clear c11
          try clear c12
          try clear c12b0
          try clear c12b1
          try clear c14
          try clear c18
          try clear c18b0
          try clear c18b1
          try clear hcz10_0
          try clear hcz10_1
          try clear hcz10_2
          try clear hcz10_3
          try clear hcz16_0
          try clear hcz16_1
          try clear hcz16_2
          try clear hcz16_3
          try clear hfz10_0
          try clear hfz10_1
          try clear hfz10_2
          try clear hfz10_3
          try clear hfz16_0
          try clear hfz16_1
          try clear hfz16_2
          try clear hfz16_3
          obtain ⟨kq, x33_12, rfl, HA, HJ12, HO_7, BK453, HB⟩ := hcut
          cases kq with
          | zero => exact absurd HA.out (by simp [churnlaw06_FrameTurned.j0])
          | succ kj12 =>
            have H := HA.out
            clear HA
            simp only [churnlaw06_FrameTurned.j0] at H
            by_cases c21 : x33_12 = true
            · subst c21
              have H1 : (some (decide ((t456.length : Int) ≥ 28))) = some r := by rw [if_pos rfl] at H; exact H
              clear H
              have H := H1
              clear H1
              obtain rfl := Option.some.inj H
              simp only [Option.some.injEq, Prod.mk.injEq] at H
              obtain ⟨rfl⟩ := H
              obtain ⟨Ao22, co22, eo22⟩ := Kd.R_slice HO_7.out
              subst eo22
              go_wp2
              go_ret
              exact ⟨by first | rfl | (simp [errW_none, errW_some] <;> rfl) | (simp [*, errW_none, errW_some] <;> rfl), by repeat (first | (with_reducible first | exact HB.out | apply below_alloc | apply pw_below_drewN | apply below_drew1 | refine below_set ?_ GE453.out) | exact HB.out)⟩
            · replace c21 := Bool.eq_false_iff.mpr c21
              subst c21
              have H1 : ((churnlaw06_place.f a1 (t456.length : Int)).bind fun t460 => (if 0 ≤ t460 then (if t460 < (t456.length : Int) then ((frame_Read.f (t456.set (t460 : Int).toNat (Go.bits .xor .u8 (rd t456 t460) a2))).bind fun bt463 => (if bt463.2.2.2.2.2 = 0 then (some false) else (if (bt463.2.2.2.1.length : Int) = 0 then (some (bt463.1 == 0 && (bt463.2.1 == 0 && (bt463.2.2.1 == 0)))) else (some false)))) else (none)) else (none))) = some r := by rw [if_neg (show ¬ (false = true) by decide)] at H; exact H
              clear H
              have H := H1
              clear H1
              replace H := Option.bind_eq_some_iff.mp H
              obtain ⟨t460, A230, H⟩ := H
              replace H : (if 0 ≤ t460 then (if t460 < (t456.length : Int) then ((frame_Read.f (t456.set (t460 : Int).toNat (Go.bits .xor .u8 (rd t456 t460) a2))).bind fun bt463 => (if bt463.2.2.2.2.2 = 0 then (some false) else (if (bt463.2.2.2.1.length : Int) = 0 then (some (bt463.1 == 0 && (bt463.2.1 == 0 && (bt463.2.2.1 == 0)))) else (some false)))) else (none)) else (none)) = some r := H
              have A23 := Aside0.mk A230
              clear A230
              by_cases c24 : 0 ≤ t460
              · rw [if_pos c24] at H
                have c24b0 : decide (0 ≤ t460) = true := decide_eq_true c24
                clear c24
                by_cases c25 : t460 < (t456.length : Int)
                · rw [if_pos c25] at H
                  have c25b0 : decide (t460 < (t456.length : Int)) = true := decide_eq_true c25
                  clear c25
                  obtain ⟨y462, hy462⟩ : ∃ y_ : List Int, y_ = (t456.set (t460 : Int).toNat (Go.bits .xor .u8 (rd t456 t460) a2)) := ⟨_, rfl⟩
                  replace H : ((frame_Read.f y462).bind fun bt463 => (if bt463.2.2.2.2.2 = 0 then (some false) else (if (bt463.2.2.2.1.length : Int) = 0 then (some (bt463.1 == 0 && (bt463.2.1 == 0 && (bt463.2.2.1 == 0)))) else (some false)))) = some r := by first | (rw [hy462]; with_reducible exact H) | (have H2_ := (Option.bind_some _ _).symm.trans H; rw [hy462]; with_reducible exact H2_) | (have H2_ := (Option.bind_some _ _).symm.trans H; with_reducible exact H2_) | with_reducible exact H | (rw [hy462]; exact H) | exact H
                  have Ny462 := Aside0.mk hy462
                  clear hy462
                  replace H := Option.bind_eq_some_iff.mp H
                  obtain ⟨⟨t463, t464, t465, t466, t469, t470⟩, A270, H⟩ := H
                  replace H : (if t470 = 0 then (some false) else (if (t466.length : Int) = 0 then (some (t463 == 0 && (t464 == 0 && (t465 == 0)))) else (some false))) = some r := H
                  have A27 := Aside0.mk A270
                  clear A270
                  by_cases c28 : t470 = 0
                  · rw [if_pos c28] at H
                    have c28b0 : (t470 == 0) = true := beq_iff_eq.mpr c28
                    have c28b1 : (t470 != 0) = false := bne_eq_false_iff_eq.mpr c28
                    clear c28
                    obtain rfl := Option.some.inj H
                    exact absurd HR_.out (by decide)
                  · rw [if_neg c28] at H
                    have c28b0 : (t470 == 0) = false := beq_eq_false_iff_ne.mpr c28
                    have c28b1 : (t470 != 0) = true := bne_iff_ne.mpr c28
                    by_cases c29 : (t466.length : Int) = 0
                    · rw [if_pos c29] at H
                      have c29b0 : ((t466.length : Int) == 0) = true := beq_iff_eq.mpr c29
                      have c29b1 : ((t466.length : Int) != 0) = false := bne_eq_false_iff_eq.mpr c29
                      clear c29
                      obtain rfl := Option.some.inj H
                      simp only [Option.some.injEq, Prod.mk.injEq] at H
                      obtain ⟨rfl⟩ := H
                      obtain ⟨Ao30, co30, eo30⟩ := Kd.R_slice HO_7.out
                      subst eo30
                      go_wp2_with (first | ((with_reducible refine gate_callee (f := 20) rfl ?_); refine goesL_ (some 41) rfl rfl Try.func20 (by kernel_rfl) rfl #[.int .i64 a1, .int .i64 (t456.length : Int)] rfl (by (try simp only [List.map_toArray, List.map_cons, List.map_nil]); first | done | rfl | (simp only [List.length_drop, List.length_take]; rfl)) ?_; (with_reducible refine (churnlaw06_place.calls a1 (t456.length : Int) t460 _ A23.out).mono ?_); rintro e w' ⟨rfl, ⟨nd, rfl⟩⟩; refine ⟨_, rfl, ?_⟩; (try (rw [drewN_self wc]; generalize hq_ : World.drewN wc _ = wc; have n0_ : Aside0 (Kd.R (Kd.int .u8) 5 wc w.heap.size (fun _ => True) (.slice Ao30 t456.length co30) t456) := ⟨by rw [← hq_]; exact (by (with_reducible repeat (first | apply Kd.R_alloc | apply Kd.R_drewN | apply Kd.R_drew)); exact HO_7.out)⟩; have n1_ : Aside0 (wc.heap[gb453]? = some (.cells #[.int .i64 a0_0, .int .i64 a0_1, .int .i64 a0_2, .slice A0_3 l0_3.length c0_3] 26 (0, 0))) := ⟨by rw [← hq_]; exact (by (with_reducible repeat (first | refine blk_drewN ?_ _ | refine blk_drew ?_ | refine blk_alloc ?_ _)); exact BK453.out)⟩; have n2_ : Aside0 (Below w.heap.size w wc) := ⟨by rw [← hq_]; exact (by repeat (first | (with_reducible first | exact HB.out | apply below_alloc | apply pw_below_drewN | apply below_drew1 | refine below_set ?_ GE453.out) | exact HB.out))⟩; clear HO_7 BK453 HB hq_; have HO_7 := n0_; have BK453 := n1_; have HB := n2_; clear n0_ n1_ n2_)); have p461 : 0 ≤ (t460 : Int) := of_decide_eq_true (by first | (with_reducible assumption) | assumption); have q461 : t460 < (t456.length : Int) := of_decide_eq_true (by first | (with_reducible assumption) | assumption); obtain ⟨ad461, e461, hx461_0⟩ := Kd.at_int (Kd.R_reads' HO_7.out).2.2 t460 p461 q461; cases e461; replace p461 := eq_true p461; replace q461 := eq_true q461; have p26 : 0 ≤ (t460 : Int) := of_decide_eq_true (by first | (with_reducible assumption) | assumption); have q26 : (t460 : Int) < ((t456.length : Int) : Int) := of_decide_eq_true (by first | (with_reducible assumption) | assumption); obtain ⟨go26, co26, eo26, gb26, gl26, cl26, HG26⟩ := Kd.R_form HO_7.out (by omega); (first | cases eo26 | (injection eo26 with ea_ en_ ec_; (first | subst ea_ | (injection ea_ with ea_; subst ea_)); subst ec_; clear en_)); have GB26 := Aside0.mk gb26; have GG26 := Aside0.mk HG26; clear gb26 gl26 HG26; (first | simp only [add_plain] at hx461_0 | skip); obtain ⟨hx26_0, hf26_0⟩ := Kd.R_celln 0 HO_7.out (t460 : Int) p26 q26; replace p26 := eq_true p26; replace q26 := eq_true q26; obtain ⟨hy31_, hz31_⟩ := Kd.R_celln 0 HO_7.out (t460 : Int) (of_decide_eq_true (by first | (with_reducible assumption) | assumption)) (of_decide_eq_true (by first | (with_reducible assumption) | assumption)); have HP31 := Kd.R_putg HO_7.out (t460 : Int) (Go.bits .xor .u8 (rd t456 t460) a2)) | ((with_reducible refine gate_store (t := 5) (p := 46) rfl ?_); refine store_event (t := 5) (p := 46) (v := ?vo_w32) (w1 := (wc.setCell ⟨go26, (t460 : Int).toNat, none⟩ (.int .u8 (Go.bits .xor .u8 (rd t456 t460) a2)))) ?hg ?ho ?hn ?hr ?_; (case ho => rfl); (case hg => rfl); (case hn => rfl); (case hr => first | (go_simp; done) | (go_simp; rfl)); intro w32 hw; have hg : wc.grownBy w32 (some go26) := (by rw [hw]; exact HP31.2); have hp_ : Kd.R (Kd.int .u8) 5 w32 w.heap.size (fun _ => True) (.slice (some ⟨go26, 0, none⟩) t456.length co30) y462 := (by rw [hw, Ny462.out]; exact HP31.1); clear HP31; have n0_ := Aside0.mk (hp_); have n1_ := Aside0.mk (blk_grown (g := gb453) (o := .cells #[.int .i64 a0_0, .int .i64 a0_1, .int .i64 a0_2, .slice A0_3 l0_3.length c0_3] 26 (0, 0)) (by (with_reducible repeat (first | refine blk_drewN ?_ _ | refine blk_drew ?_ | refine blk_alloc ?_ _)); exact BK453.out) hg (Kd.R_ne HO_7.out BK453.out (by decide))); have n2_ := Aside0.mk ((by rw [hw]; exact below_set (HB.out) GB26.out : Below w.heap.size w w32)); clear HO_7; clear BK453; clear HB; have HO_7 := n0_; have BK453 := n1_; have HB := n2_; clear n0_ n1_ n2_; clear hg hw hp_) | ((with_reducible refine gate_callee (f := 18) rfl ?_); refine goesL_ (some 49) rfl rfl Try.func18 (by kernel_rfl) rfl #[.slice (some ⟨go26, 0, none⟩) y462.length co30] rfl (by (try simp only [List.map_toArray, List.map_cons, List.map_nil]); first | done | (rw [show y462.length = t456.length from (Kd.R_reads' HO_7.out).1.symm] <;> rfl) | rfl | (simp only [List.length_drop, List.length_take]; rfl)) ?_; (with_reducible refine (frame_Read.calls _ _ y462 t463 t464 t465 t466 t469 t470 _ ?side1 ?side2 A27.out).mono ?_); (case side1 => repeat (first | exact (Kd.R_reads' HO_7.out).2.2 | (with_reducible refine Kd.C_alloc ?_ _) | (with_reducible refine Kd.C_drewN ?_ _) | (with_reducible refine Kd.C_drew ?_))); (case side2 => rw [show y462.length = t456.length from (Kd.R_reads' HO_7.out).1.symm]; exact (Kd.R_reads' HO_7.out).2.1); rintro e w33 ⟨v467, rfl, ho0, hb⟩; refine ⟨_, rfl, ?_⟩; have n0_ := Aside0.mk (Kd.R_below (by (with_reducible repeat (first | apply Kd.R_alloc | apply Kd.R_drewN | apply Kd.R_drew)); exact HO_7.out) hb); have n1_ := Aside0.mk (Kd.S_lower (Kd.S_new' ho0 (Kd.R_lt (by (with_reducible repeat (first | apply Kd.R_alloc | apply Kd.R_drewN | apply Kd.R_drew)); exact HO_7.out))) (below_size (by repeat (first | (with_reducible first | exact HB.out | apply below_alloc | apply pw_below_drewN | apply below_drew1 | refine below_set ?_ GE453.out) | exact HB.out)))); have n2_ := Aside0.mk (blk_below (g := gb453) (o := .cells #[.int .i64 a0_0, .int .i64 a0_1, .int .i64 a0_2, .slice A0_3 l0_3.length c0_3] 26 (0, 0)) (by (with_reducible repeat (first | refine blk_drewN ?_ _ | refine blk_drew ?_ | refine blk_alloc ?_ _)); exact BK453.out) hb); have n3_ := Aside0.mk (below_step (by repeat (first | (with_reducible first | exact HB.out | apply below_alloc | apply pw_below_drewN | apply below_drew1 | refine below_set ?_ GE453.out) | exact HB.out)) hb); clear HO_7; clear BK453; clear HB; have HO_7 := n0_; have HO468 := n1_; have BK453 := n2_; have HB := n3_; clear n0_ n1_ n2_ n3_; (try clear hb); (try clear hb2); (try clear hk); (try clear hi); (try clear ho0)) | ((with_reducible refine gate_dst (N := 9) rfl ?_); (try (refine gate_guard (by rfl) ?_; dsimp only)); refine box_event ?hg (N := 9) ?hd (cs := #[.int .i64 0, .int .i64 0, .int .i64 0, .slice none 0 0]) (t := 26) ?hr ?_; (case hd => rfl); (case hg => rfl); (case hr => first | (go_simp; done) | (go_simp; rfl)); intro gb471 hg w34 hbox hb; have n0_ := Aside0.mk (Kd.R_below (by (with_reducible repeat (first | apply Kd.R_alloc | apply Kd.R_drewN | apply Kd.R_drew)); exact HO_7.out) hb); have n1_ := Aside0.mk (Kd.S_below (by (with_reducible repeat (first | apply Kd.S_alloc | apply Kd.S_drewN | apply Kd.S_drew)); exact HO468.out) hb); have n2_ := Aside0.mk (blk_below (g := gb453) (o := .cells #[.int .i64 a0_0, .int .i64 a0_1, .int .i64 a0_2, .slice A0_3 l0_3.length c0_3] 26 (0, 0)) (by (with_reducible repeat (first | refine blk_drewN ?_ _ | refine blk_drew ?_ | refine blk_alloc ?_ _)); exact BK453.out) hb); have n3_ := Aside0.mk (below_step (by repeat (first | (with_reducible first | exact HB.out | apply below_alloc | apply pw_below_drewN | apply below_drew1 | refine below_set ?_ GE453.out) | exact HB.out)) hb); have n4_ := Aside0.mk (hbox); have n5_ := Aside0.mk ((by rw [hg]; exact (below_size (by repeat (first | (with_reducible first | exact HB.out | apply below_alloc | apply pw_below_drewN | apply below_drew1 | refine below_set ?_ GE453.out) | exact HB.out))) : w.heap.size ≤ gb471)); have n6_ := Aside0.mk ((by rw [hg]; exact (below_size (by repeat (first | (with_reducible first | exact HB.out | apply below_alloc | apply pw_below_drewN | apply below_drew1 | refine below_set ?_ GE453.out) | exact HB.out))) : w.heap.size ≤ gb471)); have n7_ := Aside0.mk ((by rw [hg]; exact Nat.ne_of_lt (blk_lt (g := gb453) (o := .cells #[.int .i64 a0_0, .int .i64 a0_1, .int .i64 a0_2, .slice A0_3 l0_3.length c0_3] 26 (0, 0)) (by (with_reducible repeat (first | refine blk_drewN ?_ _ | refine blk_drew ?_ | refine blk_alloc ?_ _)); exact BK453.out)) : gb453 ≠ gb471)); have n8_ := Aside0.mk ((by rw [hg]; exact Nat.ne_of_gt (blk_lt (g := gb453) (o := .cells #[.int .i64 a0_0, .int .i64 a0_1, .int .i64 a0_2, .slice A0_3 l0_3.length c0_3] 26 (0, 0)) (by (with_reducible repeat (first | refine blk_drewN ?_ _ | refine blk_drew ?_ | refine blk_alloc ?_ _)); exact BK453.out)) : gb471 ≠ gb453)); clear HO_7; clear HO468; clear BK453; clear HB; have HO_7 := n0_; have HO468 := n1_; have BK453 := n2_; have HB := n3_; have BK471 := n4_; have GW471 := n5_; have GE471 := n6_; have NB453_471 := n7_; have NB471_453 := n8_; clear n0_ n1_ n2_ n3_ n4_ n5_ n6_ n7_ n8_; clear hb hbox hg; have hnb35 := NB471_453.out; have hnc35 := NB453_471.out; have hcz36_0 : w34.cell? ⟨gb471, 0, none⟩ = some (.int .i64 0) := (blk_cell BK471.out 0).trans rfl; have hcz36_1 : w34.cell? ⟨gb471, 1, none⟩ = some (.int .i64 0) := (blk_cell BK471.out 1).trans rfl; have hcz36_2 : w34.cell? ⟨gb471, 2, none⟩ = some (.int .i64 0) := (blk_cell BK471.out 2).trans rfl; have hcz36_3 : w34.cell? ⟨gb471, 3, none⟩ = some (.slice none 0 0) := (blk_cell BK471.out 3).trans rfl; have hfz36_0 := blk_frozen BK471.out 0; have hfz36_1 := blk_frozen BK471.out 1; have hfz36_2 := blk_frozen BK471.out 2; have hfz36_3 := blk_frozen BK471.out 3; obtain ⟨Ao37, co37, eo37⟩ := Kd.S_slice HO468.out; subst eo37))
                      go_ret
                      exact ⟨by first | rfl | (simp [errW_none, errW_some] <;> rfl) | (simp [*, errW_none, errW_some] <;> rfl), by repeat (first | (with_reducible first | exact HB.out | apply below_alloc | apply pw_below_drewN | apply below_drew1 | refine below_set ?_ GE453.out | refine below_set ?_ GE471.out) | exact HB.out)⟩
                    · rw [if_neg c29] at H
                      have c29b0 : ((t466.length : Int) == 0) = false := beq_eq_false_iff_ne.mpr c29
                      have c29b1 : ((t466.length : Int) != 0) = true := bne_iff_ne.mpr c29
                      have c29b2 : ¬ (t466 = []) := fun h_ => c29 (by rw [h_]; rfl)
                      obtain rfl := Option.some.inj H
                      exact absurd HR_.out (by decide)
                · rw [if_neg c25] at H
                  exact absurd H (by simp)
              · rw [if_neg c24] at H
                exact absurd H (by simp)
      · rw [if_neg c12] at H
        have c12b0 : (t459 == 0) = false := beq_eq_false_iff_ne.mpr c12
        have c12b1 : (t459 != 0) = true := bne_iff_ne.mpr c12
        obtain rfl := Option.some.inj H
        simp only [Option.some.injEq, Prod.mk.injEq] at H
        obtain ⟨rfl⟩ := H
        go_enter Try.func6, Try.ntmps6
        go_wp2_with (first | ((with_reducible refine gate_dst (N := 3) rfl ?_); (try (refine gate_guard (by rfl) ?_; dsimp only)); refine box_event ?hg (N := 3) ?hd (cs := #[.int .i64 a0_0, .int .i64 a0_1, .int .i64 a0_2, .slice A0_3 l0_3.length c0_3]) (t := 26) ?hr ?_; (case hd => rfl); (case hg => rfl); (case hr => first | (go_simp; done) | (go_simp; rfl)); intro gb453 hg w38 hbox hb; have n0_ := Aside0.mk (below_step (by repeat (first | (with_reducible first | exact HB.out | apply below_alloc | apply pw_below_drewN | apply below_drew1) | exact HB.out)) hb); have n1_ := Aside0.mk (hbox); have n2_ := Aside0.mk ((by rw [hg]; exact (below_size (by repeat (first | (with_reducible first | exact HB.out | apply below_alloc | apply pw_below_drewN | apply below_drew1) | exact HB.out))) : w.heap.size ≤ gb453)); have n3_ := Aside0.mk ((by rw [hg]; exact (below_size (by repeat (first | (with_reducible first | exact HB.out | apply below_alloc | apply pw_below_drewN | apply below_drew1) | exact HB.out))) : w.heap.size ≤ gb453)); clear HB; have HB := n0_; have BK453 := n1_; have GW453 := n2_; have GE453 := n3_; clear n0_ n1_ n2_ n3_; clear hb hbox hg) | ((with_reducible refine gate_callee (f := 10) rfl ?_); refine goesL_ (some 12) rfl rfl Try.func10 (by kernel_rfl) rfl #[] rfl (by (try simp only [List.map_toArray, List.map_cons, List.map_nil]); first | done | rfl | (simp only [List.length_drop, List.length_take]; rfl)) ?_; (with_reducible refine (churnlaw06_awake.calls k  true _ rfl A4.out).mono ?_); rintro e w39 ⟨rfl, hb⟩; refine ⟨_, rfl, ?_⟩; have n0_ := Aside0.mk (blk_below (g := gb453) (o := .cells #[.int .i64 a0_0, .int .i64 a0_1, .int .i64 a0_2, .slice A0_3 l0_3.length c0_3] 26 (0, 0)) (by (with_reducible repeat (first | refine blk_drewN ?_ _ | refine blk_drew ?_ | refine blk_alloc ?_ _)); exact BK453.out) hb); have n1_ := Aside0.mk (below_step (by repeat (first | (with_reducible first | exact HB.out | apply below_alloc | apply pw_below_drewN | apply below_drew1 | refine below_set ?_ GE453.out) | exact HB.out)) hb); clear BK453; clear HB; have BK453 := n0_; have HB := n1_; clear n0_ n1_; (try clear hb); (try clear hb2); (try clear hk); (try clear hi); have hcz40_0 : w39.cell? ⟨gb453, 0, none⟩ = some (.int .i64 a0_0) := (blk_cell BK453.out 0).trans rfl; have hcz40_1 : w39.cell? ⟨gb453, 1, none⟩ = some (.int .i64 a0_1) := (blk_cell BK453.out 1).trans rfl; have hcz40_2 : w39.cell? ⟨gb453, 2, none⟩ = some (.int .i64 a0_2) := (blk_cell BK453.out 2).trans rfl; have hcz40_3 : w39.cell? ⟨gb453, 3, none⟩ = some (.slice A0_3 l0_3.length c0_3) := (blk_cell BK453.out 3).trans rfl; have hfz40_0 := blk_frozen BK453.out 0; have hfz40_1 := blk_frozen BK453.out 1; have hfz40_2 := blk_frozen BK453.out 2; have hfz40_3 := blk_frozen BK453.out 3) | ((with_reducible refine gate_callee (f := 11) rfl ?_); refine goesL_ (some 16) rfl rfl Try.func11 (by kernel_rfl) rfl #[.slice A0_3 l0_3.length c0_3] rfl (by (try simp only [List.map_toArray, List.map_cons, List.map_nil]); first | done | rfl | (simp only [List.length_drop, List.length_take]; rfl)) ?_; (with_reducible refine (churnlaw06_great.calls k _ _ l0_3 false _ ?side1 ?side2 A6.out).mono ?_); (case side1 => repeat (first | exact (Kd.C_below HR0_3.out HB.out) | (with_reducible refine Kd.C_alloc ?_ _) | (with_reducible refine Kd.C_drewN ?_ _) | (with_reducible refine Kd.C_drew ?_))); (case side2 => exact HC0_3.out); rintro e w' ⟨rfl, ⟨nd, rfl⟩⟩; refine ⟨_, rfl, ?_⟩) | ((with_reducible refine gate_callee (f := 14) rfl ?_); refine goesL_ (some 19) rfl rfl Try.func14 (by kernel_rfl) rfl #[.agg #[.int .i64 a0_0, .int .i64 a0_1, .int .i64 a0_2, .slice A0_3 l0_3.length c0_3]] rfl (by (try simp only [List.map_toArray, List.map_cons, List.map_nil]); first | done | rfl | (simp only [List.length_drop, List.length_take]; rfl)) ?_; (with_reducible refine (frame_Pack.calls k a0_0 a0_1 a0_2 _ _ l0_3 t456 t459 _ ?side1 ?side2 A11.out).mono ?_); (case side1 => repeat (first | exact (Kd.C_below HR0_3.out (by repeat (first | (with_reducible first | exact HB.out | apply below_alloc | apply pw_below_drewN | apply below_drew1 | refine below_set ?_ GE453.out) | exact HB.out))) | (with_reducible refine Kd.C_alloc ?_ _) | (with_reducible refine Kd.C_drewN ?_ _) | (with_reducible refine Kd.C_drew ?_))); (case side2 => exact HC0_3.out); rintro e w41 ⟨v457, rfl, ho0, hb⟩; refine ⟨_, rfl, ?_⟩; have n0_ := Aside0.mk (Kd.R_lower ho0 (below_size (by repeat (first | (with_reducible first | exact HB.out | apply below_alloc | apply pw_below_drewN | apply below_drew1 | refine below_set ?_ GE453.out) | exact HB.out)))); have n1_ := Aside0.mk (blk_below (g := gb453) (o := .cells #[.int .i64 a0_0, .int .i64 a0_1, .int .i64 a0_2, .slice A0_3 l0_3.length c0_3] 26 (0, 0)) (by (with_reducible repeat (first | refine blk_drewN ?_ _ | refine blk_drew ?_ | refine blk_alloc ?_ _)); exact BK453.out) hb); have n2_ := Aside0.mk (below_step (by repeat (first | (with_reducible first | exact HB.out | apply below_alloc | apply pw_below_drewN | apply below_drew1 | refine below_set ?_ GE453.out) | exact HB.out)) hb); clear BK453; clear HB; have HO458 := n0_; have BK453 := n1_; have HB := n2_; clear n0_ n1_ n2_; (try clear hb); (try clear hb2); (try clear hk); (try clear hi); (try clear ho0); obtain ⟨Ao42, co42, eo42⟩ := Kd.R_slice HO458.out; subst eo42))
        go_ret
        exact ⟨by first | rfl | (simp [errW_none, errW_some] <;> rfl) | (simp [*, errW_none, errW_some] <;> rfl), by repeat (first | (with_reducible first | exact HB.out | apply below_alloc | apply pw_below_drewN | apply below_drew1 | refine below_set ?_ GE453.out) | exact HB.out)⟩
  · replace c5 := Bool.eq_false_iff.mpr c5
    subst c5
    have H1 : (some false) = some r := by rw [if_neg (show ¬ (false = true) by decide)] at H; exact H
    clear H
    have H := H1
    clear H1
    obtain rfl := Option.some.inj H
    exact absurd HR_.out (by decide)

end Go.Proofs.Ythkcadmjfkcbgaa.Q
