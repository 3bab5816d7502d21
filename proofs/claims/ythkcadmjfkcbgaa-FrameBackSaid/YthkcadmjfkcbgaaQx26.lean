/- Functions of the program as plain Lean functions, each with a proof that its call comes to just these answers, or the row that joins them to the given statement; no condition beside the statement's own. Written for this claim by pf.py, this session's program over the kit's print. -/
import Derived.Test.YthkcadmjfkcbgaaQx0
import Derived.Test.YthkcadmjfkcbgaaQx1
import Derived.Test.YthkcadmjfkcbgaaQx5
import Derived.Test.YthkcadmjfkcbgaaQx8
import Derived.Test.YthkcadmjfkcbgaaQx9
import Derived.Test.YthkcadmjfkcbgaaQx10
import Derived.Test.YthkcadmjfkcbgaaQx15
import Derived.Test.YthkcadmjfkcbgaaQx17
namespace Go.Proofs.Ythkcadmjfkcbgaa.Q
open Go.RowKit Go.Proofs.YthkcadmjfkcbgaaW.PrintWords Go.Proofs.YthkcadmjfkcbgaaW.PrintLast Go.Proofs.YthkcadmjfkcbgaaW.PrintMore
attribute [local go_sem] max2_int min2_int max_two min_two max_three min_three max_four min_four   -- for this text's walks alone
set_option linter.unusedVariables false
set_option linter.unusedSimpArgs false

attribute [local go_sem high] eqA23
/-! ### churnlaw06_FrameBack: function 5 -/
def churnlaw06_FrameBack.j0 : Nat → List Int → Option (Bool)
  | 0, _ => none
  | k + 1, x1 => (frame_Read.f x1).bind fun bt439 => (if bt439.2.2.2.2.2 = 0 then ((frame_Pack.f k bt439.1 bt439.2.1 bt439.2.2.1 bt439.2.2.2.1).bind fun bt448 => (if bt448.2 = 0 then ((churnlaw06_same.f bt448.1 x1).bind fun t452 => (some t452)) else (some false))) else (if (bt439.2.2.2.1.length : Int) = 0 then (if (bt439.1 == 0 && (bt439.2.1 == 0 && (bt439.2.2.1 == 0))) = true then (if bt439.2.2.2.2.1 ≥ 0 then (some (decide (bt439.2.2.2.2.1 ≤ (x1.length : Int)))) else (some false)) else (some false)) else (some false)))
def churnlaw06_FrameBack.f (k : Nat) (a0_0 : Int) (a0_1 : Int) (a0_2 : Int) (l0_3 : List (List Int)) (l1 : List Int) : Option (Bool) := (churnlaw06_awake.f k).bind fun t423 => (if t423 = true then ((churnlaw06_great.f k l0_3).bind fun t424 => (if t424 = true then (some true) else ((frame_Pack.f k a0_0 a0_1 a0_2 l0_3).bind fun bt425 => (if bt425.2 = 0 then ((frame_Read.f bt425.1).bind fun bt429 => (if bt429.2.2.2.2.2 = 0 then (if bt429.2.2.2.2.1 = 0 then ((churnlaw06_alike.f k a0_0 a0_1 a0_2 l0_3 bt429.1 bt429.2.1 bt429.2.2.1 bt429.2.2.2.1).bind fun t438 => (if t438 = true then (if (bt425.1.length : Int) = (wrap64 (28 + (wrap64 (322 * (l0_3.length : Int))))) then (churnlaw06_FrameBack.j0 k l1) else (some false)) else (some false))) else (some false)) else (some false))) else (churnlaw06_FrameBack.j0 k l1))))) else (some false))
theorem churnlaw06_FrameBack.mono_l : ∀ k, (∀ y0, LeO (churnlaw06_FrameBack.j0 k y0) (churnlaw06_FrameBack.j0 (k + 1) y0))
  | 0 => fun _ r h => by simp [churnlaw06_FrameBack.j0] at h
  | k + 1 => by
    have ih0 := churnlaw06_FrameBack.mono_l k
    · intro y0
      unfold churnlaw06_FrameBack.j0
      repeat' first
      | (with_reducible exact ih0 _)
      | (with_reducible exact churnlaw06_alike.mono _ _ _ _ _ _ _ _ _)
      | (with_reducible exact churnlaw06_awake.mono _)
      | (with_reducible exact churnlaw06_great.mono _ _)
      | (with_reducible exact frame_Pack.mono _ _ _ _ _)
      | (with_reducible exact LeO.refl _)
      | (with_reducible exact LeO.none _)
      | (with_reducible refine LeO.ite ?_ ?_)
      | (with_reducible refine LeO.bind ?_ (fun _ => ?_))
      | exact ih0 _
      | exact churnlaw06_alike.mono _ _ _ _ _ _ _ _ _
      | exact churnlaw06_awake.mono _
      | exact churnlaw06_great.mono _ _
      | exact frame_Pack.mono _ _ _ _ _
      | exact LeO.none _
      | refine LeO.ite ?_ ?_
      | refine LeO.bind ?_ (fun _ => ?_)
theorem churnlaw06_FrameBack.mono : ∀ a0 a1 a2 a3 a4 k, LeO (churnlaw06_FrameBack.f k a0 a1 a2 a3 a4) (churnlaw06_FrameBack.f (k + 1) a0 a1 a2 a3 a4) := by
  intro a0 a1 a2 a3 a4 k
  have ih0 := churnlaw06_FrameBack.mono_l k
  unfold churnlaw06_FrameBack.f
  repeat' first
      | (with_reducible exact ih0 _)
      | (with_reducible exact churnlaw06_alike.mono _ _ _ _ _ _ _ _ _)
      | (with_reducible exact churnlaw06_awake.mono _)
      | (with_reducible exact churnlaw06_great.mono _ _)
      | (with_reducible exact frame_Pack.mono _ _ _ _ _)
      | (with_reducible exact LeO.refl _)
      | (with_reducible exact LeO.none _)
      | (with_reducible refine LeO.ite ?_ ?_)
      | (with_reducible refine LeO.bind ?_ (fun _ => ?_))
      | exact ih0 _
      | exact churnlaw06_alike.mono _ _ _ _ _ _ _ _ _
      | exact churnlaw06_awake.mono _
      | exact churnlaw06_great.mono _ _
      | exact frame_Pack.mono _ _ _ _ _
      | exact LeO.none _
      | refine LeO.ite ?_ ?_
      | refine LeO.bind ?_ (fun _ => ?_)
set_option maxHeartbeats 8000000 in
set_option maxRecDepth 100000 in
theorem churnlaw06_FrameBack.calls (k : Nat) (a0_0 : Int) (a0_1 : Int) (a0_2 : Int) (A0_3 : Option Addr) (c0_3 : Nat) (l0_3 : List (List Int)) (A1 : Option Addr) (c1 : Nat) (l1 : List Int) (r : Bool) (w : World) (hr0_3 : Kd.C (Kd.slice 5 (Kd.int .u8)) w A0_3 l0_3.length l0_3) (hc0_3 : l0_3.length ≤ c0_3) (hr1 : Kd.C (Kd.int .u8) w A1 l1.length l1) (hc1 : l1.length ≤ c1) (hr_ : r = true) (h : churnlaw06_FrameBack.f k a0_0 a0_1 a0_2 l0_3 l1 = some r) :
    Calls Try.prog 5 #[.agg #[.int .i64 a0_0, .int .i64 a0_1, .int .i64 a0_2, .slice A0_3 l0_3.length c0_3], .slice A1 l1.length c1] w fun e w' => e = .returned (.bool r) ∧ Below w.heap.size w w' := by
  have HR_ := Aside0.mk hr_
  clear hr_
  have hu26 := Try.underlying26
  have hu23 := Try.underlying23
  have HR0_3 := Aside0.mk hr0_3
  have HC0_3 := Aside0.mk hc0_3
  clear hr0_3 hc0_3
  have HR1 := Aside0.mk hr1
  have HC1 := Aside0.mk hc1
  clear hr1 hc1
  have HB := Aside0.mk (Below.refl w.heap.size w)
  have H : ((churnlaw06_awake.f k).bind fun t423 => (if t423 = true then ((churnlaw06_great.f k l0_3).bind fun t424 => (if t424 = true then (some true) else ((frame_Pack.f k a0_0 a0_1 a0_2 l0_3).bind fun bt425 => (if bt425.2 = 0 then ((frame_Read.f bt425.1).bind fun bt429 => (if bt429.2.2.2.2.2 = 0 then (if bt429.2.2.2.2.1 = 0 then ((churnlaw06_alike.f k a0_0 a0_1 a0_2 l0_3 bt429.1 bt429.2.1 bt429.2.2.1 bt429.2.2.2.1).bind fun t438 => (if t438 = true then (if (bt425.1.length : Int) = (wrap64 (28 + (wrap64 (322 * (l0_3.length : Int))))) then (churnlaw06_FrameBack.j0 k l1) else (some false)) else (some false))) else (some false)) else (some false))) else (churnlaw06_FrameBack.j0 k l1))))) else (some false))) = some r := h
  clear h
  replace H := Option.bind_eq_some_iff.mp H
  obtain ⟨t423, A30, H⟩ := H
  replace H : (if t423 = true then ((churnlaw06_great.f k l0_3).bind fun t424 => (if t424 = true then (some true) else ((frame_Pack.f k a0_0 a0_1 a0_2 l0_3).bind fun bt425 => (if bt425.2 = 0 then ((frame_Read.f bt425.1).bind fun bt429 => (if bt429.2.2.2.2.2 = 0 then (if bt429.2.2.2.2.1 = 0 then ((churnlaw06_alike.f k a0_0 a0_1 a0_2 l0_3 bt429.1 bt429.2.1 bt429.2.2.1 bt429.2.2.2.1).bind fun t438 => (if t438 = true then (if (bt425.1.length : Int) = (wrap64 (28 + (wrap64 (322 * (l0_3.length : Int))))) then (churnlaw06_FrameBack.j0 k l1) else (some false)) else (some false))) else (some false)) else (some false))) else (churnlaw06_FrameBack.j0 k l1))))) else (some false)) = some r := H
  have A3 := Aside0.mk A30
  clear A30
  by_cases c4 : t423 = true
  · subst c4
    have H1 : ((churnlaw06_great.f k l0_3).bind fun t424 => (if t424 = true then (some true) else ((frame_Pack.f k a0_0 a0_1 a0_2 l0_3).bind fun bt425 => (if bt425.2 = 0 then ((frame_Read.f bt425.1).bind fun bt429 => (if bt429.2.2.2.2.2 = 0 then (if bt429.2.2.2.2.1 = 0 then ((churnlaw06_alike.f k a0_0 a0_1 a0_2 l0_3 bt429.1 bt429.2.1 bt429.2.2.1 bt429.2.2.2.1).bind fun t438 => (if t438 = true then (if (bt425.1.length : Int) = (wrap64 (28 + (wrap64 (322 * (l0_3.length : Int))))) then (churnlaw06_FrameBack.j0 k l1) else (some false)) else (some false))) else (some false)) else (some false))) else (churnlaw06_FrameBack.j0 k l1))))) = some r := by rw [if_pos rfl] at H; exact H
    clear H
    have H := H1
    clear H1
    replace H := Option.bind_eq_some_iff.mp H
    obtain ⟨t424, A50, H⟩ := H
    replace H : (if t424 = true then (some true) else ((frame_Pack.f k a0_0 a0_1 a0_2 l0_3).bind fun bt425 => (if bt425.2 = 0 then ((frame_Read.f bt425.1).bind fun bt429 => (if bt429.2.2.2.2.2 = 0 then (if bt429.2.2.2.2.1 = 0 then ((churnlaw06_alike.f k a0_0 a0_1 a0_2 l0_3 bt429.1 bt429.2.1 bt429.2.2.1 bt429.2.2.2.1).bind fun t438 => (if t438 = true then (if (bt425.1.length : Int) = (wrap64 (28 + (wrap64 (322 * (l0_3.length : Int))))) then (churnlaw06_FrameBack.j0 k l1) else (some false)) else (some false))) else (some false)) else (some false))) else (churnlaw06_FrameBack.j0 k l1)))) = some r := H
    have A5 := Aside0.mk A50
    clear A50
    by_cases c6 : t424 = true
    · subst c6
      have H1 : (some true) = some r := by rw [if_pos rfl] at H; exact H
      clear H
      have H := H1
      clear H1
      obtain rfl := Option.some.inj H
      simp only [Option.some.injEq, Prod.mk.injEq] at H
      obtain ⟨rfl⟩ := H
      go_enter Try.func5, Try.ntmps5
      go_wp2_with (first | ((with_reducible refine gate_dst (N := 2) rfl ?_); (try (refine gate_guard (by rfl) ?_; dsimp only)); refine box_event ?hg (N := 2) ?hd (cs := #[.int .i64 a0_0, .int .i64 a0_1, .int .i64 a0_2, .slice A0_3 l0_3.length c0_3]) (t := 26) ?hr ?_; (case hd => rfl); (case hg => rfl); (case hr => first | (go_simp; done) | (go_simp; rfl)); intro gb422 hg w7 hbox hb; have n0_ := Aside0.mk (below_step (by repeat (first | (with_reducible first | exact HB.out | apply below_alloc | apply pw_below_drewN | apply below_drew1) | exact HB.out)) hb); have n1_ := Aside0.mk (hbox); have n2_ := Aside0.mk ((by rw [hg]; exact (below_size (by repeat (first | (with_reducible first | exact HB.out | apply below_alloc | apply pw_below_drewN | apply below_drew1) | exact HB.out))) : w.heap.size ≤ gb422)); have n3_ := Aside0.mk ((by rw [hg]; exact (below_size (by repeat (first | (with_reducible first | exact HB.out | apply below_alloc | apply pw_below_drewN | apply below_drew1) | exact HB.out))) : w.heap.size ≤ gb422)); clear HB; have HB := n0_; have BK422 := n1_; have GW422 := n2_; have GE422 := n3_; clear n0_ n1_ n2_ n3_; clear hb hbox hg) | ((with_reducible refine gate_callee (f := 10) rfl ?_); refine goesL_ (some 15) rfl rfl Try.func10 (by kernel_rfl) rfl #[] rfl (by (try simp only [List.map_toArray, List.map_cons, List.map_nil]); first | done | rfl | (simp only [List.length_drop, List.length_take]; rfl)) ?_; (with_reducible refine (churnlaw06_awake.calls k  true _ rfl A3.out).mono ?_); rintro e w8 ⟨rfl, hb⟩; refine ⟨_, rfl, ?_⟩; have n0_ := Aside0.mk (blk_below (g := gb422) (o := .cells #[.int .i64 a0_0, .int .i64 a0_1, .int .i64 a0_2, .slice A0_3 l0_3.length c0_3] 26 (0, 0)) (by (with_reducible repeat (first | refine blk_drewN ?_ _ | refine blk_drew ?_ | refine blk_alloc ?_ _)); exact BK422.out) hb); have n1_ := Aside0.mk (below_step (by repeat (first | (with_reducible first | exact HB.out | apply below_alloc | apply pw_below_drewN | apply below_drew1 | refine below_set ?_ GE422.out) | exact HB.out)) hb); clear BK422; clear HB; have BK422 := n0_; have HB := n1_; clear n0_ n1_; (try clear hb); (try clear hb2); (try clear hk); (try clear hi); have hcz9_0 : w8.cell? ⟨gb422, 0, none⟩ = some (.int .i64 a0_0) := (blk_cell BK422.out 0).trans rfl; have hcz9_1 : w8.cell? ⟨gb422, 1, none⟩ = some (.int .i64 a0_1) := (blk_cell BK422.out 1).trans rfl; have hcz9_2 : w8.cell? ⟨gb422, 2, none⟩ = some (.int .i64 a0_2) := (blk_cell BK422.out 2).trans rfl; have hcz9_3 : w8.cell? ⟨gb422, 3, none⟩ = some (.slice A0_3 l0_3.length c0_3) := (blk_cell BK422.out 3).trans rfl; have hfz9_0 := blk_frozen BK422.out 0; have hfz9_1 := blk_frozen BK422.out 1; have hfz9_2 := blk_frozen BK422.out 2; have hfz9_3 := blk_frozen BK422.out 3) | ((with_reducible refine gate_callee (f := 11) rfl ?_); refine goesL_ (some 19) rfl rfl Try.func11 (by kernel_rfl) rfl #[.slice A0_3 l0_3.length c0_3] rfl (by (try simp only [List.map_toArray, List.map_cons, List.map_nil]); first | done | rfl | (simp only [List.length_drop, List.length_take]; rfl)) ?_; (with_reducible refine (churnlaw06_great.calls k _ _ l0_3 true _ ?side1 ?side2 A5.out).mono ?_); (case side1 => repeat (first | exact (Kd.C_below HR0_3.out HB.out) | (with_reducible refine Kd.C_alloc ?_ _) | (with_reducible refine Kd.C_drewN ?_ _) | (with_reducible refine Kd.C_drew ?_))); (case side2 => exact HC0_3.out); rintro e w' ⟨rfl, ⟨nd, rfl⟩⟩; refine ⟨_, rfl, ?_⟩))
      go_ret
      exact ⟨by first | rfl | (simp [errW_none, errW_some] <;> rfl) | (simp [*, errW_none, errW_some] <;> rfl), by repeat (first | (with_reducible first | exact HB.out | apply below_alloc | apply pw_below_drewN | apply below_drew1 | refine below_set ?_ GE422.out) | exact HB.out)⟩
    · replace c6 := Bool.eq_false_iff.mpr c6
      subst c6
      have H1 : ((frame_Pack.f k a0_0 a0_1 a0_2 l0_3).bind fun bt425 => (if bt425.2 = 0 then ((frame_Read.f bt425.1).bind fun bt429 => (if bt429.2.2.2.2.2 = 0 then (if bt429.2.2.2.2.1 = 0 then ((churnlaw06_alike.f k a0_0 a0_1 a0_2 l0_3 bt429.1 bt429.2.1 bt429.2.2.1 bt429.2.2.2.1).bind fun t438 => (if t438 = true then (if (bt425.1.length : Int) = (wrap64 (28 + (wrap64 (322 * (l0_3.length : Int))))) then (churnlaw06_FrameBack.j0 k l1) else (some false)) else (some false))) else (some false)) else (some false))) else (churnlaw06_FrameBack.j0 k l1))) = some r := by rw [if_neg (show ¬ (false = true) by decide)] at H; exact H
      clear H
      have H := H1
      clear H1
      replace H := Option.bind_eq_some_iff.mp H
      obtain ⟨⟨t425, t428⟩, A100, H⟩ := H
      replace H : (if t428 = 0 then ((frame_Read.f t425).bind fun bt429 => (if bt429.2.2.2.2.2 = 0 then (if bt429.2.2.2.2.1 = 0 then ((churnlaw06_alike.f k a0_0 a0_1 a0_2 l0_3 bt429.1 bt429.2.1 bt429.2.2.1 bt429.2.2.2.1).bind fun t438 => (if t438 = true then (if (t425.length : Int) = (wrap64 (28 + (wrap64 (322 * (l0_3.length : Int))))) then (churnlaw06_FrameBack.j0 k l1) else (some false)) else (some false))) else (some false)) else (some false))) else (churnlaw06_FrameBack.j0 k l1)) = some r := H
      have A10 := Aside0.mk A100
      clear A100
      have HC11 := Aside0.mk H
      clear H
      go_enter Try.func5, Try.ntmps5
      go_upto_if 26 with (first | ((with_reducible refine gate_dst (N := 2) rfl ?_); (try (refine gate_guard (by rfl) ?_; dsimp only)); refine box_event ?hg (N := 2) ?hd (cs := #[.int .i64 a0_0, .int .i64 a0_1, .int .i64 a0_2, .slice A0_3 l0_3.length c0_3]) (t := 26) ?hr ?_; (case hd => rfl); (case hg => rfl); (case hr => first | (go_simp; done) | (go_simp; rfl)); intro gb422 hg w12 hbox hb; have n0_ := Aside0.mk (below_step (by repeat (first | (with_reducible first | exact HB.out | apply below_alloc | apply pw_below_drewN | apply below_drew1) | exact HB.out)) hb); have n1_ := Aside0.mk (hbox); have n2_ := Aside0.mk ((by rw [hg]; exact (below_size (by repeat (first | (with_reducible first | exact HB.out | apply below_alloc | apply pw_below_drewN | apply below_drew1) | exact HB.out))) : w.heap.size ≤ gb422)); have n3_ := Aside0.mk ((by rw [hg]; exact (below_size (by repeat (first | (with_reducible first | exact HB.out | apply below_alloc | apply pw_below_drewN | apply below_drew1) | exact HB.out))) : w.heap.size ≤ gb422)); clear HB; have HB := n0_; have BK422 := n1_; have GW422 := n2_; have GE422 := n3_; clear n0_ n1_ n2_ n3_; clear hb hbox hg) | ((with_reducible refine gate_callee (f := 10) rfl ?_); refine goesL_ (some 15) rfl rfl Try.func10 (by kernel_rfl) rfl #[] rfl (by (try simp only [List.map_toArray, List.map_cons, List.map_nil]); first | done | rfl | (simp only [List.length_drop, List.length_take]; rfl)) ?_; (with_reducible refine (churnlaw06_awake.calls k  true _ rfl A3.out).mono ?_); rintro e w13 ⟨rfl, hb⟩; refine ⟨_, rfl, ?_⟩; have n0_ := Aside0.mk (blk_below (g := gb422) (o := .cells #[.int .i64 a0_0, .int .i64 a0_1, .int .i64 a0_2, .slice A0_3 l0_3.length c0_3] 26 (0, 0)) (by (with_reducible repeat (first | refine blk_drewN ?_ _ | refine blk_drew ?_ | refine blk_alloc ?_ _)); exact BK422.out) hb); have n1_ := Aside0.mk (below_step (by repeat (first | (with_reducible first | exact HB.out | apply below_alloc | apply pw_below_drewN | apply below_drew1 | refine below_set ?_ GE422.out) | exact HB.out)) hb); clear BK422; clear HB; have BK422 := n0_; have HB := n1_; clear n0_ n1_; (try clear hb); (try clear hb2); (try clear hk); (try clear hi); have hcz14_0 : w13.cell? ⟨gb422, 0, none⟩ = some (.int .i64 a0_0) := (blk_cell BK422.out 0).trans rfl; have hcz14_1 : w13.cell? ⟨gb422, 1, none⟩ = some (.int .i64 a0_1) := (blk_cell BK422.out 1).trans rfl; have hcz14_2 : w13.cell? ⟨gb422, 2, none⟩ = some (.int .i64 a0_2) := (blk_cell BK422.out 2).trans rfl; have hcz14_3 : w13.cell? ⟨gb422, 3, none⟩ = some (.slice A0_3 l0_3.length c0_3) := (blk_cell BK422.out 3).trans rfl; have hfz14_0 := blk_frozen BK422.out 0; have hfz14_1 := blk_frozen BK422.out 1; have hfz14_2 := blk_frozen BK422.out 2; have hfz14_3 := blk_frozen BK422.out 3) | ((with_reducible refine gate_callee (f := 11) rfl ?_); refine goesL_ (some 19) rfl rfl Try.func11 (by kernel_rfl) rfl #[.slice A0_3 l0_3.length c0_3] rfl (by (try simp only [List.map_toArray, List.map_cons, List.map_nil]); first | done | rfl | (simp only [List.length_drop, List.length_take]; rfl)) ?_; (with_reducible refine (churnlaw06_great.calls k _ _ l0_3 false _ ?side1 ?side2 A5.out).mono ?_); (case side1 => repeat (first | exact (Kd.C_below HR0_3.out HB.out) | (with_reducible refine Kd.C_alloc ?_ _) | (with_reducible refine Kd.C_drewN ?_ _) | (with_reducible refine Kd.C_drew ?_))); (case side2 => exact HC0_3.out); rintro e w' ⟨rfl, ⟨nd, rfl⟩⟩; refine ⟨_, rfl, ?_⟩) | ((with_reducible refine gate_callee (f := 14) rfl ?_); refine goesL_ (some 22) rfl rfl Try.func14 (by kernel_rfl) rfl #[.agg #[.int .i64 a0_0, .int .i64 a0_1, .int .i64 a0_2, .slice A0_3 l0_3.length c0_3]] rfl (by (try simp only [List.map_toArray, List.map_cons, List.map_nil]); first | done | rfl | (simp only [List.length_drop, List.length_take]; rfl)) ?_; (with_reducible refine (frame_Pack.calls k a0_0 a0_1 a0_2 _ _ l0_3 t425 t428 _ ?side1 ?side2 A10.out).mono ?_); (case side1 => repeat (first | exact (Kd.C_below HR0_3.out (by repeat (first | (with_reducible first | exact HB.out | apply below_alloc | apply pw_below_drewN | apply below_drew1 | refine below_set ?_ GE422.out) | exact HB.out))) | (with_reducible refine Kd.C_alloc ?_ _) | (with_reducible refine Kd.C_drewN ?_ _) | (with_reducible refine Kd.C_drew ?_))); (case side2 => exact HC0_3.out); rintro e w15 ⟨v426, rfl, ho0, hb⟩; refine ⟨_, rfl, ?_⟩; have n0_ := Aside0.mk (Kd.R_lower ho0 (below_size (by repeat (first | (with_reducible first | exact HB.out | apply below_alloc | apply pw_below_drewN | apply below_drew1 | refine below_set ?_ GE422.out) | exact HB.out)))); have n1_ := Aside0.mk (blk_below (g := gb422) (o := .cells #[.int .i64 a0_0, .int .i64 a0_1, .int .i64 a0_2, .slice A0_3 l0_3.length c0_3] 26 (0, 0)) (by (with_reducible repeat (first | refine blk_drewN ?_ _ | refine blk_drew ?_ | refine blk_alloc ?_ _)); exact BK422.out) hb); have n2_ := Aside0.mk (below_step (by repeat (first | (with_reducible first | exact HB.out | apply below_alloc | apply pw_below_drewN | apply below_drew1 | refine below_set ?_ GE422.out) | exact HB.out)) hb); clear BK422; clear HB; have HO427 := n0_; have BK422 := n1_; have HB := n2_; clear n0_ n1_ n2_; (try clear hb); (try clear hb2); (try clear hk); (try clear hi); (try clear ho0)))
      (try simp only [Act.put, List.setIfInBounds_toArray, List.set_cons_zero, List.set_cons_succ])
      go_cut [] (fun wc => ∃ (kq : Nat), Aside0 (churnlaw06_FrameBack.j0 kq l1 = some r) ∧ Aside0 (kq ≤ k) ∧ Aside0 (wc.heap[gb422]? = some (.cells #[.int .i64 a0_0, .int .i64 a0_1, .int .i64 a0_2, (.slice A0_3 l0_3.length c0_3)] 26 (0, 0))) ∧ Aside0 (Below w.heap.size w wc))
      case first =>
        have H := HC11.out
        clear HC11
        by_cases c16 : t428 = 0
        · rw [if_pos c16] at H
          have c16b0 : (t428 == 0) = true := beq_iff_eq.mpr c16
          have c16b1 : (t428 != 0) = false := bne_eq_false_iff_eq.mpr c16
          clear c16
          (first | rw [c16b0] | (simp only [i64_w, i32_w]; rw [c16b0]) | skip)
          replace H := Option.bind_eq_some_iff.mp H
          obtain ⟨⟨t429, t430, t431, t432, t435, t436⟩, A170, H⟩ := H
          replace H : (if t436 = 0 then (if t435 = 0 then ((churnlaw06_alike.f k a0_0 a0_1 a0_2 l0_3 t429 t430 t431 t432).bind fun t438 => (if t438 = true then (if (t425.length : Int) = (wrap64 (28 + (wrap64 (322 * (l0_3.length : Int))))) then (churnlaw06_FrameBack.j0 k l1) else (some false)) else (some false))) else (some false)) else (some false)) = some r := H
          have A17 := Aside0.mk A170
          clear A170
          by_cases c18 : t436 = 0
          · rw [if_pos c18] at H
            have c18b0 : (t436 == 0) = true := beq_iff_eq.mpr c18
            have c18b1 : (t436 != 0) = false := bne_eq_false_iff_eq.mpr c18
            clear c18
            by_cases c19 : t435 = 0
            · rw [if_pos c19] at H
              have c19b0 : (t435 == 0) = true := beq_iff_eq.mpr c19
              have c19b1 : (t435 != 0) = false := bne_eq_false_iff_eq.mpr c19
              clear c19
              replace H := Option.bind_eq_some_iff.mp H
              obtain ⟨t438, A200, H⟩ := H
              replace H : (if t438 = true then (if (t425.length : Int) = (wrap64 (28 + (wrap64 (322 * (l0_3.length : Int))))) then (churnlaw06_FrameBack.j0 k l1) else (some false)) else (some false)) = some r := H
              have A20 := Aside0.mk A200
              clear A200
              by_cases c21 : t438 = true
              · subst c21
                have H1 : (if (t425.length : Int) = (wrap64 (28 + (wrap64 (322 * (l0_3.length : Int))))) then (churnlaw06_FrameBack.j0 k l1) else (some false)) = some r := by rw [if_pos rfl] at H; exact H
                clear H
                have H := H1
                clear H1
                by_cases c22 : (t425.length : Int) = (wrap64 (28 + (wrap64 (322 * (l0_3.length : Int)))))
                · rw [if_pos c22] at H
                  have c22b0 : ((t425.length : Int) == (wrap64 (28 + (wrap64 (322 * (l0_3.length : Int)))))) = true := beq_iff_eq.mpr c22
                  have c22b1 : ((t425.length : Int) != (wrap64 (28 + (wrap64 (322 * (l0_3.length : Int)))))) = false := bne_eq_false_iff_eq.mpr c22
                  clear c22
                  have H' := Aside0.mk H
                  clear H
                  obtain ⟨Ao23, co23, eo23⟩ := Kd.R_slice HO427.out
                  subst eo23
                  go_wp2_with (first | ((with_reducible refine gate_callee (f := 18) rfl ?_); refine goesL_ (some 29) rfl rfl Try.func18 (by kernel_rfl) rfl #[.slice Ao23 t425.length co23] rfl (by (try simp only [List.map_toArray, List.map_cons, List.map_nil]); first | done | rfl | (simp only [List.length_drop, List.length_take]; rfl)) ?_; (with_reducible refine (frame_Read.calls _ _ t425 t429 t430 t431 t432 t435 t436 _ ?side1 ?side2 A17.out).mono ?_); (case side1 => repeat (first | exact (Kd.R_reads' HO427.out).2.2 | (with_reducible refine Kd.C_alloc ?_ _) | (with_reducible refine Kd.C_drewN ?_ _) | (with_reducible refine Kd.C_drew ?_))); (case side2 => exact (Kd.R_reads' HO427.out).2.1); rintro e w24 ⟨v433, rfl, ho0, hb⟩; refine ⟨_, rfl, ?_⟩; have n0_ := Aside0.mk (Kd.R_below (by (with_reducible repeat (first | apply Kd.R_alloc | apply Kd.R_drewN | apply Kd.R_drew)); exact HO427.out) hb); have n1_ := Aside0.mk (Kd.S_lower (Kd.S_new' ho0 (Kd.R_lt (by (with_reducible repeat (first | apply Kd.R_alloc | apply Kd.R_drewN | apply Kd.R_drew)); exact HO427.out))) (below_size (by repeat (first | (with_reducible first | exact HB.out | apply below_alloc | apply pw_below_drewN | apply below_drew1 | refine below_set ?_ GE422.out) | exact HB.out)))); have n2_ := Aside0.mk (blk_below (g := gb422) (o := .cells #[.int .i64 a0_0, .int .i64 a0_1, .int .i64 a0_2, .slice A0_3 l0_3.length c0_3] 26 (0, 0)) (by (with_reducible repeat (first | refine blk_drewN ?_ _ | refine blk_drew ?_ | refine blk_alloc ?_ _)); exact BK422.out) hb); have n3_ := Aside0.mk (below_step (by repeat (first | (with_reducible first | exact HB.out | apply below_alloc | apply pw_below_drewN | apply below_drew1 | refine below_set ?_ GE422.out) | exact HB.out)) hb); clear HO427; clear BK422; clear HB; have HO427 := n0_; have HO434 := n1_; have BK422 := n2_; have HB := n3_; clear n0_ n1_ n2_ n3_; (try clear hb); (try clear hb2); (try clear hk); (try clear hi); (try clear ho0)) | ((with_reducible refine gate_dst (N := 7) rfl ?_); (try (refine gate_guard (by rfl) ?_; dsimp only)); refine box_event ?hg (N := 7) ?hd (cs := #[.int .i64 0, .int .i64 0, .int .i64 0, .slice none 0 0]) (t := 26) ?hr ?_; (case hd => rfl); (case hg => rfl); (case hr => first | (go_simp; done) | (go_simp; rfl)); intro gb437 hg w25 hbox hb; have n0_ := Aside0.mk (Kd.R_below (by (with_reducible repeat (first | apply Kd.R_alloc | apply Kd.R_drewN | apply Kd.R_drew)); exact HO427.out) hb); have n1_ := Aside0.mk (Kd.S_below (by (with_reducible repeat (first | apply Kd.S_alloc | apply Kd.S_drewN | apply Kd.S_drew)); exact HO434.out) hb); have n2_ := Aside0.mk (blk_below (g := gb422) (o := .cells #[.int .i64 a0_0, .int .i64 a0_1, .int .i64 a0_2, .slice A0_3 l0_3.length c0_3] 26 (0, 0)) (by (with_reducible repeat (first | refine blk_drewN ?_ _ | refine blk_drew ?_ | refine blk_alloc ?_ _)); exact BK422.out) hb); have n3_ := Aside0.mk (below_step (by repeat (first | (with_reducible first | exact HB.out | apply below_alloc | apply pw_below_drewN | apply below_drew1 | refine below_set ?_ GE422.out) | exact HB.out)) hb); have n4_ := Aside0.mk (hbox); have n5_ := Aside0.mk ((by rw [hg]; exact (below_size (by repeat (first | (with_reducible first | exact HB.out | apply below_alloc | apply pw_below_drewN | apply below_drew1 | refine below_set ?_ GE422.out) | exact HB.out))) : w.heap.size ≤ gb437)); have n6_ := Aside0.mk ((by rw [hg]; exact (below_size (by repeat (first | (with_reducible first | exact HB.out | apply below_alloc | apply pw_below_drewN | apply below_drew1 | refine below_set ?_ GE422.out) | exact HB.out))) : w.heap.size ≤ gb437)); have n7_ := Aside0.mk ((by rw [hg]; exact Nat.ne_of_lt (blk_lt (g := gb422) (o := .cells #[.int .i64 a0_0, .int .i64 a0_1, .int .i64 a0_2, .slice A0_3 l0_3.length c0_3] 26 (0, 0)) (by (with_reducible repeat (first | refine blk_drewN ?_ _ | refine blk_drew ?_ | refine blk_alloc ?_ _)); exact BK422.out)) : gb422 ≠ gb437)); have n8_ := Aside0.mk ((by rw [hg]; exact Nat.ne_of_gt (blk_lt (g := gb422) (o := .cells #[.int .i64 a0_0, .int .i64 a0_1, .int .i64 a0_2, .slice A0_3 l0_3.length c0_3] 26 (0, 0)) (by (with_reducible repeat (first | refine blk_drewN ?_ _ | refine blk_drew ?_ | refine blk_alloc ?_ _)); exact BK422.out)) : gb437 ≠ gb422)); clear HO427; clear HO434; clear BK422; clear HB; have HO427 := n0_; have HO434 := n1_; have BK422 := n2_; have HB := n3_; have BK437 := n4_; have GW437 := n5_; have GE437 := n6_; have NB422_437 := n7_; have NB437_422 := n8_; clear n0_ n1_ n2_ n3_ n4_ n5_ n6_ n7_ n8_; clear hb hbox hg; have hnb26 := NB437_422.out; have hnc26 := NB422_437.out; have hcz27_0 : w25.cell? ⟨gb437, 0, none⟩ = some (.int .i64 0) := (blk_cell BK437.out 0).trans rfl; have hcz27_1 : w25.cell? ⟨gb437, 1, none⟩ = some (.int .i64 0) := (blk_cell BK437.out 1).trans rfl; have hcz27_2 : w25.cell? ⟨gb437, 2, none⟩ = some (.int .i64 0) := (blk_cell BK437.out 2).trans rfl; have hcz27_3 : w25.cell? ⟨gb437, 3, none⟩ = some (.slice none 0 0) := (blk_cell BK437.out 3).trans rfl; have hfz27_0 := blk_frozen BK437.out 0; have hfz27_1 := blk_frozen BK437.out 1; have hfz27_2 := blk_frozen BK437.out 2; have hfz27_3 := blk_frozen BK437.out 3; obtain ⟨Ao28, co28, eo28⟩ := Kd.S_slice HO434.out; subst eo28; have hcz29_0 : w25.cell? ⟨gb422, 0, none⟩ = some (.int .i64 a0_0) := (blk_cell BK422.out 0).trans rfl; have hcz29_1 : w25.cell? ⟨gb422, 1, none⟩ = some (.int .i64 a0_1) := (blk_cell BK422.out 1).trans rfl; have hcz29_2 : w25.cell? ⟨gb422, 2, none⟩ = some (.int .i64 a0_2) := (blk_cell BK422.out 2).trans rfl; have hcz29_3 : w25.cell? ⟨gb422, 3, none⟩ = some (.slice A0_3 l0_3.length c0_3) := (blk_cell BK422.out 3).trans rfl; have hfz29_0 := blk_frozen BK422.out 0; have hfz29_1 := blk_frozen BK422.out 1; have hfz29_2 := blk_frozen BK422.out 2; have hfz29_3 := blk_frozen BK422.out 3) | (go_at_call 16; (with_reducible refine (churnlaw06_alike.calls k a0_0 a0_1 a0_2 _ _ l0_3 t429 t430 t431 _ _ t432 true _ ?side1 ?side2 ?side3 ?side4 A20.out).mono ?_); (case side1 => exact Kd.C_below HR0_3.out (by repeat (first | (with_reducible first | exact HB.out | apply below_alloc | apply pw_below_drewN | apply below_drew1 | refine below_set ?_ GE422.out | refine below_set ?_ GE437.out) | exact HB.out))); (case side2 => exact HC0_3.out); (case side3 => refine (Kd.S_reads' (e := 30) (base := w.heap.size) (ok := fun k_ => (True ∧ some k_ ≠ (.slice Ao23 t425.length co23 : Value).ownBlock)) (n := t432.length) (c := co28) ?_).2.2; exact (by (with_reducible repeat (first | apply Kd.S_alloc | apply Kd.S_drewN | apply Kd.S_drew)); exact (Kd.S_mono (Kd.S_far (p := ⟨gb437, 3, none⟩) (Kd.S_far (p := ⟨gb437, 2, none⟩) (Kd.S_far (p := ⟨gb437, 1, none⟩) (Kd.S_far (p := ⟨gb437, 0, none⟩) (Kd.S_types HO434.out BK437.out (by decide)) (fun _ hk => hk.2) (.int .i64 t429)) (fun _ hk => hk.2) (.int .i64 t430)) (fun _ hk => hk.2) (.int .i64 t431)) (fun _ hk => hk.2) (.slice Ao28 t432.length co28)) (fun _ h_ => h_.1)))); (case side4 => exact (Kd.S_reads' HO434.out).2.1); rintro e w30 ⟨rfl, hb⟩; have n0_ := Aside0.mk (Kd.R_below (by (with_reducible repeat (first | apply Kd.R_alloc | apply Kd.R_drewN | apply Kd.R_drew)); exact (Kd.R_mono (Kd.R_far (p := ⟨gb437, 3, none⟩) (Kd.R_far (p := ⟨gb437, 2, none⟩) (Kd.R_far (p := ⟨gb437, 1, none⟩) (Kd.R_far (p := ⟨gb437, 0, none⟩) (Kd.R_types HO427.out BK437.out (by decide)) (fun _ hk => hk.2) (.int .i64 t429)) (fun _ hk => hk.2) (.int .i64 t430)) (fun _ hk => hk.2) (.int .i64 t431)) (fun _ hk => hk.2) (.slice Ao28 t432.length co28)) (fun _ h_ => h_.1))) hb); have n1_ := Aside0.mk (Kd.S_below (by (with_reducible repeat (first | apply Kd.S_alloc | apply Kd.S_drewN | apply Kd.S_drew)); exact (Kd.S_mono (Kd.S_far (p := ⟨gb437, 3, none⟩) (Kd.S_far (p := ⟨gb437, 2, none⟩) (Kd.S_far (p := ⟨gb437, 1, none⟩) (Kd.S_far (p := ⟨gb437, 0, none⟩) (Kd.S_types HO434.out BK437.out (by decide)) (fun _ hk => hk.2) (.int .i64 t429)) (fun _ hk => hk.2) (.int .i64 t430)) (fun _ hk => hk.2) (.int .i64 t431)) (fun _ hk => hk.2) (.slice Ao28 t432.length co28)) (fun _ h_ => h_.1))) hb); have n2_ := Aside0.mk (blk_below (g := gb422) (o := .cells #[.int .i64 a0_0, .int .i64 a0_1, .int .i64 a0_2, .slice A0_3 l0_3.length c0_3] 26 (0, 0)) (by (with_reducible repeat (first | refine blk_drewN ?_ _ | refine blk_drew ?_ | refine blk_alloc ?_ _)); refine blk_far ?_ NB422_437.out _; (with_reducible repeat (first | refine blk_drewN ?_ _ | refine blk_drew ?_ | refine blk_alloc ?_ _)); refine blk_far ?_ NB422_437.out _; (with_reducible repeat (first | refine blk_drewN ?_ _ | refine blk_drew ?_ | refine blk_alloc ?_ _)); refine blk_far ?_ NB422_437.out _; (with_reducible repeat (first | refine blk_drewN ?_ _ | refine blk_drew ?_ | refine blk_alloc ?_ _)); refine blk_far ?_ NB422_437.out _; (with_reducible repeat (first | refine blk_drewN ?_ _ | refine blk_drew ?_ | refine blk_alloc ?_ _)); exact BK422.out) hb); have n3_ := Aside0.mk (blk_below (g := gb437) (o := .cells #[.int .i64 t429, .int .i64 t430, .int .i64 t431, .slice Ao28 t432.length co28] 26 (0, 0)) (by (with_reducible repeat (first | refine blk_drewN ?_ _ | refine blk_drew ?_ | refine blk_alloc ?_ _)); refine blk_put (cs := #[.int .i64 t429, .int .i64 t430, .int .i64 t431, .slice none 0 0]) ?_ 3 _ rfl; (with_reducible repeat (first | refine blk_drewN ?_ _ | refine blk_drew ?_ | refine blk_alloc ?_ _)); refine blk_put (cs := #[.int .i64 t429, .int .i64 t430, .int .i64 0, .slice none 0 0]) ?_ 2 _ rfl; (with_reducible repeat (first | refine blk_drewN ?_ _ | refine blk_drew ?_ | refine blk_alloc ?_ _)); refine blk_put (cs := #[.int .i64 t429, .int .i64 0, .int .i64 0, .slice none 0 0]) ?_ 1 _ rfl; (with_reducible repeat (first | refine blk_drewN ?_ _ | refine blk_drew ?_ | refine blk_alloc ?_ _)); refine blk_put (cs := #[.int .i64 0, .int .i64 0, .int .i64 0, .slice none 0 0]) ?_ 0 _ rfl; (with_reducible repeat (first | refine blk_drewN ?_ _ | refine blk_drew ?_ | refine blk_alloc ?_ _)); exact BK437.out) hb); have n4_ := Aside0.mk (below_step (by repeat (first | (with_reducible first | exact HB.out | apply below_alloc | apply pw_below_drewN | apply below_drew1 | refine below_set ?_ GE422.out | refine below_set ?_ GE437.out) | exact HB.out)) hb); clear HO427; clear HO434; clear BK422; clear BK437; clear HB; have HO427 := n0_; have HO434 := n1_; have BK422 := n2_; have BK437 := n3_; have HB := n4_; clear n0_ n1_ n2_ n3_ n4_; (try clear hb); (try clear hb2); (try clear hk); (try clear hi); have hcz31_0 : w30.cell? ⟨gb422, 0, none⟩ = some (.int .i64 a0_0) := (blk_cell BK422.out 0).trans rfl; have hcz31_1 : w30.cell? ⟨gb422, 1, none⟩ = some (.int .i64 a0_1) := (blk_cell BK422.out 1).trans rfl; have hcz31_2 : w30.cell? ⟨gb422, 2, none⟩ = some (.int .i64 a0_2) := (blk_cell BK422.out 2).trans rfl; have hcz31_3 : w30.cell? ⟨gb422, 3, none⟩ = some (.slice A0_3 l0_3.length c0_3) := (blk_cell BK422.out 3).trans rfl; have hfz31_0 := blk_frozen BK422.out 0; have hfz31_1 := blk_frozen BK422.out 1; have hfz31_2 := blk_frozen BK422.out 2; have hfz31_3 := blk_frozen BK422.out 3))
                  go_meet
                  case rel => exact ⟨_, H', ⟨by first | omega | exact Nat.le_refl _⟩, ⟨by (with_reducible repeat (first | refine blk_drewN ?_ _ | refine blk_drew ?_ | refine blk_alloc ?_ _)); exact BK422.out⟩, ⟨by repeat (first | (with_reducible first | exact HB.out | apply below_alloc | apply pw_below_drewN | apply below_drew1 | refine below_set ?_ GE422.out | refine below_set ?_ GE437.out) | exact HB.out)⟩⟩
                · rw [if_neg c22] at H
                  have c22b0 : ((t425.length : Int) == (wrap64 (28 + (wrap64 (322 * (l0_3.length : Int)))))) = false := beq_eq_false_iff_ne.mpr c22
                  have c22b1 : ((t425.length : Int) != (wrap64 (28 + (wrap64 (322 * (l0_3.length : Int)))))) = true := bne_iff_ne.mpr c22
                  obtain rfl := Option.some.inj H
                  exact absurd HR_.out (by decide)
              · replace c21 := Bool.eq_false_iff.mpr c21
                subst c21
                have H1 : (some false) = some r := by rw [if_neg (show ¬ (false = true) by decide)] at H; exact H
                clear H
                have H := H1
                clear H1
                obtain rfl := Option.some.inj H
                exact absurd HR_.out (by decide)
            · rw [if_neg c19] at H
              have c19b0 : (t435 == 0) = false := beq_eq_false_iff_ne.mpr c19
              have c19b1 : (t435 != 0) = true := bne_iff_ne.mpr c19
              obtain rfl := Option.some.inj H
              exact absurd HR_.out (by decide)
          · rw [if_neg c18] at H
            have c18b0 : (t436 == 0) = false := beq_eq_false_iff_ne.mpr c18
            have c18b1 : (t436 != 0) = true := bne_iff_ne.mpr c18
            obtain rfl := Option.some.inj H
            exact absurd HR_.out (by decide)
        · rw [if_neg c16] at H
          have c16b0 : (t428 == 0) = false := beq_eq_false_iff_ne.mpr c16
          have c16b1 : (t428 != 0) = true := bne_iff_ne.mpr c16
          (first | rw [c16b0] | (simp only [i64_w, i32_w]; rw [c16b0]) | skip)
          have H' := Aside0.mk H
          clear H
          go_wp2
          go_meet
          case rel => exact ⟨_, H', ⟨by first | omega | exact Nat.le_refl _⟩, ⟨by (with_reducible repeat (first | refine blk_drewN ?_ _ | refine blk_drew ?_ | refine blk_alloc ?_ _)); exact BK422.out⟩, ⟨by repeat (first | (with_reducible first | exact HB.out | apply below_alloc | apply pw_below_drewN | apply below_drew1 | refine below_set ?_ GE422.out) | exact HB.out)⟩⟩
      case rest =>
        clear HC11
        try clear c1
        try clear c2
        try clear p2
        try clear c4
        try clear c5
        try clear c6
        try clear p6
        try clear c10
        try clear c11
        try clear c14
        try clear c16
        try clear c16b0
        try clear c16b1
        try clear c18
        try clear c18b0
        try clear c18b1
        try clear c19
        try clear c19b0
        try clear c19b1
        try clear c21
        try clear c22
        try clear c22b0
        try clear c22b1
        try clear c26
        try clear hcz14_0
        try clear hcz14_1
        try clear hcz14_2
        try clear hcz14_3
        try clear hcz27_0
        try clear hcz27_1
        try clear hcz27_2
        try clear hcz27_3
        try clear hcz29_0
        try clear hcz29_1
        try clear hcz29_2
        try clear hcz29_3
        try clear hcz31_0
        try clear hcz31_1
        try clear hcz31_2
        try clear hcz31_3
        try clear hcz9_0
        try clear hcz9_1
        try clear hcz9_2
        try clear hcz9_3
        try clear hfz14_0
        try clear hfz14_1
        try clear hfz14_2
        try clear hfz14_3
        try clear hfz27_0
        try clear hfz27_1
        try clear hfz27_2
        try clear hfz27_3
        try clear hfz29_0
        try clear hfz29_1
        try clear hfz29_2
        try clear hfz29_3
        try clear hfz31_0
        try clear hfz31_1
        try clear hfz31_2
        try clear hfz31_3
        try clear hfz9_0
        try clear hfz9_1
        try clear hfz9_2
        try clear hfz9_3
        obtain ⟨kq, HA, HJ10, BK422, HB⟩ := hcut
        cases kq with
        | zero => exact absurd HA.out (by simp [churnlaw06_FrameBack.j0])
        | succ kj10 =>
          have H := HA.out
          clear HA
          simp only [churnlaw06_FrameBack.j0] at H
          replace H := Option.bind_eq_some_iff.mp H
          obtain ⟨⟨t439, t440, t441, t442, t445, t446⟩, A320, H⟩ := H
          replace H : (if t446 = 0 then ((frame_Pack.f kj10 t439 t440 t441 t442).bind fun bt448 => (if bt448.2 = 0 then ((churnlaw06_same.f bt448.1 l1).bind fun t452 => (some t452)) else (some false))) else (if (t442.length : Int) = 0 then (if (t439 == 0 && (t440 == 0 && (t441 == 0))) = true then (if t445 ≥ 0 then (some (decide (t445 ≤ (l1.length : Int)))) else (some false)) else (some false)) else (some false))) = some r := H
          have A32 := Aside0.mk A320
          clear A320
          by_cases c33 : t446 = 0
          · rw [if_pos c33] at H
            have c33b0 : (t446 == 0) = true := beq_iff_eq.mpr c33
            have c33b1 : (t446 != 0) = false := bne_eq_false_iff_eq.mpr c33
            clear c33
            replace H := Option.bind_eq_some_iff.mp H
            obtain ⟨⟨t448, t451⟩, A340, H⟩ := H
            replace H : (if t451 = 0 then ((churnlaw06_same.f t448 l1).bind fun t452 => (some t452)) else (some false)) = some r := H
            have A34 := Aside0.mk A340
            clear A340
            by_cases c35 : t451 = 0
            · rw [if_pos c35] at H
              have c35b0 : (t451 == 0) = true := beq_iff_eq.mpr c35
              have c35b1 : (t451 != 0) = false := bne_eq_false_iff_eq.mpr c35
              clear c35
              replace H := Option.bind_eq_some_iff.mp H
              obtain ⟨t452, A360, H⟩ := H
              replace H : (some t452) = some r := H
              have A36 := Aside0.mk A360
              clear A360
              obtain rfl := Option.some.inj H
              simp only [Option.some.injEq, Prod.mk.injEq] at H
              obtain ⟨rfl⟩ := H
              go_wp2_with (first | ((with_reducible refine gate_callee (f := 18) rfl ?_); refine goesL_ (some 57) rfl rfl Try.func18 (by kernel_rfl) rfl #[.slice A1 l1.length c1] rfl (by (try simp only [List.map_toArray, List.map_cons, List.map_nil]); first | done | rfl | (simp only [List.length_drop, List.length_take]; rfl)) ?_; (with_reducible refine (frame_Read.calls _ _ l1 t439 t440 t441 t442 t445 t446 _ ?side1 ?side2 A32.out).mono ?_); (case side1 => repeat (first | exact (Kd.C_below HR1.out HB.out) | (with_reducible refine Kd.C_alloc ?_ _) | (with_reducible refine Kd.C_drewN ?_ _) | (with_reducible refine Kd.C_drew ?_))); (case side2 => exact HC1.out); rintro e w37 ⟨v443, rfl, ho0, hb⟩; refine ⟨_, rfl, ?_⟩; have n0_ := Aside0.mk (Kd.S_lower ho0 (below_size (by repeat (first | (with_reducible first | exact HB.out | apply below_alloc | apply pw_below_drewN | apply below_drew1 | refine below_set ?_ GE422.out) | exact HB.out)))); have n1_ := Aside0.mk (blk_below (g := gb422) (o := .cells #[.int .i64 a0_0, .int .i64 a0_1, .int .i64 a0_2, .slice A0_3 l0_3.length c0_3] 26 (0, 0)) (by (with_reducible repeat (first | refine blk_drewN ?_ _ | refine blk_drew ?_ | refine blk_alloc ?_ _)); exact BK422.out) hb); have n2_ := Aside0.mk (below_step (by repeat (first | (with_reducible first | exact HB.out | apply below_alloc | apply pw_below_drewN | apply below_drew1 | refine below_set ?_ GE422.out) | exact HB.out)) hb); clear BK422; clear HB; have HO444 := n0_; have BK422 := n1_; have HB := n2_; clear n0_ n1_ n2_; (try clear hb); (try clear hb2); (try clear hk); (try clear hi); (try clear ho0)) | ((with_reducible refine gate_dst (N := 10) rfl ?_); (try (refine gate_guard (by rfl) ?_; dsimp only)); refine box_event ?hg (N := 10) ?hd (cs := #[.int .i64 0, .int .i64 0, .int .i64 0, .slice none 0 0]) (t := 26) ?hr ?_; (case hd => rfl); (case hg => rfl); (case hr => first | (go_simp; done) | (go_simp; rfl)); intro gb447 hg w38 hbox hb; have n0_ := Aside0.mk (Kd.S_below (by (with_reducible repeat (first | apply Kd.S_alloc | apply Kd.S_drewN | apply Kd.S_drew)); exact HO444.out) hb); have n1_ := Aside0.mk (blk_below (g := gb422) (o := .cells #[.int .i64 a0_0, .int .i64 a0_1, .int .i64 a0_2, .slice A0_3 l0_3.length c0_3] 26 (0, 0)) (by (with_reducible repeat (first | refine blk_drewN ?_ _ | refine blk_drew ?_ | refine blk_alloc ?_ _)); exact BK422.out) hb); have n2_ := Aside0.mk (below_step (by repeat (first | (with_reducible first | exact HB.out | apply below_alloc | apply pw_below_drewN | apply below_drew1 | refine below_set ?_ GE422.out) | exact HB.out)) hb); have n3_ := Aside0.mk (hbox); have n4_ := Aside0.mk ((by rw [hg]; exact (below_size (by repeat (first | (with_reducible first | exact HB.out | apply below_alloc | apply pw_below_drewN | apply below_drew1 | refine below_set ?_ GE422.out) | exact HB.out))) : w.heap.size ≤ gb447)); have n5_ := Aside0.mk ((by rw [hg]; exact (below_size (by repeat (first | (with_reducible first | exact HB.out | apply below_alloc | apply pw_below_drewN | apply below_drew1 | refine below_set ?_ GE422.out) | exact HB.out))) : w.heap.size ≤ gb447)); have n6_ := Aside0.mk ((by rw [hg]; exact Nat.ne_of_lt (blk_lt (g := gb422) (o := .cells #[.int .i64 a0_0, .int .i64 a0_1, .int .i64 a0_2, .slice A0_3 l0_3.length c0_3] 26 (0, 0)) (by (with_reducible repeat (first | refine blk_drewN ?_ _ | refine blk_drew ?_ | refine blk_alloc ?_ _)); exact BK422.out)) : gb422 ≠ gb447)); have n7_ := Aside0.mk ((by rw [hg]; exact Nat.ne_of_gt (blk_lt (g := gb422) (o := .cells #[.int .i64 a0_0, .int .i64 a0_1, .int .i64 a0_2, .slice A0_3 l0_3.length c0_3] 26 (0, 0)) (by (with_reducible repeat (first | refine blk_drewN ?_ _ | refine blk_drew ?_ | refine blk_alloc ?_ _)); exact BK422.out)) : gb447 ≠ gb422)); clear HO444; clear BK422; clear HB; have HO444 := n0_; have BK422 := n1_; have HB := n2_; have BK447 := n3_; have GW447 := n4_; have GE447 := n5_; have NB422_447 := n6_; have NB447_422 := n7_; clear n0_ n1_ n2_ n3_ n4_ n5_ n6_ n7_; clear hb hbox hg; have hnb39 := NB447_422.out; have hnc39 := NB422_447.out; have hcz40_0 : w38.cell? ⟨gb447, 0, none⟩ = some (.int .i64 0) := (blk_cell BK447.out 0).trans rfl; have hcz40_1 : w38.cell? ⟨gb447, 1, none⟩ = some (.int .i64 0) := (blk_cell BK447.out 1).trans rfl; have hcz40_2 : w38.cell? ⟨gb447, 2, none⟩ = some (.int .i64 0) := (blk_cell BK447.out 2).trans rfl; have hcz40_3 : w38.cell? ⟨gb447, 3, none⟩ = some (.slice none 0 0) := (blk_cell BK447.out 3).trans rfl; have hfz40_0 := blk_frozen BK447.out 0; have hfz40_1 := blk_frozen BK447.out 1; have hfz40_2 := blk_frozen BK447.out 2; have hfz40_3 := blk_frozen BK447.out 3; obtain ⟨Ao41, co41, eo41⟩ := Kd.S_slice HO444.out; subst eo41) | ((with_reducible refine gate_callee (f := 14) rfl ?_); refine goesL_ (some 85) rfl rfl Try.func14 (by kernel_rfl) rfl #[.agg #[.int .i64 t439, .int .i64 t440, .int .i64 t441, .slice Ao41 t442.length co41]] rfl (by (try simp only [List.map_toArray, List.map_cons, List.map_nil]); first | done | rfl | (simp only [List.length_drop, List.length_take]; rfl)) ?_; (with_reducible refine (frame_Pack.calls kj10 t439 t440 t441 _ _ t442 t448 t451 _ ?side1 ?side2 A34.out).mono ?_); (case side1 => refine (Kd.S_reads' (e := 30) (base := w.heap.size) (ok := fun k_ => True) (n := t442.length) (c := co41) ?_).2.2; exact (by (with_reducible repeat (first | apply Kd.S_alloc | apply Kd.S_drewN | apply Kd.S_drew)); exact (Kd.S_mono (Kd.S_far (p := ⟨gb447, 3, none⟩) (Kd.S_far (p := ⟨gb447, 2, none⟩) (Kd.S_far (p := ⟨gb447, 1, none⟩) (Kd.S_far (p := ⟨gb447, 0, none⟩) (Kd.S_types HO444.out BK447.out (by decide)) (fun _ hk => hk.2) (.int .i64 t439)) (fun _ hk => hk.2) (.int .i64 t440)) (fun _ hk => hk.2) (.int .i64 t441)) (fun _ hk => hk.2) (.slice Ao41 t442.length co41)) (fun _ h_ => h_.1)))); (case side2 => exact (Kd.S_reads' HO444.out).2.1); rintro e w42 ⟨v449, rfl, ho0, hb⟩; refine ⟨_, rfl, ?_⟩; have n0_ := Aside0.mk (Kd.S_elder' (by (with_reducible repeat (first | apply Kd.S_alloc | apply Kd.S_drewN | apply Kd.S_drew)); exact (Kd.S_mono (Kd.S_far (p := ⟨gb447, 3, none⟩) (Kd.S_far (p := ⟨gb447, 2, none⟩) (Kd.S_far (p := ⟨gb447, 1, none⟩) (Kd.S_far (p := ⟨gb447, 0, none⟩) (Kd.S_types HO444.out BK447.out (by decide)) (fun _ hk => hk.2) (.int .i64 t439)) (fun _ hk => hk.2) (.int .i64 t440)) (fun _ hk => hk.2) (.int .i64 t441)) (fun _ hk => hk.2) (.slice Ao41 t442.length co41)) (fun _ h_ => h_.1))) (Kd.R_base ho0) hb); have n1_ := Aside0.mk (Kd.R_lower ho0 (below_size (by repeat (first | (with_reducible first | exact HB.out | apply below_alloc | apply pw_below_drewN | apply below_drew1 | refine below_set ?_ GE422.out | refine below_set ?_ GE447.out) | exact HB.out)))); have n2_ := Aside0.mk (blk_below (g := gb422) (o := .cells #[.int .i64 a0_0, .int .i64 a0_1, .int .i64 a0_2, .slice A0_3 l0_3.length c0_3] 26 (0, 0)) (by (with_reducible repeat (first | refine blk_drewN ?_ _ | refine blk_drew ?_ | refine blk_alloc ?_ _)); refine blk_far ?_ NB422_447.out _; (with_reducible repeat (first | refine blk_drewN ?_ _ | refine blk_drew ?_ | refine blk_alloc ?_ _)); refine blk_far ?_ NB422_447.out _; (with_reducible repeat (first | refine blk_drewN ?_ _ | refine blk_drew ?_ | refine blk_alloc ?_ _)); refine blk_far ?_ NB422_447.out _; (with_reducible repeat (first | refine blk_drewN ?_ _ | refine blk_drew ?_ | refine blk_alloc ?_ _)); refine blk_far ?_ NB422_447.out _; (with_reducible repeat (first | refine blk_drewN ?_ _ | refine blk_drew ?_ | refine blk_alloc ?_ _)); exact BK422.out) hb); have n3_ := Aside0.mk (blk_below (g := gb447) (o := .cells #[.int .i64 t439, .int .i64 t440, .int .i64 t441, .slice Ao41 t442.length co41] 26 (0, 0)) (by (with_reducible repeat (first | refine blk_drewN ?_ _ | refine blk_drew ?_ | refine blk_alloc ?_ _)); refine blk_put (cs := #[.int .i64 t439, .int .i64 t440, .int .i64 t441, .slice none 0 0]) ?_ 3 _ rfl; (with_reducible repeat (first | refine blk_drewN ?_ _ | refine blk_drew ?_ | refine blk_alloc ?_ _)); refine blk_put (cs := #[.int .i64 t439, .int .i64 t440, .int .i64 0, .slice none 0 0]) ?_ 2 _ rfl; (with_reducible repeat (first | refine blk_drewN ?_ _ | refine blk_drew ?_ | refine blk_alloc ?_ _)); refine blk_put (cs := #[.int .i64 t439, .int .i64 0, .int .i64 0, .slice none 0 0]) ?_ 1 _ rfl; (with_reducible repeat (first | refine blk_drewN ?_ _ | refine blk_drew ?_ | refine blk_alloc ?_ _)); refine blk_put (cs := #[.int .i64 0, .int .i64 0, .int .i64 0, .slice none 0 0]) ?_ 0 _ rfl; (with_reducible repeat (first | refine blk_drewN ?_ _ | refine blk_drew ?_ | refine blk_alloc ?_ _)); exact BK447.out) hb); have n4_ := Aside0.mk (below_step (by repeat (first | (with_reducible first | exact HB.out | apply below_alloc | apply pw_below_drewN | apply below_drew1 | refine below_set ?_ GE422.out | refine below_set ?_ GE447.out) | exact HB.out)) hb); clear HO444; clear BK422; clear BK447; clear HB; have HO444 := n0_; have HO450 := n1_; have BK422 := n2_; have BK447 := n3_; have HB := n4_; clear n0_ n1_ n2_ n3_ n4_; (try clear hb); (try clear hb2); (try clear hk); (try clear hi); (try clear ho0); obtain ⟨Ao43, co43, eo43⟩ := Kd.R_slice HO450.out; subst eo43) | (go_at_call 15; (with_reducible refine (churnlaw06_same.calls _ _ t448 _ _ l1 t452 _ ?side1 ?side2 ?side3 ?side4 A36.out).mono ?_); (case side1 => repeat (first | exact (Kd.R_reads' HO450.out).2.2 | (with_reducible refine Kd.C_alloc ?_ _) | (with_reducible refine Kd.C_drewN ?_ _) | (with_reducible refine Kd.C_drew ?_))); (case side2 => exact (Kd.R_reads' HO450.out).2.1); (case side3 => repeat (first | exact (Kd.C_below HR1.out HB.out) | (with_reducible refine Kd.C_alloc ?_ _) | (with_reducible refine Kd.C_drewN ?_ _) | (with_reducible refine Kd.C_drew ?_))); (case side4 => exact HC1.out); rintro e w' ⟨rfl, ⟨nd, rfl⟩⟩))
              go_ret
              exact ⟨by first | rfl | (simp [errW_none, errW_some] <;> rfl) | (simp [*, errW_none, errW_some] <;> rfl), by repeat (first | (with_reducible first | exact HB.out | apply below_alloc | apply pw_below_drewN | apply below_drew1 | refine below_set ?_ GE422.out | refine below_set ?_ GE447.out) | exact HB.out)⟩
            · rw [if_neg c35] at H
              have c35b0 : (t451 == 0) = false := beq_eq_false_iff_ne.mpr c35
              have c35b1 : (t451 != 0) = true := bne_iff_ne.mpr c35
              obtain rfl := Option.some.inj H
              exact absurd HR_.out (by decide)
          · rw [if_neg c33] at H
            have c33b0 : (t446 == 0) = false := beq_eq_false_iff_ne.mpr c33
            have c33b1 : (t446 != 0) = true := bne_iff_ne.mpr c33
            by_cases c44 : (t442.length : Int) = 0
            · rw [if_pos c44] at H
              have c44b0 : ((t442.length : Int) == 0) = true := beq_iff_eq.mpr c44
              have c44b1 : ((t442.length : Int) != 0) = false := bne_eq_false_iff_eq.mpr c44
              clear c44
              by_cases c45 : (t439 == 0 && (t440 == 0 && (t441 == 0))) = true
              · rw [if_pos c45] at H
                have c45b0 : (t439 == 0 && (t440 == 0 && (t441 == 0))) = true := c45
                (try (have c45b1 : decide (t439 = 0 && (t440 == 0 && (t441 == 0))) = true := by simpa using c45))
                (try (have c45b2 : (t439 == 0 && (t440 == 0 && (t441 == 0))) = true := by simpa using c45))
                clear c45
                by_cases c46 : t445 ≥ 0
                · rw [if_pos c46] at H
                  have c46b0 : decide (0 ≤ t445) = true := decide_eq_true c46
                  clear c46
                  obtain rfl := Option.some.inj H
                  simp only [Option.some.injEq, Prod.mk.injEq] at H
                  obtain ⟨rfl⟩ := H
                  go_wp2_with (first | ((with_reducible refine gate_callee (f := 18) rfl ?_); refine goesL_ (some 57) rfl rfl Try.func18 (by kernel_rfl) rfl #[.slice A1 l1.length c1] rfl (by (try simp only [List.map_toArray, List.map_cons, List.map_nil]); first | done | rfl | (simp only [List.length_drop, List.length_take]; rfl)) ?_; (with_reducible refine (frame_Read.calls _ _ l1 t439 t440 t441 t442 t445 t446 _ ?side1 ?side2 A32.out).mono ?_); (case side1 => repeat (first | exact (Kd.C_below HR1.out HB.out) | (with_reducible refine Kd.C_alloc ?_ _) | (with_reducible refine Kd.C_drewN ?_ _) | (with_reducible refine Kd.C_drew ?_))); (case side2 => exact HC1.out); rintro e w47 ⟨v443, rfl, ho0, hb⟩; refine ⟨_, rfl, ?_⟩; have n0_ := Aside0.mk (Kd.S_lower ho0 (below_size (by repeat (first | (with_reducible first | exact HB.out | apply below_alloc | apply pw_below_drewN | apply below_drew1 | refine below_set ?_ GE422.out) | exact HB.out)))); have n1_ := Aside0.mk (blk_below (g := gb422) (o := .cells #[.int .i64 a0_0, .int .i64 a0_1, .int .i64 a0_2, .slice A0_3 l0_3.length c0_3] 26 (0, 0)) (by (with_reducible repeat (first | refine blk_drewN ?_ _ | refine blk_drew ?_ | refine blk_alloc ?_ _)); exact BK422.out) hb); have n2_ := Aside0.mk (below_step (by repeat (first | (with_reducible first | exact HB.out | apply below_alloc | apply pw_below_drewN | apply below_drew1 | refine below_set ?_ GE422.out) | exact HB.out)) hb); clear BK422; clear HB; have HO444 := n0_; have BK422 := n1_; have HB := n2_; clear n0_ n1_ n2_; (try clear hb); (try clear hb2); (try clear hk); (try clear hi); (try clear ho0)) | ((with_reducible refine gate_dst (N := 10) rfl ?_); (try (refine gate_guard (by rfl) ?_; dsimp only)); refine box_event ?hg (N := 10) ?hd (cs := #[.int .i64 0, .int .i64 0, .int .i64 0, .slice none 0 0]) (t := 26) ?hr ?_; (case hd => rfl); (case hg => rfl); (case hr => first | (go_simp; done) | (go_simp; rfl)); intro gb447 hg w48 hbox hb; have n0_ := Aside0.mk (Kd.S_below (by (with_reducible repeat (first | apply Kd.S_alloc | apply Kd.S_drewN | apply Kd.S_drew)); exact HO444.out) hb); have n1_ := Aside0.mk (blk_below (g := gb422) (o := .cells #[.int .i64 a0_0, .int .i64 a0_1, .int .i64 a0_2, .slice A0_3 l0_3.length c0_3] 26 (0, 0)) (by (with_reducible repeat (first | refine blk_drewN ?_ _ | refine blk_drew ?_ | refine blk_alloc ?_ _)); exact BK422.out) hb); have n2_ := Aside0.mk (below_step (by repeat (first | (with_reducible first | exact HB.out | apply below_alloc | apply pw_below_drewN | apply below_drew1 | refine below_set ?_ GE422.out) | exact HB.out)) hb); have n3_ := Aside0.mk (hbox); have n4_ := Aside0.mk ((by rw [hg]; exact (below_size (by repeat (first | (with_reducible first | exact HB.out | apply below_alloc | apply pw_below_drewN | apply below_drew1 | refine below_set ?_ GE422.out) | exact HB.out))) : w.heap.size ≤ gb447)); have n5_ := Aside0.mk ((by rw [hg]; exact (below_size (by repeat (first | (with_reducible first | exact HB.out | apply below_alloc | apply pw_below_drewN | apply below_drew1 | refine below_set ?_ GE422.out) | exact HB.out))) : w.heap.size ≤ gb447)); have n6_ := Aside0.mk ((by rw [hg]; exact Nat.ne_of_lt (blk_lt (g := gb422) (o := .cells #[.int .i64 a0_0, .int .i64 a0_1, .int .i64 a0_2, .slice A0_3 l0_3.length c0_3] 26 (0, 0)) (by (with_reducible repeat (first | refine blk_drewN ?_ _ | refine blk_drew ?_ | refine blk_alloc ?_ _)); exact BK422.out)) : gb422 ≠ gb447)); have n7_ := Aside0.mk ((by rw [hg]; exact Nat.ne_of_gt (blk_lt (g := gb422) (o := .cells #[.int .i64 a0_0, .int .i64 a0_1, .int .i64 a0_2, .slice A0_3 l0_3.length c0_3] 26 (0, 0)) (by (with_reducible repeat (first | refine blk_drewN ?_ _ | refine blk_drew ?_ | refine blk_alloc ?_ _)); exact BK422.out)) : gb447 ≠ gb422)); clear HO444; clear BK422; clear HB; have HO444 := n0_; have BK422 := n1_; have HB := n2_; have BK447 := n3_; have GW447 := n4_; have GE447 := n5_; have NB422_447 := n6_; have NB447_422 := n7_; clear n0_ n1_ n2_ n3_ n4_ n5_ n6_ n7_; clear hb hbox hg; have hnb49 := NB447_422.out; have hnc49 := NB422_447.out; have hcz50_0 : w48.cell? ⟨gb447, 0, none⟩ = some (.int .i64 0) := (blk_cell BK447.out 0).trans rfl; have hcz50_1 : w48.cell? ⟨gb447, 1, none⟩ = some (.int .i64 0) := (blk_cell BK447.out 1).trans rfl; have hcz50_2 : w48.cell? ⟨gb447, 2, none⟩ = some (.int .i64 0) := (blk_cell BK447.out 2).trans rfl; have hcz50_3 : w48.cell? ⟨gb447, 3, none⟩ = some (.slice none 0 0) := (blk_cell BK447.out 3).trans rfl; have hfz50_0 := blk_frozen BK447.out 0; have hfz50_1 := blk_frozen BK447.out 1; have hfz50_2 := blk_frozen BK447.out 2; have hfz50_3 := blk_frozen BK447.out 3; obtain ⟨Ao51, co51, eo51⟩ := Kd.S_slice HO444.out; subst eo51))
                  go_ret
                  exact ⟨by first | rfl | (simp [errW_none, errW_some] <;> rfl) | (simp [*, errW_none, errW_some] <;> rfl), by repeat (first | (with_reducible first | exact HB.out | apply below_alloc | apply pw_below_drewN | apply below_drew1 | refine below_set ?_ GE422.out | refine below_set ?_ GE447.out) | exact HB.out)⟩
                · rw [if_neg c46] at H
                  have c46b0 : decide (0 ≤ t445) = false := decide_eq_false c46
                  clear c46
                  obtain rfl := Option.some.inj H
                  exact absurd HR_.out (by decide)
              · rw [if_neg c45] at H
                have c45b0 : (t439 == 0 && (t440 == 0 && (t441 == 0))) = false := by simpa using c45
                (try (have c45b1 : decide (t439 = 0 && (t440 == 0 && (t441 == 0))) = false := by simpa using c45))
                (try (have c45b2 : (t439 == 0 && (t440 == 0 && (t441 == 0))) = false := by simpa using c45))
                (try (have c45b3 : ¬ (t439 = 0 && (t440 == 0 && (t441 == 0))) := by simpa using c45))
                clear c45
                obtain rfl := Option.some.inj H
                exact absurd HR_.out (by decide)
            · rw [if_neg c44] at H
              have c44b0 : ((t442.length : Int) == 0) = false := beq_eq_false_iff_ne.mpr c44
              have c44b1 : ((t442.length : Int) != 0) = true := bne_iff_ne.mpr c44
              have c44b2 : ¬ (t442 = []) := fun h_ => c44 (by rw [h_]; rfl)
              obtain rfl := Option.some.inj H
              exact absurd HR_.out (by decide)
  · replace c4 := Bool.eq_false_iff.mpr c4
    subst c4
    have H1 : (some false) = some r := by rw [if_neg (show ¬ (false = true) by decide)] at H; exact H
    clear H
    have H := H1
    clear H1
    obtain rfl := Option.some.inj H
    exact absurd HR_.out (by decide)

end Go.Proofs.Ythkcadmjfkcbgaa.Q
