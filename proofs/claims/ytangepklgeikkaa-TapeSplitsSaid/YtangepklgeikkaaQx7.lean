/- Functions of the program as plain Lean functions, each with a proof that its call comes to just these answers, or the row that joins them to the given statement; no condition beside the statement's own. Written for this claim by pf.py, this session's program over the kit's print. -/
import Derived.Test.YtangepklgeikkaaQx0
import Derived.Test.YtangepklgeikkaaQx6
namespace Go.Proofs.Ytangepklgeikkaa.Q
open Go.RowKit Go.Proofs.YtangepklgeikkaaW.PrintWords Go.Proofs.YtangepklgeikkaaW.PrintLast Go.Proofs.YtangepklgeikkaaW.PrintMore
attribute [local go_sem] max2_int min2_int max_two min_two max_three min_three max_four min_four   -- for this text's walks alone
set_option linter.unusedVariables false
set_option linter.unusedSimpArgs false

/-! ### churnref09_Split: function 17 -/
mutual
def churnref09_Split.j0 : Nat → List Int → Int → Bool → Option (List Int × List Int × (List (List Int)) × Int)
  | 0, _, _, _ => none
  | k + 1, x0, x1, x16 => if x16 = true then (some (([] : List Int), ([] : List Int), ([] : List (List Int)), 2)) else (if (x0.length : Int) < 18 then (some (([] : List Int), ([] : List Int), ([] : List (List Int)), 3)) else (if 18 ≤ (x0.length : Int) then ((churnref09_copied.f (x0.take 18)).bind fun t220 => ((some (x0.drop 18 : List Int)).bind fun y223 => (if 0 ≤ (wrap64 ((y223.length : Int) / 2)) then (if (wrap64 ((y223.length : Int) / 2)) ≤ (y223.length : Int) then ((churnref09_copied.f (y223.take ((wrap64 ((y223.length : Int) / 2)) : Int).toNat)).bind fun t231 => ((some (y223.drop ((wrap64 ((y223.length : Int) / 2)) : Int).toNat : List Int)).bind fun y234 => (if x1 = 0 then (none) else (churnref09_Split.l0 k x1 y234 (wrap64 ((y234.length : Int) / x1)) 0 t220 t231 ([] : List (List Int)))))) else (none)) else (none)))) else (none)))
def churnref09_Split.l0 : Nat → Int → List Int → Int → Int → List Int → List Int → List (List Int) → Option (List Int × List Int × (List (List Int)) × Int)
  | 0, _, _, _, _, _, _, _ => none
  | k + 1, x1, x7, x9, x10, x216000, x216001, x216002 => if x10 < x1 then (if 0 ≤ (wrap64 (x10 * x9)) then (if (wrap64 (x10 * x9)) ≤ (wrap64 ((wrap64 (x10 * x9)) + x9)) then (if (wrap64 ((wrap64 (x10 * x9)) + x9)) ≤ (x7.length : Int) then ((churnref09_copied.f ((x7.take ((wrap64 ((wrap64 (x10 * x9)) + x9)) : Int).toNat).drop ((wrap64 (x10 * x9)) : Int).toNat)).bind fun t242 => (if x216002.length < 5864062014805 then (churnref09_Split.l0 k x1 x7 x9 (wrap64 (x10 + 1)) x216000 x216001 (x216002 ++ [t242])) else (none))) else (none)) else (none)) else (none)) else (some (x216000, x216001, x216002, 0))
end
def churnref09_Split.f (k : Nat) (l0 : List Int) (a1 : Int) : Option (List Int × List Int × (List (List Int)) × Int) := if a1 < 1 then (churnref09_Split.j0 k l0 a1 true) else (churnref09_Split.j0 k l0 a1 (decide (a1 > 64)))
theorem churnref09_Split.mono_l : ∀ k, (∀ y0 y1 y2, LeO (churnref09_Split.j0 k y0 y1 y2) (churnref09_Split.j0 (k + 1) y0 y1 y2)) ∧ (∀ y0 y1 y2 y3 y4 y5 y6, LeO (churnref09_Split.l0 k y0 y1 y2 y3 y4 y5 y6) (churnref09_Split.l0 (k + 1) y0 y1 y2 y3 y4 y5 y6))
  | 0 => ⟨fun _ _ _ r h => by simp [churnref09_Split.j0] at h, fun _ _ _ _ _ _ _ r h => by simp [churnref09_Split.l0] at h⟩
  | k + 1 => by
    obtain ⟨ih0, ih1⟩ := churnref09_Split.mono_l k
    refine ⟨?_, ?_⟩
    · intro y0 y1 y2
      unfold churnref09_Split.j0
      repeat' first
      | (with_reducible exact ih0 _ _ _)
      | (with_reducible exact ih1 _ _ _ _ _ _ _)
      | (with_reducible exact LeO.refl _)
      | (with_reducible exact LeO.none _)
      | (with_reducible refine LeO.ite ?_ ?_)
      | (with_reducible refine LeO.bind ?_ (fun _ => ?_))
      | exact ih0 _ _ _
      | exact ih1 _ _ _ _ _ _ _
      | exact LeO.none _
      | refine LeO.ite ?_ ?_
      | refine LeO.bind ?_ (fun _ => ?_)
    · intro y0 y1 y2 y3 y4 y5 y6
      unfold churnref09_Split.l0
      repeat' first
      | (with_reducible exact ih0 _ _ _)
      | (with_reducible exact ih1 _ _ _ _ _ _ _)
      | (with_reducible exact LeO.refl _)
      | (with_reducible exact LeO.none _)
      | (with_reducible refine LeO.ite ?_ ?_)
      | (with_reducible refine LeO.bind ?_ (fun _ => ?_))
      | exact ih0 _ _ _
      | exact ih1 _ _ _ _ _ _ _
      | exact LeO.none _
      | refine LeO.ite ?_ ?_
      | refine LeO.bind ?_ (fun _ => ?_)
theorem churnref09_Split.mono : ∀ a0 a1 k, LeO (churnref09_Split.f k a0 a1) (churnref09_Split.f (k + 1) a0 a1) := by
  intro a0 a1 k
  obtain ⟨ih0, ih1⟩ := churnref09_Split.mono_l k
  unfold churnref09_Split.f
  repeat' first
      | (with_reducible exact ih0 _ _ _)
      | (with_reducible exact ih1 _ _ _ _ _ _ _)
      | (with_reducible exact LeO.refl _)
      | (with_reducible exact LeO.none _)
      | (with_reducible refine LeO.ite ?_ ?_)
      | (with_reducible refine LeO.bind ?_ (fun _ => ?_))
      | exact ih0 _ _ _
      | exact ih1 _ _ _ _ _ _ _
      | exact LeO.none _
      | refine LeO.ite ?_ ?_
      | refine LeO.bind ?_ (fun _ => ?_)
def churnref09_Split.T15 : Bool × List (List Nat × List Nat) := (true, [([], []), ([0], [0]), ([], []), ([], []), ([], []), ([3, 4], [3, 4]), ([], []), ([], []), ([6, 7], [6, 7]), ([], []), ([8, 9], [8, 9]), ([2, 5, 10], [2, 5, 10]), ([11], [11]), ([12], [12]), ([1, 13, 12], [1, 13]), ([0, 1, 2, 3, 4, 5, 6, 7, 8, 9, 10, 11, 12, 13, 14], []), ([15, 14, 14, 0, 1, 2, 3, 4, 5, 6, 7, 8, 9, 10, 11, 12, 13, 14], [14, 15])])
def churnref09_Split.B15 : List Nat := [0, 1, 0, 0, 0, 24, 0, 0, 192, 0, 960, 2044, 4092, 8188, 16383, 32767, 65535]
theorem churnref09_Split.tab15 : rtab .any (opsOf Try.f17 15) = churnref09_Split.T15 := by kernel_rfl
theorem churnref09_Split.bits15 : waitsOk churnref09_Split.T15.2 churnref09_Split.B15 = true := by kernel_rfl
set_option maxHeartbeats 8000000 in
set_option maxRecDepth 100000 in
theorem churnref09_Split.calls (k : Nat) (A0 : Option Addr) (c0 : Nat) (l0 : List Int) (a1 : Int) (r1 : List Int) (r2 : List Int) (r3 : List (List Int)) (r4 : Int) (w : World) (hr0 : Kd.C (Kd.int .u8) w A0 l0.length l0) (hc0 : l0.length ≤ c0) (h : churnref09_Split.f k l0 a1 = some (r1, r2, r3, r4)) :
    Calls Try.prog 17 #[.slice A0 l0.length c0, .int .i64 a1] w fun e w' => ∃ v0_ v1_ v2_ : Value, e = .returned (.tuple #[.agg #[v0_, v1_, v2_], .int .i64 r4]) ∧ Kd.R (Kd.int .u8) 5 w' w.heap.size (fun k_ => some k_ ≠ (v1_ : Value).ownBlock) v0_ r1 ∧ Kd.R (Kd.int .u8) 5 w' w.heap.size (fun k_ => some k_ ≠ (v0_ : Value).ownBlock) v1_ r2 ∧ Kd.S (Kd.slice 5 (Kd.int .u8)) 27 w' w.heap.size (fun k_ => some k_ ≠ (v0_ : Value).ownBlock ∧ some k_ ≠ (v1_ : Value).ownBlock) v2_ r3 ∧ Below w.heap.size w w' := by
  have hu50 := Try.underlying50
  have HR0 := Aside0.mk hr0
  have HC0 := Aside0.mk hc0
  clear hr0 hc0
  have HB := Aside0.mk (Below.refl w.heap.size w)
  have H : (if a1 < 1 then (churnref09_Split.j0 k l0 a1 true) else (churnref09_Split.j0 k l0 a1 (decide (a1 > 64)))) = some (r1, r2, r3, r4) := h
  clear h
  have HC3 := Aside0.mk H
  clear H
  go_enter Try.func17, Try.ntmps17
  go_upto_region 1 with (first | ((with_reducible refine gate_dst (N := 4) rfl ?_); refine box_event ?hg (N := 4) ?hd (cs := #[.slice none 0 0, .slice none 0 0, .slice none 0 0]) (t := 50) ?hr ?_; (case hd => rfl); (case hg => rfl); (case hr => first | (go_simp; done) | (go_simp; rfl)); intro gb214 hg w4 hbox hb; have n0_ := Aside0.mk (below_step (by repeat (first | (with_reducible first | exact HB.out | apply below_alloc | apply pw_below_drewN | apply below_drew1) | exact HB.out)) hb); have n1_ := Aside0.mk (hbox); have n2_ := Aside0.mk ((by rw [hg]; exact (below_size (by repeat (first | (with_reducible first | exact HB.out | apply below_alloc | apply pw_below_drewN | apply below_drew1) | exact HB.out))) : w.heap.size ≤ gb214)); have n3_ := Aside0.mk ((by rw [hg]; exact (below_size (by repeat (first | (with_reducible first | exact HB.out | apply below_alloc | apply pw_below_drewN | apply below_drew1) | exact HB.out))) : w.heap.size ≤ gb214)); clear HB; have HB := n0_; have BK214 := n1_; have GW214 := n2_; have GE214 := n3_; clear n0_ n1_ n2_ n3_; clear hb hbox hg))
  (try simp only [Act.put, List.setIfInBounds_toArray, List.set_cons_zero, List.set_cons_succ])
  go_cut [16] (fun v16 wc => ∃ (kq : Nat) (x16_2 : Bool), v16 = .bool x16_2 ∧ Aside0 (churnref09_Split.j0 kq l0 a1 x16_2 = some (r1, r2, r3, r4)) ∧ Aside0 (kq ≤ k) ∧ Aside0 (wc.heap[gb214]? = some (.cells #[(.slice none 0 0), (.slice none 0 0), (.slice none 0 0)] 50 (0, 0))) ∧ Aside0 (Below w.heap.size w wc))
  case first =>
    have H := HC3.out
    clear HC3
    by_cases c5 : a1 < 1
    · rw [if_pos c5] at H
      have c5b0 : decide (a1 < 1) = true := decide_eq_true c5
      clear c5
      (first | rw [c5b0] | (simp only [i64_w, i32_w]; rw [c5b0]) | skip)
      have H' := Aside0.mk H
      clear H
      go_wp2
      go_meet
      case rel => exact ⟨_, (true), (by first | rfl | (simp; done) | (simp [*]; done)), H', ⟨by first | omega | exact Nat.le_refl _⟩, ⟨by (with_reducible repeat (first | refine blk_drewN ?_ _ | refine blk_drew ?_ | refine blk_alloc ?_ _)); exact BK214.out⟩, ⟨by repeat (first | (with_reducible first | exact HB.out | apply below_alloc | apply pw_below_drewN | apply below_drew1 | refine below_set ?_ GE214.out) | exact HB.out)⟩⟩
    · rw [if_neg c5] at H
      have c5b0 : decide (a1 < 1) = false := decide_eq_false c5
      clear c5
      (first | rw [c5b0] | (simp only [i64_w, i32_w]; rw [c5b0]) | skip)
      have H' := Aside0.mk H
      clear H
      go_wp2
      go_meet
      case rel => exact ⟨_, (decide (a1 > 64)), (by first | rfl | (simp; done) | (simp [*]; done)), H', ⟨by first | omega | exact Nat.le_refl _⟩, ⟨by (with_reducible repeat (first | refine blk_drewN ?_ _ | refine blk_drew ?_ | refine blk_alloc ?_ _)); exact BK214.out⟩, ⟨by repeat (first | (with_reducible first | exact HB.out | apply below_alloc | apply pw_below_drewN | apply below_drew1 | refine below_set ?_ GE214.out) | exact HB.out)⟩⟩
  case rest =>
    clear HC3
    try clear c1
    try clear p2
    try clear c5
    try clear c5b0
    obtain ⟨kq, x16_2, rfl, HA, HJ2, BK214, HB⟩ := hcut
    cases kq with
    | zero => exact absurd HA.out (by simp [churnref09_Split.j0])
    | succ kj2 =>
      have H := HA.out
      clear HA
      simp only [churnref09_Split.j0] at H
      by_cases c6 : x16_2 = true
      · subst c6
        have H1 : (some (([] : List Int), ([] : List Int), ([] : List (List Int)), 2)) = some (r1, r2, r3, r4) := by rw [if_pos rfl] at H; exact H
        clear H
        have H := H1
        clear H1
        simp only [Option.some.injEq, Prod.mk.injEq] at H
        obtain ⟨rfl, rfl, rfl, rfl⟩ := H
        have hcz7_0 : wc.cell? ⟨gb214, 0, none⟩ = some (.slice none 0 0) := (blk_cell BK214.out 0).trans rfl
        have hcz7_1 : wc.cell? ⟨gb214, 1, none⟩ = some (.slice none 0 0) := (blk_cell BK214.out 1).trans rfl
        have hcz7_2 : wc.cell? ⟨gb214, 2, none⟩ = some (.slice none 0 0) := (blk_cell BK214.out 2).trans rfl
        have hfz7_0 := blk_frozen BK214.out 0
        have hfz7_1 := blk_frozen BK214.out 1
        have hfz7_2 := blk_frozen BK214.out 2
        go_wp2
        refine bodyPost_ret (results_ct rfl _ _ gb214 50 #[.slice none 0 0, .slice none 0 0, .slice none 0 0] (0, 0) _ rfl (by (with_reducible repeat (first | refine blk_drewN ?_ _ | refine blk_drew ?_ | refine blk_alloc ?_ _)); refine blk_put (cs := #[.slice none 0 0, .slice none 0 0, .slice none 0 0]) ?_ 2 _ rfl; (with_reducible repeat (first | refine blk_drewN ?_ _ | refine blk_drew ?_ | refine blk_alloc ?_ _)); refine blk_put (cs := #[.slice none 0 0, .slice none 0 0, .slice none 0 0]) ?_ 1 _ rfl; (with_reducible repeat (first | refine blk_drewN ?_ _ | refine blk_drew ?_ | refine blk_alloc ?_ _)); refine blk_put (cs := #[.slice none 0 0, .slice none 0 0, .slice none 0 0]) ?_ 0 _ rfl; (with_reducible repeat (first | refine blk_drewN ?_ _ | refine blk_drew ?_ | refine blk_alloc ?_ _)); exact BK214.out) Try.underlying50 rfl (by kernel_rfl)) rfl ?_
        exact ⟨_, _, _, by first | rfl | (simp [errW_none, errW_some] <;> rfl) | (simp [*, errW_none, errW_some] <;> rfl), by first | exact Kd.R_nil _ _ _ _ _ | exact Kd.N_nil _ _ _ _ _ | exact Kd.V_nil _ _ _ _ _ | exact Kd.Q_nil _ _ _ _ _ | exact Kd.S_nil _ _ _ _ _, by first | exact Kd.R_nil _ _ _ _ _ | exact Kd.N_nil _ _ _ _ _ | exact Kd.V_nil _ _ _ _ _ | exact Kd.Q_nil _ _ _ _ _ | exact Kd.S_nil _ _ _ _ _, by first | exact Kd.S_nil _ _ _ _ _ | exact Kd.N_nil _ _ _ _ _ | exact Kd.V_nil _ _ _ _ _ | exact Kd.Q_nil _ _ _ _ _ | exact Kd.R_nil _ _ _ _ _, by repeat (first | (with_reducible first | exact HB.out | apply below_alloc | apply pw_below_drewN | apply below_drew1 | refine below_set ?_ GE214.out) | exact HB.out)⟩
      · replace c6 := Bool.eq_false_iff.mpr c6
        subst c6
        have H1 : (if (l0.length : Int) < 18 then (some (([] : List Int), ([] : List Int), ([] : List (List Int)), 3)) else (if 18 ≤ (l0.length : Int) then ((churnref09_copied.f (l0.take 18)).bind fun t220 => ((some (l0.drop 18 : List Int)).bind fun y223 => (if 0 ≤ (wrap64 ((y223.length : Int) / 2)) then (if (wrap64 ((y223.length : Int) / 2)) ≤ (y223.length : Int) then ((churnref09_copied.f (y223.take ((wrap64 ((y223.length : Int) / 2)) : Int).toNat)).bind fun t231 => ((some (y223.drop ((wrap64 ((y223.length : Int) / 2)) : Int).toNat : List Int)).bind fun y234 => (if a1 = 0 then (none) else (churnref09_Split.l0 kj2 a1 y234 (wrap64 ((y234.length : Int) / a1)) 0 t220 t231 ([] : List (List Int)))))) else (none)) else (none)))) else (none))) = some (r1, r2, r3, r4) := by rw [if_neg (show ¬ (false = true) by decide)] at H; exact H
        clear H
        have H := H1
        clear H1
        by_cases c8 : (l0.length : Int) < 18
        · rw [if_pos c8] at H
          have c8b0 : decide ((l0.length : Int) < 18) = true := decide_eq_true c8
          have c8b1 : decide (l0.length < 18) = true := decide_eq_true (by omega)
          clear c8
          simp only [Option.some.injEq, Prod.mk.injEq] at H
          obtain ⟨rfl, rfl, rfl, rfl⟩ := H
          have hcz9_0 : wc.cell? ⟨gb214, 0, none⟩ = some (.slice none 0 0) := (blk_cell BK214.out 0).trans rfl
          have hcz9_1 : wc.cell? ⟨gb214, 1, none⟩ = some (.slice none 0 0) := (blk_cell BK214.out 1).trans rfl
          have hcz9_2 : wc.cell? ⟨gb214, 2, none⟩ = some (.slice none 0 0) := (blk_cell BK214.out 2).trans rfl
          have hfz9_0 := blk_frozen BK214.out 0
          have hfz9_1 := blk_frozen BK214.out 1
          have hfz9_2 := blk_frozen BK214.out 2
          go_wp2
          refine bodyPost_ret (results_ct rfl _ _ gb214 50 #[.slice none 0 0, .slice none 0 0, .slice none 0 0] (0, 0) _ rfl (by (with_reducible repeat (first | refine blk_drewN ?_ _ | refine blk_drew ?_ | refine blk_alloc ?_ _)); refine blk_put (cs := #[.slice none 0 0, .slice none 0 0, .slice none 0 0]) ?_ 2 _ rfl; (with_reducible repeat (first | refine blk_drewN ?_ _ | refine blk_drew ?_ | refine blk_alloc ?_ _)); refine blk_put (cs := #[.slice none 0 0, .slice none 0 0, .slice none 0 0]) ?_ 1 _ rfl; (with_reducible repeat (first | refine blk_drewN ?_ _ | refine blk_drew ?_ | refine blk_alloc ?_ _)); refine blk_put (cs := #[.slice none 0 0, .slice none 0 0, .slice none 0 0]) ?_ 0 _ rfl; (with_reducible repeat (first | refine blk_drewN ?_ _ | refine blk_drew ?_ | refine blk_alloc ?_ _)); exact BK214.out) Try.underlying50 rfl (by kernel_rfl)) rfl ?_
          exact ⟨_, _, _, by first | rfl | (simp [errW_none, errW_some] <;> rfl) | (simp [*, errW_none, errW_some] <;> rfl), by first | exact Kd.R_nil _ _ _ _ _ | exact Kd.N_nil _ _ _ _ _ | exact Kd.V_nil _ _ _ _ _ | exact Kd.Q_nil _ _ _ _ _ | exact Kd.S_nil _ _ _ _ _, by first | exact Kd.R_nil _ _ _ _ _ | exact Kd.N_nil _ _ _ _ _ | exact Kd.V_nil _ _ _ _ _ | exact Kd.Q_nil _ _ _ _ _ | exact Kd.S_nil _ _ _ _ _, by first | exact Kd.S_nil _ _ _ _ _ | exact Kd.N_nil _ _ _ _ _ | exact Kd.V_nil _ _ _ _ _ | exact Kd.Q_nil _ _ _ _ _ | exact Kd.R_nil _ _ _ _ _, by repeat (first | (with_reducible first | exact HB.out | apply below_alloc | apply pw_below_drewN | apply below_drew1 | refine below_set ?_ GE214.out) | exact HB.out)⟩
        · rw [if_neg c8] at H
          have c8b0 : decide ((l0.length : Int) < 18) = false := decide_eq_false c8
          have c8b1 : decide (l0.length < 18) = false := decide_eq_false (by omega)
          clear c8
          by_cases c10 : 18 ≤ (l0.length : Int)
          · rw [if_pos c10] at H
            have c10b0 := eq_true c10
            have c10b1 : decide (18 ≤ (l0.length : Int)) = true := decide_eq_true c10
            clear c10
            obtain ⟨y216, hy216⟩ : ∃ y_ : List Int, y_ = (l0.take 18) := ⟨_, rfl⟩
            replace H : ((churnref09_copied.f y216).bind fun t220 => ((some (l0.drop 18 : List Int)).bind fun y223 => (if 0 ≤ (wrap64 ((y223.length : Int) / 2)) then (if (wrap64 ((y223.length : Int) / 2)) ≤ (y223.length : Int) then ((churnref09_copied.f (y223.take ((wrap64 ((y223.length : Int) / 2)) : Int).toNat)).bind fun t231 => ((some (y223.drop ((wrap64 ((y223.length : Int) / 2)) : Int).toNat : List Int)).bind fun y234 => (if a1 = 0 then (none) else (churnref09_Split.l0 kj2 a1 y234 (wrap64 ((y234.length : Int) / a1)) 0 t220 t231 ([] : List (List Int)))))) else (none)) else (none)))) = some (r1, r2, r3, r4) := by first | (rw [hy216]; with_reducible exact H) | (have H2_ := (Option.bind_some _ _).symm.trans H; rw [hy216]; with_reducible exact H2_) | (have H2_ := (Option.bind_some _ _).symm.trans H; with_reducible exact H2_) | with_reducible exact H | (rw [hy216]; exact H) | exact H
            have Ny216 := Aside0.mk hy216
            clear hy216
            replace H := Option.bind_eq_some_iff.mp H
            obtain ⟨t220, A110, H⟩ := H
            replace H : ((some (l0.drop 18 : List Int)).bind fun y223 => (if 0 ≤ (wrap64 ((y223.length : Int) / 2)) then (if (wrap64 ((y223.length : Int) / 2)) ≤ (y223.length : Int) then ((churnref09_copied.f (y223.take ((wrap64 ((y223.length : Int) / 2)) : Int).toNat)).bind fun t231 => ((some (y223.drop ((wrap64 ((y223.length : Int) / 2)) : Int).toNat : List Int)).bind fun y234 => (if a1 = 0 then (none) else (churnref09_Split.l0 kj2 a1 y234 (wrap64 ((y234.length : Int) / a1)) 0 t220 t231 ([] : List (List Int)))))) else (none)) else (none))) = some (r1, r2, r3, r4) := H
            have A11 := Aside0.mk A110
            clear A110
            have c12b0 := eq_true (of_decide_eq_true (by first | (with_reducible assumption) | assumption) : 18 ≤ (l0.length : Int))
            obtain ⟨y223, hy223⟩ : ∃ y_ : List Int, y_ = (l0.drop 18) := ⟨_, rfl⟩
            replace H : (if 0 ≤ (wrap64 ((y223.length : Int) / 2)) then (if (wrap64 ((y223.length : Int) / 2)) ≤ (y223.length : Int) then ((churnref09_copied.f (y223.take ((wrap64 ((y223.length : Int) / 2)) : Int).toNat)).bind fun t231 => ((some (y223.drop ((wrap64 ((y223.length : Int) / 2)) : Int).toNat : List Int)).bind fun y234 => (if a1 = 0 then (none) else (churnref09_Split.l0 kj2 a1 y234 (wrap64 ((y234.length : Int) / a1)) 0 t220 t231 ([] : List (List Int)))))) else (none)) else (none)) = some (r1, r2, r3, r4) := by first | (rw [hy223]; with_reducible exact H) | (have H2_ := (Option.bind_some _ _).symm.trans H; rw [hy223]; with_reducible exact H2_) | (have H2_ := (Option.bind_some _ _).symm.trans H; with_reducible exact H2_) | with_reducible exact H | (rw [hy223]; exact H) | exact H
            have Ny223 := Aside0.mk hy223
            clear hy223
            obtain ⟨ji13, hji13⟩ : ∃ j_ : Int, (wrap64 ((y223.length : Int) / 2)) = j_ := ⟨_, rfl⟩
            replace H : (if 0 ≤ (ji13) then (if (ji13) ≤ (y223.length : Int) then ((churnref09_copied.f (y223.take ((ji13) : Int).toNat)).bind fun t231 => ((some (y223.drop ((ji13) : Int).toNat : List Int)).bind fun y234 => (if a1 = 0 then (none) else (churnref09_Split.l0 kj2 a1 y234 (wrap64 ((y234.length : Int) / a1)) 0 t220 t231 ([] : List (List Int)))))) else (none)) else (none)) = some (r1, r2, r3, r4) := by first | (rw [hji13] at H; exact H) | (simp only [hji13] at H ⊢; exact H)
            (try rw [hji13] at A11)
            have hji13w : (IntKind.i64.wrap ((y223.length : Int) / 2)) = ji13 := (i64_w _).trans hji13
            by_cases c14 : 0 ≤ (ji13)
            · rw [if_pos c14] at H
              have c14b0 := eq_true c14
              have c14b1 : decide (0 ≤ (ji13)) = true := decide_eq_true c14
              clear c14
              by_cases c15 : (ji13) ≤ (y223.length : Int)
              · rw [if_pos c15] at H
                have c15b0 := eq_true c15
                have c15b1 : decide ((ji13) ≤ (y223.length : Int)) = true := decide_eq_true c15
                clear c15
                obtain ⟨y227, hy227⟩ : ∃ y_ : List Int, y_ = (y223.take ((ji13) : Int).toNat) := ⟨_, rfl⟩
                replace H : ((churnref09_copied.f y227).bind fun t231 => ((some (y223.drop ((ji13) : Int).toNat : List Int)).bind fun y234 => (if a1 = 0 then (none) else (churnref09_Split.l0 kj2 a1 y234 (wrap64 ((y234.length : Int) / a1)) 0 t220 t231 ([] : List (List Int)))))) = some (r1, r2, r3, r4) := by first | (rw [hy227]; with_reducible exact H) | (have H2_ := (Option.bind_some _ _).symm.trans H; rw [hy227]; with_reducible exact H2_) | (have H2_ := (Option.bind_some _ _).symm.trans H; with_reducible exact H2_) | with_reducible exact H | (rw [hy227]; exact H) | exact H
                have Ny227 := Aside0.mk hy227
                clear hy227
                replace H := Option.bind_eq_some_iff.mp H
                obtain ⟨t231, A160, H⟩ := H
                replace H : ((some (y223.drop ((ji13) : Int).toNat : List Int)).bind fun y234 => (if a1 = 0 then (none) else (churnref09_Split.l0 kj2 a1 y234 (wrap64 ((y234.length : Int) / a1)) 0 t220 t231 ([] : List (List Int))))) = some (r1, r2, r3, r4) := H
                have A16 := Aside0.mk A160
                clear A160
                have c17b0 := eq_true (of_decide_eq_true (by first | (with_reducible assumption) | assumption) : 0 ≤ (ji13))
                have c18b0 := eq_true (of_decide_eq_true (by first | (with_reducible assumption) | assumption) : (ji13) ≤ (y223.length : Int))
                obtain ⟨y234, hy234⟩ : ∃ y_ : List Int, y_ = (y223.drop ((ji13) : Int).toNat) := ⟨_, rfl⟩
                replace H : (if a1 = 0 then (none) else (churnref09_Split.l0 kj2 a1 y234 (wrap64 ((y234.length : Int) / a1)) 0 t220 t231 ([] : List (List Int)))) = some (r1, r2, r3, r4) := by first | (rw [hy234]; with_reducible exact H) | (have H2_ := (Option.bind_some _ _).symm.trans H; rw [hy234]; with_reducible exact H2_) | (have H2_ := (Option.bind_some _ _).symm.trans H; with_reducible exact H2_) | with_reducible exact H | (rw [hy234]; exact H) | exact H
                have Ny234 := Aside0.mk hy234
                clear hy234
                by_cases c19 : a1 = 0
                · rw [if_pos c19] at H
                  exact absurd H (by simp)
                · rw [if_neg c19] at H
                  have c19b0 : (a1 == 0) = false := beq_eq_false_iff_ne.mpr c19
                  have c19b1 : (a1 != 0) = true := bne_iff_ne.mpr c19
                  have H' := Aside0.mk H
                  clear H
                  go_wp2_with (first | ((with_reducible refine gate_dst (N := 6) rfl ?_); refine box_event ?hg (N := 6) ?hd (cs := #[.slice none 0 0, .slice none 0 0, .slice none 0 0]) (t := 50) ?hr ?_; (case hd => rfl); (case hg => rfl); (case hr => first | (go_simp; done) | (go_simp; rfl)); intro gb215 hg w20 hbox hb; have n0_ := Aside0.mk (blk_below (g := gb214) (o := .cells #[.slice none 0 0, .slice none 0 0, .slice none 0 0] 50 (0, 0)) (by (with_reducible repeat (first | refine blk_drewN ?_ _ | refine blk_drew ?_ | refine blk_alloc ?_ _)); exact BK214.out) hb); have n1_ := Aside0.mk (below_step (by repeat (first | (with_reducible first | exact HB.out | apply below_alloc | apply pw_below_drewN | apply below_drew1 | refine below_set ?_ GE214.out) | exact HB.out)) hb); have n2_ := Aside0.mk (hbox); have n3_ := Aside0.mk ((by rw [hg]; exact (below_size (by repeat (first | (with_reducible first | exact HB.out | apply below_alloc | apply pw_below_drewN | apply below_drew1 | refine below_set ?_ GE214.out) | exact HB.out))) : w.heap.size ≤ gb215)); have n4_ := Aside0.mk ((by rw [hg]; exact (below_size (by repeat (first | (with_reducible first | exact HB.out | apply below_alloc | apply pw_below_drewN | apply below_drew1 | refine below_set ?_ GE214.out) | exact HB.out))) : w.heap.size ≤ gb215)); have n5_ := Aside0.mk ((by rw [hg]; exact Nat.ne_of_lt (blk_lt (g := gb214) (o := .cells #[.slice none 0 0, .slice none 0 0, .slice none 0 0] 50 (0, 0)) (by (with_reducible repeat (first | refine blk_drewN ?_ _ | refine blk_drew ?_ | refine blk_alloc ?_ _)); exact BK214.out)) : gb214 ≠ gb215)); have n6_ := Aside0.mk ((by rw [hg]; exact Nat.ne_of_gt (blk_lt (g := gb214) (o := .cells #[.slice none 0 0, .slice none 0 0, .slice none 0 0] 50 (0, 0)) (by (with_reducible repeat (first | refine blk_drewN ?_ _ | refine blk_drew ?_ | refine blk_alloc ?_ _)); exact BK214.out)) : gb215 ≠ gb214)); clear BK214; clear HB; have BK214 := n0_; have HB := n1_; have BK215 := n2_; have GW215 := n3_; have GE215 := n4_; have NB214_215 := n5_; have NB215_214 := n6_; clear n0_ n1_ n2_ n3_ n4_ n5_ n6_; clear hb hbox hg; have q21 : (18 : Int) ≤ ((l0.length : Int) : Int) := of_decide_eq_true (by first | (with_reducible assumption) | assumption); obtain ⟨i021, hi021, _, hsz21, _⟩ := info_parts info5; have hroom21 : l0.length ≤ c0 := HC0.out; have hC21 : Kd.C (Kd.int .u8) _ A0 l0.length l0 := HR0.out; have hcut21 := cut_to (P := Try.prog) 27 5 .i64 Try.underlying27 hi021 A0 l0.length c0 18 (by omega) q21 hroom21; have hr21 := Kd.C_take (m := 18) hC21 (by omega); have hy21 : y216.length = (18 : Int).toNat := (by rw [Ny216.out, List.length_take]; omega); rw [← Ny216.out] at hr21; rw [← hy21] at hcut21; have HR219 := Aside0.mk hr21; have HC219 := Aside0.mk (show y216.length ≤ c0 from by omega); clear hr21 hC21 hroom21 hi021 hsz21; have KY21 := Aside0.mk hy21; clear hy21; replace q21 := eq_true q21) | ((with_reducible refine gate_callee (f := 22) rfl ?_); refine goesL_ (some 24) rfl rfl Try.func22 (by kernel_rfl) rfl #[.slice A0 y216.length c0] rfl (by (try simp only [List.map_toArray, List.map_cons, List.map_nil]); first | done | rfl | (simp only [List.length_drop, List.length_take]; rfl)) ?_; (with_reducible refine (churnref09_copied.calls _ _ y216 t220 _ ?side1 ?side2 A11.out).mono ?_); (case side1 => repeat (first | exact (Kd.C_below HR219.out HB.out) | (with_reducible refine Kd.C_alloc ?_ _) | (with_reducible refine Kd.C_drewN ?_ _) | (with_reducible refine Kd.C_drew ?_))); (case side2 => exact HC219.out); rintro e w22 ⟨v221, rfl, ho0, hb⟩; refine ⟨_, rfl, ?_⟩; have n0_ := Aside0.mk (Kd.R_lower ho0 (below_size (by repeat (first | (with_reducible first | exact HB.out | apply below_alloc | apply pw_below_drewN | apply below_drew1 | refine below_set ?_ GE214.out | refine below_set ?_ GE215.out) | exact HB.out)))); have n1_ := Aside0.mk (blk_below (g := gb214) (o := .cells #[.slice none 0 0, .slice none 0 0, .slice none 0 0] 50 (0, 0)) (by (with_reducible repeat (first | refine blk_drewN ?_ _ | refine blk_drew ?_ | refine blk_alloc ?_ _)); exact BK214.out) hb); have n2_ := Aside0.mk (blk_below (g := gb215) (o := .cells #[.slice none 0 0, .slice none 0 0, .slice none 0 0] 50 (0, 0)) (by (with_reducible repeat (first | refine blk_drewN ?_ _ | refine blk_drew ?_ | refine blk_alloc ?_ _)); exact BK215.out) hb); have n3_ := Aside0.mk (below_step (by repeat (first | (with_reducible first | exact HB.out | apply below_alloc | apply pw_below_drewN | apply below_drew1 | refine below_set ?_ GE214.out | refine below_set ?_ GE215.out) | exact HB.out)) hb); clear BK214; clear BK215; clear HB; have HO222 := n0_; have BK214 := n1_; have BK215 := n2_; have HB := n3_; clear n0_ n1_ n2_ n3_; (try clear hb); (try clear hb2); (try clear hk); (try clear hi); (try clear ho0); obtain ⟨Ao23, co23, eo23⟩ := Kd.R_slice HO222.out; subst eo23; have hnb24 := NB215_214.out; have hnc24 := NB214_215.out; have hcz25_0 : w22.cell? ⟨gb215, 0, none⟩ = some (.slice none 0 0) := (blk_cell BK215.out 0).trans rfl; have hcz25_1 : w22.cell? ⟨gb215, 1, none⟩ = some (.slice none 0 0) := (blk_cell BK215.out 1).trans rfl; have hcz25_2 : w22.cell? ⟨gb215, 2, none⟩ = some (.slice none 0 0) := (blk_cell BK215.out 2).trans rfl; have hfz25_0 := blk_frozen BK215.out 0; have hfz25_1 := blk_frozen BK215.out 1; have hfz25_2 := blk_frozen BK215.out 2) | ((with_reducible refine gate_store (t := 27) (p := 25) rfl ?_); refine store_event (t := 27) (p := 25) (v := ?vo_w26) (w1 := (w22.setCell ⟨gb215, 0, none⟩ (.slice Ao23 t220.length co23))) ?hg ?ho ?hn ?hr ?_; (case ho => rfl); (case hg => rfl); (case hn => rfl); (case hr => first | (go_simp; done) | (go_simp; rfl)); intro w26 hw; have n0_ : Aside0 (Kd.R (Kd.int .u8) 5 w26 w.heap.size (fun _ => True) (.slice Ao23 t220.length co23) t220) := ⟨(by rw [hw]; exact (by (with_reducible repeat (first | apply Kd.R_alloc | apply Kd.R_drewN | apply Kd.R_drew)); exact Kd.R_mono (Kd.R_far (p := ⟨gb215, 0, none⟩) (Kd.R_types HO222.out BK215.out (by decide)) (fun _ hk => hk.2) (.slice Ao23 t220.length co23)) (fun _ hk => trivial)))⟩; have n1_ : Aside0 (w26.heap[gb214]? = some (.cells #[.slice none 0 0, .slice none 0 0, .slice none 0 0] 50 (0, 0))) := ⟨(by rw [hw]; exact (by (with_reducible repeat (first | refine blk_drewN ?_ _ | refine blk_drew ?_ | refine blk_alloc ?_ _)); refine blk_far ?_ NB214_215.out _; (with_reducible repeat (first | refine blk_drewN ?_ _ | refine blk_drew ?_ | refine blk_alloc ?_ _)); exact BK214.out))⟩; have n2_ : Aside0 (w26.heap[gb215]? = some (.cells #[.slice Ao23 t220.length co23, .slice none 0 0, .slice none 0 0] 50 (0, 0))) := ⟨(by rw [hw]; exact (by (with_reducible repeat (first | refine blk_drewN ?_ _ | refine blk_drew ?_ | refine blk_alloc ?_ _)); refine blk_put (cs := #[.slice none 0 0, .slice none 0 0, .slice none 0 0]) ?_ 0 _ rfl; (with_reducible repeat (first | refine blk_drewN ?_ _ | refine blk_drew ?_ | refine blk_alloc ?_ _)); exact BK215.out))⟩; have n3_ : Aside0 (Below w.heap.size w w26) := ⟨(by rw [hw]; exact (by repeat (first | (with_reducible first | exact HB.out | apply below_alloc | apply pw_below_drewN | apply below_drew1 | refine below_set ?_ GE214.out | refine below_set ?_ GE215.out) | exact HB.out)))⟩; clear hw; clear HO222; clear BK214; clear BK215; clear HB; have HO222 := n0_; have BK214 := n1_; have BK215 := n2_; have HB := n3_; clear n0_ n1_ n2_ n3_; have q27 : (18 : Int) ≤ ((l0.length : Int) : Int) := of_decide_eq_true (by first | (with_reducible assumption) | assumption); obtain ⟨i027, hi027, _, hsz27, _⟩ := info_parts info5; have hroom27 : l0.length ≤ c0 := HC0.out; have hC27 : Kd.C (Kd.int .u8) _ A0 l0.length l0 := HR0.out; have hcut27 := cut_from (P := Try.prog) 27 5 .i64 Try.underlying27 hi027 1 hsz27 A0 l0.length c0 18 (by omega) q27; have hr27 := Kd.C_drop (m := (18 : Int).toNat) (c := c0) hC27 (by omega) hroom27; obtain ⟨A27, hA27⟩ : ∃ A1, A1 = (if c0 = (18 : Int).toNat then A0 else (A0 : Option Addr).map (·.add ((18 : Int).toNat * 1))) := ⟨_, rfl⟩; obtain ⟨c27, hc27⟩ : ∃ c1, c1 = c0 - (18 : Int).toNat := ⟨_, rfl⟩; have hy27 : y223.length = l0.length - (18 : Int).toNat := (by rw [Ny223.out, List.length_drop] <;> omega); rw [show (l0).drop (18 : Int).toNat = y223 from Ny223.out.symm] at hr27; replace hr27 : Kd.C (Kd.int .u8) _ A27 y223.length y223 := (by rw [hA27]; exact hr27); rw [← hy27, ← hA27, ← hc27] at hcut27; have HR226 := Aside0.mk hr27; have HC226 := Aside0.mk (show y223.length ≤ c27 from by rw [hy27, hc27]; exact Nat.sub_le_sub_right hroom27 _); clear hr27 hC27 hroom27 hi027 hsz27 hc27; have KY27 := Aside0.mk hy27; have KA27 := Aside0.mk hA27; clear hy27 hA27; replace q27 := eq_true q27; have q28 : ((ji13) : Int) ≤ ((y223.length : Int) : Int) := of_decide_eq_true (by first | (with_reducible assumption) | assumption); obtain ⟨i028, hi028, _, hsz28, _⟩ := info_parts info5; have hroom28 : y223.length ≤ c27 := HC226.out; have hC28 : Kd.C (Kd.int .u8) _ A27 y223.length y223 := HR226.out; have hcut28 := cut_to (P := Try.prog) 27 5 .i64 Try.underlying27 hi028 A27 y223.length c27 (ji13) (of_decide_eq_true (by first | (with_reducible assumption) | assumption)) q28 hroom28; have hr28 := Kd.C_take (m := ((ji13) : Int).toNat) hC28 (by omega); have hy28 : y227.length = ((ji13) : Int).toNat := (by rw [Ny227.out, List.length_take]; omega); rw [← Ny227.out] at hr28; rw [← hy28] at hcut28; have HR230 := Aside0.mk hr28; have HC230 := Aside0.mk (show y227.length ≤ c27 from by omega); clear hr28 hC28 hroom28 hi028 hsz28; have KY28 := Aside0.mk hy28; clear hy28; replace q28 := eq_true q28) | ((with_reducible refine gate_callee (f := 22) rfl ?_); refine goesL_ (some 34) rfl rfl Try.func22 (by kernel_rfl) rfl #[.slice A27 y227.length c27] rfl (by (try simp only [List.map_toArray, List.map_cons, List.map_nil]); first | done | rfl | (simp only [List.length_drop, List.length_take]; rfl)) ?_; (with_reducible refine (churnref09_copied.calls _ _ y227 t231 _ ?side1 ?side2 A16.out).mono ?_); (case side1 => repeat (first | exact (Kd.C_below HR230.out HB.out) | (with_reducible refine Kd.C_alloc ?_ _) | (with_reducible refine Kd.C_drewN ?_ _) | (with_reducible refine Kd.C_drew ?_))); (case side2 => exact HC230.out); rintro e w29 ⟨v232, rfl, ho0, hb⟩; refine ⟨_, rfl, ?_⟩; have n0_ := Aside0.mk (Kd.R_elder' (by (with_reducible repeat (first | apply Kd.R_alloc | apply Kd.R_drewN | apply Kd.R_drew)); exact HO222.out) (Kd.R_base ho0) hb); have n1_ := Aside0.mk (Kd.R_lower (Kd.R_new' ho0 (Kd.R_lt (by (with_reducible repeat (first | apply Kd.R_alloc | apply Kd.R_drewN | apply Kd.R_drew)); exact HO222.out))) (below_size (by repeat (first | (with_reducible first | exact HB.out | apply below_alloc | apply pw_below_drewN | apply below_drew1 | refine below_set ?_ GE214.out | refine below_set ?_ GE215.out) | exact HB.out)))); have n2_ := Aside0.mk (blk_below (g := gb214) (o := .cells #[.slice none 0 0, .slice none 0 0, .slice none 0 0] 50 (0, 0)) (by (with_reducible repeat (first | refine blk_drewN ?_ _ | refine blk_drew ?_ | refine blk_alloc ?_ _)); exact BK214.out) hb); have n3_ := Aside0.mk (blk_below (g := gb215) (o := .cells #[.slice Ao23 t220.length co23, .slice none 0 0, .slice none 0 0] 50 (0, 0)) (by (with_reducible repeat (first | refine blk_drewN ?_ _ | refine blk_drew ?_ | refine blk_alloc ?_ _)); exact BK215.out) hb); have n4_ := Aside0.mk (below_step (by repeat (first | (with_reducible first | exact HB.out | apply below_alloc | apply pw_below_drewN | apply below_drew1 | refine below_set ?_ GE214.out | refine below_set ?_ GE215.out) | exact HB.out)) hb); clear HO222; clear BK214; clear BK215; clear HB; have HO222 := n0_; have HO233 := n1_; have BK214 := n2_; have BK215 := n3_; have HB := n4_; clear n0_ n1_ n2_ n3_ n4_; (try clear hb); (try clear hb2); (try clear hk); (try clear hi); (try clear ho0); obtain ⟨Ao30, co30, eo30⟩ := Kd.R_slice HO233.out; subst eo30; have hcz31_0 : w29.cell? ⟨gb215, 0, none⟩ = some (.slice Ao23 t220.length co23) := (blk_cell BK215.out 0).trans rfl; have hcz31_1 : w29.cell? ⟨gb215, 1, none⟩ = some (.slice none 0 0) := (blk_cell BK215.out 1).trans rfl; have hcz31_2 : w29.cell? ⟨gb215, 2, none⟩ = some (.slice none 0 0) := (blk_cell BK215.out 2).trans rfl; have hfz31_0 := blk_frozen BK215.out 0; have hfz31_1 := blk_frozen BK215.out 1; have hfz31_2 := blk_frozen BK215.out 2) | ((with_reducible refine gate_store (t := 27) (p := 35) rfl ?_); refine store_event (t := 27) (p := 35) (v := ?vo_w32) (w1 := (w29.setCell ⟨gb215, 1, none⟩ (.slice Ao30 t231.length co30))) ?hg ?ho ?hn ?hr ?_; (case ho => rfl); (case hg => rfl); (case hn => rfl); (case hr => first | (go_simp; done) | (go_simp; rfl)); intro w32 hw; have n0_ : Aside0 (Kd.R (Kd.int .u8) 5 w32 w.heap.size (fun k_ => some k_ ≠ (.slice Ao30 t231.length co30 : Value).ownBlock) (.slice Ao23 t220.length co23) t220) := ⟨(by rw [hw]; exact (by (with_reducible repeat (first | apply Kd.R_alloc | apply Kd.R_drewN | apply Kd.R_drew)); exact Kd.R_mono (Kd.R_far (p := ⟨gb215, 1, none⟩) (Kd.R_types HO222.out BK215.out (by decide)) (fun _ hk => hk.2) (.slice Ao30 t231.length co30)) (fun _ hk => hk.1.2)))⟩; have n1_ : Aside0 (Kd.R (Kd.int .u8) 5 w32 w.heap.size (fun k_ => some k_ ≠ (.slice Ao23 t220.length co23 : Value).ownBlock) (.slice Ao30 t231.length co30) t231) := ⟨(by rw [hw]; exact (by (with_reducible repeat (first | apply Kd.R_alloc | apply Kd.R_drewN | apply Kd.R_drew)); exact Kd.R_mono (Kd.R_far (p := ⟨gb215, 1, none⟩) (Kd.R_types HO233.out BK215.out (by decide)) (fun _ hk => hk.2) (.slice Ao30 t231.length co30)) (fun _ hk => hk.1.2)))⟩; have n2_ : Aside0 (w32.heap[gb214]? = some (.cells #[.slice none 0 0, .slice none 0 0, .slice none 0 0] 50 (0, 0))) := ⟨(by rw [hw]; exact (by (with_reducible repeat (first | refine blk_drewN ?_ _ | refine blk_drew ?_ | refine blk_alloc ?_ _)); refine blk_far ?_ NB214_215.out _; (with_reducible repeat (first | refine blk_drewN ?_ _ | refine blk_drew ?_ | refine blk_alloc ?_ _)); exact BK214.out))⟩; have n3_ : Aside0 (w32.heap[gb215]? = some (.cells #[.slice Ao23 t220.length co23, .slice Ao30 t231.length co30, .slice none 0 0] 50 (0, 0))) := ⟨(by rw [hw]; exact (by (with_reducible repeat (first | refine blk_drewN ?_ _ | refine blk_drew ?_ | refine blk_alloc ?_ _)); refine blk_put (cs := #[.slice Ao23 t220.length co23, .slice none 0 0, .slice none 0 0]) ?_ 1 _ rfl; (with_reducible repeat (first | refine blk_drewN ?_ _ | refine blk_drew ?_ | refine blk_alloc ?_ _)); exact BK215.out))⟩; have n4_ : Aside0 (Below w.heap.size w w32) := ⟨(by rw [hw]; exact (by repeat (first | (with_reducible first | exact HB.out | apply below_alloc | apply pw_below_drewN | apply below_drew1 | refine below_set ?_ GE214.out | refine below_set ?_ GE215.out) | exact HB.out)))⟩; clear hw; clear HO222; clear HO233; clear BK214; clear BK215; clear HB; have HO222 := n0_; have HO233 := n1_; have BK214 := n2_; have BK215 := n3_; have HB := n4_; clear n0_ n1_ n2_ n3_ n4_; have q33 : ((ji13) : Int) ≤ ((y223.length : Int) : Int) := of_decide_eq_true (by first | (with_reducible assumption) | assumption); obtain ⟨i033, hi033, _, hsz33, _⟩ := info_parts info5; have hroom33 : y223.length ≤ c27 := HC226.out; have hC33 : Kd.C (Kd.int .u8) _ A27 y223.length y223 := HR226.out; have q033 : (0 : Int) ≤ ((ji13) : Int) := of_decide_eq_true (by first | (with_reducible assumption) | assumption); have hcut33 := cut_from (P := Try.prog) 27 5 .i64 Try.underlying27 hi033 1 hsz33 A27 y223.length c27 (ji13) q033 q33; have hr33 := Kd.C_drop (m := ((ji13) : Int).toNat) (c := c27) hC33 (by omega) hroom33; obtain ⟨A33, hA33⟩ : ∃ A1, A1 = (if c27 = ((ji13) : Int).toNat then A27 else (A27 : Option Addr).map (·.add (((ji13) : Int).toNat * 1))) := ⟨_, rfl⟩; obtain ⟨c33, hc33⟩ : ∃ c1, c1 = c27 - ((ji13) : Int).toNat := ⟨_, rfl⟩; have hy33 : y234.length = y223.length - ((ji13) : Int).toNat := (by rw [Ny234.out, List.length_drop] <;> omega); rw [show (y223).drop ((ji13) : Int).toNat = y234 from Ny234.out.symm] at hr33; replace hr33 : Kd.C (Kd.int .u8) _ A33 y234.length y234 := (by rw [hA33]; exact hr33); rw [← hy33, ← hA33, ← hc33] at hcut33; have HR237 := Aside0.mk hr33; have HC237 := Aside0.mk (show y234.length ≤ c33 from by rw [hy33, hc33]; exact Nat.sub_le_sub_right hroom33 _); clear hr33 hC33 hroom33 hi033 hsz33 hc33; have KY33 := Aside0.mk hy33; have KA33 := Aside0.mk hA33; clear hy33 hA33; replace q33 := eq_true q33))
                  go_loopg [10] kj2 (fun kq v10 w' => ∃ (x10_2 : Int) (x216002_2 : List (List Int)) (u216002 : Value), v10 = .int .i64 x10_2 ∧ Aside0 (churnref09_Split.l0 kq a1 y234 (wrap64 ((y234.length : Int) / a1)) x10_2 t220 t231 x216002_2 = some (r1, r2, r3, r4)) ∧ Aside0 (kq ≤ kj2) ∧ Aside0 (Kd.R (Kd.int .u8) 5 w' w.heap.size (fun k_ => some k_ ≠ ((.slice Ao30 t231.length co30) : Value).ownBlock) (.slice Ao23 t220.length co23) t220) ∧ Aside0 (Kd.R (Kd.int .u8) 5 w' w.heap.size (fun k_ => some k_ ≠ ((.slice Ao23 t220.length co23) : Value).ownBlock) (.slice Ao30 t231.length co30) t231) ∧ Aside0 (Kd.S (Kd.slice 5 (Kd.int .u8)) 27 w' w.heap.size (fun k_ => some k_ ≠ ((.slice Ao23 t220.length co23) : Value).ownBlock ∧ some k_ ≠ ((.slice Ao30 t231.length co30) : Value).ownBlock) u216002 x216002_2) ∧ Aside0 (w'.heap[gb214]? = some (.cells #[(.slice none 0 0), (.slice none 0 0), (.slice none 0 0)] 50 (0, 0))) ∧ Aside0 (w'.heap[gb215]? = some (.cells #[(.slice Ao23 t220.length co23), (.slice Ao30 t231.length co30), u216002] 50 (0, 0))) ∧ Aside0 (Below w.heap.size w w'))
                  case atStart => exact ⟨(0), (([] : List (List Int))), (.slice none 0 0), (by first | rfl | (simp; done) | (simp [*]; done)), H', ⟨Nat.le_refl _⟩, ⟨by (with_reducible repeat (first | apply Kd.R_alloc | apply Kd.R_drewN | apply Kd.R_drew)); exact HO222.out⟩, ⟨by (with_reducible repeat (first | apply Kd.R_alloc | apply Kd.R_drewN | apply Kd.R_drew)); exact HO233.out⟩, ⟨by first | exact Kd.S_nil _ _ _ _ _ | exact Kd.N_nil _ _ _ _ _ | exact Kd.V_nil _ _ _ _ _ | exact Kd.Q_nil _ _ _ _ _ | exact Kd.R_nil _ _ _ _ _⟩, ⟨by (with_reducible repeat (first | refine blk_drewN ?_ _ | refine blk_drew ?_ | refine blk_alloc ?_ _)); exact BK214.out⟩, ⟨by (with_reducible repeat (first | refine blk_drewN ?_ _ | refine blk_drew ?_ | refine blk_alloc ?_ _)); exact BK215.out⟩, ⟨by repeat (first | (with_reducible first | exact HB.out | apply below_alloc | apply pw_below_drewN | apply below_drew1 | refine below_set ?_ GE214.out | refine below_set ?_ GE215.out) | exact HB.out)⟩⟩
                  case round =>
                    clear H'
                    try clear c1
                    try clear c2
                    try clear p2
                    try clear q2
                    try clear c3
                    try clear q3
                    try clear c5
                    try clear c5b0
                    try clear c6
                    try clear p6
                    try clear c8
                    try clear c8b0
                    try clear c8b1
                    try clear c10
                    try clear c10b0
                    try clear c10b1
                    try clear c12
                    try clear c12b0
                    try clear c14
                    try clear c14b0
                    try clear c14b1
                    try clear c15
                    try clear c15b0
                    try clear c15b1
                    try clear c17
                    try clear c17b0
                    try clear c18
                    try clear c18b0
                    try clear c19
                    try clear c19b0
                    try clear c19b1
                    try clear q21
                    try clear c22
                    try clear c24
                    try clear c27
                    try clear q27
                    try clear q28
                    try clear c33
                    try clear q33
                    try clear hcz25_0
                    try clear hcz25_1
                    try clear hcz25_2
                    try clear hcz31_0
                    try clear hcz31_1
                    try clear hcz31_2
                    try clear hcz7_0
                    try clear hcz7_1
                    try clear hcz7_2
                    try clear hcz9_0
                    try clear hcz9_1
                    try clear hcz9_2
                    try clear hfz25_0
                    try clear hfz25_1
                    try clear hfz25_2
                    try clear hfz31_0
                    try clear hfz31_1
                    try clear hfz31_2
                    try clear hfz7_0
                    try clear hfz7_1
                    try clear hfz7_2
                    try clear hfz9_0
                    try clear hfz9_1
                    try clear hfz9_2
                    try clear p2
                    try clear q033
                    try clear q21
                    try clear q27
                    try clear q28
                    try clear q33
                    (try clear BK214)
                    (try clear BK215)
                    obtain ⟨x10_2, x216002_2, u216002, rfl, HA, HK2, HO_216000, HO_216001, HO_216002, BK214, BK215, HB⟩ := hrel
                    cases gk with
                    | zero => exact absurd HA.out (by simp [churnref09_Split.l0])
                    | succ k2 =>
                      have H := HA.out
                      clear HA
                      simp only [churnref09_Split.l0] at H
                      by_cases c34 : x10_2 < a1
                      · rw [if_pos c34] at H
                        have c34b0 : decide (x10_2 < a1) = true := decide_eq_true c34
                        clear c34
                        obtain ⟨ji35, hji35⟩ : ∃ j_ : Int, (wrap64 (x10_2 * (wrap64 ((y234.length : Int) / a1)))) = j_ := ⟨_, rfl⟩
                        replace H : (if 0 ≤ (ji35) then (if (ji35) ≤ (wrap64 ((ji35) + (wrap64 ((y234.length : Int) / a1)))) then (if (wrap64 ((ji35) + (wrap64 ((y234.length : Int) / a1)))) ≤ (y234.length : Int) then ((churnref09_copied.f ((y234.take ((wrap64 ((ji35) + (wrap64 ((y234.length : Int) / a1)))) : Int).toNat).drop ((ji35) : Int).toNat)).bind fun t242 => (if x216002_2.length < 5864062014805 then (churnref09_Split.l0 k2 a1 y234 (wrap64 ((y234.length : Int) / a1)) (wrap64 (x10_2 + 1)) t220 t231 (x216002_2 ++ [t242])) else (none))) else (none)) else (none)) else (none)) = some (r1, r2, r3, r4) := by first | (rw [hji35] at H; exact H) | (simp only [hji35] at H ⊢; exact H)
                        have hji35w : (IntKind.i64.wrap (x10_2 * (wrap64 ((y234.length : Int) / a1)))) = ji35 := (i64_w _).trans hji35
                        by_cases c36 : 0 ≤ (ji35)
                        · rw [if_pos c36] at H
                          have c36b0 := eq_true c36
                          have c36b1 : decide (0 ≤ (ji35)) = true := decide_eq_true c36
                          clear c36
                          by_cases c37 : (ji35) ≤ (wrap64 ((ji35) + (wrap64 ((y234.length : Int) / a1))))
                          · rw [if_pos c37] at H
                            have c37b0 := eq_true c37
                            have c37b1 : decide ((ji35) ≤ (wrap64 ((ji35) + (wrap64 ((y234.length : Int) / a1))))) = true := decide_eq_true c37
                            by_cases c38 : (wrap64 ((ji35) + (wrap64 ((y234.length : Int) / a1)))) ≤ (y234.length : Int)
                            · rw [if_pos c38] at H
                              have c38b0 := eq_true c38
                              have c38b1 : decide ((wrap64 ((ji35) + (wrap64 ((y234.length : Int) / a1)))) ≤ (y234.length : Int)) = true := decide_eq_true c38
                              obtain ⟨y238, hy238⟩ : ∃ y_ : List Int, y_ = ((y234.take ((wrap64 ((ji35) + (wrap64 ((y234.length : Int) / a1)))) : Int).toNat).drop ((ji35) : Int).toNat) := ⟨_, rfl⟩
                              replace H : ((churnref09_copied.f y238).bind fun t242 => (if x216002_2.length < 5864062014805 then (churnref09_Split.l0 k2 a1 y234 (wrap64 ((y234.length : Int) / a1)) (wrap64 (x10_2 + 1)) t220 t231 (x216002_2 ++ [t242])) else (none))) = some (r1, r2, r3, r4) := by first | (rw [hy238]; with_reducible exact H) | (have H2_ := (Option.bind_some _ _).symm.trans H; rw [hy238]; with_reducible exact H2_) | (have H2_ := (Option.bind_some _ _).symm.trans H; with_reducible exact H2_) | with_reducible exact H | (rw [hy238]; exact H) | exact H
                              have Ny238 := Aside0.mk hy238
                              clear hy238
                              replace H := Option.bind_eq_some_iff.mp H
                              obtain ⟨t242, A390, H⟩ := H
                              replace H : (if x216002_2.length < 5864062014805 then (churnref09_Split.l0 k2 a1 y234 (wrap64 ((y234.length : Int) / a1)) (wrap64 (x10_2 + 1)) t220 t231 (x216002_2 ++ [t242])) else (none)) = some (r1, r2, r3, r4) := H
                              have A39 := Aside0.mk A390
                              clear A390
                              by_cases c40 : x216002_2.length < 5864062014805
                              · rw [if_pos c40] at H
                                have LMc40 := Aside0.mk c40
                                clear c40
                                obtain ⟨y245, hy245⟩ : ∃ y_ : List (List Int), y_ = (x216002_2 ++ [t242]) := ⟨_, rfl⟩
                                replace H : (churnref09_Split.l0 k2 a1 y234 (wrap64 ((y234.length : Int) / a1)) (wrap64 (x10_2 + 1)) t220 t231 y245) = some (r1, r2, r3, r4) := by first | (rw [hy245]; with_reducible exact H) | (have H2_ := (Option.bind_some _ _).symm.trans H; rw [hy245]; with_reducible exact H2_) | (have H2_ := (Option.bind_some _ _).symm.trans H; with_reducible exact H2_) | with_reducible exact H | (rw [hy245]; exact H) | exact H
                                have Ny245 := Aside0.mk hy245
                                clear hy245
                                have H' := Aside0.mk H
                                clear H
                                try go_wp2
                                have n0_ := Aside0.mk (Kd.R_drew HO_216000.out)
                                have n1_ := Aside0.mk (Kd.R_drew HO_216001.out)
                                have n2_ := Aside0.mk (Kd.S_drew HO_216002.out)
                                have n3_ := Aside0.mk (blk_drew BK214.out)
                                have n4_ := Aside0.mk (blk_drew BK215.out)
                                have n5_ := Aside0.mk (below_drew1 HB.out)
                                clear HO_216000
                                clear HO_216001
                                clear HO_216002
                                clear BK214
                                clear BK215
                                clear HB
                                have HO_216000 := n0_
                                have HO_216001 := n1_
                                have HO_216002 := n2_
                                have BK214 := n3_
                                have BK215 := n4_
                                have HB := n5_
                                clear n0_ n1_ n2_ n3_ n4_ n5_
                                have q42 : ((wrap64 ((ji35) + (wrap64 ((y234.length : Int) / a1)))) : Int) ≤ ((y234.length : Int) : Int) := of_decide_eq_true (by first | (with_reducible assumption) | assumption)
                                obtain ⟨i042, hi042, _, hsz42, _⟩ := info_parts info5
                                have hroom42 : y234.length ≤ c33 := HC237.out
                                have hC42 : Kd.C (Kd.int .u8) _ A33 y234.length y234 := HR237.out
                                have ql42 : ((ji35) : Int) ≤ ((wrap64 ((ji35) + (wrap64 ((y234.length : Int) / a1)))) : Int) := of_decide_eq_true (by first | (with_reducible assumption) | assumption)
                                have q042 : (0 : Int) ≤ ((ji35) : Int) := of_decide_eq_true (by first | (with_reducible assumption) | assumption)
                                have hcut42 := cut_mid (P := Try.prog) 27 5 .i64 .i64 Try.underlying27 hi042 1 hsz42 A33 y234.length c33 (ji35) (wrap64 ((ji35) + (wrap64 ((y234.length : Int) / a1)))) q042 ql42 q42 hroom42
                                have hr42 := Kd.C_mid (lo := ((ji35) : Int).toNat) (hi := ((wrap64 ((ji35) + (wrap64 ((y234.length : Int) / a1)))) : Int).toNat) (c := c33) hC42 (by omega) (by omega) hroom42
                                obtain ⟨A42, hA42⟩ : ∃ A1, A1 = (if c33 = ((ji35) : Int).toNat then A33 else (A33 : Option Addr).map (·.add (((ji35) : Int).toNat * 1))) := ⟨_, rfl⟩
                                obtain ⟨c42, hc42⟩ : ∃ c1, c1 = c33 - ((ji35) : Int).toNat := ⟨_, rfl⟩
                                have hy42 : y238.length = ((wrap64 ((ji35) + (wrap64 ((y234.length : Int) / a1)))) : Int).toNat - ((ji35) : Int).toNat := (by rw [Ny238.out, List.length_drop, List.length_take] <;> omega)
                                rw [show ((y234).take ((wrap64 ((ji35) + (wrap64 ((y234.length : Int) / a1)))) : Int).toNat).drop ((ji35) : Int).toNat = y238 from Ny238.out.symm] at hr42
                                replace hr42 : Kd.C (Kd.int .u8) _ A42 y238.length y238 := (by rw [hA42]; exact hr42)
                                rw [← hy42, ← hA42, ← hc42] at hcut42
                                have HR241 := Aside0.mk hr42
                                have HC241 := Aside0.mk (show y238.length ≤ c42 from by rw [hy42, hc42]; exact Nat.sub_le_sub_right (Nat.le_trans (by omega) hroom42) _)
                                clear hr42 hC42 hroom42 hi042 hsz42 hc42
                                have KY42 := Aside0.mk hy42
                                have KA42 := Aside0.mk hA42
                                clear hy42 hA42
                                replace q42 := eq_true q42
                                refine start_ (n := 17) (S := fun w' => w'.cell? ⟨gb215, 0, none⟩ = some (.slice Ao23 t220.length co23) ∧ w'.cell? ⟨gb215, 1, none⟩ = some (.slice Ao30 t231.length co30) ∧ w'.cell? ⟨gb215, 2, none⟩ = some (u216002)) (ds := [16]) #[false, false, false, false, false, false, false, false, false, false, false, false, false, false, false, false, false] (by kernel_rfl) rfl rfl ⟨(blk_cell BK215.out 0).trans rfl, (blk_cell BK215.out 1).trans rfl, (blk_cell BK215.out 2).trans rfl⟩ (fun hHeld => ?_); refine with_tabW churnref09_Split.tab15 churnref09_Split.bits15 (fun HT_ HW_ => ?_)
                                generalize wr.drew = w41 at HO_216000 HO_216001 HO_216002 BK214 BK215 HB HR241 hHeld ⊢
                                refine pure_ (i := 0) (N := some 48) (v := ?_) (a' := ?_) #[true, false, false, false, false, false, false, false, false, false, false, false, false, false, false, false, false] rfl rfl (any_of HT_.out (by kernel_rfl)) (fun _ _ _ h => h) (Or.inl ⟨by rfl, ?_⟩) ?_ ?_
                                rotate_left
                                · intro w'
                                  go_simp
                                  with_reducible rfl
                                rotate_left
                                · simp only [Act.put, List.setIfInBounds_toArray, List.set_cons_zero, List.set_cons_succ, i64_w, i32_w]
                                  rfl
                                refine pure_ (i := 2) (N := some 50) (v := ?_) (a' := ?_) #[true, false, true, false, false, false, false, false, false, false, false, false, false, false, false, false, false] rfl rfl (any_of HT_.out (by kernel_rfl)) (fun _ _ _ h => h) (Or.inl ⟨by rfl, ?_⟩) ?_ ?_
                                rotate_left
                                · intro w'
                                  go_simp
                                  with_reducible rfl
                                rotate_left
                                · simp only [Act.put, List.setIfInBounds_toArray, List.set_cons_zero, List.set_cons_succ, i64_w, i32_w]
                                  rfl
                                refine pure_ (i := 3) (N := some 51) (v := ?_) (a' := ?_) #[true, false, true, true, false, false, false, false, false, false, false, false, false, false, false, false, false] rfl rfl (any_of HT_.out (by kernel_rfl)) (fun _ _ _ h => h) (Or.inl ⟨by rfl, ?_⟩) ?_ ?_
                                rotate_left
                                · intro w'
                                  go_simp
                                  with_reducible rfl
                                rotate_left
                                · simp only [Act.put, List.setIfInBounds_toArray, List.set_cons_zero, List.set_cons_succ, i64_w, i32_w]
                                  rfl
                                refine pure_ (i := 4) (N := some 52) (v := ?_) (a' := ?_) #[true, false, true, true, true, false, false, false, false, false, false, false, false, false, false, false, false] rfl rfl (any_of HT_.out (by kernel_rfl)) (fun _ _ _ h => h) (Or.inl ⟨by rfl, ?_⟩) ?_ ?_
                                rotate_left
                                · intro w'
                                  go_simp
                                  with_reducible rfl
                                rotate_left
                                · simp only [Act.put, List.setIfInBounds_toArray, List.set_cons_zero, List.set_cons_succ, i64_w, i32_w]
                                  rfl
                                refine pure_ (i := 5) (N := some 53) (v := ?_) (a' := ?_) #[true, false, true, true, true, true, false, false, false, false, false, false, false, false, false, false, false] rfl rfl (any_of HT_.out (by kernel_rfl)) (fun _ _ _ h => h) (Or.inl ⟨by rfl, ?_⟩) ?_ ?_
                                rotate_left
                                · intro w'
                                  go_simp
                                  with_reducible rfl
                                rotate_left
                                · simp only [Act.put, List.setIfInBounds_toArray, List.set_cons_zero, List.set_cons_succ, i64_w, i32_w]
                                  rfl
                                refine pure_ (i := 6) (N := some 54) (v := ?_) (a' := ?_) #[true, false, true, true, true, true, true, false, false, false, false, false, false, false, false, false, false] rfl rfl (any_of HT_.out (by kernel_rfl)) (fun _ _ _ h => h) (Or.inl ⟨by rfl, ?_⟩) ?_ ?_
                                rotate_left
                                · intro w'
                                  go_simp
                                  with_reducible rfl
                                rotate_left
                                · simp only [Act.put, List.setIfInBounds_toArray, List.set_cons_zero, List.set_cons_succ, i64_w, i32_w]
                                  rfl
                                refine pure_ (i := 7) (N := some 55) (v := ?_) (a' := ?_) #[true, false, true, true, true, true, true, true, false, false, false, false, false, false, false, false, false] rfl rfl (any_of HT_.out (by kernel_rfl)) (fun _ _ _ h => h) (Or.inl ⟨by rfl, ?_⟩) ?_ ?_
                                rotate_left
                                · intro w'
                                  go_simp
                                  with_reducible rfl
                                rotate_left
                                · simp only [Act.put, List.setIfInBounds_toArray, List.set_cons_zero, List.set_cons_succ, i64_w, i32_w]
                                  rfl
                                refine pure_ (i := 8) (N := some 56) (v := ?_) (a' := ?_) #[true, false, true, true, true, true, true, true, true, false, false, false, false, false, false, false, false] rfl rfl (any_of HT_.out (by kernel_rfl)) (fun _ _ _ h => h) (Or.inl ⟨by rfl, ?_⟩) ?_ ?_
                                rotate_left
                                · intro w'
                                  go_simp
                                  with_reducible rfl
                                rotate_left
                                · simp only [Act.put, List.setIfInBounds_toArray, List.set_cons_zero, List.set_cons_succ, i64_w, i32_w]
                                  rfl
                                refine pure_ (i := 9) (N := some 57) (v := ?_) (a' := ?_) #[true, false, true, true, true, true, true, true, true, true, false, false, false, false, false, false, false] rfl rfl (any_of HT_.out (by kernel_rfl)) (fun _ _ _ h => h) (Or.inl ⟨by rfl, ?_⟩) ?_ ?_
                                rotate_left
                                · intro w'
                                  go_simp
                                  with_reducible rfl
                                rotate_left
                                · simp only [Act.put, List.setIfInBounds_toArray, List.set_cons_zero, List.set_cons_succ, i64_w, i32_w]
                                  rfl
                                refine pure_ (i := 10) (N := some 58) (v := ?_) (a' := ?_) #[true, false, true, true, true, true, true, true, true, true, true, false, false, false, false, false, false] rfl rfl (any_of HT_.out (by kernel_rfl)) (fun _ _ _ h => h) (Or.inl ⟨by rfl, ?_⟩) ?_ ?_
                                rotate_left
                                · intro w'
                                  go_simp
                                  with_reducible rfl
                                rotate_left
                                · simp only [Act.put, List.setIfInBounds_toArray, List.set_cons_zero, List.set_cons_succ, i64_w, i32_w]
                                  rfl
                                refine pure_ (i := 11) (N := some 59) (v := ?_) (a' := ?_) #[true, false, true, true, true, true, true, true, true, true, true, true, false, false, false, false, false] rfl rfl (any_of HT_.out (by kernel_rfl)) (fun _ _ _ h => h) (Or.inl ⟨by rfl, ?_⟩) ?_ ?_
                                rotate_left
                                · intro w'
                                  go_simp
                                  with_reducible rfl
                                rotate_left
                                · simp only [Act.put, List.setIfInBounds_toArray, List.set_cons_zero, List.set_cons_succ, i64_w, i32_w]
                                  rfl
                                refine take_ (i := 1) (N := some 49) (v := ?_) (a' := ?_) #[true, true, true, true, true, true, true, true, true, true, true, true, false, false, false, false, false] rfl rfl (take_ofW HT_.out HW_.out (by kernel_rfl)) (fun _ _ _ h => h) (Or.inl ⟨by rfl, ?_⟩) hHeld ?_ ?_
                                rotate_left
                                · rintro w' ⟨s0, s1, s2⟩
                                  go_simp
                                  with_reducible rfl
                                rotate_left
                                · simp only [Act.put, List.setIfInBounds_toArray, List.set_cons_zero, List.set_cons_succ, i64_w, i32_w]
                                  rfl
                                refine one_ (i := 12) (N := some 60) #[true, true, true, true, true, true, true, true, true, true, true, true, true, false, false, false, false] rfl rfl (one_of HT_.out (by kernel_rfl)) (by decide) (fun K hK => ?_)
                                refine goes_ Try.func22 (by kernel_rfl) rfl #[.slice A42 y238.length c42] (by rfl) rfl rfl (by (try simp only [List.map_toArray, List.map_cons, List.map_nil]); first | done | rfl | (simp only [List.length_drop, List.length_take]; rfl)) ?_
                                with_reducible refine (churnref09_copied.calls _ _ y238 t242 _ ?side1 ?side2 A39.out).mono ?_
                                (case side1 => repeat (first | exact (Kd.C_below HR241.out HB.out) | (with_reducible refine Kd.C_alloc ?_ _) | (with_reducible refine Kd.C_drewN ?_ _) | (with_reducible refine Kd.C_drew ?_)))
                                (case side2 => exact HC241.out)
                                rintro e w43 ⟨v243, rfl, ho0, hb⟩
                                refine ⟨_, rfl, ?_⟩
                                have n0_ := Aside0.mk (Kd.R_elder' (by (with_reducible repeat (first | apply Kd.R_alloc | apply Kd.R_drewN | apply Kd.R_drew)); exact HO_216000.out) (Kd.R_base ho0) hb)
                                have n1_ := Aside0.mk (Kd.R_elder' (by (with_reducible repeat (first | apply Kd.R_alloc | apply Kd.R_drewN | apply Kd.R_drew)); exact HO_216001.out) (Kd.R_base ho0) hb)
                                have n2_ := Aside0.mk (Kd.S_elder' (by (with_reducible repeat (first | apply Kd.S_alloc | apply Kd.S_drewN | apply Kd.S_drew)); exact HO_216002.out) (Kd.R_base ho0) hb)
                                have n3_ := Aside0.mk (Kd.R_lower (Kd.R_new' (Kd.R_new' ho0 (Kd.R_lt (by (with_reducible repeat (first | apply Kd.R_alloc | apply Kd.R_drewN | apply Kd.R_drew)); exact HO_216000.out))) (Kd.R_lt (by (with_reducible repeat (first | apply Kd.R_alloc | apply Kd.R_drewN | apply Kd.R_drew)); exact HO_216001.out))) (below_size (by repeat (first | (with_reducible first | exact HB.out | apply below_alloc | apply pw_below_drewN | apply below_drew1 | refine below_set ?_ GE214.out | refine below_set ?_ GE215.out) | exact HB.out))))
                                have n4_ := Aside0.mk (blk_below (g := gb214) (o := .cells #[.slice none 0 0, .slice none 0 0, .slice none 0 0] 50 (0, 0)) (by (with_reducible repeat (first | refine blk_drewN ?_ _ | refine blk_drew ?_ | refine blk_alloc ?_ _)); exact BK214.out) hb)
                                have n5_ := Aside0.mk (blk_below (g := gb215) (o := .cells #[.slice Ao23 t220.length co23, .slice Ao30 t231.length co30, u216002] 50 (0, 0)) (by (with_reducible repeat (first | refine blk_drewN ?_ _ | refine blk_drew ?_ | refine blk_alloc ?_ _)); exact BK215.out) hb)
                                have n6_ := Aside0.mk (below_step (by repeat (first | (with_reducible first | exact HB.out | apply below_alloc | apply pw_below_drewN | apply below_drew1 | refine below_set ?_ GE214.out | refine below_set ?_ GE215.out) | exact HB.out)) hb)
                                clear HO_216000
                                clear HO_216001
                                clear HO_216002
                                clear BK214
                                clear BK215
                                clear HB
                                have HO_216000 := n0_
                                have HO_216001 := n1_
                                have HO_216002 := n2_
                                have HO244 := n3_
                                have BK214 := n4_
                                have BK215 := n5_
                                have HB := n6_
                                clear n0_ n1_ n2_ n3_ n4_ n5_ n6_
                                (try clear hb)
                                (try clear hb2)
                                (try clear hk)
                                (try clear hi)
                                (try clear ho0)
                                obtain ⟨Ao45, co45, eo45⟩ := Kd.R_slice HO244.out
                                (first | subst eo45 | (injection eo45 with f1_ f2_ f3_; have f4_ := f1_.symm; have f5_ := f3_.symm; clear f1_ f2_ f3_; subst f4_; subst f5_))
                                refine hK.out _ _ ⟨(blk_cell BK215.out 0).trans rfl, (blk_cell BK215.out 1).trans rfl, (blk_cell BK215.out 2).trans rfl⟩ (fun hHeld => ?_)
                                clear hK K
                                refine norm_ (a' := ?_) ?_ ?_
                                rotate_left
                                · show Act.put _ (some 60) _ = _
                                  simp only [Act.put, List.setIfInBounds_toArray, List.set_cons_zero, List.set_cons_succ, i64_w, i32_w]
                                  rfl
                                refine one_ (i := 13) (N := some 61) #[true, true, true, true, true, true, true, true, true, true, true, true, true, true, false, false, false] rfl rfl (one_of HT_.out (by kernel_rfl)) (by decide) (fun K hK => ?_)
                                refine value_ (w1 := ?_) (v := ?_) (by rfl) rfl ?_ ?_
                                rotate_left 2
                                · go_simp
                                  constructor
                                  · rfl
                                  · rfl
                                refine hK.out _ _ ⟨(blk_cell (blk_alloc BK215.out _) 0).trans rfl, (blk_cell (blk_alloc BK215.out _) 1).trans rfl, (blk_cell (blk_alloc BK215.out _) 2).trans rfl⟩ (fun hHeld => ?_)
                                clear hK K
                                refine norm_ (a' := ?_) ?_ ?_
                                rotate_left
                                · show Act.put _ (some 61) _ = _
                                  simp only [Act.put, List.setIfInBounds_toArray, List.set_cons_zero, List.set_cons_succ, i64_w, i32_w]
                                  rfl
                                refine one_ (i := 14) (N := some 62) #[true, true, true, true, true, true, true, true, true, true, true, true, true, true, true, false, false] rfl rfl (one_of HT_.out (by kernel_rfl)) (by decide) (fun K hK => ?_)
                                refine Kd.S_append_step (Kd.slice 5 (Kd.int .u8)) (w0 := w) w.heap.size (by rfl) (.tmp 49) (.tmp 61) 48 27 (.slice none 0 0) 24 rfl Try.underlying48 info27 rfl (by decide) (by omega) u216002 x216002_2 t242 [.slice Ao45 t242.length co45] (fun k_ => some k_ ≠ (.slice Ao23 t220.length co23 : Value).ownBlock ∧ some k_ ≠ (.slice Ao30 t231.length co30 : Value).ownBlock) (fun k_ => some k_ = (.slice Ao45 t242.length co45 : Value).ownBlock) rfl rfl ?aP (fun k_ hk_ => ((Kd.R_mono (ok' := fun k_ => ((fun k_ => some k_ ≠ (.slice Ao23 t220.length co23 : Value).ownBlock ∧ some k_ ≠ (.slice Ao30 t231.length co30 : Value).ownBlock)) k_ ∧ some k_ ≠ (u216002 : Value).ownBlock) (Kd.R_apart' (HO244.out) (Kd.S_typed HO_216002.out) (by decide)) (fun k_ hk => ⟨⟨hk.1.1.2, hk.1.2⟩, hk.2⟩))).1 k_ hk_.symm) ?aF ?aO ?aB ?aS ?aL ?_
                                (case aP => exact Kd.M_row (Kd.R_mono (Kd.R_tight rfl (Kd.R_mono (ok' := fun k_ => ((fun k_ => some k_ ≠ (.slice Ao23 t220.length co23 : Value).ownBlock ∧ some k_ ≠ (.slice Ao30 t231.length co30 : Value).ownBlock)) k_ ∧ some k_ ≠ (u216002 : Value).ownBlock) (Kd.R_apart' (HO244.out) (Kd.S_typed HO_216002.out) (by decide)) (fun k_ hk => ⟨⟨hk.1.1.2, hk.1.2⟩, hk.2⟩))) (fun _ h_ => h_)))
                                (case aB => exact (by repeat (first | (with_reducible first | exact HB.out | apply below_alloc | apply pw_below_drewN | apply below_drew1 | refine below_set ?_ GE214.out | refine below_set ?_ GE215.out) | exact HB.out)))
                                (case aF => exact (fun k_ hk => ⟨Kd.fresh' (Kd.R_lt (by (with_reducible repeat (first | apply Kd.R_alloc | apply Kd.R_drewN | apply Kd.R_drew)); exact HO_216000.out)) k_ hk, Kd.fresh' (Kd.R_lt (by (with_reducible repeat (first | apply Kd.R_alloc | apply Kd.R_drewN | apply Kd.R_drew)); exact HO_216001.out)) k_ hk⟩))
                                (case aO => exact (by (with_reducible repeat (first | apply Kd.S_alloc | apply Kd.S_drewN | apply Kd.S_drew)); exact Kd.S_mono HO_216002.out (fun k_ hk => ⟨⟨hk.1.1, hk.1.2⟩, fun e_ => hk.2 e_⟩)))
                                (case aS => exact (below_size (by repeat (first | (with_reducible first | exact HB.out | apply below_alloc | apply pw_below_drewN | apply below_drew1 | refine below_set ?_ GE214.out | refine below_set ?_ GE215.out) | exact HB.out))))
                                (case aL => have := LMc40.out; omega)
                                intro v246 w44 ho hb hg hat
                                rw [← Ny245.out] at ho
                                have n0_ := Aside0.mk (Kd.R_over' (by (with_reducible repeat (first | apply Kd.R_alloc | apply Kd.R_drewN | apply Kd.R_drew)); exact HO_216000.out) (Kd.S_typed (by (with_reducible repeat (first | apply Kd.S_alloc | apply Kd.S_drewN | apply Kd.S_drew)); exact HO_216002.out)) (by decide) hg)
                                have n1_ := Aside0.mk (Kd.R_over' (by (with_reducible repeat (first | apply Kd.R_alloc | apply Kd.R_drewN | apply Kd.R_drew)); exact HO_216001.out) (Kd.S_typed (by (with_reducible repeat (first | apply Kd.S_alloc | apply Kd.S_drewN | apply Kd.S_drew)); exact HO_216002.out)) (by decide) hg)
                                have n2_ := Aside0.mk (blk_grown (g := gb214) (o := .cells #[.slice none 0 0, .slice none 0 0, .slice none 0 0] 50 (0, 0)) (by (with_reducible repeat (first | refine blk_drewN ?_ _ | refine blk_drew ?_ | refine blk_alloc ?_ _)); exact BK214.out) hg (Kd.S_ne HO_216002.out BK214.out (by decide)))
                                have n3_ := Aside0.mk (blk_grown (g := gb215) (o := .cells #[.slice Ao23 t220.length co23, .slice Ao30 t231.length co30, u216002] 50 (0, 0)) (by (with_reducible repeat (first | refine blk_drewN ?_ _ | refine blk_drew ?_ | refine blk_alloc ?_ _)); exact BK215.out) hg (Kd.S_ne HO_216002.out BK215.out (by decide)))
                                have n4_ := Aside0.mk (hb)
                                have n5_ := Aside0.mk (ho)
                                clear HO_216000
                                clear HO_216001
                                clear BK214
                                clear BK215
                                clear HB
                                clear HO_216002
                                clear HO244
                                have HO_216000 := n0_
                                have HO_216001 := n1_
                                have BK214 := n2_
                                have BK215 := n3_
                                have HB := n4_
                                have HO247 := n5_
                                clear n0_ n1_ n2_ n3_ n4_ n5_
                                clear ho hb hg hat
                                obtain ⟨Ao46, co46, eo46⟩ := Kd.S_slice HO247.out
                                (first | subst eo46 | (injection eo46 with f1_ f2_ f3_; have f4_ := f1_.symm; have f5_ := f3_.symm; clear f1_ f2_ f3_; subst f4_; subst f5_))
                                refine hK.out _ _ ⟨(blk_cell BK215.out 0).trans rfl, (blk_cell BK215.out 1).trans rfl, (blk_cell BK215.out 2).trans rfl⟩ (fun hHeld => ?_)
                                clear hK K
                                refine norm_ (a' := ?_) ?_ ?_
                                rotate_left
                                · show Act.put _ (some 62) _ = _
                                  simp only [Act.put, List.setIfInBounds_toArray, List.set_cons_zero, List.set_cons_succ, i64_w, i32_w]
                                  rfl
                                refine pure_ (i := 15) (N := some 63) (v := ?_) (a' := ?_) #[true, true, true, true, true, true, true, true, true, true, true, true, true, true, true, true, false] rfl rfl (any_of HT_.out (by kernel_rfl)) (fun _ _ _ h => h) (Or.inl ⟨by rfl, ?_⟩) ?_ ?_
                                rotate_left
                                · intro w'
                                  go_simp
                                  with_reducible rfl
                                rotate_left
                                · simp only [Act.put, List.setIfInBounds_toArray, List.set_cons_zero, List.set_cons_succ, i64_w, i32_w]
                                  rfl
                                refine last_ (i := 16) (N := none) #[true, true, true, true, true, true, true, true, true, true, true, true, true, true, true, true, true] rfl rfl (one_of HT_.out (by kernel_rfl)) (by decide) (fun K hK => ?_)
                                have hs47 : w44.cell? ⟨gb215, 2, none⟩ = some (u216002) := (blk_cell BK215.out 2).trans rfl
                                have hfs47 := blk_frozen BK215.out 2
                                have hns47_0 := NB214_215.out
                                have hms47_0 := NB215_214.out
                                refine skip_ (w1 := ?_) (by rfl) rfl ?_ ?_
                                rotate_left
                                · go_simp
                                  rfl
                                refine hK.out _ _ ?_
                                clear hK K
                                refine done_ (done_of HT_.out (by kernel_rfl)) ?_
                                try go_wp2
                                go_roundg k2
                                case measure => have := HJ2.out; have := HK2.out; omega
                                case rel => exact ⟨(wrap64 (x10_2 + 1)), (y245), (.slice Ao46 y245.length co46), (by first | rfl | (simp; done) | (simp [*]; done)), H', ⟨by have := HJ2.out; have := HK2.out; omega⟩, ⟨by (with_reducible repeat (first | apply Kd.R_alloc | apply Kd.R_drewN | apply Kd.R_drew)); exact Kd.R_mono (Kd.R_far (p := ⟨gb215, 2, none⟩) (Kd.R_types HO_216000.out BK215.out (by decide)) (fun _ hk => hk.2) (.slice Ao46 y245.length co46)) (fun _ hk => hk.1.1)⟩, ⟨by (with_reducible repeat (first | apply Kd.R_alloc | apply Kd.R_drewN | apply Kd.R_drew)); exact Kd.R_mono (Kd.R_far (p := ⟨gb215, 2, none⟩) (Kd.R_types HO_216001.out BK215.out (by decide)) (fun _ hk => hk.2) (.slice Ao46 y245.length co46)) (fun _ hk => hk.1.1)⟩, ⟨by (with_reducible repeat (first | apply Kd.S_alloc | apply Kd.S_drewN | apply Kd.S_drew)); exact Kd.S_mono (Kd.S_far (p := ⟨gb215, 2, none⟩) (Kd.S_types HO247.out BK215.out (by decide)) (fun _ hk => hk.2) (.slice Ao46 y245.length co46)) (fun _ hk => ⟨hk.1.1, hk.1.2⟩)⟩, ⟨by (with_reducible repeat (first | refine blk_drewN ?_ _ | refine blk_drew ?_ | refine blk_alloc ?_ _)); refine blk_far ?_ NB214_215.out _; (with_reducible repeat (first | refine blk_drewN ?_ _ | refine blk_drew ?_ | refine blk_alloc ?_ _)); exact BK214.out⟩, ⟨by (with_reducible repeat (first | refine blk_drewN ?_ _ | refine blk_drew ?_ | refine blk_alloc ?_ _)); refine blk_put (cs := #[.slice Ao23 t220.length co23, .slice Ao30 t231.length co30, u216002]) ?_ 2 _ rfl; (with_reducible repeat (first | refine blk_drewN ?_ _ | refine blk_drew ?_ | refine blk_alloc ?_ _)); exact BK215.out⟩, ⟨by repeat (first | (with_reducible first | exact HB.out | apply below_alloc | apply pw_below_drewN | apply below_drew1 | refine below_set ?_ GE214.out | refine below_set ?_ GE215.out) | exact HB.out)⟩⟩
                              · rw [if_neg c40] at H
                                exact absurd H (by simp)
                            · rw [if_neg c38] at H
                              exact absurd H (by simp)
                          · rw [if_neg c37] at H
                            exact absurd H (by simp)
                        · rw [if_neg c36] at H
                          exact absurd H (by simp)
                      · rw [if_neg c34] at H
                        have c34b0 : decide (x10_2 < a1) = false := decide_eq_false c34
                        clear c34
                        simp only [Option.some.injEq, Prod.mk.injEq] at H
                        obtain ⟨rfl, rfl, rfl, rfl⟩ := H
                        have hnb48 := NB215_214.out
                        have hnc48 := NB214_215.out
                        have hcz49_0 : wr.cell? ⟨gb215, 0, none⟩ = some (.slice Ao23 t220.length co23) := (blk_cell BK215.out 0).trans rfl
                        have hcz49_1 : wr.cell? ⟨gb215, 1, none⟩ = some (.slice Ao30 t231.length co30) := (blk_cell BK215.out 1).trans rfl
                        have hcz49_2 : wr.cell? ⟨gb215, 2, none⟩ = some (u216002) := (blk_cell BK215.out 2).trans rfl
                        have hfz49_0 := blk_frozen BK215.out 0
                        have hfz49_1 := blk_frozen BK215.out 1
                        have hfz49_2 := blk_frozen BK215.out 2
                        have hcz50_0 : wr.cell? ⟨gb214, 0, none⟩ = some (.slice none 0 0) := (blk_cell BK214.out 0).trans rfl
                        have hcz50_1 : wr.cell? ⟨gb214, 1, none⟩ = some (.slice none 0 0) := (blk_cell BK214.out 1).trans rfl
                        have hcz50_2 : wr.cell? ⟨gb214, 2, none⟩ = some (.slice none 0 0) := (blk_cell BK214.out 2).trans rfl
                        have hfz50_0 := blk_frozen BK214.out 0
                        have hfz50_1 := blk_frozen BK214.out 1
                        have hfz50_2 := blk_frozen BK214.out 2
                        obtain ⟨Ao51, co51, eo51⟩ := Kd.S_slice HO_216002.out
                        subst eo51
                        go_wp2
                        refine bodyPost_ret (results_ct rfl _ _ gb214 50 #[.slice Ao23 t220.length co23, .slice Ao30 t231.length co30, .slice Ao51 x216002_2.length co51] (0, 0) _ rfl (by (with_reducible repeat (first | refine blk_drewN ?_ _ | refine blk_drew ?_ | refine blk_alloc ?_ _)); refine blk_put (cs := #[.slice Ao23 t220.length co23, .slice Ao30 t231.length co30, .slice none 0 0]) ?_ 2 _ rfl; (with_reducible repeat (first | refine blk_drewN ?_ _ | refine blk_drew ?_ | refine blk_alloc ?_ _)); refine blk_put (cs := #[.slice Ao23 t220.length co23, .slice none 0 0, .slice none 0 0]) ?_ 1 _ rfl; (with_reducible repeat (first | refine blk_drewN ?_ _ | refine blk_drew ?_ | refine blk_alloc ?_ _)); refine blk_put (cs := #[.slice none 0 0, .slice none 0 0, .slice none 0 0]) ?_ 0 _ rfl; (with_reducible repeat (first | refine blk_drewN ?_ _ | refine blk_drew ?_ | refine blk_alloc ?_ _)); exact BK214.out) Try.underlying50 rfl (by kernel_rfl)) rfl ?_
                        exact ⟨_, _, _, by first | rfl | (simp [errW_none, errW_some] <;> rfl) | (simp only [← hji13]; first | rfl | (simp [errW_none, errW_some] <;> rfl)) | (simp [*, errW_none, errW_some] <;> rfl), by (with_reducible repeat (first | apply Kd.R_alloc | apply Kd.R_drewN | apply Kd.R_drew)); exact Kd.R_mono (Kd.R_far (p := ⟨gb214, 2, none⟩) (Kd.R_far (p := ⟨gb214, 1, none⟩) (Kd.R_far (p := ⟨gb214, 0, none⟩) (Kd.R_types HO_216000.out BK214.out (by decide)) (fun _ hk => hk.2) (.slice Ao23 t220.length co23)) (fun _ hk => hk.2) (.slice Ao30 t231.length co30)) (fun _ hk => hk.2) (.slice Ao51 x216002_2.length co51)) (fun _ hk => hk.1), by (with_reducible repeat (first | apply Kd.R_alloc | apply Kd.R_drewN | apply Kd.R_drew)); exact Kd.R_mono (Kd.R_far (p := ⟨gb214, 2, none⟩) (Kd.R_far (p := ⟨gb214, 1, none⟩) (Kd.R_far (p := ⟨gb214, 0, none⟩) (Kd.R_types HO_216001.out BK214.out (by decide)) (fun _ hk => hk.2) (.slice Ao23 t220.length co23)) (fun _ hk => hk.2) (.slice Ao30 t231.length co30)) (fun _ hk => hk.2) (.slice Ao51 x216002_2.length co51)) (fun _ hk => hk.1), by (with_reducible repeat (first | apply Kd.S_alloc | apply Kd.S_drewN | apply Kd.S_drew)); exact Kd.S_mono (Kd.S_far (p := ⟨gb214, 2, none⟩) (Kd.S_far (p := ⟨gb214, 1, none⟩) (Kd.S_far (p := ⟨gb214, 0, none⟩) (Kd.S_types HO_216002.out BK214.out (by decide)) (fun _ hk => hk.2) (.slice Ao23 t220.length co23)) (fun _ hk => hk.2) (.slice Ao30 t231.length co30)) (fun _ hk => hk.2) (.slice Ao51 x216002_2.length co51)) (fun _ hk => ⟨hk.1.1, hk.1.2⟩), by repeat (first | (with_reducible first | exact HB.out | apply below_alloc | apply pw_below_drewN | apply below_drew1 | refine below_set ?_ GE214.out | refine below_set ?_ GE215.out) | exact HB.out)⟩
              · rw [if_neg c15] at H
                exact absurd H (by simp)
            · rw [if_neg c14] at H
              exact absurd H (by simp)
          · rw [if_neg c10] at H
            exact absurd H (by simp)

end Go.Proofs.Ytangepklgeikkaa.Q
