/- Functions of the program as plain Lean functions, each with a proof that its call comes to just these answers, or the row that joins them to the given statement; no condition beside the statement's own. Written for this claim by pf.py, this session's program over the kit's print. -/
import Derived.Test.YtangepklgeikkaaQx0
import Derived.Test.YtangepklgeikkaaQx8
namespace Go.Proofs.Ytangepklgeikkaa.Q
open Go.RowKit Go.Proofs.YtangepklgeikkaaW.PrintWords Go.Proofs.YtangepklgeikkaaW.PrintLast Go.Proofs.YtangepklgeikkaaW.PrintMore
attribute [local go_sem] max2_int min2_int max_two min_two max_three min_three max_four min_four   -- for this text's walks alone
set_option linter.unusedVariables false
set_option linter.unusedSimpArgs false

/-! ### tape_Split: function 18 -/
mutual
def tape_Split.j0 : Nat → List Int → Int → Bool → Option (List Int × List Int × (List (List Int)) × Int)
  | 0, _, _, _ => none
  | k + 1, x0, x1, x16 => if x16 = true then (some (([] : List Int), ([] : List Int), ([] : List (List Int)), 2)) else (if (x0.length : Int) < 18 then (some (([] : List Int), ([] : List Int), ([] : List (List Int)), 3)) else (if 18 ≤ (x0.length : Int) then ((some (x0.drop 18 : List Int)).bind fun y249 => ((slices_Clone_byte_byte.f (x0.take 18)).bind fun t257 => (if 0 ≤ (wrap64 ((y249.length : Int) / 2)) then (if (wrap64 ((y249.length : Int) / 2)) ≤ (y249.length : Int) then ((slices_Clone_byte_byte.f (y249.take ((wrap64 ((y249.length : Int) / 2)) : Int).toNat)).bind fun t264 => ((some (y249.drop ((wrap64 ((y249.length : Int) / 2)) : Int).toNat : List Int)).bind fun y268 => (if x1 = 0 then (none) else (tape_Split.l0 k y268 (wrap64 ((y268.length : Int) / x1)) x1 0 t257 t264 ([] : List (List Int)))))) else (none)) else (none)))) else (none)))
def tape_Split.l0 : Nat → List Int → Int → Int → Int → List Int → List Int → List (List Int) → Option (List Int × List Int × (List (List Int)) × Int)
  | 0, _, _, _, _, _, _, _ => none
  | k + 1, x6, x9, x42, x43, x268000, x268001, x268002 => if x43 < x42 then (if 0 ≤ (wrap64 (x43 * x9)) then (if (wrap64 (x43 * x9)) ≤ (wrap64 ((wrap64 (x43 + 1)) * x9)) then (if (wrap64 ((wrap64 (x43 + 1)) * x9)) ≤ (x6.length : Int) then ((slices_Clone_byte_byte.f ((x6.take ((wrap64 ((wrap64 (x43 + 1)) * x9)) : Int).toNat).drop ((wrap64 (x43 * x9)) : Int).toNat)).bind fun t276 => (if x268002.length < 5864062014805 then (tape_Split.l0 k x6 x9 x42 (wrap64 (x43 + 1)) x268000 x268001 (x268002 ++ [t276])) else (none))) else (none)) else (none)) else (none)) else (some (x268000, x268001, x268002, 0))
end
def tape_Split.f (k : Nat) (l0 : List Int) (a1 : Int) : Option (List Int × List Int × (List (List Int)) × Int) := if a1 < 1 then (tape_Split.j0 k l0 a1 true) else (tape_Split.j0 k l0 a1 (decide (a1 > 64)))
theorem tape_Split.mono_l : ∀ k, (∀ y0 y1 y2, LeO (tape_Split.j0 k y0 y1 y2) (tape_Split.j0 (k + 1) y0 y1 y2)) ∧ (∀ y0 y1 y2 y3 y4 y5 y6, LeO (tape_Split.l0 k y0 y1 y2 y3 y4 y5 y6) (tape_Split.l0 (k + 1) y0 y1 y2 y3 y4 y5 y6))
  | 0 => ⟨fun _ _ _ r h => by simp [tape_Split.j0] at h, fun _ _ _ _ _ _ _ r h => by simp [tape_Split.l0] at h⟩
  | k + 1 => by
    obtain ⟨ih0, ih1⟩ := tape_Split.mono_l k
    refine ⟨?_, ?_⟩
    · intro y0 y1 y2
      unfold tape_Split.j0
      repeat' first
      | (with_reducible exact ih0 _ _ _)
      | (with_reducible exact ih1 _ _ _ _ _ _ _)
      | (with_reducible exact LeO.refl _)
      | (with_reducible exact LeO.none _)
      | (with_reducible refine LeO.ite ?_ ?_)
      | (with_reducible refine LeO.bind ?_ (fun _ => ?_))
      | exact ih0 _ _ _
      | exact ih1 _ _ _ _ _ _ _
      | exact LeO.none _
      | refine LeO.ite ?_ ?_
      | refine LeO.bind ?_ (fun _ => ?_)
    · intro y0 y1 y2 y3 y4 y5 y6
      unfold tape_Split.l0
      repeat' first
      | (with_reducible exact ih0 _ _ _)
      | (with_reducible exact ih1 _ _ _ _ _ _ _)
      | (with_reducible exact LeO.refl _)
      | (with_reducible exact LeO.none _)
      | (with_reducible refine LeO.ite ?_ ?_)
      | (with_reducible refine LeO.bind ?_ (fun _ => ?_))
      | exact ih0 _ _ _
      | exact ih1 _ _ _ _ _ _ _
      | exact LeO.none _
      | refine LeO.ite ?_ ?_
      | refine LeO.bind ?_ (fun _ => ?_)
theorem tape_Split.mono : ∀ a0 a1 k, LeO (tape_Split.f k a0 a1) (tape_Split.f (k + 1) a0 a1) := by
  intro a0 a1 k
  obtain ⟨ih0, ih1⟩ := tape_Split.mono_l k
  unfold tape_Split.f
  repeat' first
      | (with_reducible exact ih0 _ _ _)
      | (with_reducible exact ih1 _ _ _ _ _ _ _)
      | (with_reducible exact LeO.refl _)
      | (with_reducible exact LeO.none _)
      | (with_reducible refine LeO.ite ?_ ?_)
      | (with_reducible refine LeO.bind ?_ (fun _ => ?_))
      | exact ih0 _ _ _
      | exact ih1 _ _ _ _ _ _ _
      | exact LeO.none _
      | refine LeO.ite ?_ ?_
      | refine LeO.bind ?_ (fun _ => ?_)
def tape_Split.T7 : Bool × List (List Nat × List Nat) := (true, [([], []), ([0], [0]), ([1], [1]), ([], []), ([], []), ([3, 4], [3, 4]), ([5, 2], [5]), ([2, 6], [2, 6]), ([], []), ([8, 7, 6, 0, 1, 2, 3, 4, 5, 6, 7, 8], [7, 8])])
def tape_Split.B7 : List Nat := [0, 1, 3, 0, 0, 24, 63, 127, 0, 511]
theorem tape_Split.tab7 : rtab .any (opsOf Try.f18 7) = tape_Split.T7 := by kernel_rfl
theorem tape_Split.bits7 : waitsOk tape_Split.T7.2 tape_Split.B7 = true := by kernel_rfl
def tape_Split.T13 : Bool × List (List Nat × List Nat) := (true, [([], []), ([0], [0]), ([], []), ([], []), ([], []), ([3, 4], [3, 4]), ([], []), ([6], [6]), ([], []), ([7, 8], [7, 8]), ([2, 5, 9], [2, 5, 9]), ([10], [10]), ([11], [11]), ([1, 12, 11], [1, 12]), ([0, 1, 2, 3, 4, 5, 6, 7, 8, 9, 10, 11, 12, 13], []), ([14, 13, 13, 0, 1, 2, 3, 4, 5, 6, 7, 8, 9, 10, 11, 12, 13], [13, 14])])
def tape_Split.B13 : List Nat := [0, 1, 0, 0, 0, 24, 0, 64, 0, 448, 1020, 2044, 4092, 8191, 16383, 32767]
theorem tape_Split.tab13 : rtab .any (opsOf Try.f18 13) = tape_Split.T13 := by kernel_rfl
theorem tape_Split.bits13 : waitsOk tape_Split.T13.2 tape_Split.B13 = true := by kernel_rfl
set_option maxHeartbeats 8000000 in
set_option maxRecDepth 100000 in
theorem tape_Split.calls (k : Nat) (A0 : Option Addr) (c0 : Nat) (l0 : List Int) (a1 : Int) (r1 : List Int) (r2 : List Int) (r3 : List (List Int)) (r4 : Int) (w : World) (hr0 : Kd.C (Kd.int .u8) w A0 l0.length l0) (hc0 : l0.length ≤ c0) (h : tape_Split.f k l0 a1 = some (r1, r2, r3, r4)) :
    Calls Try.prog 18 #[.slice A0 l0.length c0, .int .i64 a1] w fun e w' => ∃ v0_ v1_ v2_ : Value, e = .returned (.tuple #[.agg #[v0_, v1_, v2_], .int .i64 r4]) ∧ Kd.R (Kd.int .u8) 5 w' w.heap.size (fun k_ => some k_ ≠ (v1_ : Value).ownBlock) v0_ r1 ∧ Kd.R (Kd.int .u8) 5 w' w.heap.size (fun k_ => some k_ ≠ (v0_ : Value).ownBlock) v1_ r2 ∧ Kd.S (Kd.slice 5 (Kd.int .u8)) 27 w' w.heap.size (fun k_ => some k_ ≠ (v0_ : Value).ownBlock ∧ some k_ ≠ (v1_ : Value).ownBlock) v2_ r3 ∧ Below w.heap.size w w' := by
  have hu50 := Try.underlying50
  have HR0 := Aside0.mk hr0
  have HC0 := Aside0.mk hc0
  clear hr0 hc0
  have HB := Aside0.mk (Below.refl w.heap.size w)
  have H : (if a1 < 1 then (tape_Split.j0 k l0 a1 true) else (tape_Split.j0 k l0 a1 (decide (a1 > 64)))) = some (r1, r2, r3, r4) := h
  clear h
  have HC3 := Aside0.mk H
  clear H
  go_enter Try.func18, Try.ntmps18
  go_upto_region 1 with (first | ((with_reducible refine gate_dst (N := 4) rfl ?_); refine box_event ?hg (N := 4) ?hd (cs := #[.slice none 0 0, .slice none 0 0, .slice none 0 0]) (t := 50) ?hr ?_; (case hd => rfl); (case hg => rfl); (case hr => first | (go_simp; done) | (go_simp; rfl)); intro gb248 hg w4 hbox hb; have n0_ := Aside0.mk (below_step (by repeat (first | (with_reducible first | exact HB.out | apply below_alloc | apply pw_below_drewN | apply below_drew1) | exact HB.out)) hb); have n1_ := Aside0.mk (hbox); have n2_ := Aside0.mk ((by rw [hg]; exact (below_size (by repeat (first | (with_reducible first | exact HB.out | apply below_alloc | apply pw_below_drewN | apply below_drew1) | exact HB.out))) : w.heap.size ≤ gb248)); have n3_ := Aside0.mk ((by rw [hg]; exact (below_size (by repeat (first | (with_reducible first | exact HB.out | apply below_alloc | apply pw_below_drewN | apply below_drew1) | exact HB.out))) : w.heap.size ≤ gb248)); clear HB; have HB := n0_; have BK248 := n1_; have GW248 := n2_; have GE248 := n3_; clear n0_ n1_ n2_ n3_; clear hb hbox hg))
  (try simp only [Act.put, List.setIfInBounds_toArray, List.set_cons_zero, List.set_cons_succ])
  go_cut [16] (fun v16 wc => ∃ (kq : Nat) (x16_2 : Bool), v16 = .bool x16_2 ∧ Aside0 (tape_Split.j0 kq l0 a1 x16_2 = some (r1, r2, r3, r4)) ∧ Aside0 (kq ≤ k) ∧ Aside0 (wc.heap[gb248]? = some (.cells #[(.slice none 0 0), (.slice none 0 0), (.slice none 0 0)] 50 (0, 0))) ∧ Aside0 (Below w.heap.size w wc))
  case first =>
    have H := HC3.out
    clear HC3
    by_cases c5 : a1 < 1
    · rw [if_pos c5] at H
      have c5b0 : decide (a1 < 1) = true := decide_eq_true c5
      clear c5
      (first | rw [c5b0] | (simp only [i64_w, i32_w]; rw [c5b0]) | skip)
      have H' := Aside0.mk H
      clear H
      go_wp2
      go_meet
      case rel => exact ⟨_, (true), (by first | rfl | (simp; done) | (simp [*]; done)), H', ⟨by first | omega | exact Nat.le_refl _⟩, ⟨by (with_reducible repeat (first | refine blk_drewN ?_ _ | refine blk_drew ?_ | refine blk_alloc ?_ _)); exact BK248.out⟩, ⟨by repeat (first | (with_reducible first | exact HB.out | apply below_alloc | apply pw_below_drewN | apply below_drew1 | refine below_set ?_ GE248.out) | exact HB.out)⟩⟩
    · rw [if_neg c5] at H
      have c5b0 : decide (a1 < 1) = false := decide_eq_false c5
      clear c5
      (first | rw [c5b0] | (simp only [i64_w, i32_w]; rw [c5b0]) | skip)
      have H' := Aside0.mk H
      clear H
      go_wp2
      go_meet
      case rel => exact ⟨_, (decide (a1 > 64)), (by first | rfl | (simp; done) | (simp [*]; done)), H', ⟨by first | omega | exact Nat.le_refl _⟩, ⟨by (with_reducible repeat (first | refine blk_drewN ?_ _ | refine blk_drew ?_ | refine blk_alloc ?_ _)); exact BK248.out⟩, ⟨by repeat (first | (with_reducible first | exact HB.out | apply below_alloc | apply pw_below_drewN | apply below_drew1 | refine below_set ?_ GE248.out) | exact HB.out)⟩⟩
  case rest =>
    clear HC3
    try clear c1
    try clear p2
    try clear c5
    try clear c5b0
    obtain ⟨kq, x16_2, rfl, HA, HJ2, BK248, HB⟩ := hcut
    cases kq with
    | zero => exact absurd HA.out (by simp [tape_Split.j0])
    | succ kj2 =>
      have H := HA.out
      clear HA
      simp only [tape_Split.j0] at H
      by_cases c6 : x16_2 = true
      · subst c6
        have H1 : (some (([] : List Int), ([] : List Int), ([] : List (List Int)), 2)) = some (r1, r2, r3, r4) := by rw [if_pos rfl] at H; exact H
        clear H
        have H := H1
        clear H1
        simp only [Option.some.injEq, Prod.mk.injEq] at H
        obtain ⟨rfl, rfl, rfl, rfl⟩ := H
        have hcz7_0 : wc.cell? ⟨gb248, 0, none⟩ = some (.slice none 0 0) := (blk_cell BK248.out 0).trans rfl
        have hcz7_1 : wc.cell? ⟨gb248, 1, none⟩ = some (.slice none 0 0) := (blk_cell BK248.out 1).trans rfl
        have hcz7_2 : wc.cell? ⟨gb248, 2, none⟩ = some (.slice none 0 0) := (blk_cell BK248.out 2).trans rfl
        have hfz7_0 := blk_frozen BK248.out 0
        have hfz7_1 := blk_frozen BK248.out 1
        have hfz7_2 := blk_frozen BK248.out 2
        go_wp2
        refine bodyPost_ret (results_ct rfl _ _ gb248 50 #[.slice none 0 0, .slice none 0 0, .slice none 0 0] (0, 0) _ rfl (by (with_reducible repeat (first | refine blk_drewN ?_ _ | refine blk_drew ?_ | refine blk_alloc ?_ _)); refine blk_put (cs := #[.slice none 0 0, .slice none 0 0, .slice none 0 0]) ?_ 2 _ rfl; (with_reducible repeat (first | refine blk_drewN ?_ _ | refine blk_drew ?_ | refine blk_alloc ?_ _)); refine blk_put (cs := #[.slice none 0 0, .slice none 0 0, .slice none 0 0]) ?_ 1 _ rfl; (with_reducible repeat (first | refine blk_drewN ?_ _ | refine blk_drew ?_ | refine blk_alloc ?_ _)); refine blk_put (cs := #[.slice none 0 0, .slice none 0 0, .slice none 0 0]) ?_ 0 _ rfl; (with_reducible repeat (first | refine blk_drewN ?_ _ | refine blk_drew ?_ | refine blk_alloc ?_ _)); exact BK248.out) Try.underlying50 rfl (by kernel_rfl)) rfl ?_
        exact ⟨_, _, _, by first | rfl | (simp [errW_none, errW_some] <;> rfl) | (simp [*, errW_none, errW_some] <;> rfl), by first | exact Kd.R_nil _ _ _ _ _ | exact Kd.N_nil _ _ _ _ _ | exact Kd.V_nil _ _ _ _ _ | exact Kd.Q_nil _ _ _ _ _ | exact Kd.S_nil _ _ _ _ _, by first | exact Kd.R_nil _ _ _ _ _ | exact Kd.N_nil _ _ _ _ _ | exact Kd.V_nil _ _ _ _ _ | exact Kd.Q_nil _ _ _ _ _ | exact Kd.S_nil _ _ _ _ _, by first | exact Kd.S_nil _ _ _ _ _ | exact Kd.N_nil _ _ _ _ _ | exact Kd.V_nil _ _ _ _ _ | exact Kd.Q_nil _ _ _ _ _ | exact Kd.R_nil _ _ _ _ _, by repeat (first | (with_reducible first | exact HB.out | apply below_alloc | apply pw_below_drewN | apply below_drew1 | refine below_set ?_ GE248.out) | exact HB.out)⟩
      · replace c6 := Bool.eq_false_iff.mpr c6
        subst c6
        have H1 : (if (l0.length : Int) < 18 then (some (([] : List Int), ([] : List Int), ([] : List (List Int)), 3)) else (if 18 ≤ (l0.length : Int) then ((some (l0.drop 18 : List Int)).bind fun y249 => ((slices_Clone_byte_byte.f (l0.take 18)).bind fun t257 => (if 0 ≤ (wrap64 ((y249.length : Int) / 2)) then (if (wrap64 ((y249.length : Int) / 2)) ≤ (y249.length : Int) then ((slices_Clone_byte_byte.f (y249.take ((wrap64 ((y249.length : Int) / 2)) : Int).toNat)).bind fun t264 => ((some (y249.drop ((wrap64 ((y249.length : Int) / 2)) : Int).toNat : List Int)).bind fun y268 => (if a1 = 0 then (none) else (tape_Split.l0 kj2 y268 (wrap64 ((y268.length : Int) / a1)) a1 0 t257 t264 ([] : List (List Int)))))) else (none)) else (none)))) else (none))) = some (r1, r2, r3, r4) := by rw [if_neg (show ¬ (false = true) by decide)] at H; exact H
        clear H
        have H := H1
        clear H1
        by_cases c8 : (l0.length : Int) < 18
        · rw [if_pos c8] at H
          have c8b0 : decide ((l0.length : Int) < 18) = true := decide_eq_true c8
          have c8b1 : decide (l0.length < 18) = true := decide_eq_true (by omega)
          clear c8
          simp only [Option.some.injEq, Prod.mk.injEq] at H
          obtain ⟨rfl, rfl, rfl, rfl⟩ := H
          have hcz9_0 : wc.cell? ⟨gb248, 0, none⟩ = some (.slice none 0 0) := (blk_cell BK248.out 0).trans rfl
          have hcz9_1 : wc.cell? ⟨gb248, 1, none⟩ = some (.slice none 0 0) := (blk_cell BK248.out 1).trans rfl
          have hcz9_2 : wc.cell? ⟨gb248, 2, none⟩ = some (.slice none 0 0) := (blk_cell BK248.out 2).trans rfl
          have hfz9_0 := blk_frozen BK248.out 0
          have hfz9_1 := blk_frozen BK248.out 1
          have hfz9_2 := blk_frozen BK248.out 2
          go_wp2
          refine bodyPost_ret (results_ct rfl _ _ gb248 50 #[.slice none 0 0, .slice none 0 0, .slice none 0 0] (0, 0) _ rfl (by (with_reducible repeat (first | refine blk_drewN ?_ _ | refine blk_drew ?_ | refine blk_alloc ?_ _)); refine blk_put (cs := #[.slice none 0 0, .slice none 0 0, .slice none 0 0]) ?_ 2 _ rfl; (with_reducible repeat (first | refine blk_drewN ?_ _ | refine blk_drew ?_ | refine blk_alloc ?_ _)); refine blk_put (cs := #[.slice none 0 0, .slice none 0 0, .slice none 0 0]) ?_ 1 _ rfl; (with_reducible repeat (first | refine blk_drewN ?_ _ | refine blk_drew ?_ | refine blk_alloc ?_ _)); refine blk_put (cs := #[.slice none 0 0, .slice none 0 0, .slice none 0 0]) ?_ 0 _ rfl; (with_reducible repeat (first | refine blk_drewN ?_ _ | refine blk_drew ?_ | refine blk_alloc ?_ _)); exact BK248.out) Try.underlying50 rfl (by kernel_rfl)) rfl ?_
          exact ⟨_, _, _, by first | rfl | (simp [errW_none, errW_some] <;> rfl) | (simp [*, errW_none, errW_some] <;> rfl), by first | exact Kd.R_nil _ _ _ _ _ | exact Kd.N_nil _ _ _ _ _ | exact Kd.V_nil _ _ _ _ _ | exact Kd.Q_nil _ _ _ _ _ | exact Kd.S_nil _ _ _ _ _, by first | exact Kd.R_nil _ _ _ _ _ | exact Kd.N_nil _ _ _ _ _ | exact Kd.V_nil _ _ _ _ _ | exact Kd.Q_nil _ _ _ _ _ | exact Kd.S_nil _ _ _ _ _, by first | exact Kd.S_nil _ _ _ _ _ | exact Kd.N_nil _ _ _ _ _ | exact Kd.V_nil _ _ _ _ _ | exact Kd.Q_nil _ _ _ _ _ | exact Kd.R_nil _ _ _ _ _, by repeat (first | (with_reducible first | exact HB.out | apply below_alloc | apply pw_below_drewN | apply below_drew1 | refine below_set ?_ GE248.out) | exact HB.out)⟩
        · rw [if_neg c8] at H
          have c8b0 : decide ((l0.length : Int) < 18) = false := decide_eq_false c8
          have c8b1 : decide (l0.length < 18) = false := decide_eq_false (by omega)
          clear c8
          by_cases c10 : 18 ≤ (l0.length : Int)
          · rw [if_pos c10] at H
            have c10b0 := eq_true c10
            have c10b1 : decide (18 ≤ (l0.length : Int)) = true := decide_eq_true c10
            clear c10
            obtain ⟨y249, hy249⟩ : ∃ y_ : List Int, y_ = (l0.drop 18) := ⟨_, rfl⟩
            replace H : ((slices_Clone_byte_byte.f (l0.take 18)).bind fun t257 => (if 0 ≤ (wrap64 ((y249.length : Int) / 2)) then (if (wrap64 ((y249.length : Int) / 2)) ≤ (y249.length : Int) then ((slices_Clone_byte_byte.f (y249.take ((wrap64 ((y249.length : Int) / 2)) : Int).toNat)).bind fun t264 => ((some (y249.drop ((wrap64 ((y249.length : Int) / 2)) : Int).toNat : List Int)).bind fun y268 => (if a1 = 0 then (none) else (tape_Split.l0 kj2 y268 (wrap64 ((y268.length : Int) / a1)) a1 0 t257 t264 ([] : List (List Int)))))) else (none)) else (none))) = some (r1, r2, r3, r4) := by first | (rw [hy249]; with_reducible exact H) | (have H2_ := (Option.bind_some _ _).symm.trans H; rw [hy249]; with_reducible exact H2_) | (have H2_ := (Option.bind_some _ _).symm.trans H; with_reducible exact H2_) | with_reducible exact H | (rw [hy249]; exact H) | exact H
            have Ny249 := Aside0.mk hy249
            clear hy249
            have c11b0 := eq_true (of_decide_eq_true (by first | (with_reducible assumption) | assumption) : 18 ≤ (l0.length : Int))
            obtain ⟨y253, hy253⟩ : ∃ y_ : List Int, y_ = (l0.take 18) := ⟨_, rfl⟩
            replace H : ((slices_Clone_byte_byte.f y253).bind fun t257 => (if 0 ≤ (wrap64 ((y249.length : Int) / 2)) then (if (wrap64 ((y249.length : Int) / 2)) ≤ (y249.length : Int) then ((slices_Clone_byte_byte.f (y249.take ((wrap64 ((y249.length : Int) / 2)) : Int).toNat)).bind fun t264 => ((some (y249.drop ((wrap64 ((y249.length : Int) / 2)) : Int).toNat : List Int)).bind fun y268 => (if a1 = 0 then (none) else (tape_Split.l0 kj2 y268 (wrap64 ((y268.length : Int) / a1)) a1 0 t257 t264 ([] : List (List Int)))))) else (none)) else (none))) = some (r1, r2, r3, r4) := by first | (rw [hy253]; with_reducible exact H) | (have H2_ := (Option.bind_some _ _).symm.trans H; rw [hy253]; with_reducible exact H2_) | (have H2_ := (Option.bind_some _ _).symm.trans H; with_reducible exact H2_) | with_reducible exact H | (rw [hy253]; exact H) | exact H
            have Ny253 := Aside0.mk hy253
            clear hy253
            replace H := Option.bind_eq_some_iff.mp H
            obtain ⟨t257, A120, H⟩ := H
            replace H : (if 0 ≤ (wrap64 ((y249.length : Int) / 2)) then (if (wrap64 ((y249.length : Int) / 2)) ≤ (y249.length : Int) then ((slices_Clone_byte_byte.f (y249.take ((wrap64 ((y249.length : Int) / 2)) : Int).toNat)).bind fun t264 => ((some (y249.drop ((wrap64 ((y249.length : Int) / 2)) : Int).toNat : List Int)).bind fun y268 => (if a1 = 0 then (none) else (tape_Split.l0 kj2 y268 (wrap64 ((y268.length : Int) / a1)) a1 0 t257 t264 ([] : List (List Int)))))) else (none)) else (none)) = some (r1, r2, r3, r4) := H
            have A12 := Aside0.mk A120
            clear A120
            obtain ⟨ji13, hji13⟩ : ∃ j_ : Int, (wrap64 ((y249.length : Int) / 2)) = j_ := ⟨_, rfl⟩
            replace H : (if 0 ≤ (ji13) then (if (ji13) ≤ (y249.length : Int) then ((slices_Clone_byte_byte.f (y249.take ((ji13) : Int).toNat)).bind fun t264 => ((some (y249.drop ((ji13) : Int).toNat : List Int)).bind fun y268 => (if a1 = 0 then (none) else (tape_Split.l0 kj2 y268 (wrap64 ((y268.length : Int) / a1)) a1 0 t257 t264 ([] : List (List Int)))))) else (none)) else (none)) = some (r1, r2, r3, r4) := by first | (rw [hji13] at H; exact H) | (simp only [hji13] at H ⊢; exact H)
            (try rw [hji13] at A12)
            have hji13w : (IntKind.i64.wrap ((y249.length : Int) / 2)) = ji13 := (i64_w _).trans hji13
            by_cases c14 : 0 ≤ (ji13)
            · rw [if_pos c14] at H
              have c14b0 := eq_true c14
              have c14b1 : decide (0 ≤ (ji13)) = true := decide_eq_true c14
              clear c14
              by_cases c15 : (ji13) ≤ (y249.length : Int)
              · rw [if_pos c15] at H
                have c15b0 := eq_true c15
                have c15b1 : decide ((ji13) ≤ (y249.length : Int)) = true := decide_eq_true c15
                clear c15
                obtain ⟨y260, hy260⟩ : ∃ y_ : List Int, y_ = (y249.take ((ji13) : Int).toNat) := ⟨_, rfl⟩
                replace H : ((slices_Clone_byte_byte.f y260).bind fun t264 => ((some (y249.drop ((ji13) : Int).toNat : List Int)).bind fun y268 => (if a1 = 0 then (none) else (tape_Split.l0 kj2 y268 (wrap64 ((y268.length : Int) / a1)) a1 0 t257 t264 ([] : List (List Int)))))) = some (r1, r2, r3, r4) := by first | (rw [hy260]; with_reducible exact H) | (have H2_ := (Option.bind_some _ _).symm.trans H; rw [hy260]; with_reducible exact H2_) | (have H2_ := (Option.bind_some _ _).symm.trans H; with_reducible exact H2_) | with_reducible exact H | (rw [hy260]; exact H) | exact H
                have Ny260 := Aside0.mk hy260
                clear hy260
                replace H := Option.bind_eq_some_iff.mp H
                obtain ⟨t264, A160, H⟩ := H
                replace H : ((some (y249.drop ((ji13) : Int).toNat : List Int)).bind fun y268 => (if a1 = 0 then (none) else (tape_Split.l0 kj2 y268 (wrap64 ((y268.length : Int) / a1)) a1 0 t257 t264 ([] : List (List Int))))) = some (r1, r2, r3, r4) := H
                have A16 := Aside0.mk A160
                clear A160
                have c17b0 := eq_true (of_decide_eq_true (by first | (with_reducible assumption) | assumption) : 0 ≤ (ji13))
                have c18b0 := eq_true (of_decide_eq_true (by first | (with_reducible assumption) | assumption) : (ji13) ≤ (y249.length : Int))
                obtain ⟨y268, hy268⟩ : ∃ y_ : List Int, y_ = (y249.drop ((ji13) : Int).toNat) := ⟨_, rfl⟩
                replace H : (if a1 = 0 then (none) else (tape_Split.l0 kj2 y268 (wrap64 ((y268.length : Int) / a1)) a1 0 t257 t264 ([] : List (List Int)))) = some (r1, r2, r3, r4) := by first | (rw [hy268]; with_reducible exact H) | (have H2_ := (Option.bind_some _ _).symm.trans H; rw [hy268]; with_reducible exact H2_) | (have H2_ := (Option.bind_some _ _).symm.trans H; with_reducible exact H2_) | with_reducible exact H | (rw [hy268]; exact H) | exact H
                have Ny268 := Aside0.mk hy268
                clear hy268
                by_cases c19 : a1 = 0
                · rw [if_pos c19] at H
                  exact absurd H (by simp)
                · rw [if_neg c19] at H
                  have c19b0 : (a1 == 0) = false := beq_eq_false_iff_ne.mpr c19
                  have c19b1 : (a1 != 0) = true := bne_iff_ne.mpr c19
                  have H' := Aside0.mk H
                  clear H
                  have q20 : (18 : Int) ≤ ((l0.length : Int) : Int) := of_decide_eq_true (by first | (with_reducible assumption) | assumption)
                  obtain ⟨i020, hi020, _, hsz20, _⟩ := info_parts info5
                  have hroom20 : l0.length ≤ c0 := HC0.out
                  have hC20 : Kd.C (Kd.int .u8) _ A0 l0.length l0 := HR0.out
                  have hcut20 := cut_from (P := Try.prog) 27 5 .i64 Try.underlying27 hi020 1 hsz20 A0 l0.length c0 18 (by omega) q20
                  have hr20 := Kd.C_drop (m := (18 : Int).toNat) (c := c0) hC20 (by omega) hroom20
                  obtain ⟨A20, hA20⟩ : ∃ A1, A1 = (if c0 = (18 : Int).toNat then A0 else (A0 : Option Addr).map (·.add ((18 : Int).toNat * 1))) := ⟨_, rfl⟩
                  obtain ⟨c20, hc20⟩ : ∃ c1, c1 = c0 - (18 : Int).toNat := ⟨_, rfl⟩
                  have hy20 : y249.length = l0.length - (18 : Int).toNat := (by rw [Ny249.out, List.length_drop] <;> omega)
                  rw [show (l0).drop (18 : Int).toNat = y249 from Ny249.out.symm] at hr20
                  replace hr20 : Kd.C (Kd.int .u8) _ A20 y249.length y249 := (by rw [hA20]; exact hr20)
                  rw [← hy20, ← hA20, ← hc20] at hcut20
                  have HR252 := Aside0.mk hr20
                  have HC252 := Aside0.mk (show y249.length ≤ c20 from by rw [hy20, hc20]; exact Nat.sub_le_sub_right hroom20 _)
                  clear hr20 hC20 hroom20 hi020 hsz20 hc20
                  have KY20 := Aside0.mk hy20
                  have KA20 := Aside0.mk hA20
                  clear hy20 hA20
                  replace q20 := eq_true q20
                  try go_wp2
                  have n0_ := Aside0.mk (blk_drew BK248.out)
                  have n1_ := Aside0.mk (below_drew1 HB.out)
                  clear BK248
                  clear HB
                  have BK248 := n0_
                  have HB := n1_
                  clear n0_ n1_
                  have q22 : (18 : Int) ≤ ((l0.length : Int) : Int) := of_decide_eq_true (by first | (with_reducible assumption) | assumption)
                  obtain ⟨i022, hi022, _, hsz22, _⟩ := info_parts info5
                  have hroom22 : l0.length ≤ c0 := HC0.out
                  have hC22 : Kd.C (Kd.int .u8) _ A0 l0.length l0 := HR0.out
                  have hcut22 := cut_to (P := Try.prog) 27 5 .i64 Try.underlying27 hi022 A0 l0.length c0 18 (by omega) q22 hroom22
                  have hr22 := Kd.C_take (m := 18) hC22 (by omega)
                  have hy22 : y253.length = (18 : Int).toNat := (by rw [Ny253.out, List.length_take]; omega)
                  rw [← Ny253.out] at hr22
                  rw [← hy22] at hcut22
                  have HR256 := Aside0.mk hr22
                  have HC256 := Aside0.mk (show y253.length ≤ c0 from by omega)
                  clear hr22 hC22 hroom22 hi022 hsz22
                  have KY22 := Aside0.mk hy22
                  clear hy22
                  replace q22 := eq_true q22
                  have q23 : ((ji13) : Int) ≤ ((y249.length : Int) : Int) := of_decide_eq_true (by first | (with_reducible assumption) | assumption)
                  obtain ⟨i023, hi023, _, hsz23, _⟩ := info_parts info5
                  have hroom23 : y249.length ≤ c20 := HC252.out
                  have hC23 : Kd.C (Kd.int .u8) _ A20 y249.length y249 := HR252.out
                  have hcut23 := cut_to (P := Try.prog) 27 5 .i64 Try.underlying27 hi023 A20 y249.length c20 (ji13) (of_decide_eq_true (by first | (with_reducible assumption) | assumption)) q23 hroom23
                  have hr23 := Kd.C_take (m := ((ji13) : Int).toNat) hC23 (by omega)
                  have hy23 : y260.length = ((ji13) : Int).toNat := (by rw [Ny260.out, List.length_take]; omega)
                  rw [← Ny260.out] at hr23
                  rw [← hy23] at hcut23
                  have HR263 := Aside0.mk hr23
                  have HC263 := Aside0.mk (show y260.length ≤ c20 from by omega)
                  clear hr23 hC23 hroom23 hi023 hsz23
                  have KY23 := Aside0.mk hy23
                  clear hy23
                  replace q23 := eq_true q23
                  refine start_ (n := 10) (S := fun w' => True) (ds := []) #[false, false, false, false, false, false, false, false, false, false] (by kernel_rfl) rfl rfl trivial (fun hHeld => ?_); refine with_tabW tape_Split.tab7 tape_Split.bits7 (fun HT_ HW_ => ?_)
                  generalize wc.drew = w21 at BK248 HB HR256 HR263 hHeld ⊢
                  refine pure_ (i := 0) (N := some 27) (v := ?_) (a' := ?_) #[true, false, false, false, false, false, false, false, false, false] rfl rfl (any_of HT_.out (by kernel_rfl)) (fun _ _ _ h => h) (Or.inl ⟨by rfl, ?_⟩) ?_ ?_
                  rotate_left
                  · intro w'
                    go_simp
                    with_reducible rfl
                  rotate_left
                  · simp only [Act.put, List.setIfInBounds_toArray, List.set_cons_zero, List.set_cons_succ, i64_w, i32_w]
                    rfl
                  refine pure_ (i := 1) (N := some 28) (v := ?_) (a' := ?_) #[true, true, false, false, false, false, false, false, false, false] rfl rfl (any_of HT_.out (by kernel_rfl)) (fun _ _ _ h => h) (Or.inl ⟨by rfl, ?_⟩) ?_ ?_
                  rotate_left
                  · intro w'
                    go_simp
                    with_reducible rfl
                  rotate_left
                  · simp only [Act.put, List.setIfInBounds_toArray, List.set_cons_zero, List.set_cons_succ, i64_w, i32_w]
                    rfl
                  refine pure_ (i := 3) (N := some 30) (v := ?_) (a' := ?_) #[true, true, false, true, false, false, false, false, false, false] rfl rfl (any_of HT_.out (by kernel_rfl)) (fun _ _ _ h => h) (Or.inl ⟨by rfl, ?_⟩) ?_ ?_
                  rotate_left
                  · intro w'
                    go_simp
                    with_reducible rfl
                  rotate_left
                  · simp only [Act.put, List.setIfInBounds_toArray, List.set_cons_zero, List.set_cons_succ, i64_w, i32_w]
                    rfl
                  refine pure_ (i := 4) (N := some 31) (v := ?_) (a' := ?_) #[true, true, false, true, true, false, false, false, false, false] rfl rfl (any_of HT_.out (by kernel_rfl)) (fun _ _ _ h => h) (Or.inl ⟨by rfl, ?_⟩) ?_ ?_
                  rotate_left
                  · intro w'
                    go_simp
                    with_reducible rfl
                  rotate_left
                  · simp only [Act.put, List.setIfInBounds_toArray, List.set_cons_zero, List.set_cons_succ, i64_w, i32_w]
                    rfl
                  refine pure_ (i := 5) (N := some 32) (v := ?_) (a' := ?_) #[true, true, false, true, true, true, false, false, false, false] rfl rfl (any_of HT_.out (by kernel_rfl)) (fun _ _ _ h => h) (Or.inl ⟨by rfl, ?_⟩) ?_ ?_
                  rotate_left
                  · intro w'
                    go_simp
                    with_reducible rfl
                  rotate_left
                  · simp only [Act.put, List.setIfInBounds_toArray, List.set_cons_zero, List.set_cons_succ, i64_w, i32_w]
                    rfl
                  refine join_ (σ := Value × Value × Nat) 1 #[true, true, true, true, true, true, true, true, true, false] (fun s_ => [(29, s_.1), (33, s_.2.1), (8, .pointer (some ⟨s_.2.2, 0, none⟩)), (34, .agg #[s_.1, s_.2.1, .slice none 0 0])]) (fun s_ w' => (Kd.R (Kd.int .u8) 5 w' w.heap.size (fun k_ => some k_ ≠ (s_.2.1 : Value).ownBlock) s_.1 t257) ∧ (Kd.R (Kd.int .u8) 5 w' w.heap.size (fun k_ => some k_ ≠ (s_.1 : Value).ownBlock) s_.2.1 t264) ∧ (w'.heap[gb248]? = some (.cells #[.slice none 0 0, .slice none 0 0, .slice none 0 0] 50 (0, 0))) ∧ (w'.heap[s_.2.2]? = some (.cells #[.slice none 0 0, .slice none 0 0, .slice none 0 0] 50 (0, 0))) ∧ (w.heap.size ≤ s_.2.2) ∧ (w.heap.size ≤ s_.2.2) ∧ (gb248 ≠ s_.2.2) ∧ (s_.2.2 ≠ gb248) ∧ (Below w.heap.size w w')) ?_ ?_
                  rotate_left
                  · intro hCont
                    refine two_ (i := 2) (j := 8) (Ni := some 29) (Nj := some 8) #[true, true, true, true, true, true, false, false, false, false] #[true, true, false, true, true, true, false, false, true, false] rfl rfl rfl rfl (two_of HT_.out (by kernel_rfl)) (by decide) (by decide) (fun K hK => ?_) (fun K hK => ?_)
                    · skip
                      refine goes_ Try.func23 (by kernel_rfl) rfl #[.slice A0 y253.length c0] (by rfl) rfl rfl (by (try simp only [List.map_toArray, List.map_cons, List.map_nil]); first | done | rfl | (simp only [List.length_drop, List.length_take]; rfl)) ?_
                      with_reducible refine (slices_Clone_byte_byte.calls _ _ y253 t257 _ ?side1 ?side2 A12.out).mono ?_
                      (case side1 => repeat (first | exact (Kd.C_below HR256.out HB.out) | (with_reducible refine Kd.C_alloc ?_ _) | (with_reducible refine Kd.C_drewN ?_ _) | (with_reducible refine Kd.C_drew ?_)))
                      (case side2 => exact HC256.out)
                      rintro e w24 ⟨v258, rfl, ho0, hb⟩
                      refine ⟨_, rfl, ?_⟩
                      have n0_ := Aside0.mk (Kd.R_lower ho0 (below_size (by repeat (first | (with_reducible first | exact HB.out | apply below_alloc | apply pw_below_drewN | apply below_drew1 | refine below_set ?_ GE248.out) | exact HB.out))))
                      have n1_ := Aside0.mk (blk_below (g := gb248) (o := .cells #[.slice none 0 0, .slice none 0 0, .slice none 0 0] 50 (0, 0)) (by (with_reducible repeat (first | refine blk_drewN ?_ _ | refine blk_drew ?_ | refine blk_alloc ?_ _)); exact BK248.out) hb)
                      have n2_ := Aside0.mk (below_step (by repeat (first | (with_reducible first | exact HB.out | apply below_alloc | apply pw_below_drewN | apply below_drew1 | refine below_set ?_ GE248.out) | exact HB.out)) hb)
                      clear BK248
                      clear HB
                      have HO259 := n0_
                      have BK248 := n1_
                      have HB := n2_
                      clear n0_ n1_ n2_
                      (try clear hb)
                      (try clear hb2)
                      (try clear hk)
                      (try clear hi)
                      (try clear ho0)
                      refine hK.out _ _ trivial (fun hHeld => ?_)
                      clear hK K
                      refine norm_ (a' := ?_) ?_ ?_
                      rotate_left
                      · show Act.put _ (some 29) _ = _
                        simp only [Act.put, List.setIfInBounds_toArray, List.set_cons_zero, List.set_cons_succ, i64_w, i32_w]
                        rfl
                      refine two_ (i := 6) (j := 8) (Ni := some 33) (Nj := some 8) #[true, true, true, true, true, true, true, false, false, false] #[true, true, true, true, true, true, false, false, true, false] rfl rfl rfl rfl (two_of HT_.out (by kernel_rfl)) (by decide) (by decide) (fun K hK => ?_) (fun K hK => ?_)
                      · skip
                        refine goes_ Try.func23 (by kernel_rfl) rfl #[.slice A20 y260.length c20] (by rfl) rfl rfl (by (try simp only [List.map_toArray, List.map_cons, List.map_nil]); first | done | rfl | (simp only [List.length_drop, List.length_take]; rfl)) ?_
                        with_reducible refine (slices_Clone_byte_byte.calls _ _ y260 t264 _ ?side1 ?side2 A16.out).mono ?_
                        (case side1 => repeat (first | exact (Kd.C_below HR263.out HB.out) | (with_reducible refine Kd.C_alloc ?_ _) | (with_reducible refine Kd.C_drewN ?_ _) | (with_reducible refine Kd.C_drew ?_)))
                        (case side2 => exact HC263.out)
                        rintro e w25 ⟨v265, rfl, ho0, hb⟩
                        refine ⟨_, rfl, ?_⟩
                        have n0_ := Aside0.mk (Kd.R_elder' (by (with_reducible repeat (first | apply Kd.R_alloc | apply Kd.R_drewN | apply Kd.R_drew)); exact HO259.out) (Kd.R_base ho0) hb)
                        have n1_ := Aside0.mk (Kd.R_lower (Kd.R_new' ho0 (Kd.R_lt (by (with_reducible repeat (first | apply Kd.R_alloc | apply Kd.R_drewN | apply Kd.R_drew)); exact HO259.out))) (below_size (by repeat (first | (with_reducible first | exact HB.out | apply below_alloc | apply pw_below_drewN | apply below_drew1 | refine below_set ?_ GE248.out) | exact HB.out))))
                        have n2_ := Aside0.mk (blk_below (g := gb248) (o := .cells #[.slice none 0 0, .slice none 0 0, .slice none 0 0] 50 (0, 0)) (by (with_reducible repeat (first | refine blk_drewN ?_ _ | refine blk_drew ?_ | refine blk_alloc ?_ _)); exact BK248.out) hb)
                        have n3_ := Aside0.mk (below_step (by repeat (first | (with_reducible first | exact HB.out | apply below_alloc | apply pw_below_drewN | apply below_drew1 | refine below_set ?_ GE248.out) | exact HB.out)) hb)
                        clear HO259
                        clear BK248
                        clear HB
                        have HO259 := n0_
                        have HO266 := n1_
                        have BK248 := n2_
                        have HB := n3_
                        clear n0_ n1_ n2_ n3_
                        (try clear hb)
                        (try clear hb2)
                        (try clear hk)
                        (try clear hi)
                        (try clear ho0)
                        obtain ⟨Ao26, co26, eo26⟩ := Kd.R_slice HO266.out
                        (first | subst eo26 | (injection eo26 with f1_ f2_ f3_; have f4_ := f1_.symm; have f5_ := f3_.symm; clear f1_ f2_ f3_; subst f4_; subst f5_))
                        obtain ⟨Ao27, co27, eo27⟩ := Kd.R_slice HO259.out
                        (first | subst eo27 | (injection eo27 with f1_ f2_ f3_; have f4_ := f1_.symm; have f5_ := f3_.symm; clear f1_ f2_ f3_; subst f4_; subst f5_))
                        refine hK.out _ _ trivial (fun hHeld => ?_)
                        clear hK K
                        refine norm_ (a' := ?_) ?_ ?_
                        rotate_left
                        · show Act.put _ (some 33) _ = _
                          simp only [Act.put, List.setIfInBounds_toArray, List.set_cons_zero, List.set_cons_succ, i64_w, i32_w]
                          rfl
                        refine pure_ (i := 7) (N := some 34) (v := ?_) (a' := ?_) #[true, true, true, true, true, true, true, true, false, false] rfl rfl (any_of HT_.out (by kernel_rfl)) (fun _ _ _ h => h) (Or.inl ⟨by rfl, ?_⟩) ?_ ?_
                        rotate_left
                        · intro w'
                          go_simp
                          with_reducible rfl
                        rotate_left
                        · simp only [Act.put, List.setIfInBounds_toArray, List.set_cons_zero, List.set_cons_succ, i64_w, i32_w]
                          rfl
                        refine one_ (i := 8) (N := some 8) #[true, true, true, true, true, true, true, true, true, false] rfl rfl (one_of HT_.out (by kernel_rfl)) (by decide) (fun K hK => ?_)
                        refine box_step ?hg (N := 8) ?hd (cs := #[.slice none 0 0, .slice none 0 0, .slice none 0 0]) (t := 50) ?hr ?_; (case hd => rfl); (case hg => rfl); (case hr => first | (go_simp; done) | (go_simp; rfl))
                        intro gb267 hg w28 hbox hb
                        have n0_ := Aside0.mk (Kd.R_below (by (with_reducible repeat (first | apply Kd.R_alloc | apply Kd.R_drewN | apply Kd.R_drew)); exact HO259.out) hb)
                        have n1_ := Aside0.mk (Kd.R_below (by (with_reducible repeat (first | apply Kd.R_alloc | apply Kd.R_drewN | apply Kd.R_drew)); exact HO266.out) hb)
                        have n2_ := Aside0.mk (blk_below (g := gb248) (o := .cells #[.slice none 0 0, .slice none 0 0, .slice none 0 0] 50 (0, 0)) (by (with_reducible repeat (first | refine blk_drewN ?_ _ | refine blk_drew ?_ | refine blk_alloc ?_ _)); exact BK248.out) hb)
                        have n3_ := Aside0.mk (below_step (by repeat (first | (with_reducible first | exact HB.out | apply below_alloc | apply pw_below_drewN | apply below_drew1 | refine below_set ?_ GE248.out) | exact HB.out)) hb)
                        have n4_ := Aside0.mk (hbox)
                        have n5_ := Aside0.mk ((by rw [hg]; exact (below_size (by repeat (first | (with_reducible first | exact HB.out | apply below_alloc | apply pw_below_drewN | apply below_drew1 | refine below_set ?_ GE248.out) | exact HB.out))) : w.heap.size ≤ gb267))
                        have n6_ := Aside0.mk ((by rw [hg]; exact (below_size (by repeat (first | (with_reducible first | exact HB.out | apply below_alloc | apply pw_below_drewN | apply below_drew1 | refine below_set ?_ GE248.out) | exact HB.out))) : w.heap.size ≤ gb267))
                        have n7_ := Aside0.mk ((by rw [hg]; exact Nat.ne_of_lt (blk_lt (g := gb248) (o := .cells #[.slice none 0 0, .slice none 0 0, .slice none 0 0] 50 (0, 0)) (by (with_reducible repeat (first | refine blk_drewN ?_ _ | refine blk_drew ?_ | refine blk_alloc ?_ _)); exact BK248.out)) : gb248 ≠ gb267))
                        have n8_ := Aside0.mk ((by rw [hg]; exact Nat.ne_of_gt (blk_lt (g := gb248) (o := .cells #[.slice none 0 0, .slice none 0 0, .slice none 0 0] 50 (0, 0)) (by (with_reducible repeat (first | refine blk_drewN ?_ _ | refine blk_drew ?_ | refine blk_alloc ?_ _)); exact BK248.out)) : gb267 ≠ gb248))
                        clear HO259
                        clear HO266
                        clear BK248
                        clear HB
                        have HO259 := n0_
                        have HO266 := n1_
                        have BK248 := n2_
                        have HB := n3_
                        have BK267 := n4_
                        have GW267 := n5_
                        have GE267 := n6_
                        have NB248_267 := n7_
                        have NB267_248 := n8_
                        clear n0_ n1_ n2_ n3_ n4_ n5_ n6_ n7_ n8_
                        clear hb hbox hg
                        refine hK.out _ _ trivial (fun hHeld => ?_)
                        clear hK K
                        refine norm_ (a' := ?_) ?_ ?_
                        rotate_left
                        · show Act.put _ (some 8) _ = _
                          simp only [Act.put, List.setIfInBounds_toArray, List.set_cons_zero, List.set_cons_succ, i64_w, i32_w]
                          rfl
                        exact norm_ (by simp only [putAll, Act.put, List.setIfInBounds_toArray, List.set_cons_zero, List.set_cons_succ]) (hCont (.slice Ao27 t257.length co27, .slice Ao26 t264.length co26, gb267) _ ⟨(by (with_reducible repeat (first | apply Kd.R_alloc | apply Kd.R_drewN | apply Kd.R_drew)); exact Kd.R_mono HO259.out (fun _ hk => hk.2)), (by (with_reducible repeat (first | apply Kd.R_alloc | apply Kd.R_drewN | apply Kd.R_drew)); exact Kd.R_mono HO266.out (fun _ hk => hk.2)), (by (with_reducible repeat (first | refine blk_drewN ?_ _ | refine blk_drew ?_ | refine blk_alloc ?_ _)); exact BK248.out), (by (with_reducible repeat (first | refine blk_drewN ?_ _ | refine blk_drew ?_ | refine blk_alloc ?_ _)); exact BK267.out), GW267.out, GE267.out, NB248_267.out, NB267_248.out, (by repeat (first | (with_reducible first | exact HB.out | apply below_alloc | apply pw_below_drewN | apply below_drew1 | refine below_set ?_ GE248.out | refine below_set ?_ GE267.out) | exact HB.out))⟩)
                      · skip
                        refine box_step ?hg (N := 8) ?hd (cs := #[.slice none 0 0, .slice none 0 0, .slice none 0 0]) (t := 50) ?hr ?_; (case hd => rfl); (case hg => rfl); (case hr => first | (go_simp; done) | (go_simp; rfl))
                        intro gb267 hg w25 hbox hb
                        have n0_ := Aside0.mk (Kd.R_below (by (with_reducible repeat (first | apply Kd.R_alloc | apply Kd.R_drewN | apply Kd.R_drew)); exact HO259.out) hb)
                        have n1_ := Aside0.mk (blk_below (g := gb248) (o := .cells #[.slice none 0 0, .slice none 0 0, .slice none 0 0] 50 (0, 0)) (by (with_reducible repeat (first | refine blk_drewN ?_ _ | refine blk_drew ?_ | refine blk_alloc ?_ _)); exact BK248.out) hb)
                        have n2_ := Aside0.mk (below_step (by repeat (first | (with_reducible first | exact HB.out | apply below_alloc | apply pw_below_drewN | apply below_drew1 | refine below_set ?_ GE248.out) | exact HB.out)) hb)
                        have n3_ := Aside0.mk (hbox)
                        have n4_ := Aside0.mk ((by rw [hg]; exact (below_size (by repeat (first | (with_reducible first | exact HB.out | apply below_alloc | apply pw_below_drewN | apply below_drew1 | refine below_set ?_ GE248.out) | exact HB.out))) : w.heap.size ≤ gb267))
                        have n5_ := Aside0.mk ((by rw [hg]; exact (below_size (by repeat (first | (with_reducible first | exact HB.out | apply below_alloc | apply pw_below_drewN | apply below_drew1 | refine below_set ?_ GE248.out) | exact HB.out))) : w.heap.size ≤ gb267))
                        have n6_ := Aside0.mk ((by rw [hg]; exact Nat.ne_of_lt (blk_lt (g := gb248) (o := .cells #[.slice none 0 0, .slice none 0 0, .slice none 0 0] 50 (0, 0)) (by (with_reducible repeat (first | refine blk_drewN ?_ _ | refine blk_drew ?_ | refine blk_alloc ?_ _)); exact BK248.out)) : gb248 ≠ gb267))
                        have n7_ := Aside0.mk ((by rw [hg]; exact Nat.ne_of_gt (blk_lt (g := gb248) (o := .cells #[.slice none 0 0, .slice none 0 0, .slice none 0 0] 50 (0, 0)) (by (with_reducible repeat (first | refine blk_drewN ?_ _ | refine blk_drew ?_ | refine blk_alloc ?_ _)); exact BK248.out)) : gb267 ≠ gb248))
                        clear HO259
                        clear BK248
                        clear HB
                        have HO259 := n0_
                        have BK248 := n1_
                        have HB := n2_
                        have BK267 := n3_
                        have GW267 := n4_
                        have GE267 := n5_
                        have NB248_267 := n6_
                        have NB267_248 := n7_
                        clear n0_ n1_ n2_ n3_ n4_ n5_ n6_ n7_
                        clear hb hbox hg
                        refine hK.out _ _ trivial (fun hHeld => ?_)
                        clear hK K
                        refine norm_ (a' := ?_) ?_ ?_
                        rotate_left
                        · show Act.put _ (some 8) _ = _
                          simp only [Act.put, List.setIfInBounds_toArray, List.set_cons_zero, List.set_cons_succ, i64_w, i32_w]
                          rfl
                        refine one_ (i := 6) (N := some 33) #[true, true, true, true, true, true, true, false, true, false] rfl rfl (one_of HT_.out (by kernel_rfl)) (by decide) (fun K hK => ?_)
                        refine goes_ Try.func23 (by kernel_rfl) rfl #[.slice A20 y260.length c20] (by rfl) rfl rfl (by (try simp only [List.map_toArray, List.map_cons, List.map_nil]); first | done | rfl | (simp only [List.length_drop, List.length_take]; rfl)) ?_
                        with_reducible refine (slices_Clone_byte_byte.calls _ _ y260 t264 _ ?side1 ?side2 A16.out).mono ?_
                        (case side1 => repeat (first | exact (Kd.C_below HR263.out HB.out) | (with_reducible refine Kd.C_alloc ?_ _) | (with_reducible refine Kd.C_drewN ?_ _) | (with_reducible refine Kd.C_drew ?_)))
                        (case side2 => exact HC263.out)
                        rintro e w26 ⟨v265, rfl, ho0, hb⟩
                        refine ⟨_, rfl, ?_⟩
                        have n0_ := Aside0.mk (Kd.R_elder' (by (with_reducible repeat (first | apply Kd.R_alloc | apply Kd.R_drewN | apply Kd.R_drew)); exact HO259.out) (Kd.R_base ho0) hb)
                        have n1_ := Aside0.mk (Kd.R_lower (Kd.R_new' ho0 (Kd.R_lt (by (with_reducible repeat (first | apply Kd.R_alloc | apply Kd.R_drewN | apply Kd.R_drew)); exact HO259.out))) (below_size (by repeat (first | (with_reducible first | exact HB.out | apply below_alloc | apply pw_below_drewN | apply below_drew1 | refine below_set ?_ GE248.out | refine below_set ?_ GE267.out) | exact HB.out))))
                        have n2_ := Aside0.mk (blk_below (g := gb248) (o := .cells #[.slice none 0 0, .slice none 0 0, .slice none 0 0] 50 (0, 0)) (by (with_reducible repeat (first | refine blk_drewN ?_ _ | refine blk_drew ?_ | refine blk_alloc ?_ _)); exact BK248.out) hb)
                        have n3_ := Aside0.mk (blk_below (g := gb267) (o := .cells #[.slice none 0 0, .slice none 0 0, .slice none 0 0] 50 (0, 0)) (by (with_reducible repeat (first | refine blk_drewN ?_ _ | refine blk_drew ?_ | refine blk_alloc ?_ _)); exact BK267.out) hb)
                        have n4_ := Aside0.mk (below_step (by repeat (first | (with_reducible first | exact HB.out | apply below_alloc | apply pw_below_drewN | apply below_drew1 | refine below_set ?_ GE248.out | refine below_set ?_ GE267.out) | exact HB.out)) hb)
                        clear HO259
                        clear BK248
                        clear BK267
                        clear HB
                        have HO259 := n0_
                        have HO266 := n1_
                        have BK248 := n2_
                        have BK267 := n3_
                        have HB := n4_
                        clear n0_ n1_ n2_ n3_ n4_
                        (try clear hb)
                        (try clear hb2)
                        (try clear hk)
                        (try clear hi)
                        (try clear ho0)
                        obtain ⟨Ao27, co27, eo27⟩ := Kd.R_slice HO266.out
                        (first | subst eo27 | (injection eo27 with f1_ f2_ f3_; have f4_ := f1_.symm; have f5_ := f3_.symm; clear f1_ f2_ f3_; subst f4_; subst f5_))
                        obtain ⟨Ao28, co28, eo28⟩ := Kd.R_slice HO259.out
                        (first | subst eo28 | (injection eo28 with f1_ f2_ f3_; have f4_ := f1_.symm; have f5_ := f3_.symm; clear f1_ f2_ f3_; subst f4_; subst f5_))
                        refine hK.out _ _ trivial (fun hHeld => ?_)
                        clear hK K
                        refine norm_ (a' := ?_) ?_ ?_
                        rotate_left
                        · show Act.put _ (some 33) _ = _
                          simp only [Act.put, List.setIfInBounds_toArray, List.set_cons_zero, List.set_cons_succ, i64_w, i32_w]
                          rfl
                        refine pure_ (i := 7) (N := some 34) (v := ?_) (a' := ?_) #[true, true, true, true, true, true, true, true, true, false] rfl rfl (any_of HT_.out (by kernel_rfl)) (fun _ _ _ h => h) (Or.inl ⟨by rfl, ?_⟩) ?_ ?_
                        rotate_left
                        · intro w'
                          go_simp
                          with_reducible rfl
                        rotate_left
                        · simp only [Act.put, List.setIfInBounds_toArray, List.set_cons_zero, List.set_cons_succ, i64_w, i32_w]
                          rfl
                        exact norm_ (by simp only [putAll, Act.put, List.setIfInBounds_toArray, List.set_cons_zero, List.set_cons_succ]) (hCont (.slice Ao28 t257.length co28, .slice Ao27 t264.length co27, gb267) _ ⟨(by (with_reducible repeat (first | apply Kd.R_alloc | apply Kd.R_drewN | apply Kd.R_drew)); exact Kd.R_mono HO259.out (fun _ hk => hk.2)), (by (with_reducible repeat (first | apply Kd.R_alloc | apply Kd.R_drewN | apply Kd.R_drew)); exact Kd.R_mono HO266.out (fun _ hk => hk.2)), (by (with_reducible repeat (first | refine blk_drewN ?_ _ | refine blk_drew ?_ | refine blk_alloc ?_ _)); exact BK248.out), (by (with_reducible repeat (first | refine blk_drewN ?_ _ | refine blk_drew ?_ | refine blk_alloc ?_ _)); exact BK267.out), GW267.out, GE267.out, NB248_267.out, NB267_248.out, (by repeat (first | (with_reducible first | exact HB.out | apply below_alloc | apply pw_below_drewN | apply below_drew1 | refine below_set ?_ GE248.out | refine below_set ?_ GE267.out) | exact HB.out))⟩)
                    · skip
                      refine box_step ?hg (N := 8) ?hd (cs := #[.slice none 0 0, .slice none 0 0, .slice none 0 0]) (t := 50) ?hr ?_; (case hd => rfl); (case hg => rfl); (case hr => first | (go_simp; done) | (go_simp; rfl))
                      intro gb267 hg w24 hbox hb
                      have n0_ := Aside0.mk (blk_below (g := gb248) (o := .cells #[.slice none 0 0, .slice none 0 0, .slice none 0 0] 50 (0, 0)) (by (with_reducible repeat (first | refine blk_drewN ?_ _ | refine blk_drew ?_ | refine blk_alloc ?_ _)); exact BK248.out) hb)
                      have n1_ := Aside0.mk (below_step (by repeat (first | (with_reducible first | exact HB.out | apply below_alloc | apply pw_below_drewN | apply below_drew1 | refine below_set ?_ GE248.out) | exact HB.out)) hb)
                      have n2_ := Aside0.mk (hbox)
                      have n3_ := Aside0.mk ((by rw [hg]; exact (below_size (by repeat (first | (with_reducible first | exact HB.out | apply below_alloc | apply pw_below_drewN | apply below_drew1 | refine below_set ?_ GE248.out) | exact HB.out))) : w.heap.size ≤ gb267))
                      have n4_ := Aside0.mk ((by rw [hg]; exact (below_size (by repeat (first | (with_reducible first | exact HB.out | apply below_alloc | apply pw_below_drewN | apply below_drew1 | refine below_set ?_ GE248.out) | exact HB.out))) : w.heap.size ≤ gb267))
                      have n5_ := Aside0.mk ((by rw [hg]; exact Nat.ne_of_lt (blk_lt (g := gb248) (o := .cells #[.slice none 0 0, .slice none 0 0, .slice none 0 0] 50 (0, 0)) (by (with_reducible repeat (first | refine blk_drewN ?_ _ | refine blk_drew ?_ | refine blk_alloc ?_ _)); exact BK248.out)) : gb248 ≠ gb267))
                      have n6_ := Aside0.mk ((by rw [hg]; exact Nat.ne_of_gt (blk_lt (g := gb248) (o := .cells #[.slice none 0 0, .slice none 0 0, .slice none 0 0] 50 (0, 0)) (by (with_reducible repeat (first | refine blk_drewN ?_ _ | refine blk_drew ?_ | refine blk_alloc ?_ _)); exact BK248.out)) : gb267 ≠ gb248))
                      clear BK248
                      clear HB
                      have BK248 := n0_
                      have HB := n1_
                      have BK267 := n2_
                      have GW267 := n3_
                      have GE267 := n4_
                      have NB248_267 := n5_
                      have NB267_248 := n6_
                      clear n0_ n1_ n2_ n3_ n4_ n5_ n6_
                      clear hb hbox hg
                      refine hK.out _ _ trivial (fun hHeld => ?_)
                      clear hK K
                      refine norm_ (a' := ?_) ?_ ?_
                      rotate_left
                      · show Act.put _ (some 8) _ = _
                        simp only [Act.put, List.setIfInBounds_toArray, List.set_cons_zero, List.set_cons_succ, i64_w, i32_w]
                        rfl
                      refine one_ (i := 2) (N := some 29) #[true, true, true, true, true, true, false, false, true, false] rfl rfl (one_of HT_.out (by kernel_rfl)) (by decide) (fun K hK => ?_)
                      refine goes_ Try.func23 (by kernel_rfl) rfl #[.slice A0 y253.length c0] (by rfl) rfl rfl (by (try simp only [List.map_toArray, List.map_cons, List.map_nil]); first | done | rfl | (simp only [List.length_drop, List.length_take]; rfl)) ?_
                      with_reducible refine (slices_Clone_byte_byte.calls _ _ y253 t257 _ ?side1 ?side2 A12.out).mono ?_
                      (case side1 => repeat (first | exact (Kd.C_below HR256.out HB.out) | (with_reducible refine Kd.C_alloc ?_ _) | (with_reducible refine Kd.C_drewN ?_ _) | (with_reducible refine Kd.C_drew ?_)))
                      (case side2 => exact HC256.out)
                      rintro e w25 ⟨v258, rfl, ho0, hb⟩
                      refine ⟨_, rfl, ?_⟩
                      have n0_ := Aside0.mk (Kd.R_lower ho0 (below_size (by repeat (first | (with_reducible first | exact HB.out | apply below_alloc | apply pw_below_drewN | apply below_drew1 | refine below_set ?_ GE248.out | refine below_set ?_ GE267.out) | exact HB.out))))
                      have n1_ := Aside0.mk (blk_below (g := gb248) (o := .cells #[.slice none 0 0, .slice none 0 0, .slice none 0 0] 50 (0, 0)) (by (with_reducible repeat (first | refine blk_drewN ?_ _ | refine blk_drew ?_ | refine blk_alloc ?_ _)); exact BK248.out) hb)
                      have n2_ := Aside0.mk (blk_below (g := gb267) (o := .cells #[.slice none 0 0, .slice none 0 0, .slice none 0 0] 50 (0, 0)) (by (with_reducible repeat (first | refine blk_drewN ?_ _ | refine blk_drew ?_ | refine blk_alloc ?_ _)); exact BK267.out) hb)
                      have n3_ := Aside0.mk (below_step (by repeat (first | (with_reducible first | exact HB.out | apply below_alloc | apply pw_below_drewN | apply below_drew1 | refine below_set ?_ GE248.out | refine below_set ?_ GE267.out) | exact HB.out)) hb)
                      clear BK248
                      clear BK267
                      clear HB
                      have HO259 := n0_
                      have BK248 := n1_
                      have BK267 := n2_
                      have HB := n3_
                      clear n0_ n1_ n2_ n3_
                      (try clear hb)
                      (try clear hb2)
                      (try clear hk)
                      (try clear hi)
                      (try clear ho0)
                      refine hK.out _ _ trivial (fun hHeld => ?_)
                      clear hK K
                      refine norm_ (a' := ?_) ?_ ?_
                      rotate_left
                      · show Act.put _ (some 29) _ = _
                        simp only [Act.put, List.setIfInBounds_toArray, List.set_cons_zero, List.set_cons_succ, i64_w, i32_w]
                        rfl
                      refine one_ (i := 6) (N := some 33) #[true, true, true, true, true, true, true, false, true, false] rfl rfl (one_of HT_.out (by kernel_rfl)) (by decide) (fun K hK => ?_)
                      refine goes_ Try.func23 (by kernel_rfl) rfl #[.slice A20 y260.length c20] (by rfl) rfl rfl (by (try simp only [List.map_toArray, List.map_cons, List.map_nil]); first | done | rfl | (simp only [List.length_drop, List.length_take]; rfl)) ?_
                      with_reducible refine (slices_Clone_byte_byte.calls _ _ y260 t264 _ ?side1 ?side2 A16.out).mono ?_
                      (case side1 => repeat (first | exact (Kd.C_below HR263.out HB.out) | (with_reducible refine Kd.C_alloc ?_ _) | (with_reducible refine Kd.C_drewN ?_ _) | (with_reducible refine Kd.C_drew ?_)))
                      (case side2 => exact HC263.out)
                      rintro e w26 ⟨v265, rfl, ho0, hb⟩
                      refine ⟨_, rfl, ?_⟩
                      have n0_ := Aside0.mk (Kd.R_elder' (by (with_reducible repeat (first | apply Kd.R_alloc | apply Kd.R_drewN | apply Kd.R_drew)); exact HO259.out) (Kd.R_base ho0) hb)
                      have n1_ := Aside0.mk (Kd.R_lower (Kd.R_new' ho0 (Kd.R_lt (by (with_reducible repeat (first | apply Kd.R_alloc | apply Kd.R_drewN | apply Kd.R_drew)); exact HO259.out))) (below_size (by repeat (first | (with_reducible first | exact HB.out | apply below_alloc | apply pw_below_drewN | apply below_drew1 | refine below_set ?_ GE248.out | refine below_set ?_ GE267.out) | exact HB.out))))
                      have n2_ := Aside0.mk (blk_below (g := gb248) (o := .cells #[.slice none 0 0, .slice none 0 0, .slice none 0 0] 50 (0, 0)) (by (with_reducible repeat (first | refine blk_drewN ?_ _ | refine blk_drew ?_ | refine blk_alloc ?_ _)); exact BK248.out) hb)
                      have n3_ := Aside0.mk (blk_below (g := gb267) (o := .cells #[.slice none 0 0, .slice none 0 0, .slice none 0 0] 50 (0, 0)) (by (with_reducible repeat (first | refine blk_drewN ?_ _ | refine blk_drew ?_ | refine blk_alloc ?_ _)); exact BK267.out) hb)
                      have n4_ := Aside0.mk (below_step (by repeat (first | (with_reducible first | exact HB.out | apply below_alloc | apply pw_below_drewN | apply below_drew1 | refine below_set ?_ GE248.out | refine below_set ?_ GE267.out) | exact HB.out)) hb)
                      clear HO259
                      clear BK248
                      clear BK267
                      clear HB
                      have HO259 := n0_
                      have HO266 := n1_
                      have BK248 := n2_
                      have BK267 := n3_
                      have HB := n4_
                      clear n0_ n1_ n2_ n3_ n4_
                      (try clear hb)
                      (try clear hb2)
                      (try clear hk)
                      (try clear hi)
                      (try clear ho0)
                      obtain ⟨Ao27, co27, eo27⟩ := Kd.R_slice HO266.out
                      (first | subst eo27 | (injection eo27 with f1_ f2_ f3_; have f4_ := f1_.symm; have f5_ := f3_.symm; clear f1_ f2_ f3_; subst f4_; subst f5_))
                      obtain ⟨Ao28, co28, eo28⟩ := Kd.R_slice HO259.out
                      (first | subst eo28 | (injection eo28 with f1_ f2_ f3_; have f4_ := f1_.symm; have f5_ := f3_.symm; clear f1_ f2_ f3_; subst f4_; subst f5_))
                      refine hK.out _ _ trivial (fun hHeld => ?_)
                      clear hK K
                      refine norm_ (a' := ?_) ?_ ?_
                      rotate_left
                      · show Act.put _ (some 33) _ = _
                        simp only [Act.put, List.setIfInBounds_toArray, List.set_cons_zero, List.set_cons_succ, i64_w, i32_w]
                        rfl
                      refine pure_ (i := 7) (N := some 34) (v := ?_) (a' := ?_) #[true, true, true, true, true, true, true, true, true, false] rfl rfl (any_of HT_.out (by kernel_rfl)) (fun _ _ _ h => h) (Or.inl ⟨by rfl, ?_⟩) ?_ ?_
                      rotate_left
                      · intro w'
                        go_simp
                        with_reducible rfl
                      rotate_left
                      · simp only [Act.put, List.setIfInBounds_toArray, List.set_cons_zero, List.set_cons_succ, i64_w, i32_w]
                        rfl
                      exact norm_ (by simp only [putAll, Act.put, List.setIfInBounds_toArray, List.set_cons_zero, List.set_cons_succ]) (hCont (.slice Ao28 t257.length co28, .slice Ao27 t264.length co27, gb267) _ ⟨(by (with_reducible repeat (first | apply Kd.R_alloc | apply Kd.R_drewN | apply Kd.R_drew)); exact Kd.R_mono HO259.out (fun _ hk => hk.2)), (by (with_reducible repeat (first | apply Kd.R_alloc | apply Kd.R_drewN | apply Kd.R_drew)); exact Kd.R_mono HO266.out (fun _ hk => hk.2)), (by (with_reducible repeat (first | refine blk_drewN ?_ _ | refine blk_drew ?_ | refine blk_alloc ?_ _)); exact BK248.out), (by (with_reducible repeat (first | refine blk_drewN ?_ _ | refine blk_drew ?_ | refine blk_alloc ?_ _)); exact BK267.out), GW267.out, GE267.out, NB248_267.out, NB267_248.out, (by repeat (first | (with_reducible first | exact HB.out | apply below_alloc | apply pw_below_drewN | apply below_drew1 | refine below_set ?_ GE248.out | refine below_set ?_ GE267.out) | exact HB.out))⟩)
                  rintro ⟨v258, v265, gb267⟩ w29 ⟨h0_, h1_, h2_, h3_, h4_, h5_, h6_, h7_, h8_⟩
                  have n0_ : Aside0 (Kd.R (Kd.int .u8) 5 w29 w.heap.size (fun k_ => some k_ ≠ (v265 : Value).ownBlock) v258 t257) := ⟨h0_⟩
                  have n1_ : Aside0 (Kd.R (Kd.int .u8) 5 w29 w.heap.size (fun k_ => some k_ ≠ (v258 : Value).ownBlock) v265 t264) := ⟨h1_⟩
                  have n2_ : Aside0 (w29.heap[gb248]? = some (.cells #[.slice none 0 0, .slice none 0 0, .slice none 0 0] 50 (0, 0))) := ⟨h2_⟩
                  have n3_ : Aside0 (w29.heap[gb267]? = some (.cells #[.slice none 0 0, .slice none 0 0, .slice none 0 0] 50 (0, 0))) := ⟨h3_⟩
                  have n4_ : Aside0 (w.heap.size ≤ gb267) := ⟨h4_⟩
                  have n5_ : Aside0 (w.heap.size ≤ gb267) := ⟨h5_⟩
                  have n6_ : Aside0 (gb248 ≠ gb267) := ⟨h6_⟩
                  have n7_ : Aside0 (gb267 ≠ gb248) := ⟨h7_⟩
                  have n8_ : Aside0 (Below w.heap.size w w29) := ⟨h8_⟩
                  clear BK248
                  clear HB
                  clear h0_ h1_ h2_ h3_ h4_ h5_ h6_ h7_ h8_
                  have HO259 := n0_
                  have HO266 := n1_
                  have BK248 := n2_
                  have BK267 := n3_
                  have GW267 := n4_
                  have GE267 := n5_
                  have NB248_267 := n6_
                  have NB267_248 := n7_
                  have HB := n8_
                  clear n0_ n1_ n2_ n3_ n4_ n5_ n6_ n7_ n8_
                  have hHeld := trivial
                  obtain ⟨Ao30, co30, eo30⟩ := Kd.R_slice HO266.out
                  (first | subst eo30 | (injection eo30 with f1_ f2_ f3_; have f4_ := f1_.symm; have f5_ := f3_.symm; clear f1_ f2_ f3_; subst f4_; subst f5_))
                  obtain ⟨Ao31, co31, eo31⟩ := Kd.R_slice HO259.out
                  (first | subst eo31 | (injection eo31 with f1_ f2_ f3_; have f4_ := f1_.symm; have f5_ := f3_.symm; clear f1_ f2_ f3_; subst f4_; subst f5_))
                  refine norm_ (a' := ?_) ?_ ?_
                  rotate_left
                  · simp only [putAll, Act.put, List.setIfInBounds_toArray, List.set_cons_zero, List.set_cons_succ]
                    rfl
                  refine one_ (i := 9) (N := none) #[true, true, true, true, true, true, true, true, true, true] rfl rfl (one_of HT_.out (by kernel_rfl)) (by decide) (fun K hK => ?_)
                  have hs32 : w29.cell? ⟨gb267, 0, none⟩ = some (.slice none 0 0) := (blk_cell BK267.out 0).trans rfl
                  have hfs32 := blk_frozen BK267.out 0
                  have hns32_0 := NB248_267.out
                  have hms32_0 := NB267_248.out
                  have hs33 : w29.cell? ⟨gb267, 1, none⟩ = some (.slice none 0 0) := (blk_cell BK267.out 1).trans rfl
                  have hfs33 := blk_frozen BK267.out 1
                  have hns33_0 := NB248_267.out
                  have hms33_0 := NB267_248.out
                  have hs34 : w29.cell? ⟨gb267, 2, none⟩ = some (.slice none 0 0) := (blk_cell BK267.out 2).trans rfl
                  have hfs34 := blk_frozen BK267.out 2
                  have hns34_0 := NB248_267.out
                  have hms34_0 := NB267_248.out
                  refine skip_ (w1 := ?_) (by rfl) rfl ?_ ?_
                  rotate_left
                  · go_simp
                    rfl
                  refine hK.out _ _ trivial (fun hHeld => ?_)
                  clear hK K
                  refine done_ (done_of HT_.out (by kernel_rfl)) ?_
                  have n0_ : Aside0 (Kd.R (Kd.int .u8) 5 (((w29.setCell ⟨gb267, 0, none⟩ (.slice Ao31 t257.length co31)).setCell ⟨gb267, 1, none⟩ (.slice Ao30 t264.length co30)).setCell ⟨gb267, 2, none⟩ (.slice none 0 0)) w.heap.size (fun k_ => some k_ ≠ (.slice Ao30 t264.length co30 : Value).ownBlock) (.slice Ao31 t257.length co31) t257) := ⟨by (with_reducible repeat (first | apply Kd.R_alloc | apply Kd.R_drewN | apply Kd.R_drew)); exact Kd.R_mono (Kd.R_far (p := ⟨gb267, 2, none⟩) (Kd.R_far (p := ⟨gb267, 1, none⟩) (Kd.R_far (p := ⟨gb267, 0, none⟩) (Kd.R_types HO259.out BK267.out (by decide)) (fun _ hk => hk.2) (.slice Ao31 t257.length co31)) (fun _ hk => hk.2) (.slice Ao30 t264.length co30)) (fun _ hk => hk.2) (.slice none 0 0)) (fun _ hk => hk.1)⟩
                  have n1_ : Aside0 (Kd.R (Kd.int .u8) 5 (((w29.setCell ⟨gb267, 0, none⟩ (.slice Ao31 t257.length co31)).setCell ⟨gb267, 1, none⟩ (.slice Ao30 t264.length co30)).setCell ⟨gb267, 2, none⟩ (.slice none 0 0)) w.heap.size (fun k_ => some k_ ≠ (.slice Ao31 t257.length co31 : Value).ownBlock) (.slice Ao30 t264.length co30) t264) := ⟨by (with_reducible repeat (first | apply Kd.R_alloc | apply Kd.R_drewN | apply Kd.R_drew)); exact Kd.R_mono (Kd.R_far (p := ⟨gb267, 2, none⟩) (Kd.R_far (p := ⟨gb267, 1, none⟩) (Kd.R_far (p := ⟨gb267, 0, none⟩) (Kd.R_types HO266.out BK267.out (by decide)) (fun _ hk => hk.2) (.slice Ao31 t257.length co31)) (fun _ hk => hk.2) (.slice Ao30 t264.length co30)) (fun _ hk => hk.2) (.slice none 0 0)) (fun _ hk => hk.1)⟩
                  have n2_ : Aside0 ((((w29.setCell ⟨gb267, 0, none⟩ (.slice Ao31 t257.length co31)).setCell ⟨gb267, 1, none⟩ (.slice Ao30 t264.length co30)).setCell ⟨gb267, 2, none⟩ (.slice none 0 0)).heap[gb248]? = some (.cells #[.slice none 0 0, .slice none 0 0, .slice none 0 0] 50 (0, 0))) := ⟨by (with_reducible repeat (first | refine blk_drewN ?_ _ | refine blk_drew ?_ | refine blk_alloc ?_ _)); refine blk_far ?_ NB248_267.out _; (with_reducible repeat (first | refine blk_drewN ?_ _ | refine blk_drew ?_ | refine blk_alloc ?_ _)); refine blk_far ?_ NB248_267.out _; (with_reducible repeat (first | refine blk_drewN ?_ _ | refine blk_drew ?_ | refine blk_alloc ?_ _)); refine blk_far ?_ NB248_267.out _; (with_reducible repeat (first | refine blk_drewN ?_ _ | refine blk_drew ?_ | refine blk_alloc ?_ _)); exact BK248.out⟩
                  have n3_ : Aside0 ((((w29.setCell ⟨gb267, 0, none⟩ (.slice Ao31 t257.length co31)).setCell ⟨gb267, 1, none⟩ (.slice Ao30 t264.length co30)).setCell ⟨gb267, 2, none⟩ (.slice none 0 0)).heap[gb267]? = some (.cells #[.slice Ao31 t257.length co31, .slice Ao30 t264.length co30, .slice none 0 0] 50 (0, 0))) := ⟨by (with_reducible repeat (first | refine blk_drewN ?_ _ | refine blk_drew ?_ | refine blk_alloc ?_ _)); refine blk_put (cs := #[.slice Ao31 t257.length co31, .slice Ao30 t264.length co30, .slice none 0 0]) ?_ 2 _ rfl; (with_reducible repeat (first | refine blk_drewN ?_ _ | refine blk_drew ?_ | refine blk_alloc ?_ _)); refine blk_put (cs := #[.slice Ao31 t257.length co31, .slice none 0 0, .slice none 0 0]) ?_ 1 _ rfl; (with_reducible repeat (first | refine blk_drewN ?_ _ | refine blk_drew ?_ | refine blk_alloc ?_ _)); refine blk_put (cs := #[.slice none 0 0, .slice none 0 0, .slice none 0 0]) ?_ 0 _ rfl; (with_reducible repeat (first | refine blk_drewN ?_ _ | refine blk_drew ?_ | refine blk_alloc ?_ _)); exact BK267.out⟩
                  have n4_ : Aside0 (Below w.heap.size w (((w29.setCell ⟨gb267, 0, none⟩ (.slice Ao31 t257.length co31)).setCell ⟨gb267, 1, none⟩ (.slice Ao30 t264.length co30)).setCell ⟨gb267, 2, none⟩ (.slice none 0 0))) := ⟨by repeat (first | (with_reducible first | exact HB.out | apply below_alloc | apply pw_below_drewN | apply below_drew1 | refine below_set ?_ GE248.out | refine below_set ?_ GE267.out) | exact HB.out)⟩
                  (try clear HO259)
                  (try clear HO266)
                  (try clear BK248)
                  (try clear BK267)
                  (try clear HB)
                  generalize (((w29.setCell ⟨gb267, 0, none⟩ (.slice Ao31 t257.length co31)).setCell ⟨gb267, 1, none⟩ (.slice Ao30 t264.length co30)).setCell ⟨gb267, 2, none⟩ (.slice none 0 0)) = w35 at n0_ n1_ n2_ n3_ n4_ ⊢
                  have HO259 := n0_
                  have HO266 := n1_
                  have BK248 := n2_
                  have BK267 := n3_
                  have HB := n4_
                  clear n0_ n1_ n2_ n3_ n4_
                  have q36 : ((ji13) : Int) ≤ ((y249.length : Int) : Int) := of_decide_eq_true (by first | (with_reducible assumption) | assumption)
                  obtain ⟨i036, hi036, _, hsz36, _⟩ := info_parts info5
                  have hroom36 : y249.length ≤ c20 := HC252.out
                  have hC36 : Kd.C (Kd.int .u8) _ A20 y249.length y249 := HR252.out
                  have q036 : (0 : Int) ≤ ((ji13) : Int) := of_decide_eq_true (by first | (with_reducible assumption) | assumption)
                  have hcut36 := cut_from (P := Try.prog) 27 5 .i64 Try.underlying27 hi036 1 hsz36 A20 y249.length c20 (ji13) q036 q36
                  have hr36 := Kd.C_drop (m := ((ji13) : Int).toNat) (c := c20) hC36 (by omega) hroom36
                  obtain ⟨A36, hA36⟩ : ∃ A1, A1 = (if c20 = ((ji13) : Int).toNat then A20 else (A20 : Option Addr).map (·.add (((ji13) : Int).toNat * 1))) := ⟨_, rfl⟩
                  obtain ⟨c36, hc36⟩ : ∃ c1, c1 = c20 - ((ji13) : Int).toNat := ⟨_, rfl⟩
                  have hy36 : y268.length = y249.length - ((ji13) : Int).toNat := (by rw [Ny268.out, List.length_drop] <;> omega)
                  rw [show (y249).drop ((ji13) : Int).toNat = y268 from Ny268.out.symm] at hr36
                  replace hr36 : Kd.C (Kd.int .u8) _ A36 y268.length y268 := (by rw [hA36]; exact hr36)
                  rw [← hy36, ← hA36, ← hc36] at hcut36
                  have HR271 := Aside0.mk hr36
                  have HC271 := Aside0.mk (show y268.length ≤ c36 from by rw [hy36, hc36]; exact Nat.sub_le_sub_right hroom36 _)
                  clear hr36 hC36 hroom36 hi036 hsz36 hc36
                  have KY36 := Aside0.mk hy36
                  have KA36 := Aside0.mk hA36
                  clear hy36 hA36
                  replace q36 := eq_true q36
                  try go_wp2
                  go_loopg [43] kj2 (fun kq v43 w' => ∃ (x43_2 : Int) (x268002_2 : List (List Int)) (u268002 : Value), v43 = .int .i64 x43_2 ∧ Aside0 (tape_Split.l0 kq y268 (wrap64 ((y268.length : Int) / a1)) a1 x43_2 t257 t264 x268002_2 = some (r1, r2, r3, r4)) ∧ Aside0 (kq ≤ kj2) ∧ Aside0 (Kd.R (Kd.int .u8) 5 w' w.heap.size (fun k_ => some k_ ≠ ((.slice Ao30 t264.length co30) : Value).ownBlock) (.slice Ao31 t257.length co31) t257) ∧ Aside0 (Kd.R (Kd.int .u8) 5 w' w.heap.size (fun k_ => some k_ ≠ ((.slice Ao31 t257.length co31) : Value).ownBlock) (.slice Ao30 t264.length co30) t264) ∧ Aside0 (Kd.S (Kd.slice 5 (Kd.int .u8)) 27 w' w.heap.size (fun k_ => some k_ ≠ ((.slice Ao31 t257.length co31) : Value).ownBlock ∧ some k_ ≠ ((.slice Ao30 t264.length co30) : Value).ownBlock) u268002 x268002_2) ∧ Aside0 (w'.heap[gb248]? = some (.cells #[(.slice none 0 0), (.slice none 0 0), (.slice none 0 0)] 50 (0, 0))) ∧ Aside0 (w'.heap[gb267]? = some (.cells #[(.slice Ao31 t257.length co31), (.slice Ao30 t264.length co30), u268002] 50 (0, 0))) ∧ Aside0 (Below w.heap.size w w'))
                  case atStart => exact ⟨(0), (([] : List (List Int))), (.slice none 0 0), (by first | rfl | (simp; done) | (simp [*]; done)), H', ⟨Nat.le_refl _⟩, ⟨by (with_reducible repeat (first | apply Kd.R_alloc | apply Kd.R_drewN | apply Kd.R_drew)); exact HO259.out⟩, ⟨by (with_reducible repeat (first | apply Kd.R_alloc | apply Kd.R_drewN | apply Kd.R_drew)); exact HO266.out⟩, ⟨by first | exact Kd.S_nil _ _ _ _ _ | exact Kd.N_nil _ _ _ _ _ | exact Kd.V_nil _ _ _ _ _ | exact Kd.Q_nil _ _ _ _ _ | exact Kd.R_nil _ _ _ _ _⟩, ⟨by (with_reducible repeat (first | refine blk_drewN ?_ _ | refine blk_drew ?_ | refine blk_alloc ?_ _)); exact BK248.out⟩, ⟨by (with_reducible repeat (first | refine blk_drewN ?_ _ | refine blk_drew ?_ | refine blk_alloc ?_ _)); exact BK267.out⟩, ⟨by repeat (first | (with_reducible first | exact HB.out | apply below_alloc | apply pw_below_drewN | apply below_drew1 | refine below_set ?_ GE248.out | refine below_set ?_ GE267.out) | exact HB.out)⟩⟩
                  case round =>
                    clear H'
                    try clear c1
                    try clear c2
                    try clear p2
                    try clear q2
                    try clear c3
                    try clear q3
                    try clear c5
                    try clear c5b0
                    try clear c6
                    try clear p6
                    try clear c8
                    try clear c8b0
                    try clear c8b1
                    try clear c10
                    try clear c10b0
                    try clear c10b1
                    try clear c11
                    try clear c11b0
                    try clear c14
                    try clear c14b0
                    try clear c14b1
                    try clear c15
                    try clear c15b0
                    try clear c15b1
                    try clear c17
                    try clear c17b0
                    try clear c18
                    try clear c18b0
                    try clear c19
                    try clear c19b0
                    try clear c19b1
                    try clear c20
                    try clear q20
                    try clear q22
                    try clear c23
                    try clear q23
                    try clear c36
                    try clear q36
                    try clear hcz7_0
                    try clear hcz7_1
                    try clear hcz7_2
                    try clear hcz9_0
                    try clear hcz9_1
                    try clear hcz9_2
                    try clear hfz7_0
                    try clear hfz7_1
                    try clear hfz7_2
                    try clear hfz9_0
                    try clear hfz9_1
                    try clear hfz9_2
                    try clear p2
                    try clear q036
                    try clear q20
                    try clear q22
                    try clear q23
                    try clear q36
                    (try clear BK248)
                    (try clear BK267)
                    obtain ⟨x43_2, x268002_2, u268002, rfl, HA, HK2, HO_268000, HO_268001, HO_268002, BK248, BK267, HB⟩ := hrel
                    cases gk with
                    | zero => exact absurd HA.out (by simp [tape_Split.l0])
                    | succ k2 =>
                      have H := HA.out
                      clear HA
                      simp only [tape_Split.l0] at H
                      by_cases c37 : x43_2 < a1
                      · rw [if_pos c37] at H
                        have c37b0 : decide (x43_2 < a1) = true := decide_eq_true c37
                        clear c37
                        obtain ⟨ji38, hji38⟩ : ∃ j_ : Int, (wrap64 (x43_2 * (wrap64 ((y268.length : Int) / a1)))) = j_ := ⟨_, rfl⟩
                        replace H : (if 0 ≤ (ji38) then (if (ji38) ≤ (wrap64 ((wrap64 (x43_2 + 1)) * (wrap64 ((y268.length : Int) / a1)))) then (if (wrap64 ((wrap64 (x43_2 + 1)) * (wrap64 ((y268.length : Int) / a1)))) ≤ (y268.length : Int) then ((slices_Clone_byte_byte.f ((y268.take ((wrap64 ((wrap64 (x43_2 + 1)) * (wrap64 ((y268.length : Int) / a1)))) : Int).toNat).drop ((ji38) : Int).toNat)).bind fun t276 => (if x268002_2.length < 5864062014805 then (tape_Split.l0 k2 y268 (wrap64 ((y268.length : Int) / a1)) a1 (wrap64 (x43_2 + 1)) t257 t264 (x268002_2 ++ [t276])) else (none))) else (none)) else (none)) else (none)) = some (r1, r2, r3, r4) := by first | (rw [hji38] at H; exact H) | (simp only [hji38] at H ⊢; exact H)
                        have hji38w : (IntKind.i64.wrap (x43_2 * (wrap64 ((y268.length : Int) / a1)))) = ji38 := (i64_w _).trans hji38
                        by_cases c39 : 0 ≤ (ji38)
                        · rw [if_pos c39] at H
                          have c39b0 := eq_true c39
                          have c39b1 : decide (0 ≤ (ji38)) = true := decide_eq_true c39
                          clear c39
                          by_cases c40 : (ji38) ≤ (wrap64 ((wrap64 (x43_2 + 1)) * (wrap64 ((y268.length : Int) / a1))))
                          · rw [if_pos c40] at H
                            have c40b0 := eq_true c40
                            have c40b1 : decide ((ji38) ≤ (wrap64 ((wrap64 (x43_2 + 1)) * (wrap64 ((y268.length : Int) / a1))))) = true := decide_eq_true c40
                            by_cases c41 : (wrap64 ((wrap64 (x43_2 + 1)) * (wrap64 ((y268.length : Int) / a1)))) ≤ (y268.length : Int)
                            · rw [if_pos c41] at H
                              have c41b0 := eq_true c41
                              have c41b1 : decide ((wrap64 ((wrap64 (x43_2 + 1)) * (wrap64 ((y268.length : Int) / a1)))) ≤ (y268.length : Int)) = true := decide_eq_true c41
                              obtain ⟨y272, hy272⟩ : ∃ y_ : List Int, y_ = ((y268.take ((wrap64 ((wrap64 (x43_2 + 1)) * (wrap64 ((y268.length : Int) / a1)))) : Int).toNat).drop ((ji38) : Int).toNat) := ⟨_, rfl⟩
                              replace H : ((slices_Clone_byte_byte.f y272).bind fun t276 => (if x268002_2.length < 5864062014805 then (tape_Split.l0 k2 y268 (wrap64 ((y268.length : Int) / a1)) a1 (wrap64 (x43_2 + 1)) t257 t264 (x268002_2 ++ [t276])) else (none))) = some (r1, r2, r3, r4) := by first | (rw [hy272]; with_reducible exact H) | (have H2_ := (Option.bind_some _ _).symm.trans H; rw [hy272]; with_reducible exact H2_) | (have H2_ := (Option.bind_some _ _).symm.trans H; with_reducible exact H2_) | with_reducible exact H | (rw [hy272]; exact H) | exact H
                              have Ny272 := Aside0.mk hy272
                              clear hy272
                              replace H := Option.bind_eq_some_iff.mp H
                              obtain ⟨t276, A420, H⟩ := H
                              replace H : (if x268002_2.length < 5864062014805 then (tape_Split.l0 k2 y268 (wrap64 ((y268.length : Int) / a1)) a1 (wrap64 (x43_2 + 1)) t257 t264 (x268002_2 ++ [t276])) else (none)) = some (r1, r2, r3, r4) := H
                              have A42 := Aside0.mk A420
                              clear A420
                              by_cases c43 : x268002_2.length < 5864062014805
                              · rw [if_pos c43] at H
                                have LMc43 := Aside0.mk c43
                                clear c43
                                obtain ⟨y279, hy279⟩ : ∃ y_ : List (List Int), y_ = (x268002_2 ++ [t276]) := ⟨_, rfl⟩
                                replace H : (tape_Split.l0 k2 y268 (wrap64 ((y268.length : Int) / a1)) a1 (wrap64 (x43_2 + 1)) t257 t264 y279) = some (r1, r2, r3, r4) := by first | (rw [hy279]; with_reducible exact H) | (have H2_ := (Option.bind_some _ _).symm.trans H; rw [hy279]; with_reducible exact H2_) | (have H2_ := (Option.bind_some _ _).symm.trans H; with_reducible exact H2_) | with_reducible exact H | (rw [hy279]; exact H) | exact H
                                have Ny279 := Aside0.mk hy279
                                clear hy279
                                have H' := Aside0.mk H
                                clear H
                                try go_wp2
                                have n0_ := Aside0.mk (Kd.R_drew HO_268000.out)
                                have n1_ := Aside0.mk (Kd.R_drew HO_268001.out)
                                have n2_ := Aside0.mk (Kd.S_drew HO_268002.out)
                                have n3_ := Aside0.mk (blk_drew BK248.out)
                                have n4_ := Aside0.mk (blk_drew BK267.out)
                                have n5_ := Aside0.mk (below_drew1 HB.out)
                                clear HO_268000
                                clear HO_268001
                                clear HO_268002
                                clear BK248
                                clear BK267
                                clear HB
                                have HO_268000 := n0_
                                have HO_268001 := n1_
                                have HO_268002 := n2_
                                have BK248 := n3_
                                have BK267 := n4_
                                have HB := n5_
                                clear n0_ n1_ n2_ n3_ n4_ n5_
                                have q45 : ((wrap64 ((wrap64 (x43_2 + 1)) * (wrap64 ((y268.length : Int) / a1)))) : Int) ≤ ((y268.length : Int) : Int) := of_decide_eq_true (by first | (with_reducible assumption) | assumption)
                                obtain ⟨i045, hi045, _, hsz45, _⟩ := info_parts info5
                                have hroom45 : y268.length ≤ c36 := HC271.out
                                have hC45 : Kd.C (Kd.int .u8) _ A36 y268.length y268 := HR271.out
                                have ql45 : ((ji38) : Int) ≤ ((wrap64 ((wrap64 (x43_2 + 1)) * (wrap64 ((y268.length : Int) / a1)))) : Int) := of_decide_eq_true (by first | (with_reducible assumption) | assumption)
                                have q045 : (0 : Int) ≤ ((ji38) : Int) := of_decide_eq_true (by first | (with_reducible assumption) | assumption)
                                have hcut45 := cut_mid (P := Try.prog) 27 5 .i64 .i64 Try.underlying27 hi045 1 hsz45 A36 y268.length c36 (ji38) (wrap64 ((wrap64 (x43_2 + 1)) * (wrap64 ((y268.length : Int) / a1)))) q045 ql45 q45 hroom45
                                have hr45 := Kd.C_mid (lo := ((ji38) : Int).toNat) (hi := ((wrap64 ((wrap64 (x43_2 + 1)) * (wrap64 ((y268.length : Int) / a1)))) : Int).toNat) (c := c36) hC45 (by omega) (by omega) hroom45
                                obtain ⟨A45, hA45⟩ : ∃ A1, A1 = (if c36 = ((ji38) : Int).toNat then A36 else (A36 : Option Addr).map (·.add (((ji38) : Int).toNat * 1))) := ⟨_, rfl⟩
                                obtain ⟨c45, hc45⟩ : ∃ c1, c1 = c36 - ((ji38) : Int).toNat := ⟨_, rfl⟩
                                have hy45 : y272.length = ((wrap64 ((wrap64 (x43_2 + 1)) * (wrap64 ((y268.length : Int) / a1)))) : Int).toNat - ((ji38) : Int).toNat := (by rw [Ny272.out, List.length_drop, List.length_take] <;> omega)
                                rw [show ((y268).take ((wrap64 ((wrap64 (x43_2 + 1)) * (wrap64 ((y268.length : Int) / a1)))) : Int).toNat).drop ((ji38) : Int).toNat = y272 from Ny272.out.symm] at hr45
                                replace hr45 : Kd.C (Kd.int .u8) _ A45 y272.length y272 := (by rw [hA45]; exact hr45)
                                rw [← hy45, ← hA45, ← hc45] at hcut45
                                have HR275 := Aside0.mk hr45
                                have HC275 := Aside0.mk (show y272.length ≤ c45 from by rw [hy45, hc45]; exact Nat.sub_le_sub_right (Nat.le_trans (by omega) hroom45) _)
                                clear hr45 hC45 hroom45 hi045 hsz45 hc45
                                have KY45 := Aside0.mk hy45
                                have KA45 := Aside0.mk hA45
                                clear hy45 hA45
                                replace q45 := eq_true q45
                                refine start_ (n := 16) (S := fun w' => w'.cell? ⟨gb267, 0, none⟩ = some (.slice Ao31 t257.length co31) ∧ w'.cell? ⟨gb267, 1, none⟩ = some (.slice Ao30 t264.length co30) ∧ w'.cell? ⟨gb267, 2, none⟩ = some (u268002)) (ds := [15]) #[false, false, false, false, false, false, false, false, false, false, false, false, false, false, false, false] (by kernel_rfl) rfl rfl ⟨(blk_cell BK267.out 0).trans rfl, (blk_cell BK267.out 1).trans rfl, (blk_cell BK267.out 2).trans rfl⟩ (fun hHeld => ?_); refine with_tabW tape_Split.tab13 tape_Split.bits13 (fun HT_ HW_ => ?_)
                                generalize wr.drew = w44 at HO_268000 HO_268001 HO_268002 BK248 BK267 HB HR275 hHeld ⊢
                                refine pure_ (i := 0) (N := some 46) (v := ?_) (a' := ?_) #[true, false, false, false, false, false, false, false, false, false, false, false, false, false, false, false] rfl rfl (any_of HT_.out (by kernel_rfl)) (fun _ _ _ h => h) (Or.inl ⟨by rfl, ?_⟩) ?_ ?_
                                rotate_left
                                · intro w'
                                  go_simp
                                  with_reducible rfl
                                rotate_left
                                · simp only [Act.put, List.setIfInBounds_toArray, List.set_cons_zero, List.set_cons_succ, i64_w, i32_w]
                                  rfl
                                refine pure_ (i := 2) (N := some 48) (v := ?_) (a' := ?_) #[true, false, true, false, false, false, false, false, false, false, false, false, false, false, false, false] rfl rfl (any_of HT_.out (by kernel_rfl)) (fun _ _ _ h => h) (Or.inl ⟨by rfl, ?_⟩) ?_ ?_
                                rotate_left
                                · intro w'
                                  go_simp
                                  with_reducible rfl
                                rotate_left
                                · simp only [Act.put, List.setIfInBounds_toArray, List.set_cons_zero, List.set_cons_succ, i64_w, i32_w]
                                  rfl
                                refine pure_ (i := 3) (N := some 49) (v := ?_) (a' := ?_) #[true, false, true, true, false, false, false, false, false, false, false, false, false, false, false, false] rfl rfl (any_of HT_.out (by kernel_rfl)) (fun _ _ _ h => h) (Or.inl ⟨by rfl, ?_⟩) ?_ ?_
                                rotate_left
                                · intro w'
                                  go_simp
                                  with_reducible rfl
                                rotate_left
                                · simp only [Act.put, List.setIfInBounds_toArray, List.set_cons_zero, List.set_cons_succ, i64_w, i32_w]
                                  rfl
                                refine pure_ (i := 4) (N := some 50) (v := ?_) (a' := ?_) #[true, false, true, true, true, false, false, false, false, false, false, false, false, false, false, false] rfl rfl (any_of HT_.out (by kernel_rfl)) (fun _ _ _ h => h) (Or.inl ⟨by rfl, ?_⟩) ?_ ?_
                                rotate_left
                                · intro w'
                                  go_simp
                                  with_reducible rfl
                                rotate_left
                                · simp only [Act.put, List.setIfInBounds_toArray, List.set_cons_zero, List.set_cons_succ, i64_w, i32_w]
                                  rfl
                                refine pure_ (i := 5) (N := some 51) (v := ?_) (a' := ?_) #[true, false, true, true, true, true, false, false, false, false, false, false, false, false, false, false] rfl rfl (any_of HT_.out (by kernel_rfl)) (fun _ _ _ h => h) (Or.inl ⟨by rfl, ?_⟩) ?_ ?_
                                rotate_left
                                · intro w'
                                  go_simp
                                  with_reducible rfl
                                rotate_left
                                · simp only [Act.put, List.setIfInBounds_toArray, List.set_cons_zero, List.set_cons_succ, i64_w, i32_w]
                                  rfl
                                refine pure_ (i := 6) (N := some 52) (v := ?_) (a' := ?_) #[true, false, true, true, true, true, true, false, false, false, false, false, false, false, false, false] rfl rfl (any_of HT_.out (by kernel_rfl)) (fun _ _ _ h => h) (Or.inl ⟨by rfl, ?_⟩) ?_ ?_
                                rotate_left
                                · intro w'
                                  go_simp
                                  with_reducible rfl
                                rotate_left
                                · simp only [Act.put, List.setIfInBounds_toArray, List.set_cons_zero, List.set_cons_succ, i64_w, i32_w]
                                  rfl
                                refine pure_ (i := 7) (N := some 53) (v := ?_) (a' := ?_) #[true, false, true, true, true, true, true, true, false, false, false, false, false, false, false, false] rfl rfl (any_of HT_.out (by kernel_rfl)) (fun _ _ _ h => h) (Or.inl ⟨by rfl, ?_⟩) ?_ ?_
                                rotate_left
                                · intro w'
                                  go_simp
                                  with_reducible rfl
                                rotate_left
                                · simp only [Act.put, List.setIfInBounds_toArray, List.set_cons_zero, List.set_cons_succ, i64_w, i32_w]
                                  rfl
                                refine pure_ (i := 8) (N := some 54) (v := ?_) (a' := ?_) #[true, false, true, true, true, true, true, true, true, false, false, false, false, false, false, false] rfl rfl (any_of HT_.out (by kernel_rfl)) (fun _ _ _ h => h) (Or.inl ⟨by rfl, ?_⟩) ?_ ?_
                                rotate_left
                                · intro w'
                                  go_simp
                                  with_reducible rfl
                                rotate_left
                                · simp only [Act.put, List.setIfInBounds_toArray, List.set_cons_zero, List.set_cons_succ, i64_w, i32_w]
                                  rfl
                                refine pure_ (i := 9) (N := some 55) (v := ?_) (a' := ?_) #[true, false, true, true, true, true, true, true, true, true, false, false, false, false, false, false] rfl rfl (any_of HT_.out (by kernel_rfl)) (fun _ _ _ h => h) (Or.inl ⟨by rfl, ?_⟩) ?_ ?_
                                rotate_left
                                · intro w'
                                  go_simp
                                  with_reducible rfl
                                rotate_left
                                · simp only [Act.put, List.setIfInBounds_toArray, List.set_cons_zero, List.set_cons_succ, i64_w, i32_w]
                                  rfl
                                refine pure_ (i := 10) (N := some 56) (v := ?_) (a' := ?_) #[true, false, true, true, true, true, true, true, true, true, true, false, false, false, false, false] rfl rfl (any_of HT_.out (by kernel_rfl)) (fun _ _ _ h => h) (Or.inl ⟨by rfl, ?_⟩) ?_ ?_
                                rotate_left
                                · intro w'
                                  go_simp
                                  with_reducible rfl
                                rotate_left
                                · simp only [Act.put, List.setIfInBounds_toArray, List.set_cons_zero, List.set_cons_succ, i64_w, i32_w]
                                  rfl
                                refine take_ (i := 1) (N := some 47) (v := ?_) (a' := ?_) #[true, true, true, true, true, true, true, true, true, true, true, false, false, false, false, false] rfl rfl (take_ofW HT_.out HW_.out (by kernel_rfl)) (fun _ _ _ h => h) (Or.inl ⟨by rfl, ?_⟩) hHeld ?_ ?_
                                rotate_left
                                · rintro w' ⟨s0, s1, s2⟩
                                  go_simp
                                  with_reducible rfl
                                rotate_left
                                · simp only [Act.put, List.setIfInBounds_toArray, List.set_cons_zero, List.set_cons_succ, i64_w, i32_w]
                                  rfl
                                refine one_ (i := 11) (N := some 57) #[true, true, true, true, true, true, true, true, true, true, true, true, false, false, false, false] rfl rfl (one_of HT_.out (by kernel_rfl)) (by decide) (fun K hK => ?_)
                                refine goes_ Try.func23 (by kernel_rfl) rfl #[.slice A45 y272.length c45] (by rfl) rfl rfl (by (try simp only [List.map_toArray, List.map_cons, List.map_nil]); first | done | rfl | (simp only [List.length_drop, List.length_take]; rfl)) ?_
                                with_reducible refine (slices_Clone_byte_byte.calls _ _ y272 t276 _ ?side1 ?side2 A42.out).mono ?_
                                (case side1 => repeat (first | exact (Kd.C_below HR275.out HB.out) | (with_reducible refine Kd.C_alloc ?_ _) | (with_reducible refine Kd.C_drewN ?_ _) | (with_reducible refine Kd.C_drew ?_)))
                                (case side2 => exact HC275.out)
                                rintro e w46 ⟨v277, rfl, ho0, hb⟩
                                refine ⟨_, rfl, ?_⟩
                                have n0_ := Aside0.mk (Kd.R_elder' (by (with_reducible repeat (first | apply Kd.R_alloc | apply Kd.R_drewN | apply Kd.R_drew)); exact HO_268000.out) (Kd.R_base ho0) hb)
                                have n1_ := Aside0.mk (Kd.R_elder' (by (with_reducible repeat (first | apply Kd.R_alloc | apply Kd.R_drewN | apply Kd.R_drew)); exact HO_268001.out) (Kd.R_base ho0) hb)
                                have n2_ := Aside0.mk (Kd.S_elder' (by (with_reducible repeat (first | apply Kd.S_alloc | apply Kd.S_drewN | apply Kd.S_drew)); exact HO_268002.out) (Kd.R_base ho0) hb)
                                have n3_ := Aside0.mk (Kd.R_lower (Kd.R_new' (Kd.R_new' ho0 (Kd.R_lt (by (with_reducible repeat (first | apply Kd.R_alloc | apply Kd.R_drewN | apply Kd.R_drew)); exact HO_268000.out))) (Kd.R_lt (by (with_reducible repeat (first | apply Kd.R_alloc | apply Kd.R_drewN | apply Kd.R_drew)); exact HO_268001.out))) (below_size (by repeat (first | (with_reducible first | exact HB.out | apply below_alloc | apply pw_below_drewN | apply below_drew1 | refine below_set ?_ GE248.out | refine below_set ?_ GE267.out) | exact HB.out))))
                                have n4_ := Aside0.mk (blk_below (g := gb248) (o := .cells #[.slice none 0 0, .slice none 0 0, .slice none 0 0] 50 (0, 0)) (by (with_reducible repeat (first | refine blk_drewN ?_ _ | refine blk_drew ?_ | refine blk_alloc ?_ _)); exact BK248.out) hb)
                                have n5_ := Aside0.mk (blk_below (g := gb267) (o := .cells #[.slice Ao31 t257.length co31, .slice Ao30 t264.length co30, u268002] 50 (0, 0)) (by (with_reducible repeat (first | refine blk_drewN ?_ _ | refine blk_drew ?_ | refine blk_alloc ?_ _)); exact BK267.out) hb)
                                have n6_ := Aside0.mk (below_step (by repeat (first | (with_reducible first | exact HB.out | apply below_alloc | apply pw_below_drewN | apply below_drew1 | refine below_set ?_ GE248.out | refine below_set ?_ GE267.out) | exact HB.out)) hb)
                                clear HO_268000
                                clear HO_268001
                                clear HO_268002
                                clear BK248
                                clear BK267
                                clear HB
                                have HO_268000 := n0_
                                have HO_268001 := n1_
                                have HO_268002 := n2_
                                have HO278 := n3_
                                have BK248 := n4_
                                have BK267 := n5_
                                have HB := n6_
                                clear n0_ n1_ n2_ n3_ n4_ n5_ n6_
                                (try clear hb)
                                (try clear hb2)
                                (try clear hk)
                                (try clear hi)
                                (try clear ho0)
                                obtain ⟨Ao48, co48, eo48⟩ := Kd.R_slice HO278.out
                                (first | subst eo48 | (injection eo48 with f1_ f2_ f3_; have f4_ := f1_.symm; have f5_ := f3_.symm; clear f1_ f2_ f3_; subst f4_; subst f5_))
                                refine hK.out _ _ ⟨(blk_cell BK267.out 0).trans rfl, (blk_cell BK267.out 1).trans rfl, (blk_cell BK267.out 2).trans rfl⟩ (fun hHeld => ?_)
                                clear hK K
                                refine norm_ (a' := ?_) ?_ ?_
                                rotate_left
                                · show Act.put _ (some 57) _ = _
                                  simp only [Act.put, List.setIfInBounds_toArray, List.set_cons_zero, List.set_cons_succ, i64_w, i32_w]
                                  rfl
                                refine one_ (i := 12) (N := some 58) #[true, true, true, true, true, true, true, true, true, true, true, true, true, false, false, false] rfl rfl (one_of HT_.out (by kernel_rfl)) (by decide) (fun K hK => ?_)
                                refine value_ (w1 := ?_) (v := ?_) (by rfl) rfl ?_ ?_
                                rotate_left 2
                                · go_simp
                                  constructor
                                  · rfl
                                  · rfl
                                refine hK.out _ _ ⟨(blk_cell (blk_alloc BK267.out _) 0).trans rfl, (blk_cell (blk_alloc BK267.out _) 1).trans rfl, (blk_cell (blk_alloc BK267.out _) 2).trans rfl⟩ (fun hHeld => ?_)
                                clear hK K
                                refine norm_ (a' := ?_) ?_ ?_
                                rotate_left
                                · show Act.put _ (some 58) _ = _
                                  simp only [Act.put, List.setIfInBounds_toArray, List.set_cons_zero, List.set_cons_succ, i64_w, i32_w]
                                  rfl
                                refine one_ (i := 13) (N := some 59) #[true, true, true, true, true, true, true, true, true, true, true, true, true, true, false, false] rfl rfl (one_of HT_.out (by kernel_rfl)) (by decide) (fun K hK => ?_)
                                refine Kd.S_append_step (Kd.slice 5 (Kd.int .u8)) (w0 := w) w.heap.size (by rfl) (.tmp 47) (.tmp 58) 48 27 (.slice none 0 0) 24 rfl Try.underlying48 info27 rfl (by decide) (by omega) u268002 x268002_2 t276 [.slice Ao48 t276.length co48] (fun k_ => some k_ ≠ (.slice Ao31 t257.length co31 : Value).ownBlock ∧ some k_ ≠ (.slice Ao30 t264.length co30 : Value).ownBlock) (fun k_ => some k_ = (.slice Ao48 t276.length co48 : Value).ownBlock) rfl rfl ?aP (fun k_ hk_ => ((Kd.R_mono (ok' := fun k_ => ((fun k_ => some k_ ≠ (.slice Ao31 t257.length co31 : Value).ownBlock ∧ some k_ ≠ (.slice Ao30 t264.length co30 : Value).ownBlock)) k_ ∧ some k_ ≠ (u268002 : Value).ownBlock) (Kd.R_apart' (HO278.out) (Kd.S_typed HO_268002.out) (by decide)) (fun k_ hk => ⟨⟨hk.1.1.2, hk.1.2⟩, hk.2⟩))).1 k_ hk_.symm) ?aF ?aO ?aB ?aS ?aL ?_
                                (case aP => exact Kd.M_row (Kd.R_mono (Kd.R_tight rfl (Kd.R_mono (ok' := fun k_ => ((fun k_ => some k_ ≠ (.slice Ao31 t257.length co31 : Value).ownBlock ∧ some k_ ≠ (.slice Ao30 t264.length co30 : Value).ownBlock)) k_ ∧ some k_ ≠ (u268002 : Value).ownBlock) (Kd.R_apart' (HO278.out) (Kd.S_typed HO_268002.out) (by decide)) (fun k_ hk => ⟨⟨hk.1.1.2, hk.1.2⟩, hk.2⟩))) (fun _ h_ => h_)))
                                (case aB => exact (by repeat (first | (with_reducible first | exact HB.out | apply below_alloc | apply pw_below_drewN | apply below_drew1 | refine below_set ?_ GE248.out | refine below_set ?_ GE267.out) | exact HB.out)))
                                (case aF => exact (fun k_ hk => ⟨Kd.fresh' (Kd.R_lt (by (with_reducible repeat (first | apply Kd.R_alloc | apply Kd.R_drewN | apply Kd.R_drew)); exact HO_268000.out)) k_ hk, Kd.fresh' (Kd.R_lt (by (with_reducible repeat (first | apply Kd.R_alloc | apply Kd.R_drewN | apply Kd.R_drew)); exact HO_268001.out)) k_ hk⟩))
                                (case aO => exact (by (with_reducible repeat (first | apply Kd.S_alloc | apply Kd.S_drewN | apply Kd.S_drew)); exact Kd.S_mono HO_268002.out (fun k_ hk => ⟨⟨hk.1.1, hk.1.2⟩, fun e_ => hk.2 e_⟩)))
                                (case aS => exact (below_size (by repeat (first | (with_reducible first | exact HB.out | apply below_alloc | apply pw_below_drewN | apply below_drew1 | refine below_set ?_ GE248.out | refine below_set ?_ GE267.out) | exact HB.out))))
                                (case aL => have := LMc43.out; omega)
                                intro v280 w47 ho hb hg hat
                                rw [← Ny279.out] at ho
                                have n0_ := Aside0.mk (Kd.R_over' (by (with_reducible repeat (first | apply Kd.R_alloc | apply Kd.R_drewN | apply Kd.R_drew)); exact HO_268000.out) (Kd.S_typed (by (with_reducible repeat (first | apply Kd.S_alloc | apply Kd.S_drewN | apply Kd.S_drew)); exact HO_268002.out)) (by decide) hg)
                                have n1_ := Aside0.mk (Kd.R_over' (by (with_reducible repeat (first | apply Kd.R_alloc | apply Kd.R_drewN | apply Kd.R_drew)); exact HO_268001.out) (Kd.S_typed (by (with_reducible repeat (first | apply Kd.S_alloc | apply Kd.S_drewN | apply Kd.S_drew)); exact HO_268002.out)) (by decide) hg)
                                have n2_ := Aside0.mk (blk_grown (g := gb248) (o := .cells #[.slice none 0 0, .slice none 0 0, .slice none 0 0] 50 (0, 0)) (by (with_reducible repeat (first | refine blk_drewN ?_ _ | refine blk_drew ?_ | refine blk_alloc ?_ _)); exact BK248.out) hg (Kd.S_ne HO_268002.out BK248.out (by decide)))
                                have n3_ := Aside0.mk (blk_grown (g := gb267) (o := .cells #[.slice Ao31 t257.length co31, .slice Ao30 t264.length co30, u268002] 50 (0, 0)) (by (with_reducible repeat (first | refine blk_drewN ?_ _ | refine blk_drew ?_ | refine blk_alloc ?_ _)); exact BK267.out) hg (Kd.S_ne HO_268002.out BK267.out (by decide)))
                                have n4_ := Aside0.mk (hb)
                                have n5_ := Aside0.mk (ho)
                                clear HO_268000
                                clear HO_268001
                                clear BK248
                                clear BK267
                                clear HB
                                clear HO_268002
                                clear HO278
                                have HO_268000 := n0_
                                have HO_268001 := n1_
                                have BK248 := n2_
                                have BK267 := n3_
                                have HB := n4_
                                have HO281 := n5_
                                clear n0_ n1_ n2_ n3_ n4_ n5_
                                clear ho hb hg hat
                                obtain ⟨Ao49, co49, eo49⟩ := Kd.S_slice HO281.out
                                (first | subst eo49 | (injection eo49 with f1_ f2_ f3_; have f4_ := f1_.symm; have f5_ := f3_.symm; clear f1_ f2_ f3_; subst f4_; subst f5_))
                                refine hK.out _ _ ⟨(blk_cell BK267.out 0).trans rfl, (blk_cell BK267.out 1).trans rfl, (blk_cell BK267.out 2).trans rfl⟩ (fun hHeld => ?_)
                                clear hK K
                                refine norm_ (a' := ?_) ?_ ?_
                                rotate_left
                                · show Act.put _ (some 59) _ = _
                                  simp only [Act.put, List.setIfInBounds_toArray, List.set_cons_zero, List.set_cons_succ, i64_w, i32_w]
                                  rfl
                                refine pure_ (i := 14) (N := some 60) (v := ?_) (a' := ?_) #[true, true, true, true, true, true, true, true, true, true, true, true, true, true, true, false] rfl rfl (any_of HT_.out (by kernel_rfl)) (fun _ _ _ h => h) (Or.inl ⟨by rfl, ?_⟩) ?_ ?_
                                rotate_left
                                · intro w'
                                  go_simp
                                  with_reducible rfl
                                rotate_left
                                · simp only [Act.put, List.setIfInBounds_toArray, List.set_cons_zero, List.set_cons_succ, i64_w, i32_w]
                                  rfl
                                refine last_ (i := 15) (N := none) #[true, true, true, true, true, true, true, true, true, true, true, true, true, true, true, true] rfl rfl (one_of HT_.out (by kernel_rfl)) (by decide) (fun K hK => ?_)
                                have hs50 : w47.cell? ⟨gb267, 2, none⟩ = some (u268002) := (blk_cell BK267.out 2).trans rfl
                                have hfs50 := blk_frozen BK267.out 2
                                have hns50_0 := NB248_267.out
                                have hms50_0 := NB267_248.out
                                refine skip_ (w1 := ?_) (by rfl) rfl ?_ ?_
                                rotate_left
                                · go_simp
                                  rfl
                                refine hK.out _ _ ?_
                                clear hK K
                                refine done_ (done_of HT_.out (by kernel_rfl)) ?_
                                try go_wp2
                                go_roundg k2
                                case measure => have := HJ2.out; have := HK2.out; omega
                                case rel => exact ⟨(wrap64 (x43_2 + 1)), (y279), (.slice Ao49 y279.length co49), (by first | rfl | (simp; done) | (simp [*]; done)), H', ⟨by have := HJ2.out; have := HK2.out; omega⟩, ⟨by (with_reducible repeat (first | apply Kd.R_alloc | apply Kd.R_drewN | apply Kd.R_drew)); exact Kd.R_mono (Kd.R_far (p := ⟨gb267, 2, none⟩) (Kd.R_types HO_268000.out BK267.out (by decide)) (fun _ hk => hk.2) (.slice Ao49 y279.length co49)) (fun _ hk => hk.1.1)⟩, ⟨by (with_reducible repeat (first | apply Kd.R_alloc | apply Kd.R_drewN | apply Kd.R_drew)); exact Kd.R_mono (Kd.R_far (p := ⟨gb267, 2, none⟩) (Kd.R_types HO_268001.out BK267.out (by decide)) (fun _ hk => hk.2) (.slice Ao49 y279.length co49)) (fun _ hk => hk.1.1)⟩, ⟨by (with_reducible repeat (first | apply Kd.S_alloc | apply Kd.S_drewN | apply Kd.S_drew)); exact Kd.S_mono (Kd.S_far (p := ⟨gb267, 2, none⟩) (Kd.S_types HO281.out BK267.out (by decide)) (fun _ hk => hk.2) (.slice Ao49 y279.length co49)) (fun _ hk => ⟨hk.1.1, hk.1.2⟩)⟩, ⟨by (with_reducible repeat (first | refine blk_drewN ?_ _ | refine blk_drew ?_ | refine blk_alloc ?_ _)); refine blk_far ?_ NB248_267.out _; (with_reducible repeat (first | refine blk_drewN ?_ _ | refine blk_drew ?_ | refine blk_alloc ?_ _)); exact BK248.out⟩, ⟨by (with_reducible repeat (first | refine blk_drewN ?_ _ | refine blk_drew ?_ | refine blk_alloc ?_ _)); refine blk_put (cs := #[.slice Ao31 t257.length co31, .slice Ao30 t264.length co30, u268002]) ?_ 2 _ rfl; (with_reducible repeat (first | refine blk_drewN ?_ _ | refine blk_drew ?_ | refine blk_alloc ?_ _)); exact BK267.out⟩, ⟨by repeat (first | (with_reducible first | exact HB.out | apply below_alloc | apply pw_below_drewN | apply below_drew1 | refine below_set ?_ GE248.out | refine below_set ?_ GE267.out) | exact HB.out)⟩⟩
                              · rw [if_neg c43] at H
                                exact absurd H (by simp)
                            · rw [if_neg c41] at H
                              exact absurd H (by simp)
                          · rw [if_neg c40] at H
                            exact absurd H (by simp)
                        · rw [if_neg c39] at H
                          exact absurd H (by simp)
                      · rw [if_neg c37] at H
                        have c37b0 : decide (x43_2 < a1) = false := decide_eq_false c37
                        clear c37
                        simp only [Option.some.injEq, Prod.mk.injEq] at H
                        obtain ⟨rfl, rfl, rfl, rfl⟩ := H
                        have hnb51 := NB267_248.out
                        have hnc51 := NB248_267.out
                        have hcz52_0 : wr.cell? ⟨gb267, 0, none⟩ = some (.slice Ao31 t257.length co31) := (blk_cell BK267.out 0).trans rfl
                        have hcz52_1 : wr.cell? ⟨gb267, 1, none⟩ = some (.slice Ao30 t264.length co30) := (blk_cell BK267.out 1).trans rfl
                        have hcz52_2 : wr.cell? ⟨gb267, 2, none⟩ = some (u268002) := (blk_cell BK267.out 2).trans rfl
                        have hfz52_0 := blk_frozen BK267.out 0
                        have hfz52_1 := blk_frozen BK267.out 1
                        have hfz52_2 := blk_frozen BK267.out 2
                        have hcz53_0 : wr.cell? ⟨gb248, 0, none⟩ = some (.slice none 0 0) := (blk_cell BK248.out 0).trans rfl
                        have hcz53_1 : wr.cell? ⟨gb248, 1, none⟩ = some (.slice none 0 0) := (blk_cell BK248.out 1).trans rfl
                        have hcz53_2 : wr.cell? ⟨gb248, 2, none⟩ = some (.slice none 0 0) := (blk_cell BK248.out 2).trans rfl
                        have hfz53_0 := blk_frozen BK248.out 0
                        have hfz53_1 := blk_frozen BK248.out 1
                        have hfz53_2 := blk_frozen BK248.out 2
                        obtain ⟨Ao54, co54, eo54⟩ := Kd.S_slice HO_268002.out
                        subst eo54
                        go_wp2
                        refine bodyPost_ret (results_ct rfl _ _ gb248 50 #[.slice Ao31 t257.length co31, .slice Ao30 t264.length co30, .slice Ao54 x268002_2.length co54] (0, 0) _ rfl (by (with_reducible repeat (first | refine blk_drewN ?_ _ | refine blk_drew ?_ | refine blk_alloc ?_ _)); refine blk_put (cs := #[.slice Ao31 t257.length co31, .slice Ao30 t264.length co30, .slice none 0 0]) ?_ 2 _ rfl; (with_reducible repeat (first | refine blk_drewN ?_ _ | refine blk_drew ?_ | refine blk_alloc ?_ _)); refine blk_put (cs := #[.slice Ao31 t257.length co31, .slice none 0 0, .slice none 0 0]) ?_ 1 _ rfl; (with_reducible repeat (first | refine blk_drewN ?_ _ | refine blk_drew ?_ | refine blk_alloc ?_ _)); refine blk_put (cs := #[.slice none 0 0, .slice none 0 0, .slice none 0 0]) ?_ 0 _ rfl; (with_reducible repeat (first | refine blk_drewN ?_ _ | refine blk_drew ?_ | refine blk_alloc ?_ _)); exact BK248.out) Try.underlying50 rfl (by kernel_rfl)) rfl ?_
                        exact ⟨_, _, _, by first | rfl | (simp [errW_none, errW_some] <;> rfl) | (simp only [← hji13]; first | rfl | (simp [errW_none, errW_some] <;> rfl)) | (simp [*, errW_none, errW_some] <;> rfl), by (with_reducible repeat (first | apply Kd.R_alloc | apply Kd.R_drewN | apply Kd.R_drew)); exact Kd.R_mono (Kd.R_far (p := ⟨gb248, 2, none⟩) (Kd.R_far (p := ⟨gb248, 1, none⟩) (Kd.R_far (p := ⟨gb248, 0, none⟩) (Kd.R_types HO_268000.out BK248.out (by decide)) (fun _ hk => hk.2) (.slice Ao31 t257.length co31)) (fun _ hk => hk.2) (.slice Ao30 t264.length co30)) (fun _ hk => hk.2) (.slice Ao54 x268002_2.length co54)) (fun _ hk => hk.1), by (with_reducible repeat (first | apply Kd.R_alloc | apply Kd.R_drewN | apply Kd.R_drew)); exact Kd.R_mono (Kd.R_far (p := ⟨gb248, 2, none⟩) (Kd.R_far (p := ⟨gb248, 1, none⟩) (Kd.R_far (p := ⟨gb248, 0, none⟩) (Kd.R_types HO_268001.out BK248.out (by decide)) (fun _ hk => hk.2) (.slice Ao31 t257.length co31)) (fun _ hk => hk.2) (.slice Ao30 t264.length co30)) (fun _ hk => hk.2) (.slice Ao54 x268002_2.length co54)) (fun _ hk => hk.1), by (with_reducible repeat (first | apply Kd.S_alloc | apply Kd.S_drewN | apply Kd.S_drew)); exact Kd.S_mono (Kd.S_far (p := ⟨gb248, 2, none⟩) (Kd.S_far (p := ⟨gb248, 1, none⟩) (Kd.S_far (p := ⟨gb248, 0, none⟩) (Kd.S_types HO_268002.out BK248.out (by decide)) (fun _ hk => hk.2) (.slice Ao31 t257.length co31)) (fun _ hk => hk.2) (.slice Ao30 t264.length co30)) (fun _ hk => hk.2) (.slice Ao54 x268002_2.length co54)) (fun _ hk => ⟨hk.1.1, hk.1.2⟩), by repeat (first | (with_reducible first | exact HB.out | apply below_alloc | apply pw_below_drewN | apply below_drew1 | refine below_set ?_ GE248.out | refine below_set ?_ GE267.out) | exact HB.out)⟩
              · rw [if_neg c15] at H
                exact absurd H (by simp)
            · rw [if_neg c14] at H
              exact absurd H (by simp)
          · rw [if_neg c10] at H
            exact absurd H (by simp)

end Go.Proofs.Ytangepklgeikkaa.Q
