/- Functions of the program as plain Lean functions, each with a proof that its call comes to just these answers, or the row that joins them to the given statement; no condition beside the statement's own. Written for this claim by pf.py, this session's program over the kit's print. -/
import Derived.Test.YtiefmocfgneldaaQx0
import Derived.Test.YtiefmocfgneldaaQx16
namespace Go.Proofs.Ytiefmocfgneldaa.Q
open Go.RowKit Go.Proofs.YtiefmocfgneldaaW.PrintWords Go.Proofs.YtiefmocfgneldaaW.PrintLast Go.Proofs.YtiefmocfgneldaaW.PrintMore
attribute [local go_sem] max2_int min2_int max_two min_two max_three min_three max_four min_four   -- for this text's walks alone
set_option linter.unusedVariables false
set_option linter.unusedSimpArgs false

/-! ### churnref12_Pattern: function 23 -/
mutual
def churnref12_Pattern.j0 : Nat → List Int → List Int → Int → Bool → Option (List Int × List Int × Int)
  | 0, _, _, _, _ => none
  | k + 1, x0, x1, x7, x25 => if x25 = true then (some (([] : List Int), ([] : List Int), 2)) else (if ([] : List Int).length + x0.length < 17592186044416 then (if 0 ≤ (x0.length : Int) then (if ((x0.length : Int) : Int).toNat ≤ 11728124029610 then (churnref12_Pattern.l0 k x1 x7 (([] : List Int) ++ x0) (List.replicate ((x0.length : Int) : Int).toNat []) ([] : List Int) 0) else (none)) else (none)) else (none))
def churnref12_Pattern.l0 : Nat → List Int → Int → List Int → List (List Int) → List Int → Int → Option (List Int × List Int × Int)
  | 0, _, _, _, _, _, _ => none
  | k + 1, x1, x7, x8, x9, x10, x11 => if x11 < x7 then (if 0 ≤ x11 then (if x11 < (x1.length : Int) then (if (rd x1 x11) < 0 then (churnref12_Pattern.j2 k x1 x7 x8 x9 x10 x11 (rd x1 x11) true) else (churnref12_Pattern.j2 k x1 x7 x8 x9 x10 x11 (rd x1 x11) (decide ((rd x1 x11) ≥ (wrap64 (x7 - x11)))))) else (none)) else (none)) else (churnref12_Pattern.l2 k x9 x10 ([] : List Int) 0)
def churnref12_Pattern.j2 : Nat → List Int → Int → List Int → List (List Int) → List Int → Int → Int → Bool → Option (List Int × List Int × Int)
  | 0, _, _, _, _, _, _, _, _ => none
  | k + 1, x1, x7, x8, x9, x10, x11, x12, x49 => if x49 = true then (some (([] : List Int), ([] : List Int), 2)) else (churnref12_Pattern.l1 k x1 x7 x8 x9 x10 x11 x12 0)
def churnref12_Pattern.l1 : Nat → List Int → Int → List Int → List (List Int) → List Int → Int → Int → Int → Option (List Int × List Int × Int)
  | 0, _, _, _, _, _, _, _, _ => none
  | k + 1, x1, x7, x8, x9, x10, x11, x12, x13 => if 0 ≤ x13 then (if x13 < (x8.length : Int) then (if x12 ≥ (rd x8 x13) then (churnref12_Pattern.l1 k x1 x7 x8 x9 x10 x11 (wrap64 (x12 - (rd x8 x13))) (wrap64 (x13 + 1))) else (if x10.length < 17592186044416 then (if x13 < (x9.length : Int) then (if (rd_L3 x9 x13).length < 17592186044416 then (churnref12_Pattern.l0 k x1 x7 (x8.set (x13 : Int).toNat (wrap64 ((rd x8 x13) - 1))) (x9.set (x13 : Int).toNat ((rd_L3 x9 x13) ++ [x12])) (x10 ++ [x13]) (wrap64 (x11 + 1))) else (none)) else (none)) else (none))) else (none)) else (none)
def churnref12_Pattern.l2 : Nat → List (List Int) → List Int → List Int → Int → Option (List Int × List Int × Int)
  | 0, _, _, _, _ => none
  | k + 1, x9, x10, x14, x15 => if x15 < (x9.length : Int) then (if 0 ≤ x15 then (if x14.length + (rd_L3 x9 x15).length < 17592186044416 then (churnref12_Pattern.l2 k x9 x10 (x14 ++ (rd_L3 x9 x15)) (wrap64 (x15 + 1))) else (none)) else (none)) else (some (x10, x14, 0))
end
def churnref12_Pattern.f (k : Nat) (l0 : List Int) (l1 : List Int) : Option (List Int × List Int × Int) := (churnref12_total.f k l0).bind fun t242 => (if t242 < 0 then (churnref12_Pattern.j0 k l0 l1 t242 true) else (churnref12_Pattern.j0 k l0 l1 t242 ((l1.length : Int) != t242)))
theorem churnref12_Pattern.mono_l : ∀ k, (∀ y0 y1 y2 y3, LeO (churnref12_Pattern.j0 k y0 y1 y2 y3) (churnref12_Pattern.j0 (k + 1) y0 y1 y2 y3)) ∧ (∀ y0 y1 y2 y3 y4 y5, LeO (churnref12_Pattern.l0 k y0 y1 y2 y3 y4 y5) (churnref12_Pattern.l0 (k + 1) y0 y1 y2 y3 y4 y5)) ∧ (∀ y0 y1 y2 y3 y4 y5 y6 y7, LeO (churnref12_Pattern.j2 k y0 y1 y2 y3 y4 y5 y6 y7) (churnref12_Pattern.j2 (k + 1) y0 y1 y2 y3 y4 y5 y6 y7)) ∧ (∀ y0 y1 y2 y3 y4 y5 y6 y7, LeO (churnref12_Pattern.l1 k y0 y1 y2 y3 y4 y5 y6 y7) (churnref12_Pattern.l1 (k + 1) y0 y1 y2 y3 y4 y5 y6 y7)) ∧ (∀ y0 y1 y2 y3, LeO (churnref12_Pattern.l2 k y0 y1 y2 y3) (churnref12_Pattern.l2 (k + 1) y0 y1 y2 y3))
  | 0 => ⟨fun _ _ _ _ r h => by simp [churnref12_Pattern.j0] at h, fun _ _ _ _ _ _ r h => by simp [churnref12_Pattern.l0] at h, fun _ _ _ _ _ _ _ _ r h => by simp [churnref12_Pattern.j2] at h, fun _ _ _ _ _ _ _ _ r h => by simp [churnref12_Pattern.l1] at h, fun _ _ _ _ r h => by simp [churnref12_Pattern.l2] at h⟩
  | k + 1 => by
    obtain ⟨ih0, ih1, ih2, ih3, ih4⟩ := churnref12_Pattern.mono_l k
    refine ⟨?_, ?_, ?_, ?_, ?_⟩
    · intro y0 y1 y2 y3
      unfold churnref12_Pattern.j0
      repeat' first
      | (with_reducible exact ih0 _ _ _ _)
      | (with_reducible exact ih1 _ _ _ _ _ _)
      | (with_reducible exact ih2 _ _ _ _ _ _ _ _)
      | (with_reducible exact ih3 _ _ _ _ _ _ _ _)
      | (with_reducible exact ih4 _ _ _ _)
      | (with_reducible exact churnref12_total.mono _ _)
      | (with_reducible exact LeO.refl _)
      | (with_reducible exact LeO.none _)
      | (with_reducible refine LeO.ite ?_ ?_)
      | (with_reducible refine LeO.bind ?_ (fun _ => ?_))
      | exact ih0 _ _ _ _
      | exact ih1 _ _ _ _ _ _
      | exact ih2 _ _ _ _ _ _ _ _
      | exact ih3 _ _ _ _ _ _ _ _
      | exact ih4 _ _ _ _
      | exact churnref12_total.mono _ _
      | exact LeO.none _
      | refine LeO.ite ?_ ?_
      | refine LeO.bind ?_ (fun _ => ?_)
    · intro y0 y1 y2 y3 y4 y5
      unfold churnref12_Pattern.l0
      repeat' first
      | (with_reducible exact ih0 _ _ _ _)
      | (with_reducible exact ih1 _ _ _ _ _ _)
      | (with_reducible exact ih2 _ _ _ _ _ _ _ _)
      | (with_reducible exact ih3 _ _ _ _ _ _ _ _)
      | (with_reducible exact ih4 _ _ _ _)
      | (with_reducible exact churnref12_total.mono _ _)
      | (with_reducible exact LeO.refl _)
      | (with_reducible exact LeO.none _)
      | (with_reducible refine LeO.ite ?_ ?_)
      | (with_reducible refine LeO.bind ?_ (fun _ => ?_))
      | exact ih0 _ _ _ _
      | exact ih1 _ _ _ _ _ _
      | exact ih2 _ _ _ _ _ _ _ _
      | exact ih3 _ _ _ _ _ _ _ _
      | exact ih4 _ _ _ _
      | exact churnref12_total.mono _ _
      | exact LeO.none _
      | refine LeO.ite ?_ ?_
      | refine LeO.bind ?_ (fun _ => ?_)
    · intro y0 y1 y2 y3 y4 y5 y6 y7
      unfold churnref12_Pattern.j2
      repeat' first
      | (with_reducible exact ih0 _ _ _ _)
      | (with_reducible exact ih1 _ _ _ _ _ _)
      | (with_reducible exact ih2 _ _ _ _ _ _ _ _)
      | (with_reducible exact ih3 _ _ _ _ _ _ _ _)
      | (with_reducible exact ih4 _ _ _ _)
      | (with_reducible exact churnref12_total.mono _ _)
      | (with_reducible exact LeO.refl _)
      | (with_reducible exact LeO.none _)
      | (with_reducible refine LeO.ite ?_ ?_)
      | (with_reducible refine LeO.bind ?_ (fun _ => ?_))
      | exact ih0 _ _ _ _
      | exact ih1 _ _ _ _ _ _
      | exact ih2 _ _ _ _ _ _ _ _
      | exact ih3 _ _ _ _ _ _ _ _
      | exact ih4 _ _ _ _
      | exact churnref12_total.mono _ _
      | exact LeO.none _
      | refine LeO.ite ?_ ?_
      | refine LeO.bind ?_ (fun _ => ?_)
    · intro y0 y1 y2 y3 y4 y5 y6 y7
      unfold churnref12_Pattern.l1
      repeat' first
      | (with_reducible exact ih0 _ _ _ _)
      | (with_reducible exact ih1 _ _ _ _ _ _)
      | (with_reducible exact ih2 _ _ _ _ _ _ _ _)
      | (with_reducible exact ih3 _ _ _ _ _ _ _ _)
      | (with_reducible exact ih4 _ _ _ _)
      | (with_reducible exact churnref12_total.mono _ _)
      | (with_reducible exact LeO.refl _)
      | (with_reducible exact LeO.none _)
      | (with_reducible refine LeO.ite ?_ ?_)
      | (with_reducible refine LeO.bind ?_ (fun _ => ?_))
      | exact ih0 _ _ _ _
      | exact ih1 _ _ _ _ _ _
      | exact ih2 _ _ _ _ _ _ _ _
      | exact ih3 _ _ _ _ _ _ _ _
      | exact ih4 _ _ _ _
      | exact churnref12_total.mono _ _
      | exact LeO.none _
      | refine LeO.ite ?_ ?_
      | refine LeO.bind ?_ (fun _ => ?_)
    · intro y0 y1 y2 y3
      unfold churnref12_Pattern.l2
      repeat' first
      | (with_reducible exact ih0 _ _ _ _)
      | (with_reducible exact ih1 _ _ _ _ _ _)
      | (with_reducible exact ih2 _ _ _ _ _ _ _ _)
      | (with_reducible exact ih3 _ _ _ _ _ _ _ _)
      | (with_reducible exact ih4 _ _ _ _)
      | (with_reducible exact churnref12_total.mono _ _)
      | (with_reducible exact LeO.refl _)
      | (with_reducible exact LeO.none _)
      | (with_reducible refine LeO.ite ?_ ?_)
      | (with_reducible refine LeO.bind ?_ (fun _ => ?_))
      | exact ih0 _ _ _ _
      | exact ih1 _ _ _ _ _ _
      | exact ih2 _ _ _ _ _ _ _ _
      | exact ih3 _ _ _ _ _ _ _ _
      | exact ih4 _ _ _ _
      | exact churnref12_total.mono _ _
      | exact LeO.none _
      | refine LeO.ite ?_ ?_
      | refine LeO.bind ?_ (fun _ => ?_)
theorem churnref12_Pattern.mono : ∀ a0 a1 k, LeO (churnref12_Pattern.f k a0 a1) (churnref12_Pattern.f (k + 1) a0 a1) := by
  intro a0 a1 k
  obtain ⟨ih0, ih1, ih2, ih3, ih4⟩ := churnref12_Pattern.mono_l k
  unfold churnref12_Pattern.f
  repeat' first
      | (with_reducible exact ih0 _ _ _ _)
      | (with_reducible exact ih1 _ _ _ _ _ _)
      | (with_reducible exact ih2 _ _ _ _ _ _ _ _)
      | (with_reducible exact ih3 _ _ _ _ _ _ _ _)
      | (with_reducible exact ih4 _ _ _ _)
      | (with_reducible exact churnref12_total.mono _ _)
      | (with_reducible exact LeO.refl _)
      | (with_reducible exact LeO.none _)
      | (with_reducible refine LeO.ite ?_ ?_)
      | (with_reducible refine LeO.bind ?_ (fun _ => ?_))
      | exact ih0 _ _ _ _
      | exact ih1 _ _ _ _ _ _
      | exact ih2 _ _ _ _ _ _ _ _
      | exact ih3 _ _ _ _ _ _ _ _
      | exact ih4 _ _ _ _
      | exact churnref12_total.mono _ _
      | exact LeO.none _
      | refine LeO.ite ?_ ?_
      | refine LeO.bind ?_ (fun _ => ?_)
set_option maxHeartbeats 8000000 in
set_option maxRecDepth 100000 in
theorem churnref12_Pattern.calls (k : Nat) (A0 : Option Addr) (c0 : Nat) (l0 : List Int) (A1 : Option Addr) (c1 : Nat) (l1 : List Int) (r1 : List Int) (r2 : List Int) (r3 : Int) (w : World) (hr0 : Kd.C (Kd.int .i64) w A0 l0.length l0) (hc0 : l0.length ≤ c0) (hr1 : Kd.C (Kd.int .i64) w A1 l1.length l1) (hc1 : l1.length ≤ c1) (h : churnref12_Pattern.f k l0 l1 = some (r1, r2, r3)) :
    Calls Try.prog 23 #[.slice A0 l0.length c0, .slice A1 l1.length c1] w fun e w' => ∃ v0_ v1_ : Value, e = .returned (.tuple #[v0_, v1_, .int .i64 r3]) ∧ Kd.R (Kd.int .i64) 3 w' w.heap.size (fun k_ => some k_ ≠ (v1_ : Value).ownBlock) v0_ r1 ∧ Kd.R (Kd.int .i64) 3 w' w.heap.size (fun k_ => some k_ ≠ (v0_ : Value).ownBlock) v1_ r2 ∧ Below w.heap.size w w' := by
  have HR0 := Aside0.mk hr0
  have HC0 := Aside0.mk hc0
  clear hr0 hc0
  have HR1 := Aside0.mk hr1
  have HC1 := Aside0.mk hc1
  clear hr1 hc1
  have HB := Aside0.mk (Below.refl w.heap.size w)
  have H : ((churnref12_total.f k l0).bind fun t242 => (if t242 < 0 then (churnref12_Pattern.j0 k l0 l1 t242 true) else (churnref12_Pattern.j0 k l0 l1 t242 ((l1.length : Int) != t242)))) = some (r1, r2, r3) := h
  clear h
  replace H := Option.bind_eq_some_iff.mp H
  obtain ⟨t242, A30, H⟩ := H
  replace H : (if t242 < 0 then (churnref12_Pattern.j0 k l0 l1 t242 true) else (churnref12_Pattern.j0 k l0 l1 t242 ((l1.length : Int) != t242))) = some (r1, r2, r3) := H
  have A3 := Aside0.mk A30
  clear A30
  have HC4 := Aside0.mk H
  clear H
  go_enter Try.func23, Try.ntmps23
  go_upto_region 2 with (first | ((with_reducible refine gate_callee (f := 29) rfl ?_); refine goesL_ (some 17) rfl rfl Try.func29 (by kernel_rfl) rfl #[.slice A0 l0.length c0] rfl (by (try simp only [List.map_toArray, List.map_cons, List.map_nil]); first | done | rfl | (simp only [List.length_drop, List.length_take]; rfl)) ?_; (with_reducible refine (churnref12_total.calls k _ _ l0 t242 _ ?side1 ?side2 A3.out).mono ?_); (case side1 => repeat (first | exact HR0.out | (with_reducible refine Kd.C_alloc ?_ _) | (with_reducible refine Kd.C_drewN ?_ _) | (with_reducible refine Kd.C_drew ?_))); (case side2 => exact HC0.out); rintro e w' ⟨rfl, ⟨nd, rfl⟩⟩; refine ⟨_, rfl, ?_⟩))
  (try simp only [Act.put, List.setIfInBounds_toArray, List.set_cons_zero, List.set_cons_succ])
  go_cut [25] (fun v25 wc => ∃ (kq : Nat) (x25_3 : Bool), v25 = .bool x25_3 ∧ Aside0 (churnref12_Pattern.j0 kq l0 l1 t242 x25_3 = some (r1, r2, r3)) ∧ Aside0 (kq ≤ k) ∧ Aside0 (Below w.heap.size w wc))
  case first =>
    have H := HC4.out
    clear HC4
    by_cases c5 : t242 < 0
    · rw [if_pos c5] at H
      have c5b0 : decide (t242 < 0) = true := decide_eq_true c5
      clear c5
      (first | rw [c5b0] | (simp only [i64_w, i32_w]; rw [c5b0]) | skip)
      have H' := Aside0.mk H
      clear H
      go_wp2
      go_meet
      case rel => exact ⟨_, (true), (by first | rfl | (simp; done) | (simp [*]; done)), H', ⟨by first | omega | exact Nat.le_refl _⟩, ⟨by repeat (first | (with_reducible first | exact HB.out | apply below_alloc | apply pw_below_drewN | apply below_drew1) | exact HB.out)⟩⟩
    · rw [if_neg c5] at H
      have c5b0 : decide (t242 < 0) = false := decide_eq_false c5
      clear c5
      (first | rw [c5b0] | (simp only [i64_w, i32_w]; rw [c5b0]) | skip)
      have H' := Aside0.mk H
      clear H
      go_wp2
      go_meet
      case rel => exact ⟨_, (((l1.length : Int) != t242)), (by first | rfl | (simp; done) | (simp [*]; done)), H', ⟨by first | omega | exact Nat.le_refl _⟩, ⟨by repeat (first | (with_reducible first | exact HB.out | apply below_alloc | apply pw_below_drewN | apply below_drew1) | exact HB.out)⟩⟩
  case rest =>
    clear HC4
    try clear c1
    try clear c2
    try clear p2
    try clear c5
    try clear c5b0
    obtain ⟨kq, x25_3, rfl, HA, HJ3, HB⟩ := hcut
    cases kq with
    | zero => exact absurd HA.out (by simp [churnref12_Pattern.j0])
    | succ kj3 =>
      have H := HA.out
      clear HA
      simp only [churnref12_Pattern.j0] at H
      by_cases c6 : x25_3 = true
      · subst c6
        have H1 : (some (([] : List Int), ([] : List Int), 2)) = some (r1, r2, r3) := by rw [if_pos rfl] at H; exact H
        clear H
        have H := H1
        clear H1
        simp only [Option.some.injEq, Prod.mk.injEq] at H
        obtain ⟨rfl, rfl, rfl⟩ := H
        go_wp2
        go_ret3
        exact ⟨_, _, by first | rfl | (simp [errW_none, errW_some] <;> rfl) | (simp [*, errW_none, errW_some] <;> rfl), by first | exact Kd.R_nil _ _ _ _ _ | exact Kd.N_nil _ _ _ _ _ | exact Kd.V_nil _ _ _ _ _ | exact Kd.Q_nil _ _ _ _ _ | exact Kd.S_nil _ _ _ _ _, by first | exact Kd.R_nil _ _ _ _ _ | exact Kd.N_nil _ _ _ _ _ | exact Kd.V_nil _ _ _ _ _ | exact Kd.Q_nil _ _ _ _ _ | exact Kd.S_nil _ _ _ _ _, by repeat (first | (with_reducible first | exact HB.out | apply below_alloc | apply pw_below_drewN | apply below_drew1) | exact HB.out)⟩
      · replace c6 := Bool.eq_false_iff.mpr c6
        subst c6
        have H1 : (if ([] : List Int).length + l0.length < 17592186044416 then (if 0 ≤ (l0.length : Int) then (if ((l0.length : Int) : Int).toNat ≤ 11728124029610 then (churnref12_Pattern.l0 kj3 l1 t242 (([] : List Int) ++ l0) (List.replicate ((l0.length : Int) : Int).toNat []) ([] : List Int) 0) else (none)) else (none)) else (none)) = some (r1, r2, r3) := by rw [if_neg (show ¬ (false = true) by decide)] at H; exact H
        clear H
        have H := H1
        clear H1
        by_cases c7 : ([] : List Int).length + l0.length < 17592186044416
        · rw [if_pos c7] at H
          have LMc7 := Aside0.mk c7
          clear c7
          obtain ⟨y243, hy243⟩ : ∃ y_ : List Int, y_ = (([] : List Int) ++ l0) := ⟨_, rfl⟩
          replace H : (if 0 ≤ (l0.length : Int) then (if ((l0.length : Int) : Int).toNat ≤ 11728124029610 then (churnref12_Pattern.l0 kj3 l1 t242 y243 (List.replicate ((l0.length : Int) : Int).toNat []) ([] : List Int) 0) else (none)) else (none)) = some (r1, r2, r3) := by first | (rw [hy243]; with_reducible exact H) | (have H2_ := (Option.bind_some _ _).symm.trans H; rw [hy243]; with_reducible exact H2_) | (have H2_ := (Option.bind_some _ _).symm.trans H; with_reducible exact H2_) | with_reducible exact H | (rw [hy243]; exact H) | exact H
          have Ny243 := Aside0.mk hy243
          clear hy243
          by_cases c8 : 0 ≤ (l0.length : Int)
          · rw [if_pos c8] at H
            have c8b0 := eq_true c8
            have c8b1 : decide (0 ≤ (l0.length : Int)) = true := decide_eq_true c8
            clear c8
            by_cases c9 : ((l0.length : Int) : Int).toNat ≤ 11728124029610
            · rw [if_pos c9] at H
              have c9b0 := eq_true c9
              have c9b1 : decide (((l0.length : Int) : Int).toNat ≤ 11728124029610) = true := decide_eq_true c9
              clear c9
              obtain ⟨y246, hy246⟩ : ∃ y_ : List (List Int), y_ = (List.replicate ((l0.length : Int) : Int).toNat []) := ⟨_, rfl⟩
              replace H : (churnref12_Pattern.l0 kj3 l1 t242 y243 y246 ([] : List Int) 0) = some (r1, r2, r3) := by first | (rw [hy246]; with_reducible exact H) | (have H2_ := (Option.bind_some _ _).symm.trans H; rw [hy246]; with_reducible exact H2_) | (have H2_ := (Option.bind_some _ _).symm.trans H; with_reducible exact H2_) | with_reducible exact H | (rw [hy246]; exact H) | exact H
              have Ny246 := Aside0.mk hy246
              clear hy246
              have H' := Aside0.mk H
              clear H
              go_wp2_with (first | ((with_reducible refine gate_builtin (b := .append) (xs := #[.tmp 26, .tmp 27]) rfl ?_); (try (refine gate_guard (by rfl) ?_; dsimp only)); at_builtin; refine Kd.R_append_rows (Kd.int .i64) (w0 := w) w.heap.size rfl (.tmp 26) (.tmp 27) 22 3 (.int .i64 0) 8 rfl Try.underlying22 info3 rfl (by decide) (by omega) (.slice none 0 0) ([] : List Int) l0 _ _ _ (fun _ => True) (fun _ => False) rfl rfl ?aO ?aR (fun _ _ h => h) (fun _ h => h.elim) ?aF ?aB ?aS ?aL ?_; (case aR => repeat (first | exact (Kd.C_below HR0.out HB.out) | (with_reducible refine Kd.C_alloc ?_ _) | (with_reducible refine Kd.C_drewN ?_ _) | (with_reducible refine Kd.C_drew ?_))); (case aB => exact (by repeat (first | (with_reducible first | exact HB.out | apply below_alloc | apply pw_below_drewN | apply below_drew1) | exact HB.out))); (case aF => exact (fun _ _ => trivial)); (case aO => exact ((Kd.R_nil _ _ _ _ (fun _ => True)))); (case aS => exact (below_size (by repeat (first | (with_reducible first | exact HB.out | apply below_alloc | apply pw_below_drewN | apply below_drew1) | exact HB.out)))); (case aL => have := LMc7.out; omega); intro v244 w10 ho hb hg hat; rw [← Ny243.out] at ho; have n0_ := Aside0.mk (hb); have n1_ := Aside0.mk (ho); clear HB; have HB := n0_; have HO245 := n1_; clear n0_ n1_; clear ho hb hg hat) | ((with_reducible refine gate_dst (N := 31) rfl ?_); (try (refine gate_guard (by rfl) ?_; dsimp only)); refine Kd.S_make (Kd.slice 3 (Kd.int .i64)) _ 22 rfl (N := 31) rfl 63 _ _ rfl (l0.length : Int) rfl rfl Try.underlying63 (.slice none 0 0) 24 info22 rfl (by decide) (by omega) [] (ok := fun _ => True) (okp := fun _ => True) ⟨_, rfl, Kd.R_nil _ _ _ _ _⟩ (fun _ hk => hk) trivial (of_decide_eq_true (by first | (with_reducible assumption) | assumption)) (Nat.le_trans (Nat.mul_le_mul_right _ (of_decide_eq_true (by first | (with_reducible assumption) | assumption) : (l0.length : Int).toNat ≤ 11728124029610)) (by omega)) (Below.refl _ _) (Nat.le_refl _) ?_; intro v247 w11 ho12 hb hg_ hnew_; clear hg_ hnew_; (first | rw [← Ny246.out] at ho12 | (simp only [Int.reduceToNat] at ho12; rw [← Ny246.out] at ho12)); have n0_ := Aside0.mk (Kd.R_below (by (with_reducible repeat (first | apply Kd.R_alloc | apply Kd.R_drewN | apply Kd.R_drew)); exact HO245.out) hb); have n1_ := Aside0.mk (Kd.S_lower (Kd.S_new' ho12 (Kd.R_lt (by (with_reducible repeat (first | apply Kd.R_alloc | apply Kd.R_drewN | apply Kd.R_drew)); exact HO245.out))) (below_size (by repeat (first | (with_reducible first | exact HB.out | apply below_alloc | apply pw_below_drewN | apply below_drew1) | exact HB.out)))); have n2_ := Aside0.mk (below_step (by repeat (first | (with_reducible first | exact HB.out | apply below_alloc | apply pw_below_drewN | apply below_drew1) | exact HB.out)) hb); clear HO245; clear HB; have HO245 := n0_; have HO248 := n1_; have HB := n2_; clear n0_ n1_ n2_; clear hb ho12))
              go_loopg [10, 11] kj3 (fun kq v10 v11 w' => ∃ (x8_2 : List Int) (x9_2 : List (List Int)) (x10_2 : List Int) (x11_2 : Int), v11 = .int .i64 x11_2 ∧ Aside0 (churnref12_Pattern.l0 kq l1 t242 x8_2 x9_2 x10_2 x11_2 = some (r1, r2, r3)) ∧ Aside0 (kq ≤ kj3) ∧ Aside0 (Kd.R (Kd.int .i64) 3 w' w.heap.size (fun k_ => some k_ ≠ (v10 : Value).ownBlock) v244 x8_2) ∧ Aside0 (Kd.S (Kd.slice 3 (Kd.int .i64)) 22 w' w.heap.size (fun k_ => some k_ ≠ (v244 : Value).ownBlock ∧ some k_ ≠ (v10 : Value).ownBlock) v247 x9_2) ∧ Aside0 (Kd.R (Kd.int .i64) 3 w' w.heap.size (fun k_ => some k_ ≠ (v244 : Value).ownBlock) v10 x10_2) ∧ Aside0 (Below w.heap.size w w'))
              case atStart => exact ⟨(y243), (y246), (([] : List Int)), (0), (by first | rfl | (simp; done) | (simp [*]; done)), H', ⟨Nat.le_refl _⟩, ⟨by (with_reducible repeat (first | apply Kd.R_alloc | apply Kd.R_drewN | apply Kd.R_drew)); exact Kd.R_mono HO245.out (fun _ hk => (by simp [Value.ownBlock]))⟩, ⟨by (with_reducible repeat (first | apply Kd.S_alloc | apply Kd.S_drewN | apply Kd.S_drew)); exact Kd.S_mono HO248.out (fun _ hk => ⟨hk.2, (by simp [Value.ownBlock])⟩)⟩, ⟨by first | exact Kd.R_nil _ _ _ _ _ | exact Kd.N_nil _ _ _ _ _ | exact Kd.V_nil _ _ _ _ _ | exact Kd.Q_nil _ _ _ _ _ | exact Kd.S_nil _ _ _ _ _⟩, ⟨by repeat (first | (with_reducible first | exact HB.out | apply below_alloc | apply pw_below_drewN | apply below_drew1) | exact HB.out)⟩⟩
              case round =>
                clear H'
                try clear c1
                try clear c2
                try clear p2
                try clear c5
                try clear c5b0
                try clear c6
                try clear c7
                try clear c8
                try clear c8b0
                try clear c8b1
                try clear c9
                try clear c9b0
                try clear c9b1
                try clear p2
                obtain ⟨x8_2, x9_2, x10_2, x11_2, rfl, HA, HK2, HO_8, HO_9, HO_10, HB⟩ := hrel
                cases gk with
                | zero => exact absurd HA.out (by simp [churnref12_Pattern.l0])
                | succ k2 =>
                  have H := HA.out
                  clear HA
                  simp only [churnref12_Pattern.l0] at H
                  by_cases c13 : x11_2 < t242
                  · rw [if_pos c13] at H
                    have c13b0 : decide (x11_2 < t242) = true := decide_eq_true c13
                    clear c13
                    by_cases c14 : 0 ≤ x11_2
                    · rw [if_pos c14] at H
                      have c14b0 : decide (0 ≤ x11_2) = true := decide_eq_true c14
                      clear c14
                      by_cases c15 : x11_2 < (l1.length : Int)
                      · rw [if_pos c15] at H
                        have c15b0 : decide (x11_2 < (l1.length : Int)) = true := decide_eq_true c15
                        clear c15
                        have HC16 := Aside0.mk H
                        clear H
                        have p249 : 0 ≤ (x11_2 : Int) := of_decide_eq_true (by first | (with_reducible assumption) | assumption)
                        have q249 : x11_2 < (l1.length : Int) := of_decide_eq_true (by first | (with_reducible assumption) | assumption)
                        obtain ⟨ad249, e249, hx249_0⟩ := Kd.at_int HR1.out x11_2 p249 q249
                        cases e249
                        (try (replace hx249_0 := (HB.out.cell (World.block_lt_of_cell? w _ hx249_0)).trans hx249_0))
                        replace p249 := eq_true p249
                        replace q249 := eq_true q249
                        go_upto_region 12 with (fail)
                        go_cut [49] (fun v49 wc => ∃ (kq : Nat) (x49_15 : Bool), v49 = .bool x49_15 ∧ Aside0 (churnref12_Pattern.j2 kq l1 t242 x8_2 x9_2 x10_2 x11_2 (rd l1 x11_2) x49_15 = some (r1, r2, r3)) ∧ Aside0 (kq ≤ k2) ∧ Aside0 (Kd.R (Kd.int .i64) 3 wc w.heap.size (fun k_ => some k_ ≠ (u10 : Value).ownBlock) v244 x8_2) ∧ Aside0 (Kd.S (Kd.slice 3 (Kd.int .i64)) 22 wc w.heap.size (fun k_ => some k_ ≠ (v244 : Value).ownBlock ∧ some k_ ≠ (u10 : Value).ownBlock) v247 x9_2) ∧ Aside0 (Kd.R (Kd.int .i64) 3 wc w.heap.size (fun k_ => some k_ ≠ (v244 : Value).ownBlock) u10 x10_2) ∧ Aside0 (Below w.heap.size w wc))
                        case first =>
                          have H := HC16.out
                          clear HC16
                          by_cases c17 : (rd l1 x11_2) < 0
                          · rw [if_pos c17] at H
                            have c17b0 : decide ((rd l1 x11_2) < 0) = true := decide_eq_true c17
                            clear c17
                            (first | rw [c17b0] | (simp only [i64_w, i32_w]; rw [c17b0]) | skip)
                            have H' := Aside0.mk H
                            clear H
                            go_wp2
                            go_meet
                            case rel => exact ⟨_, (true), (by first | rfl | (simp; done) | (simp [*]; done)), H', ⟨by have := HJ3.out; have := HK2.out; first | omega | exact Nat.le_refl _⟩, ⟨by (with_reducible repeat (first | apply Kd.R_alloc | apply Kd.R_drewN | apply Kd.R_drew)); exact HO_8.out⟩, ⟨by (with_reducible repeat (first | apply Kd.S_alloc | apply Kd.S_drewN | apply Kd.S_drew)); exact HO_9.out⟩, ⟨by (with_reducible repeat (first | apply Kd.R_alloc | apply Kd.R_drewN | apply Kd.R_drew)); exact HO_10.out⟩, ⟨by repeat (first | (with_reducible first | exact HB.out | apply below_alloc | apply pw_below_drewN | apply below_drew1) | exact HB.out)⟩⟩
                          · rw [if_neg c17] at H
                            have c17b0 : decide ((rd l1 x11_2) < 0) = false := decide_eq_false c17
                            clear c17
                            (first | rw [c17b0] | (simp only [i64_w, i32_w]; rw [c17b0]) | skip)
                            have H' := Aside0.mk H
                            clear H
                            go_wp2
                            go_meet
                            case rel => exact ⟨_, (decide ((rd l1 x11_2) ≥ (wrap64 (t242 - x11_2)))), (by first | rfl | (simp; done) | (simp [*]; done)), H', ⟨by have := HJ3.out; have := HK2.out; first | omega | exact Nat.le_refl _⟩, ⟨by (with_reducible repeat (first | apply Kd.R_alloc | apply Kd.R_drewN | apply Kd.R_drew)); exact HO_8.out⟩, ⟨by (with_reducible repeat (first | apply Kd.S_alloc | apply Kd.S_drewN | apply Kd.S_drew)); exact HO_9.out⟩, ⟨by (with_reducible repeat (first | apply Kd.R_alloc | apply Kd.R_drewN | apply Kd.R_drew)); exact HO_10.out⟩, ⟨by repeat (first | (with_reducible first | exact HB.out | apply below_alloc | apply pw_below_drewN | apply below_drew1) | exact HB.out)⟩⟩
                        case rest =>
                          clear HC16
                          try clear c1
                          try clear c2
                          try clear p2
                          try clear q2
                          try clear hx2
                          try clear c5
                          try clear c5b0
                          try clear c6
                          try clear p6
                          try clear c7
                          try clear c8
                          try clear c8b0
                          try clear c8b1
                          try clear c9
                          try clear c9b0
                          try clear c9b1
                          try clear c13
                          try clear c13b0
                          try clear c14
                          try clear c14b0
                          try clear c15
                          try clear c15b0
                          try clear c17
                          try clear c17b0
                          try clear hx249_0
                          try clear p2
                          try clear p249
                          try clear q249
                          obtain ⟨kq, x49_15, rfl, HA, HJ15, HO_8, HO_9, HO_10, HB⟩ := hcut
                          cases kq with
                          | zero => exact absurd HA.out (by simp [churnref12_Pattern.j2])
                          | succ kj15 =>
                            have H := HA.out
                            clear HA
                            simp only [churnref12_Pattern.j2] at H
                            by_cases c18 : x49_15 = true
                            · subst c18
                              have H1 : (some (([] : List Int), ([] : List Int), 2)) = some (r1, r2, r3) := by rw [if_pos rfl] at H; exact H
                              clear H
                              have H := H1
                              clear H1
                              simp only [Option.some.injEq, Prod.mk.injEq] at H
                              obtain ⟨rfl, rfl, rfl⟩ := H
                              go_wp2
                              go_ret3
                              exact ⟨_, _, by first | rfl | (simp [errW_none, errW_some] <;> rfl) | (simp [*, errW_none, errW_some] <;> rfl), by first | exact Kd.R_nil _ _ _ _ _ | exact Kd.N_nil _ _ _ _ _ | exact Kd.V_nil _ _ _ _ _ | exact Kd.Q_nil _ _ _ _ _ | exact Kd.S_nil _ _ _ _ _, by first | exact Kd.R_nil _ _ _ _ _ | exact Kd.N_nil _ _ _ _ _ | exact Kd.V_nil _ _ _ _ _ | exact Kd.Q_nil _ _ _ _ _ | exact Kd.S_nil _ _ _ _ _, by repeat (first | (with_reducible first | exact HB.out | apply below_alloc | apply pw_below_drewN | apply below_drew1) | exact HB.out)⟩
                            · replace c18 := Bool.eq_false_iff.mpr c18
                              subst c18
                              have H1 : (churnref12_Pattern.l1 kj15 l1 t242 x8_2 x9_2 x10_2 x11_2 (rd l1 x11_2) 0) = some (r1, r2, r3) := by rw [if_neg (show ¬ (false = true) by decide)] at H; exact H
                              clear H
                              have H := H1
                              clear H1
                              have H' := Aside0.mk H
                              clear H
                              go_wp2
                              go_loopg [12, 13] kj15 (fun kq v12 v13 w' => ∃ (x12_4 : Int) (x13_4 : Int), v12 = .int .i64 x12_4 ∧ v13 = .int .i64 x13_4 ∧ Aside0 (churnref12_Pattern.l1 kq l1 t242 x8_2 x9_2 x10_2 x11_2 x12_4 x13_4 = some (r1, r2, r3)) ∧ Aside0 (kq ≤ kj15) ∧ Aside0 (Kd.R (Kd.int .i64) 3 w' w.heap.size (fun k_ => some k_ ≠ (u10 : Value).ownBlock) v244 x8_2) ∧ Aside0 (Kd.S (Kd.slice 3 (Kd.int .i64)) 22 w' w.heap.size (fun k_ => some k_ ≠ (v244 : Value).ownBlock ∧ some k_ ≠ (u10 : Value).ownBlock) v247 x9_2) ∧ Aside0 (Kd.R (Kd.int .i64) 3 w' w.heap.size (fun k_ => some k_ ≠ (v244 : Value).ownBlock) u10 x10_2) ∧ Aside0 (Below w.heap.size w w'))
                              case atStart => exact ⟨((rd l1 x11_2)), (0), (by first | rfl | (simp; done) | (simp [*]; done)), (by first | rfl | (simp; done) | (simp [*]; done)), H', ⟨Nat.le_refl _⟩, ⟨by (with_reducible repeat (first | apply Kd.R_alloc | apply Kd.R_drewN | apply Kd.R_drew)); exact HO_8.out⟩, ⟨by (with_reducible repeat (first | apply Kd.S_alloc | apply Kd.S_drewN | apply Kd.S_drew)); exact HO_9.out⟩, ⟨by (with_reducible repeat (first | apply Kd.R_alloc | apply Kd.R_drewN | apply Kd.R_drew)); exact HO_10.out⟩, ⟨by repeat (first | (with_reducible first | exact HB.out | apply below_alloc | apply pw_below_drewN | apply below_drew1) | exact HB.out)⟩⟩
                              case round =>
                                clear H'
                                try clear c1
                                try clear c2
                                try clear p2
                                try clear q2
                                try clear hx2
                                try clear c5
                                try clear c5b0
                                try clear c6
                                try clear p6
                                try clear c7
                                try clear c8
                                try clear c8b0
                                try clear c8b1
                                try clear c9
                                try clear c9b0
                                try clear c9b1
                                try clear c13
                                try clear c13b0
                                try clear c14
                                try clear c14b0
                                try clear c15
                                try clear c15b0
                                try clear c17
                                try clear c17b0
                                try clear c18
                                try clear hx249_0
                                try clear p2
                                try clear p249
                                try clear p6
                                try clear q2
                                try clear q249
                                obtain ⟨x12_4, x13_4, rfl, rfl, HA, HK4, HO_8, HO_9, HO_10, HB⟩ := hrel
                                cases gk with
                                | zero => exact absurd HA.out (by simp [churnref12_Pattern.l1])
                                | succ k4 =>
                                  have H := HA.out
                                  clear HA
                                  simp only [churnref12_Pattern.l1] at H
                                  by_cases c19 : 0 ≤ x13_4
                                  · rw [if_pos c19] at H
                                    have c19b0 : decide (0 ≤ x13_4) = true := decide_eq_true c19
                                    clear c19
                                    by_cases c20 : x13_4 < (x8_2.length : Int)
                                    · rw [if_pos c20] at H
                                      have c20b0 : decide (x13_4 < (x8_2.length : Int)) = true := decide_eq_true c20
                                      clear c20
                                      by_cases c21 : x12_4 ≥ (rd x8_2 x13_4)
                                      · rw [if_pos c21] at H
                                        have c21b0 : decide ((rd x8_2 x13_4) ≤ x12_4) = true := decide_eq_true c21
                                        clear c21
                                        have H' := Aside0.mk H
                                        clear H
                                        obtain ⟨Ao22, co22, eo22⟩ := Kd.R_slice HO_8.out
                                        subst eo22
                                        have p250 : 0 ≤ (x13_4 : Int) := of_decide_eq_true (by first | (with_reducible assumption) | assumption)
                                        have q250 : x13_4 < (x8_2.length : Int) := of_decide_eq_true (by first | (with_reducible assumption) | assumption)
                                        obtain ⟨ad250, e250, hx250_0⟩ := Kd.at_int (Kd.R_reads' HO_8.out).2.2 x13_4 p250 q250
                                        cases e250
                                        replace p250 := eq_true p250
                                        replace q250 := eq_true q250
                                        have p251 : 0 ≤ (x13_4 : Int) := of_decide_eq_true (by first | (with_reducible assumption) | assumption)
                                        have q251 : x13_4 < (x8_2.length : Int) := of_decide_eq_true (by first | (with_reducible assumption) | assumption)
                                        obtain ⟨ad251, e251, hx251_0⟩ := Kd.at_int (Kd.R_reads' HO_8.out).2.2 x13_4 p251 q251
                                        obtain rfl : ad250 = ad251 := (by injection e251)
                                        replace p251 := eq_true p251
                                        replace q251 := eq_true q251
                                        go_wp2
                                        go_roundg k4
                                        case measure => have := HJ3.out; have := HK2.out; have := HJ15.out; have := HK4.out; omega
                                        case rel => exact ⟨(wrap64 (x12_4 - (rd x8_2 x13_4))), (wrap64 (x13_4 + 1)), (by first | rfl | (simp; done) | (simp [*]; done)), (by first | rfl | (simp; done) | (simp [*]; done)), H', ⟨by have := HJ3.out; have := HK2.out; have := HJ15.out; have := HK4.out; omega⟩, ⟨by (with_reducible repeat (first | apply Kd.R_alloc | apply Kd.R_drewN | apply Kd.R_drew)); exact HO_8.out⟩, ⟨by (with_reducible repeat (first | apply Kd.S_alloc | apply Kd.S_drewN | apply Kd.S_drew)); exact HO_9.out⟩, ⟨by (with_reducible repeat (first | apply Kd.R_alloc | apply Kd.R_drewN | apply Kd.R_drew)); exact HO_10.out⟩, ⟨by repeat (first | (with_reducible first | exact HB.out | apply below_alloc | apply pw_below_drewN | apply below_drew1) | exact HB.out)⟩⟩
                                      · rw [if_neg c21] at H
                                        have c21b0 : decide ((rd x8_2 x13_4) ≤ x12_4) = false := decide_eq_false c21
                                        clear c21
                                        by_cases c23 : x10_2.length < 17592186044416
                                        · rw [if_pos c23] at H
                                          have LMc23 := Aside0.mk c23
                                          clear c23
                                          obtain ⟨y252, hy252⟩ : ∃ y_ : List Int, y_ = (x10_2 ++ [x13_4]) := ⟨_, rfl⟩
                                          replace H : (if x13_4 < (x9_2.length : Int) then (if (rd_L3 x9_2 x13_4).length < 17592186044416 then (churnref12_Pattern.l0 k4 l1 t242 (x8_2.set (x13_4 : Int).toNat (wrap64 ((rd x8_2 x13_4) - 1))) (x9_2.set (x13_4 : Int).toNat ((rd_L3 x9_2 x13_4) ++ [x12_4])) y252 (wrap64 (x11_2 + 1))) else (none)) else (none)) = some (r1, r2, r3) := by first | (rw [hy252]; with_reducible exact H) | (have H2_ := (Option.bind_some _ _).symm.trans H; rw [hy252]; with_reducible exact H2_) | (have H2_ := (Option.bind_some _ _).symm.trans H; with_reducible exact H2_) | with_reducible exact H | (rw [hy252]; exact H) | exact H
                                          have Ny252 := Aside0.mk hy252
                                          clear hy252
                                          by_cases c24 : x13_4 < (x9_2.length : Int)
                                          · rw [if_pos c24] at H
                                            have c24b0 : decide (x13_4 < (x9_2.length : Int)) = true := decide_eq_true c24
                                            clear c24
                                            by_cases c25 : (rd_L3 x9_2 x13_4).length < 17592186044416
                                            · rw [if_pos c25] at H
                                              have LMc25 := Aside0.mk c25
                                              clear c25
                                              obtain ⟨y256, hy256⟩ : ∃ y_ : List Int, y_ = ((rd_L3 x9_2 x13_4) ++ [x12_4]) := ⟨_, rfl⟩
                                              replace H : (churnref12_Pattern.l0 k4 l1 t242 (x8_2.set (x13_4 : Int).toNat (wrap64 ((rd x8_2 x13_4) - 1))) (x9_2.set (x13_4 : Int).toNat y256) y252 (wrap64 (x11_2 + 1))) = some (r1, r2, r3) := by first | (rw [hy256]; with_reducible exact H) | (have H2_ := (Option.bind_some _ _).symm.trans H; rw [hy256]; with_reducible exact H2_) | (have H2_ := (Option.bind_some _ _).symm.trans H; with_reducible exact H2_) | with_reducible exact H | (rw [hy256]; exact H) | exact H
                                              have Ny256 := Aside0.mk hy256
                                              clear hy256
                                              obtain ⟨y259, hy259⟩ : ∃ y_ : List (List Int), y_ = (x9_2.set (x13_4 : Int).toNat y256) := ⟨_, rfl⟩
                                              replace H : (churnref12_Pattern.l0 k4 l1 t242 (x8_2.set (x13_4 : Int).toNat (wrap64 ((rd x8_2 x13_4) - 1))) y259 y252 (wrap64 (x11_2 + 1))) = some (r1, r2, r3) := by first | (rw [hy259]; with_reducible exact H) | (have H2_ := (Option.bind_some _ _).symm.trans H; rw [hy259]; with_reducible exact H2_) | (have H2_ := (Option.bind_some _ _).symm.trans H; with_reducible exact H2_) | with_reducible exact H | (rw [hy259]; exact H) | exact H
                                              have Ny259 := Aside0.mk hy259
                                              clear hy259
                                              obtain ⟨y261, hy261⟩ : ∃ y_ : List Int, y_ = (x8_2.set (x13_4 : Int).toNat (wrap64 ((rd x8_2 x13_4) - 1))) := ⟨_, rfl⟩
                                              replace H : (churnref12_Pattern.l0 k4 l1 t242 y261 y259 y252 (wrap64 (x11_2 + 1))) = some (r1, r2, r3) := by first | (rw [hy261]; with_reducible exact H) | (have H2_ := (Option.bind_some _ _).symm.trans H; rw [hy261]; with_reducible exact H2_) | (have H2_ := (Option.bind_some _ _).symm.trans H; with_reducible exact H2_) | with_reducible exact H | (rw [hy261]; exact H) | exact H
                                              have Ny261 := Aside0.mk hy261
                                              clear hy261
                                              have H' := Aside0.mk H
                                              clear H
                                              obtain ⟨Ao28, co28, eo28⟩ := Kd.R_slice HO_8.out
                                              subst eo28
                                              have p250 : 0 ≤ (x13_4 : Int) := of_decide_eq_true (by first | (with_reducible assumption) | assumption)
                                              have q250 : x13_4 < (x8_2.length : Int) := of_decide_eq_true (by first | (with_reducible assumption) | assumption)
                                              obtain ⟨ad250, e250, hx250_0⟩ := Kd.at_int (Kd.R_reads' HO_8.out).2.2 x13_4 p250 q250
                                              cases e250
                                              replace p250 := eq_true p250
                                              replace q250 := eq_true q250
                                              go_wp2_with (first | ((with_reducible refine gate_builtin (b := .append) (xs := #[.tmp 64, .tmp 66]) rfl ?_); (try (refine gate_guard (by rfl) ?_; dsimp only)); at_builtin; refine Kd.R_append (Kd.int .i64) (w0 := w) w.heap.size rfl (.tmp 64) (.tmp 66) 22 3 (.int .i64 0) 8 rfl Try.underlying22 info3 rfl (by decide) (by omega) u10 x10_2 x13_4 [.int .i64 x13_4] (fun k_ => some k_ ≠ (.slice (some ad250) x8_2.length co28 : Value).ownBlock) (fun _ => False) rfl rfl ?aP (fun _ hk => hk.elim) ?aF ?aO ?aB ?aS ?aL ?_; (case aP => exact rfl); (case aB => exact (by repeat (first | (with_reducible first | exact HB.out | apply below_alloc | apply pw_below_drewN | apply below_drew1) | exact HB.out))); (case aF => exact (fun k_ hk => Kd.fresh' (Kd.R_lt (by (with_reducible repeat (first | apply Kd.R_alloc | apply Kd.R_drewN | apply Kd.R_drew)); exact HO_8.out)) k_ hk)); (case aO => exact (by (with_reducible repeat (first | apply Kd.R_alloc | apply Kd.R_drewN | apply Kd.R_drew)); exact HO_10.out)); (case aS => exact (below_size (by repeat (first | (with_reducible first | exact HB.out | apply below_alloc | apply pw_below_drewN | apply below_drew1) | exact HB.out)))); (case aL => have := LMc23.out; omega); intro v253 w29 ho hb hg hat; rw [← Ny252.out] at ho; have n0_ := Aside0.mk (Kd.R_after (ok := (fun _ => True)) (by (with_reducible repeat (first | apply Kd.R_alloc | apply Kd.R_drewN | apply Kd.R_drew)); exact Kd.R_mono HO_8.out (fun _ hk => ⟨trivial, hk⟩)) hg hat); have n1_ := Aside0.mk (Kd.S_after (ok := (fun k_ => some k_ ≠ (.slice (some ad250) x8_2.length co28 : Value).ownBlock)) (by (with_reducible repeat (first | apply Kd.S_alloc | apply Kd.S_drewN | apply Kd.S_drew)); exact HO_9.out) hg hat); have n2_ := Aside0.mk (hb); have n3_ := Aside0.mk (ho); clear HO_8; clear HO_9; clear HB; clear HO_10; have HO_8 := n0_; have HO_9 := n1_; have HB := n2_; have HO254 := n3_; clear n0_ n1_ n2_ n3_; clear ho hb hg hat; obtain ⟨Ao30, co30, eo30⟩ := Kd.S_slice HO_9.out; subst eo30; have p255 : 0 ≤ (x13_4 : Int) := of_decide_eq_true (by first | (with_reducible assumption) | assumption); have q255 : x13_4 < (x9_2.length : Int) := of_decide_eq_true (by first | (with_reducible assumption) | assumption); obtain ⟨ad255, A255_0, c255_0, e255, hx255_0, hl255_0, hi255_0⟩ := at_L3 (Kd.S_reads' HO_9.out).2.2 x13_4 p255 q255; cases e255; obtain ⟨ce255, hce255, hMe255, hcc255⟩ := Kd.S_get HO_9.out [] x13_4 p255 (by first | exact q255 | exact of_decide_eq_true (by first | (with_reducible assumption) | assumption) | (have e_ := (Kd.S_reads' HO_9.out).1; omega)); obtain ⟨ve255_0, rfl, ge255_0⟩ := hMe255; have hv255_0 := hcc255 0 _ rfl; rw [Nat.add_zero, show ((Kd.slice 3 (Kd.int .i64))).sz = 1 from rfl, Nat.mul_one] at hv255_0; replace hv255_0 := Option.some.inj (hv255_0.symm.trans hx255_0); rw [hv255_0] at ge255_0; have HL255_0 := Aside0.mk (show Kd.R (Kd.int .i64) 3 _ _ _ _ (rd_L3 x9_2 x13_4) from ge255_0); clear hv255_0 ge255_0; have HX255_0 := Aside0.mk hx255_0; clear hcc255 hce255; have HR255_0 := Aside0.mk hi255_0; have HC255_0 := Aside0.mk hl255_0; clear hi255_0 hl255_0; replace p255 := eq_true p255; replace q255 := eq_true q255; obtain ⟨go31, co31, eo31, gb31, gl31, cl31, HG31⟩ := Kd.S_form HO_9.out (by have h_ : (x13_4 : Int) < ((x9_2.length : Int) : Int) := of_decide_eq_true (by first | (with_reducible assumption) | assumption); have h2_ : 0 ≤ (x13_4 : Int) := (of_decide_eq_true (by first | (with_reducible assumption) | assumption)); omega); (first | cases eo31 | (injection eo31 with ea_ en_ ec_; (first | subst ea_ | (injection ea_ with ea_; subst ea_)); subst ec_; clear en_)); have GB31 := Aside0.mk gb31; have GG31 := Aside0.mk HG31; clear gb31 gl31 HG31; (first | simp only [add_plain] at hx255_0 | skip); obtain ⟨oki31, ce31, hcl31, hM31, hcc31, _, _, hH31⟩ := Kd.S_elem HO_9.out [] (x13_4 : Int) (of_decide_eq_true (by first | (with_reducible assumption) | assumption)) (by have h_ : (x13_4 : Int) < ((x9_2.length : Int) : Int) := of_decide_eq_true (by first | (with_reducible assumption) | assumption); first | exact h_ | (have e_ := (Kd.S_reads' HO_9.out).1; omega) | simpa using h_); obtain ⟨ve31_0, rfl, ge31_0⟩ := hM31; have hv31 := hcc31 0 _ rfl; have hX31 := HX255_0.out; (try simp only [add_plain] at hX31); (try simp only [Nat.add_zero] at hv31); (try rw [show ((Kd.slice 3 (Kd.int .i64))).sz = 1 from rfl, Nat.mul_one] at hv31); replace hv31 := Option.some.inj (hv31.symm.trans hX31); subst hv31; clear hX31 hcc31 hcl31; have UU31 := Aside0.mk (show Kd.R (Kd.int .i64) 3 _ w.heap.size oki31 (.slice A255_0 (rd_L3 x9_2 x13_4).length c255_0) (rd_L3 x9_2 x13_4) from ge31_0); have HH31 := Aside0.mk hH31; have HN31 := Aside0.mk (Kd.S_reads' HO_9.out).1; clear hH31 ge31_0) | ((with_reducible refine gate_builtin (b := .append) (xs := #[.tmp 73, .tmp 75]) rfl ?_); (try (refine gate_guard (by rfl) ?_; dsimp only)); at_builtin; refine Kd.R_append (Kd.int .i64) (w0 := w) w.heap.size rfl (.tmp 73) (.tmp 75) 22 3 (.int .i64 0) 8 rfl Try.underlying22 info3 rfl (by decide) (by omega) (.slice A255_0 (rd_L3 x9_2 x13_4).length c255_0) (rd_L3 x9_2 x13_4) x12_4 [.int .i64 x12_4] (fun k_ => oki31 k_ ∨ ((fun k_ => some k_ ≠ (.slice (some ad250) x8_2.length co28 : Value).ownBlock ∧ some k_ ≠ (v253 : Value).ownBlock)) k_ ∧ w29.heap.size ≤ k_) (fun _ => False) rfl rfl ?aP (fun _ hk => hk.elim) ?aF ?aO ?aB ?aS ?aL ?_; (case aP => exact rfl); (case aB => exact (by repeat (first | (with_reducible first | exact HB.out | apply below_alloc | apply pw_below_drewN | apply below_drew1) | exact HB.out))); (case aF => exact (fun k_ hk => .inr ⟨⟨Kd.fresh' (Kd.R_lt (by (with_reducible repeat (first | apply Kd.R_alloc | apply Kd.R_drewN | apply Kd.R_drew)); exact HO_8.out)) k_ hk, Kd.fresh' (Kd.R_lt (by (with_reducible repeat (first | apply Kd.R_alloc | apply Kd.R_drewN | apply Kd.R_drew)); exact HO254.out)) k_ hk⟩, hk⟩)); (case aO => exact (by (with_reducible repeat (first | apply Kd.R_alloc | apply Kd.R_drewN | apply Kd.R_drew)); exact Kd.R_mono UU31.out (fun _ hk => .inl hk))); (case aS => exact (below_size (by repeat (first | (with_reducible first | exact HB.out | apply below_alloc | apply pw_below_drewN | apply below_drew1) | exact HB.out)))); (case aL => have := LMc25.out; omega); intro v257 w32 ho hb hg hat; rw [← Ny256.out] at ho; have n0_ := Aside0.mk (Kd.R_grown2 (by (with_reducible repeat (first | apply Kd.R_alloc | apply Kd.R_drewN | apply Kd.R_drew)); exact HO_8.out) rfl hg (fun k_ e_ => (HL255_0.out.1 k_ e_).1.1)); have n1_ := Aside0.mk (Kd.R_grown2 (by (with_reducible repeat (first | apply Kd.R_alloc | apply Kd.R_drewN | apply Kd.R_drew)); exact HO254.out) rfl hg (fun k_ e_ => (HL255_0.out.1 k_ e_).1.2)); have n2_ := Aside0.mk (hb); have n3_ := Aside0.mk (Kd.H_grown (Kd.H_widen (by repeat (first | exact HH31.out | refine Kd.H_alloc ?_ _ | refine Kd.H_drewN ?_ _ | refine Kd.H_drew ?_))) hg (fun k_ e_ => .inl (UU31.out.1 k_ e_))); have n4_ := Aside0.mk (ho); clear HO_8; clear HO254; clear HB; clear HH31; clear HO_9; clear UU31; clear HL255_0; have HO_8 := n0_; have HO254 := n1_; have HB := n2_; have HH31 := n3_; have HO258 := n4_; clear n0_ n1_ n2_ n3_ n4_; clear ho hb hg hat; have p26 : 0 ≤ (x13_4 : Int) := of_decide_eq_true (by first | (with_reducible assumption) | assumption); have q26 : (x13_4 : Int) < ((x9_2.length : Int) : Int) := of_decide_eq_true (by first | (with_reducible assumption) | assumption); replace p26 := eq_true p26; replace q26 := eq_true q26; obtain ⟨Ao35, co35, eo35⟩ := Kd.R_slice HO258.out; subst eo35; obtain ⟨_, _, hraw33, _, _, hcc33, _⟩ := Kd.H_raw HH31.out (of_decide_eq_true (by first | (with_reducible assumption) | assumption)) (by have h_ : (x13_4 : Int) < ((x9_2.length : Int) : Int) := of_decide_eq_true (by first | (with_reducible assumption) | assumption); first | exact h_ | (have e_ := (HN31.out); omega) | simpa using h_); obtain ⟨_, hfr33⟩ := Kd.H_at HH31.out (of_decide_eq_true (by first | (with_reducible assumption) | assumption)) (by have h_ : (x13_4 : Int) < ((x9_2.length : Int) : Int) := of_decide_eq_true (by first | (with_reducible assumption) | assumption); first | exact h_ | (have e_ := (HN31.out); omega) | simpa using h_); have hx33_0 := hcc33 0 _ rfl; have hf33_0 := hfr33 0; (try simp only [Nat.add_zero] at hx33_0 hf33_0); (try rw [show ((Kd.slice 3 (Kd.int .i64))).sz = 1 from rfl, Nat.mul_one] at hx33_0); (try rw [show ((Kd.slice 3 (Kd.int .i64))).sz = 1 from rfl, Nat.mul_one] at hf33_0); have HP33 := Kd.S_seg0 HH31.out (of_decide_eq_true (by first | (with_reducible assumption) | assumption)) (by have h_ : (x13_4 : Int) < ((x9_2.length : Int) : Int) := of_decide_eq_true (by first | (with_reducible assumption) | assumption); first | exact h_ | (have e_ := (HN31.out); omega) | simpa using h_) (seg := [.slice Ao35 y256.length co35]) (j := 0) (show 1 ≤ 1 from by decide) (x' := y256) (Kd.M_row HO258.out) (fun _ hk => hk); (try simp only [show ((Kd.slice 3 (Kd.int .i64))).sz = 1 from rfl, Nat.mul_one, Nat.add_zero] at HP33); clear hcc33 hfr33) | ((with_reducible refine gate_store (t := 22) (p := 77) rfl ?_); refine store_event (t := 22) (p := 77) (v := ?vo_w34) (w1 := (w32.setCell ⟨go31, (x13_4 : Int).toNat, none⟩ (.slice Ao35 y256.length co35))) ?hg ?ho ?hn ?hr ?_; (case ho => rfl); (case hg => rfl); (case hn => rfl); (case hr => first | (go_simp; done) | (go_simp; rfl)); intro w34 hw; have hg : w32.grownBy w34 (some go31) := (by rw [hw]; exact HP33.2); have hp_ : Kd.S (Kd.slice 3 (Kd.int .i64)) 22 w34 w.heap.size (fun k_ => some k_ ≠ (.slice (some ad250) x8_2.length co28 : Value).ownBlock ∧ some k_ ≠ (v253 : Value).ownBlock) (.slice (some ⟨go31, 0, none⟩) x9_2.length co30) y259 := (by rw [hw, Ny259.out]; exact HP33.1); clear HP33; have n0_ := Aside0.mk (Kd.R_over' (v := (.slice (some ⟨go31, 0, none⟩) x9_2.length co30)) (by (with_reducible repeat (first | apply Kd.R_alloc | apply Kd.R_drewN | apply Kd.R_drew)); exact HO_8.out) (Kd.R_typed hraw33) (by decide) hg); have n1_ := Aside0.mk (Kd.R_over' (v := (.slice (some ⟨go31, 0, none⟩) x9_2.length co30)) (by (with_reducible repeat (first | apply Kd.R_alloc | apply Kd.R_drewN | apply Kd.R_drew)); exact HO254.out) (Kd.R_typed hraw33) (by decide) hg); have n2_ := Aside0.mk ((by rw [hw]; exact below_set HB.out GB31.out : Below w.heap.size w w34)); have n3_ := Aside0.mk (hp_); clear HO_8; clear HO254; clear HB; clear HO258; clear HH31; have HO_8 := n0_; have HO254 := n1_; have HB := n2_; have HO_9 := n3_; clear n0_ n1_ n2_ n3_; clear hg hw hp_ hraw33; have p260 : 0 ≤ (x13_4 : Int) := of_decide_eq_true (by first | (with_reducible assumption) | assumption); have q260 : x13_4 < (x8_2.length : Int) := of_decide_eq_true (by first | (with_reducible assumption) | assumption); obtain ⟨ad260, e260, hx260_0⟩ := Kd.at_int (Kd.R_reads' HO_8.out).2.2 x13_4 p260 q260; obtain rfl : ad250 = ad260 := (by injection e260); replace p260 := eq_true p260; replace q260 := eq_true q260; have p27 : 0 ≤ (x13_4 : Int) := of_decide_eq_true (by first | (with_reducible assumption) | assumption); have q27 : (x13_4 : Int) < ((x8_2.length : Int) : Int) := of_decide_eq_true (by first | (with_reducible assumption) | assumption); obtain ⟨go27, co27, eo27, gb27, gl27, cl27, HG27⟩ := Kd.R_form HO_8.out (by omega); (first | cases eo27 | (injection eo27 with ea_ en_ ec_; (first | subst ea_ | (injection ea_ with ea_; subst ea_)); subst ec_; clear en_)); have GB27 := Aside0.mk gb27; have GG27 := Aside0.mk HG27; clear gb27 gl27 HG27; (first | simp only [add_plain] at hx250_0 | skip); (first | simp only [add_plain] at hx251_0 | skip); (first | simp only [add_plain] at hx260_0 | skip); obtain ⟨hx27_0, hf27_0⟩ := Kd.R_celln 0 HO_8.out (x13_4 : Int) p27 q27; replace p27 := eq_true p27; replace q27 := eq_true q27; have n_ := Aside0.mk (Kd.R_mono (ok' := (fun k_ => some k_ ≠ (v253 : Value).ownBlock)) HO_8.out (fun k_ hk => hk.2)); clear HO_8; have HO_8 := n_; clear n_; obtain ⟨hy36_, hz36_⟩ := Kd.R_celln 0 HO_8.out (x13_4 : Int) (of_decide_eq_true (by first | (with_reducible assumption) | assumption)) (of_decide_eq_true (by first | (with_reducible assumption) | assumption)); have HP36 := Kd.R_putg HO_8.out (x13_4 : Int) (wrap64 ((rd x8_2 x13_4) - 1))) | ((with_reducible refine gate_store (t := 3) (p := 83) rfl ?_); refine store_event (t := 3) (p := 83) (v := ?vo_w37) (w1 := (w34.setCell ⟨go27, (x13_4 : Int).toNat, none⟩ (.int .i64 (wrap64 ((rd x8_2 x13_4) - 1))))) ?hg ?ho ?hn ?hr ?_; (case ho => rfl); (case hg => rfl); (case hn => rfl); (case hr => first | (go_simp; done) | (go_simp; rfl)); intro w37 hw; have hg : w34.grownBy w37 (some go27) := (by rw [hw]; exact HP36.2); have hp_ : Kd.R (Kd.int .i64) 3 w37 w.heap.size (fun k_ => some k_ ≠ (v253 : Value).ownBlock) (.slice (some ⟨go27, 0, none⟩) x8_2.length co28) y261 := (by rw [hw, Ny261.out]; exact HP36.1); clear HP36; have n0_ := Aside0.mk (hp_); have n1_ := Aside0.mk (Kd.R_after (v := (.slice (some ⟨go27, 0, none⟩) x8_2.length co28)) (v1 := (.slice (some ⟨go27, 0, none⟩) x8_2.length co28)) (ok := (fun _ => True)) (by (with_reducible repeat (first | apply Kd.R_alloc | apply Kd.R_drewN | apply Kd.R_drew)); exact Kd.R_mono HO254.out (fun _ hk => ⟨trivial, hk⟩)) hg (.inl rfl)); have n2_ := Aside0.mk (Kd.S_after (v := (.slice (some ⟨go27, 0, none⟩) x8_2.length co28)) (v1 := (.slice (some ⟨go27, 0, none⟩) x8_2.length co28)) (ok := (fun k_ => some k_ ≠ (v253 : Value).ownBlock)) (by (with_reducible repeat (first | apply Kd.S_alloc | apply Kd.S_drewN | apply Kd.S_drew)); exact Kd.S_mono HO_9.out (fun _ hk => ⟨hk.2, hk.1⟩)) hg (.inl rfl)); have n3_ := Aside0.mk ((by rw [hw]; exact below_set (HB.out) GB27.out : Below w.heap.size w w37)); clear HO_8; clear HO254; clear HO_9; clear HB; have HO_8 := n0_; have HO254 := n1_; have HO_9 := n2_; have HB := n3_; clear n0_ n1_ n2_ n3_; clear hg hw hp_))
                                              go_roundg k4
                                              case measure => have := HJ3.out; have := HK2.out; have := HJ15.out; have := HK4.out; omega
                                              case rel => exact ⟨(y261), (y259), (y252), (wrap64 (x11_2 + 1)), (by first | rfl | (simp; done) | (simp [*]; done)), H', ⟨by have := HJ3.out; have := HK2.out; have := HJ15.out; have := HK4.out; omega⟩, ⟨by (with_reducible repeat (first | apply Kd.R_alloc | apply Kd.R_drewN | apply Kd.R_drew)); exact HO_8.out⟩, ⟨by (with_reducible repeat (first | apply Kd.S_alloc | apply Kd.S_drewN | apply Kd.S_drew)); exact Kd.S_mono HO_9.out (fun _ hk => ⟨hk.2, hk.1⟩)⟩, ⟨by (with_reducible repeat (first | apply Kd.R_alloc | apply Kd.R_drewN | apply Kd.R_drew)); exact Kd.R_mono HO254.out (fun _ hk => hk.2)⟩, ⟨by repeat (first | (with_reducible first | exact HB.out | apply below_alloc | apply pw_below_drewN | apply below_drew1) | exact HB.out)⟩⟩
                                            · rw [if_neg c25] at H
                                              exact absurd H (by simp)
                                          · rw [if_neg c24] at H
                                            exact absurd H (by simp)
                                        · rw [if_neg c23] at H
                                          exact absurd H (by simp)
                                    · rw [if_neg c20] at H
                                      exact absurd H (by simp)
                                  · rw [if_neg c19] at H
                                    exact absurd H (by simp)
                      · rw [if_neg c15] at H
                        exact absurd H (by simp)
                    · rw [if_neg c14] at H
                      exact absurd H (by simp)
                  · rw [if_neg c13] at H
                    have c13b0 : decide (x11_2 < t242) = false := decide_eq_false c13
                    clear c13
                    have H' := Aside0.mk H
                    clear H
                    go_wp2
                    go_loopg [14, 15] k2 (fun kq v14 v15 w' => ∃ (x14_3 : List Int) (x15_3 : Int), v15 = .int .i64 x15_3 ∧ Aside0 (churnref12_Pattern.l2 kq x9_2 x10_2 x14_3 x15_3 = some (r1, r2, r3)) ∧ Aside0 (kq ≤ k2) ∧ Aside0 (Kd.S (Kd.slice 3 (Kd.int .i64)) 22 w' w.heap.size (fun k_ => some k_ ≠ (u10 : Value).ownBlock ∧ some k_ ≠ (v14 : Value).ownBlock) v247 x9_2) ∧ Aside0 (Kd.R (Kd.int .i64) 3 w' w.heap.size (fun k_ => some k_ ≠ (v14 : Value).ownBlock) u10 x10_2) ∧ Aside0 (Kd.R (Kd.int .i64) 3 w' w.heap.size (fun k_ => some k_ ≠ (u10 : Value).ownBlock) v14 x14_3) ∧ Aside0 (Below w.heap.size w w'))
                    case atStart => exact ⟨(([] : List Int)), (0), (by first | rfl | (simp; done) | (simp [*]; done)), H', ⟨Nat.le_refl _⟩, ⟨by (with_reducible repeat (first | apply Kd.S_alloc | apply Kd.S_drewN | apply Kd.S_drew)); exact Kd.S_mono HO_9.out (fun _ hk => ⟨hk.2, (by simp [Value.ownBlock])⟩)⟩, ⟨by (with_reducible repeat (first | apply Kd.R_alloc | apply Kd.R_drewN | apply Kd.R_drew)); exact Kd.R_mono HO_10.out (fun _ hk => (by simp [Value.ownBlock]))⟩, ⟨by first | exact Kd.R_nil _ _ _ _ _ | exact Kd.N_nil _ _ _ _ _ | exact Kd.V_nil _ _ _ _ _ | exact Kd.Q_nil _ _ _ _ _ | exact Kd.S_nil _ _ _ _ _⟩, ⟨by repeat (first | (with_reducible first | exact HB.out | apply below_alloc | apply pw_below_drewN | apply below_drew1) | exact HB.out)⟩⟩
                    case round =>
                      clear H'
                      try clear c1
                      try clear c2
                      try clear p2
                      try clear q2
                      try clear hx2
                      try clear hf2
                      try clear c3
                      try clear hx3
                      try clear hf3
                      try clear c5
                      try clear c5b0
                      try clear c6
                      try clear p6
                      try clear c7
                      try clear c8
                      try clear c8b0
                      try clear c8b1
                      try clear c9
                      try clear c9b0
                      try clear c9b1
                      try clear c13
                      try clear c13b0
                      try clear c14
                      try clear c14b0
                      try clear c15
                      try clear c15b0
                      try clear c17
                      try clear c17b0
                      try clear c18
                      try clear c19
                      try clear c19b0
                      try clear c20
                      try clear c20b0
                      try clear c21
                      try clear c21b0
                      try clear c23
                      try clear c24
                      try clear c24b0
                      try clear p24
                      try clear q24
                      try clear hx24
                      try clear c25
                      try clear p25
                      try clear q25
                      try clear hx25
                      try clear p26
                      try clear q26
                      try clear hx26
                      try clear p27
                      try clear q27
                      try clear hx27
                      try clear hf27
                      try clear c29
                      try clear c31
                      try clear c33
                      try clear hx33
                      try clear hf33
                      try clear hx249_0
                      try clear hx250_0
                      try clear hx251_0
                      try clear hx255_0
                      try clear hx260_0
                      try clear hx27_0
                      try clear hx33_0
                      try clear p2
                      try clear p249
                      try clear p250
                      try clear p251
                      try clear p255
                      try clear p26
                      try clear p260
                      try clear p27
                      try clear p6
                      try clear q2
                      try clear q249
                      try clear q250
                      try clear q251
                      try clear q255
                      try clear q26
                      try clear q260
                      try clear q27
                      obtain ⟨x14_3, x15_3, rfl, HA, HK3, HO_9, HO_10, HO_14, HB⟩ := hrel
                      cases gk with
                      | zero => exact absurd HA.out (by simp [churnref12_Pattern.l2])
                      | succ k3 =>
                        have H := HA.out
                        clear HA
                        simp only [churnref12_Pattern.l2] at H
                        by_cases c38 : x15_3 < (x9_2.length : Int)
                        · rw [if_pos c38] at H
                          have c38b0 : decide (x15_3 < (x9_2.length : Int)) = true := decide_eq_true c38
                          clear c38
                          by_cases c39 : 0 ≤ x15_3
                          · rw [if_pos c39] at H
                            have c39b0 : decide (0 ≤ x15_3) = true := decide_eq_true c39
                            clear c39
                            by_cases c40 : x14_3.length + (rd_L3 x9_2 x15_3).length < 17592186044416
                            · rw [if_pos c40] at H
                              have LMc40 := Aside0.mk c40
                              clear c40
                              obtain ⟨y263, hy263⟩ : ∃ y_ : List Int, y_ = (x14_3 ++ (rd_L3 x9_2 x15_3)) := ⟨_, rfl⟩
                              replace H : (churnref12_Pattern.l2 k3 x9_2 x10_2 y263 (wrap64 (x15_3 + 1))) = some (r1, r2, r3) := by first | (rw [hy263]; with_reducible exact H) | (have H2_ := (Option.bind_some _ _).symm.trans H; rw [hy263]; with_reducible exact H2_) | (have H2_ := (Option.bind_some _ _).symm.trans H; with_reducible exact H2_) | with_reducible exact H | (rw [hy263]; exact H) | exact H
                              have Ny263 := Aside0.mk hy263
                              clear hy263
                              have H' := Aside0.mk H
                              clear H
                              obtain ⟨Ao41, co41, eo41⟩ := Kd.S_slice HO_9.out
                              subst eo41
                              have p262 : 0 ≤ (x15_3 : Int) := of_decide_eq_true (by first | (with_reducible assumption) | assumption)
                              have q262 : x15_3 < (x9_2.length : Int) := of_decide_eq_true (by first | (with_reducible assumption) | assumption)
                              obtain ⟨ad262, A262_0, c262_0, e262, hx262_0, hl262_0, hi262_0⟩ := at_L3 (Kd.S_reads' HO_9.out).2.2 x15_3 p262 q262
                              cases e262
                              obtain ⟨ce262, hce262, hMe262, hcc262⟩ := Kd.S_get HO_9.out [] x15_3 p262 (by first | exact q262 | exact of_decide_eq_true (by first | (with_reducible assumption) | assumption) | (have e_ := (Kd.S_reads' HO_9.out).1; omega))
                              obtain ⟨ve262_0, rfl, ge262_0⟩ := hMe262
                              have hv262_0 := hcc262 0 _ rfl
                              rw [Nat.add_zero, show ((Kd.slice 3 (Kd.int .i64))).sz = 1 from rfl, Nat.mul_one] at hv262_0
                              replace hv262_0 := Option.some.inj (hv262_0.symm.trans hx262_0)
                              rw [hv262_0] at ge262_0
                              have HL262_0 := Aside0.mk (show Kd.R (Kd.int .i64) 3 _ _ _ _ (rd_L3 x9_2 x15_3) from ge262_0)
                              clear hv262_0 ge262_0
                              have HX262_0 := Aside0.mk hx262_0
                              clear hcc262 hce262
                              have HR262_0 := Aside0.mk hi262_0
                              have HC262_0 := Aside0.mk hl262_0
                              clear hi262_0 hl262_0
                              replace p262 := eq_true p262
                              replace q262 := eq_true q262
                              go_wp2_with (first | ((with_reducible refine gate_builtin (b := .append) (xs := #[.tmp 90, .tmp 94]) rfl ?_); (try (refine gate_guard (by rfl) ?_; dsimp only)); at_builtin; refine Kd.R_append_rows (Kd.int .i64) (w0 := w) w.heap.size rfl (.tmp 90) (.tmp 94) 22 3 (.int .i64 0) 8 rfl Try.underlying22 info3 rfl (by decide) (by omega) u14 x14_3 (rd_L3 x9_2 x15_3) _ _ _ (fun k_ => some k_ ≠ (u10 : Value).ownBlock) (fun _ => False) rfl rfl ?aO ?aR (fun _ _ h => h) (fun _ h => h.elim) ?aF ?aB ?aS ?aL ?_; (case aR => repeat (first | exact (by repeat (first | (with_reducible exact HR262_0.out) | (with_reducible refine Kd.C_alloc ?_ _) | (with_reducible refine Kd.C_drewN ?_ _) | (with_reducible refine Kd.C_drew ?_) | exact HR262_0.out)) | (with_reducible refine Kd.C_alloc ?_ _) | (with_reducible refine Kd.C_drewN ?_ _) | (with_reducible refine Kd.C_drew ?_))); (case aB => exact (by repeat (first | (with_reducible first | exact HB.out | apply below_alloc | apply pw_below_drewN | apply below_drew1) | exact HB.out))); (case aF => exact (fun k_ hk => Kd.fresh' (Kd.R_lt (by (with_reducible repeat (first | apply Kd.R_alloc | apply Kd.R_drewN | apply Kd.R_drew)); exact HO_10.out)) k_ hk)); (case aO => exact (by (with_reducible repeat (first | apply Kd.R_alloc | apply Kd.R_drewN | apply Kd.R_drew)); exact HO_14.out)); (case aS => exact (below_size (by repeat (first | (with_reducible first | exact HB.out | apply below_alloc | apply pw_below_drewN | apply below_drew1) | exact HB.out)))); (case aL => have := LMc40.out; omega); intro v264 w42 ho hb hg hat; rw [← Ny263.out] at ho; have n0_ := Aside0.mk (Kd.S_after (ok := (fun k_ => some k_ ≠ (u10 : Value).ownBlock)) (by (with_reducible repeat (first | apply Kd.S_alloc | apply Kd.S_drewN | apply Kd.S_drew)); exact HO_9.out) hg hat); have n1_ := Aside0.mk (Kd.R_after (ok := (fun _ => True)) (by (with_reducible repeat (first | apply Kd.R_alloc | apply Kd.R_drewN | apply Kd.R_drew)); exact Kd.R_mono HO_10.out (fun _ hk => ⟨trivial, hk⟩)) hg hat); have n2_ := Aside0.mk (Kd.R_after (ok := (fun k_ => some k_ ≠ (.slice (some ad262) x9_2.length co41 : Value).ownBlock ∧ some k_ ≠ (u10 : Value).ownBlock)) (by (with_reducible repeat (first | apply Kd.R_alloc | apply Kd.R_drewN | apply Kd.R_drew)); exact Kd.R_mono HL262_0.out (fun _ hk => ⟨⟨hk.2, hk.1.1⟩, hk.1.2⟩)) hg hat); have n3_ := Aside0.mk (hb); have n4_ := Aside0.mk (ho); clear HO_9; clear HO_10; clear HL262_0; clear HB; clear HO_14; have HO_9 := n0_; have HO_10 := n1_; have HL262_0 := n2_; have HB := n3_; have HO265 := n4_; clear n0_ n1_ n2_ n3_ n4_; clear ho hb hg hat))
                              go_roundg k3
                              case measure => have := HJ3.out; have := HK2.out; have := HK3.out; omega
                              case rel => exact ⟨(y263), (wrap64 (x15_3 + 1)), (by first | rfl | (simp; done) | (simp [*]; done)), H', ⟨by have := HJ3.out; have := HK2.out; have := HK3.out; omega⟩, ⟨by (with_reducible repeat (first | apply Kd.S_alloc | apply Kd.S_drewN | apply Kd.S_drew)); exact HO_9.out⟩, ⟨by (with_reducible repeat (first | apply Kd.R_alloc | apply Kd.R_drewN | apply Kd.R_drew)); exact Kd.R_mono HO_10.out (fun _ hk => hk.2)⟩, ⟨by (with_reducible repeat (first | apply Kd.R_alloc | apply Kd.R_drewN | apply Kd.R_drew)); exact HO265.out⟩, ⟨by repeat (first | (with_reducible first | exact HB.out | apply below_alloc | apply pw_below_drewN | apply below_drew1) | exact HB.out)⟩⟩
                            · rw [if_neg c40] at H
                              exact absurd H (by simp)
                          · rw [if_neg c39] at H
                            exact absurd H (by simp)
                        · rw [if_neg c38] at H
                          have c38b0 : decide (x15_3 < (x9_2.length : Int)) = false := decide_eq_false c38
                          clear c38
                          simp only [Option.some.injEq, Prod.mk.injEq] at H
                          obtain ⟨rfl, rfl, rfl⟩ := H
                          obtain ⟨Ao43, co43, eo43⟩ := Kd.S_slice HO_9.out
                          subst eo43
                          go_wp2
                          go_ret3
                          exact ⟨_, _, by first | rfl | (simp [errW_none, errW_some] <;> rfl) | (simp [*, errW_none, errW_some] <;> rfl), by (with_reducible repeat (first | apply Kd.R_alloc | apply Kd.R_drewN | apply Kd.R_drew)); exact HO_10.out, by (with_reducible repeat (first | apply Kd.R_alloc | apply Kd.R_drewN | apply Kd.R_drew)); exact HO_14.out, by repeat (first | (with_reducible first | exact HB.out | apply below_alloc | apply pw_below_drewN | apply below_drew1) | exact HB.out)⟩
            · rw [if_neg c9] at H
              exact absurd H (by simp)
          · rw [if_neg c8] at H
            exact absurd H (by simp)
        · rw [if_neg c7] at H
          exact absurd H (by simp)

end Go.Proofs.Ytiefmocfgneldaa.Q
