/- Functions of the program as plain Lean functions, each with a proof that its call comes to just these answers, or the row that joins them to the given statement; no condition beside the statement's own. Written for this claim by pf.py, this session's program over the kit's print. -/
import Derived.Test.YtiefmocfgneldaaQx0
import Derived.Test.YtiefmocfgneldaaQx2
import Derived.Test.YtiefmocfgneldaaQx4
import Derived.Test.YtiefmocfgneldaaQx5
import Derived.Test.YtiefmocfgneldaaQx10
namespace Go.Proofs.Ytiefmocfgneldaa.Q
open Go.RowKit Go.Proofs.YtiefmocfgneldaaW.PrintWords Go.Proofs.YtiefmocfgneldaaW.PrintLast Go.Proofs.YtiefmocfgneldaaW.PrintMore
attribute [local go_sem] max2_int min2_int max_two min_two max_three min_three max_four min_four   -- for this text's walks alone
set_option linter.unusedVariables false
set_option linter.unusedSimpArgs false

/-! ### churnlaw12_BraidCarries: function 7 -/
mutual
def churnlaw12_BraidCarries.j0 : Nat → List Int → List Int → List Int → List Int → List Int → List Int → List Int → Bool → Option (Bool)
  | 0, _, _, _, _, _, _, _, _ => none
  | k + 1, x0, x1, x2, x7, x8, x10, x11, x38 => if x38 = true then (some true) else ((braid_Draws.f k x0 x7 x11).bind fun bt396 => ((braid_Draws.f k x0 x10 x8).bind fun bt400 => (if bt396.2 = 0 then (if bt400.2 = 0 then (if (bt396.1.length : Int) = (x7.length : Int) then (churnlaw12_BraidCarries.j1 k x1 x2 x7 x8 x10 x11 bt396.1 bt400.1 ((bt400.1.length : Int) != (x7.length : Int))) else (churnlaw12_BraidCarries.j1 k x1 x2 x7 x8 x10 x11 bt396.1 bt400.1 true)) else (churnlaw12_BraidCarries.j1 k x1 x2 x7 x8 x10 x11 bt396.1 bt400.1 true)) else (churnlaw12_BraidCarries.j1 k x1 x2 x7 x8 x10 x11 bt396.1 bt400.1 true))))
def churnlaw12_BraidCarries.j1 : Nat → List Int → List Int → List Int → List Int → List Int → List Int → List Int → List Int → Bool → Option (Bool)
  | 0, _, _, _, _, _, _, _, _, _ => none
  | k + 1, x1, x2, x7, x8, x10, x11, x13, x15, x72 => if x72 = true then (some false) else ((churnlaw12_same.f k x7 x10).bind fun t404 => (if t404 = true then ((churnlaw12_same.f k x13 x2).bind fun t405 => (if t405 = true then ((churnlaw12_same.f k x15 x1).bind fun t406 => (if t406 = true then ((churnlaw12_same.f k x8 x11).bind fun t407 => (if t407 = true then ((churnlaw12_same.f k x13 x1).bind fun t408 => (if t408 = true then ((churnlaw12_same.f k x15 x2).bind fun t409 => (churnlaw12_BraidCarries.j2 k x7 x8 x10 x11 x13 x15 (!t409))) else (churnlaw12_BraidCarries.j2 k x7 x8 x10 x11 x13 x15 true))) else (churnlaw12_BraidCarries.j2 k x7 x8 x10 x11 x13 x15 false))) else (churnlaw12_BraidCarries.j2 k x7 x8 x10 x11 x13 x15 true))) else (churnlaw12_BraidCarries.j2 k x7 x8 x10 x11 x13 x15 true))) else ((churnlaw12_same.f k x8 x11).bind fun t410 => (if t410 = true then ((churnlaw12_same.f k x13 x1).bind fun t411 => (if t411 = true then ((churnlaw12_same.f k x15 x2).bind fun t412 => (churnlaw12_BraidCarries.j2 k x7 x8 x10 x11 x13 x15 (!t412))) else (churnlaw12_BraidCarries.j2 k x7 x8 x10 x11 x13 x15 true))) else (churnlaw12_BraidCarries.j2 k x7 x8 x10 x11 x13 x15 false)))))
def churnlaw12_BraidCarries.j2 : Nat → List Int → List Int → List Int → List Int → List Int → List Int → Bool → Option (Bool)
  | 0, _, _, _, _, _, _, _ => none
  | k + 1, x7, x8, x10, x11, x13, x15, x104 => if x104 = true then (some false) else ((churnlaw12_same.f k x13 x15).bind fun t413 => ((churnlaw12_same.f k x7 x10).bind fun t414 => (if t414 = true then ((churnlaw12_same.f k x8 x11).bind fun t415 => (some (t413 == t415))) else (some (t413 == false)))))
end
def churnlaw12_BraidCarries.f (k : Nat) (l0 : List Int) (l1 : List Int) (l2 : List Int) : Option (Bool) := (churnlaw12_awake.f k).bind fun t381 => (if t381 = true then ((braid_Pattern.f k l0 l1).bind fun bt382 => ((braid_Pattern.f k l0 l2).bind fun bt389 => (if bt382.2.2 = 0 then (churnlaw12_BraidCarries.j0 k l0 l1 l2 bt382.1 bt382.2.1 bt389.1 bt389.2.1 (bt389.2.2 != 0)) else (churnlaw12_BraidCarries.j0 k l0 l1 l2 bt382.1 bt382.2.1 bt389.1 bt389.2.1 true)))) else (some false))
theorem churnlaw12_BraidCarries.mono_l : ∀ k, (∀ y0 y1 y2 y3 y4 y5 y6 y7, LeO (churnlaw12_BraidCarries.j0 k y0 y1 y2 y3 y4 y5 y6 y7) (churnlaw12_BraidCarries.j0 (k + 1) y0 y1 y2 y3 y4 y5 y6 y7)) ∧ (∀ y0 y1 y2 y3 y4 y5 y6 y7 y8, LeO (churnlaw12_BraidCarries.j1 k y0 y1 y2 y3 y4 y5 y6 y7 y8) (churnlaw12_BraidCarries.j1 (k + 1) y0 y1 y2 y3 y4 y5 y6 y7 y8)) ∧ (∀ y0 y1 y2 y3 y4 y5 y6, LeO (churnlaw12_BraidCarries.j2 k y0 y1 y2 y3 y4 y5 y6) (churnlaw12_BraidCarries.j2 (k + 1) y0 y1 y2 y3 y4 y5 y6))
  | 0 => ⟨fun _ _ _ _ _ _ _ _ r h => by simp [churnlaw12_BraidCarries.j0] at h, fun _ _ _ _ _ _ _ _ _ r h => by simp [churnlaw12_BraidCarries.j1] at h, fun _ _ _ _ _ _ _ r h => by simp [churnlaw12_BraidCarries.j2] at h⟩
  | k + 1 => by
    obtain ⟨ih0, ih1, ih2⟩ := churnlaw12_BraidCarries.mono_l k
    refine ⟨?_, ?_, ?_⟩
    · intro y0 y1 y2 y3 y4 y5 y6 y7
      unfold churnlaw12_BraidCarries.j0
      repeat' first
      | (with_reducible exact ih0 _ _ _ _ _ _ _ _)
      | (with_reducible exact ih1 _ _ _ _ _ _ _ _ _)
      | (with_reducible exact ih2 _ _ _ _ _ _ _)
      | (with_reducible exact braid_Draws.mono _ _ _ _)
      | (with_reducible exact braid_Pattern.mono _ _ _)
      | (with_reducible exact churnlaw12_awake.mono _)
      | (with_reducible exact churnlaw12_same.mono _ _ _)
      | (with_reducible exact LeO.refl _)
      | (with_reducible exact LeO.none _)
      | (with_reducible refine LeO.ite ?_ ?_)
      | (with_reducible refine LeO.bind ?_ (fun _ => ?_))
      | exact ih0 _ _ _ _ _ _ _ _
      | exact ih1 _ _ _ _ _ _ _ _ _
      | exact ih2 _ _ _ _ _ _ _
      | exact braid_Draws.mono _ _ _ _
      | exact braid_Pattern.mono _ _ _
      | exact churnlaw12_awake.mono _
      | exact churnlaw12_same.mono _ _ _
      | exact LeO.none _
      | refine LeO.ite ?_ ?_
      | refine LeO.bind ?_ (fun _ => ?_)
    · intro y0 y1 y2 y3 y4 y5 y6 y7 y8
      unfold churnlaw12_BraidCarries.j1
      repeat' first
      | (with_reducible exact ih0 _ _ _ _ _ _ _ _)
      | (with_reducible exact ih1 _ _ _ _ _ _ _ _ _)
      | (with_reducible exact ih2 _ _ _ _ _ _ _)
      | (with_reducible exact braid_Draws.mono _ _ _ _)
      | (with_reducible exact braid_Pattern.mono _ _ _)
      | (with_reducible exact churnlaw12_awake.mono _)
      | (with_reducible exact churnlaw12_same.mono _ _ _)
      | (with_reducible exact LeO.refl _)
      | (with_reducible exact LeO.none _)
      | (with_reducible refine LeO.ite ?_ ?_)
      | (with_reducible refine LeO.bind ?_ (fun _ => ?_))
      | exact ih0 _ _ _ _ _ _ _ _
      | exact ih1 _ _ _ _ _ _ _ _ _
      | exact ih2 _ _ _ _ _ _ _
      | exact braid_Draws.mono _ _ _ _
      | exact braid_Pattern.mono _ _ _
      | exact churnlaw12_awake.mono _
      | exact churnlaw12_same.mono _ _ _
      | exact LeO.none _
      | refine LeO.ite ?_ ?_
      | refine LeO.bind ?_ (fun _ => ?_)
    · intro y0 y1 y2 y3 y4 y5 y6
      unfold churnlaw12_BraidCarries.j2
      repeat' first
      | (with_reducible exact ih0 _ _ _ _ _ _ _ _)
      | (with_reducible exact ih1 _ _ _ _ _ _ _ _ _)
      | (with_reducible exact ih2 _ _ _ _ _ _ _)
      | (with_reducible exact braid_Draws.mono _ _ _ _)
      | (with_reducible exact braid_Pattern.mono _ _ _)
      | (with_reducible exact churnlaw12_awake.mono _)
      | (with_reducible exact churnlaw12_same.mono _ _ _)
      | (with_reducible exact LeO.refl _)
      | (with_reducible exact LeO.none _)
      | (with_reducible refine LeO.ite ?_ ?_)
      | (with_reducible refine LeO.bind ?_ (fun _ => ?_))
      | exact ih0 _ _ _ _ _ _ _ _
      | exact ih1 _ _ _ _ _ _ _ _ _
      | exact ih2 _ _ _ _ _ _ _
      | exact braid_Draws.mono _ _ _ _
      | exact braid_Pattern.mono _ _ _
      | exact churnlaw12_awake.mono _
      | exact churnlaw12_same.mono _ _ _
      | exact LeO.none _
      | refine LeO.ite ?_ ?_
      | refine LeO.bind ?_ (fun _ => ?_)
theorem churnlaw12_BraidCarries.mono : ∀ a0 a1 a2 k, LeO (churnlaw12_BraidCarries.f k a0 a1 a2) (churnlaw12_BraidCarries.f (k + 1) a0 a1 a2) := by
  intro a0 a1 a2 k
  obtain ⟨ih0, ih1, ih2⟩ := churnlaw12_BraidCarries.mono_l k
  unfold churnlaw12_BraidCarries.f
  repeat' first
      | (with_reducible exact ih0 _ _ _ _ _ _ _ _)
      | (with_reducible exact ih1 _ _ _ _ _ _ _ _ _)
      | (with_reducible exact ih2 _ _ _ _ _ _ _)
      | (with_reducible exact braid_Draws.mono _ _ _ _)
      | (with_reducible exact braid_Pattern.mono _ _ _)
      | (with_reducible exact churnlaw12_awake.mono _)
      | (with_reducible exact churnlaw12_same.mono _ _ _)
      | (with_reducible exact LeO.refl _)
      | (with_reducible exact LeO.none _)
      | (with_reducible refine LeO.ite ?_ ?_)
      | (with_reducible refine LeO.bind ?_ (fun _ => ?_))
      | exact ih0 _ _ _ _ _ _ _ _
      | exact ih1 _ _ _ _ _ _ _ _ _
      | exact ih2 _ _ _ _ _ _ _
      | exact braid_Draws.mono _ _ _ _
      | exact braid_Pattern.mono _ _ _
      | exact churnlaw12_awake.mono _
      | exact churnlaw12_same.mono _ _ _
      | exact LeO.none _
      | refine LeO.ite ?_ ?_
      | refine LeO.bind ?_ (fun _ => ?_)
set_option maxHeartbeats 8000000 in
set_option maxRecDepth 100000 in
theorem churnlaw12_BraidCarries.calls (k : Nat) (A0 : Option Addr) (c0 : Nat) (l0 : List Int) (A1 : Option Addr) (c1 : Nat) (l1 : List Int) (A2 : Option Addr) (c2 : Nat) (l2 : List Int) (r : Bool) (w : World) (hr0 : Kd.C (Kd.int .i64) w A0 l0.length l0) (hc0 : l0.length ≤ c0) (hr1 : Kd.C (Kd.int .i64) w A1 l1.length l1) (hc1 : l1.length ≤ c1) (hr2 : Kd.C (Kd.int .i64) w A2 l2.length l2) (hc2 : l2.length ≤ c2) (h : churnlaw12_BraidCarries.f k l0 l1 l2 = some r) :
    Calls Try.prog 7 #[.slice A0 l0.length c0, .slice A1 l1.length c1, .slice A2 l2.length c2] w fun e w' => e = .returned (.bool r) ∧ Below w.heap.size w w' := by
  have HR0 := Aside0.mk hr0
  have HC0 := Aside0.mk hc0
  clear hr0 hc0
  have HR1 := Aside0.mk hr1
  have HC1 := Aside0.mk hc1
  clear hr1 hc1
  have HR2 := Aside0.mk hr2
  have HC2 := Aside0.mk hc2
  clear hr2 hc2
  have HB := Aside0.mk (Below.refl w.heap.size w)
  have H : ((churnlaw12_awake.f k).bind fun t381 => (if t381 = true then ((braid_Pattern.f k l0 l1).bind fun bt382 => ((braid_Pattern.f k l0 l2).bind fun bt389 => (if bt382.2.2 = 0 then (churnlaw12_BraidCarries.j0 k l0 l1 l2 bt382.1 bt382.2.1 bt389.1 bt389.2.1 (bt389.2.2 != 0)) else (churnlaw12_BraidCarries.j0 k l0 l1 l2 bt382.1 bt382.2.1 bt389.1 bt389.2.1 true)))) else (some false))) = some r := h
  clear h
  replace H := Option.bind_eq_some_iff.mp H
  obtain ⟨t381, A40, H⟩ := H
  replace H : (if t381 = true then ((braid_Pattern.f k l0 l1).bind fun bt382 => ((braid_Pattern.f k l0 l2).bind fun bt389 => (if bt382.2.2 = 0 then (churnlaw12_BraidCarries.j0 k l0 l1 l2 bt382.1 bt382.2.1 bt389.1 bt389.2.1 (bt389.2.2 != 0)) else (churnlaw12_BraidCarries.j0 k l0 l1 l2 bt382.1 bt382.2.1 bt389.1 bt389.2.1 true)))) else (some false)) = some r := H
  have A4 := Aside0.mk A40
  clear A40
  by_cases c5 : t381 = true
  · subst c5
    have H1 : ((braid_Pattern.f k l0 l1).bind fun bt382 => ((braid_Pattern.f k l0 l2).bind fun bt389 => (if bt382.2.2 = 0 then (churnlaw12_BraidCarries.j0 k l0 l1 l2 bt382.1 bt382.2.1 bt389.1 bt389.2.1 (bt389.2.2 != 0)) else (churnlaw12_BraidCarries.j0 k l0 l1 l2 bt382.1 bt382.2.1 bt389.1 bt389.2.1 true)))) = some r := by rw [if_pos rfl] at H; exact H
    clear H
    have H := H1
    clear H1
    replace H := Option.bind_eq_some_iff.mp H
    obtain ⟨⟨t382, t383, t384⟩, A60, H⟩ := H
    replace H : ((braid_Pattern.f k l0 l2).bind fun bt389 => (if t384 = 0 then (churnlaw12_BraidCarries.j0 k l0 l1 l2 t382 t383 bt389.1 bt389.2.1 (bt389.2.2 != 0)) else (churnlaw12_BraidCarries.j0 k l0 l1 l2 t382 t383 bt389.1 bt389.2.1 true))) = some r := H
    have A6 := Aside0.mk A60
    clear A60
    replace H := Option.bind_eq_some_iff.mp H
    obtain ⟨⟨t389, t390, t391⟩, A70, H⟩ := H
    replace H : (if t384 = 0 then (churnlaw12_BraidCarries.j0 k l0 l1 l2 t382 t383 t389 t390 (t391 != 0)) else (churnlaw12_BraidCarries.j0 k l0 l1 l2 t382 t383 t389 t390 true)) = some r := H
    have A7 := Aside0.mk A70
    clear A70
    have HC8 := Aside0.mk H
    clear H
    go_enter Try.func7, Try.ntmps7
    go_upto_region 5 with (first | ((with_reducible refine gate_callee (f := 16) rfl ?_); refine goesL_ (some 17) rfl rfl Try.func16 (by kernel_rfl) rfl #[] rfl (by (try simp only [List.map_toArray, List.map_cons, List.map_nil]); first | done | rfl | (simp only [List.length_drop, List.length_take]; rfl)) ?_; (with_reducible refine (churnlaw12_awake.calls k  true _ A4.out).mono ?_); rintro e w9 ⟨rfl, hb⟩; refine ⟨_, rfl, ?_⟩; have n0_ := Aside0.mk (below_step (by repeat (first | (with_reducible first | exact HB.out | apply below_alloc | apply pw_below_drewN | apply below_drew1) | exact HB.out)) hb); clear HB; have HB := n0_; clear n0_; (try clear hb); (try clear hb2); (try clear hk); (try clear hi)) | ((with_reducible refine gate_callee (f := 25) rfl ?_); refine goesL_ (some 22) rfl rfl Try.func25 (by kernel_rfl) rfl #[.slice A0 l0.length c0, .slice A1 l1.length c1] rfl (by (try simp only [List.map_toArray, List.map_cons, List.map_nil]); first | done | rfl | (simp only [List.length_drop, List.length_take]; rfl)) ?_; (with_reducible refine (braid_Pattern.calls k _ _ l0 _ _ l1 t382 t383 t384 _ ?side1 ?side2 ?side3 ?side4 A6.out).mono ?_); (case side1 => repeat (first | exact (Kd.C_below HR0.out HB.out) | (with_reducible refine Kd.C_alloc ?_ _) | (with_reducible refine Kd.C_drewN ?_ _) | (with_reducible refine Kd.C_drew ?_))); (case side2 => exact HC0.out); (case side3 => repeat (first | exact (Kd.C_below HR1.out HB.out) | (with_reducible refine Kd.C_alloc ?_ _) | (with_reducible refine Kd.C_drewN ?_ _) | (with_reducible refine Kd.C_drew ?_))); (case side4 => exact HC1.out); rintro e w10 ⟨v385, v387, rfl, ho0, ho1, hb⟩; refine ⟨_, rfl, ?_⟩; have n0_ := Aside0.mk (Kd.R_lower ho0 (below_size (by repeat (first | (with_reducible first | exact HB.out | apply below_alloc | apply pw_below_drewN | apply below_drew1) | exact HB.out)))); have n1_ := Aside0.mk (Kd.R_lower ho1 (below_size (by repeat (first | (with_reducible first | exact HB.out | apply below_alloc | apply pw_below_drewN | apply below_drew1) | exact HB.out)))); have n2_ := Aside0.mk (below_step (by repeat (first | (with_reducible first | exact HB.out | apply below_alloc | apply pw_below_drewN | apply below_drew1) | exact HB.out)) hb); clear HB; have HO386 := n0_; have HO388 := n1_; have HB := n2_; clear n0_ n1_ n2_; (try clear hb); (try clear hb2); (try clear hk); (try clear hi); (try clear ho0); (try clear ho1)) | ((with_reducible refine gate_callee (f := 25) rfl ?_); refine goesL_ (some 29) rfl rfl Try.func25 (by kernel_rfl) rfl #[.slice A0 l0.length c0, .slice A2 l2.length c2] rfl (by (try simp only [List.map_toArray, List.map_cons, List.map_nil]); first | done | rfl | (simp only [List.length_drop, List.length_take]; rfl)) ?_; (with_reducible refine (braid_Pattern.calls k _ _ l0 _ _ l2 t389 t390 t391 _ ?side1 ?side2 ?side3 ?side4 A7.out).mono ?_); (case side1 => repeat (first | exact (Kd.C_below HR0.out HB.out) | (with_reducible refine Kd.C_alloc ?_ _) | (with_reducible refine Kd.C_drewN ?_ _) | (with_reducible refine Kd.C_drew ?_))); (case side2 => exact HC0.out); (case side3 => repeat (first | exact (Kd.C_below HR2.out HB.out) | (with_reducible refine Kd.C_alloc ?_ _) | (with_reducible refine Kd.C_drewN ?_ _) | (with_reducible refine Kd.C_drew ?_))); (case side4 => exact HC2.out); rintro e w11 ⟨v392, v394, rfl, ho0, ho1, hb⟩; refine ⟨_, rfl, ?_⟩; have n0_ := Aside0.mk (Kd.R_mono (Kd.R_told (Kd.R_told (Kd.R_old (by (with_reducible repeat (first | apply Kd.R_alloc | apply Kd.R_drewN | apply Kd.R_drew)); exact HO386.out) hb) (Kd.R_base ho0)) (Kd.R_base ho1)) (fun _ h_ => h_.1)); have n1_ := Aside0.mk (Kd.R_mono (Kd.R_told (Kd.R_told (Kd.R_old (by (with_reducible repeat (first | apply Kd.R_alloc | apply Kd.R_drewN | apply Kd.R_drew)); exact HO388.out) hb) (Kd.R_base ho0)) (Kd.R_base ho1)) (fun _ h_ => h_.1)); have n2_ := Aside0.mk (Kd.R_lower (Kd.R_new' (Kd.R_new' ho0 (Kd.R_lt (by (with_reducible repeat (first | apply Kd.R_alloc | apply Kd.R_drewN | apply Kd.R_drew)); exact HO386.out))) (Kd.R_lt (by (with_reducible repeat (first | apply Kd.R_alloc | apply Kd.R_drewN | apply Kd.R_drew)); exact HO388.out))) (below_size (by repeat (first | (with_reducible first | exact HB.out | apply below_alloc | apply pw_below_drewN | apply below_drew1) | exact HB.out)))); have n3_ := Aside0.mk (Kd.R_lower (Kd.R_new' (Kd.R_new' ho1 (Kd.R_lt (by (with_reducible repeat (first | apply Kd.R_alloc | apply Kd.R_drewN | apply Kd.R_drew)); exact HO386.out))) (Kd.R_lt (by (with_reducible repeat (first | apply Kd.R_alloc | apply Kd.R_drewN | apply Kd.R_drew)); exact HO388.out))) (below_size (by repeat (first | (with_reducible first | exact HB.out | apply below_alloc | apply pw_below_drewN | apply below_drew1) | exact HB.out)))); have n4_ := Aside0.mk (below_step (by repeat (first | (with_reducible first | exact HB.out | apply below_alloc | apply pw_below_drewN | apply below_drew1) | exact HB.out)) hb); clear HO386; clear HO388; clear HB; have HO386 := n0_; have HO388 := n1_; have HO393 := n2_; have HO395 := n3_; have HB := n4_; clear n0_ n1_ n2_ n3_ n4_; (try clear hb); (try clear hb2); (try clear hk); (try clear hi); (try clear ho0); (try clear ho1)))
    (try simp only [Act.put, List.setIfInBounds_toArray, List.set_cons_zero, List.set_cons_succ])
    go_cut [38] (fun v38 wc => ∃ (kq : Nat) (x38_7 : Bool), v38 = .bool x38_7 ∧ Aside0 (churnlaw12_BraidCarries.j0 kq l0 l1 l2 t382 t383 t389 t390 x38_7 = some r) ∧ Aside0 (kq ≤ k) ∧ Aside0 (Kd.R (Kd.int .i64) 3 wc w.heap.size (fun k_ => some k_ ≠ (v387 : Value).ownBlock ∧ some k_ ≠ (v392 : Value).ownBlock ∧ some k_ ≠ (v394 : Value).ownBlock) v385 t382) ∧ Aside0 (Kd.R (Kd.int .i64) 3 wc w.heap.size (fun k_ => some k_ ≠ (v385 : Value).ownBlock ∧ some k_ ≠ (v392 : Value).ownBlock ∧ some k_ ≠ (v394 : Value).ownBlock) v387 t383) ∧ Aside0 (Kd.R (Kd.int .i64) 3 wc w.heap.size (fun k_ => some k_ ≠ (v385 : Value).ownBlock ∧ some k_ ≠ (v387 : Value).ownBlock ∧ some k_ ≠ (v394 : Value).ownBlock) v392 t389) ∧ Aside0 (Kd.R (Kd.int .i64) 3 wc w.heap.size (fun k_ => some k_ ≠ (v385 : Value).ownBlock ∧ some k_ ≠ (v387 : Value).ownBlock ∧ some k_ ≠ (v392 : Value).ownBlock) v394 t390) ∧ Aside0 (Below w.heap.size w wc))
    case first =>
      have H := HC8.out
      clear HC8
      by_cases c12 : t384 = 0
      · rw [if_pos c12] at H
        have c12b0 : (t384 == 0) = true := beq_iff_eq.mpr c12
        have c12b1 : (t384 != 0) = false := bne_eq_false_iff_eq.mpr c12
        clear c12
        (first | rw [c12b0] | (simp only [i64_w, i32_w]; rw [c12b0]) | skip)
        have H' := Aside0.mk H
        clear H
        go_wp2
        go_meet
        case rel => exact ⟨_, ((t391 != 0)), (by first | rfl | (simp; done) | (simp [*]; done)), H', ⟨by first | omega | exact Nat.le_refl _⟩, ⟨by (with_reducible repeat (first | apply Kd.R_alloc | apply Kd.R_drewN | apply Kd.R_drew)); exact Kd.R_mono HO386.out (fun _ hk => ⟨hk.1.1, ⟨hk.1.2, hk.2⟩⟩)⟩, ⟨by (with_reducible repeat (first | apply Kd.R_alloc | apply Kd.R_drewN | apply Kd.R_drew)); exact Kd.R_mono HO388.out (fun _ hk => ⟨hk.1.1, ⟨hk.1.2, hk.2⟩⟩)⟩, ⟨by (with_reducible repeat (first | apply Kd.R_alloc | apply Kd.R_drewN | apply Kd.R_drew)); exact Kd.R_mono HO393.out (fun _ hk => ⟨hk.1.2, ⟨hk.2, hk.1.1⟩⟩)⟩, ⟨by (with_reducible repeat (first | apply Kd.R_alloc | apply Kd.R_drewN | apply Kd.R_drew)); exact Kd.R_mono HO395.out (fun _ hk => ⟨hk.1.2, ⟨hk.2, hk.1.1⟩⟩)⟩, ⟨by repeat (first | (with_reducible first | exact HB.out | apply below_alloc | apply pw_below_drewN | apply below_drew1) | exact HB.out)⟩⟩
      · rw [if_neg c12] at H
        have c12b0 : (t384 == 0) = false := beq_eq_false_iff_ne.mpr c12
        have c12b1 : (t384 != 0) = true := bne_iff_ne.mpr c12
        (first | rw [c12b0] | (simp only [i64_w, i32_w]; rw [c12b0]) | skip)
        have H' := Aside0.mk H
        clear H
        go_wp2
        go_meet
        case rel => exact ⟨_, (true), (by first | rfl | (simp; done) | (simp [*]; done)), H', ⟨by first | omega | exact Nat.le_refl _⟩, ⟨by (with_reducible repeat (first | apply Kd.R_alloc | apply Kd.R_drewN | apply Kd.R_drew)); exact Kd.R_mono HO386.out (fun _ hk => ⟨hk.1.1, ⟨hk.1.2, hk.2⟩⟩)⟩, ⟨by (with_reducible repeat (first | apply Kd.R_alloc | apply Kd.R_drewN | apply Kd.R_drew)); exact Kd.R_mono HO388.out (fun _ hk => ⟨hk.1.1, ⟨hk.1.2, hk.2⟩⟩)⟩, ⟨by (with_reducible repeat (first | apply Kd.R_alloc | apply Kd.R_drewN | apply Kd.R_drew)); exact Kd.R_mono HO393.out (fun _ hk => ⟨hk.1.2, ⟨hk.2, hk.1.1⟩⟩)⟩, ⟨by (with_reducible repeat (first | apply Kd.R_alloc | apply Kd.R_drewN | apply Kd.R_drew)); exact Kd.R_mono HO395.out (fun _ hk => ⟨hk.1.2, ⟨hk.2, hk.1.1⟩⟩)⟩, ⟨by repeat (first | (with_reducible first | exact HB.out | apply below_alloc | apply pw_below_drewN | apply below_drew1) | exact HB.out)⟩⟩
    case rest =>
      clear HC8
      try clear c1
      try clear c2
      try clear p2
      try clear c5
      try clear c7
      try clear c12
      try clear c12b0
      try clear c12b1
      obtain ⟨kq, x38_7, rfl, HA, HJ7, HO_7, HO_8, HO_10, HO_11, HB⟩ := hcut
      cases kq with
      | zero => exact absurd HA.out (by simp [churnlaw12_BraidCarries.j0])
      | succ kj7 =>
        have H := HA.out
        clear HA
        simp only [churnlaw12_BraidCarries.j0] at H
        by_cases c13 : x38_7 = true
        · subst c13
          have H1 : (some true) = some r := by rw [if_pos rfl] at H; exact H
          clear H
          have H := H1
          clear H1
          obtain rfl := Option.some.inj H
          go_wp2
          go_ret
          exact ⟨by first | rfl | (simp [errW_none, errW_some] <;> rfl) | (simp [*, errW_none, errW_some] <;> rfl), by repeat (first | (with_reducible first | exact HB.out | apply below_alloc | apply pw_below_drewN | apply below_drew1) | exact HB.out)⟩
        · replace c13 := Bool.eq_false_iff.mpr c13
          subst c13
          have H1 : ((braid_Draws.f kj7 l0 t382 t390).bind fun bt396 => ((braid_Draws.f kj7 l0 t389 t383).bind fun bt400 => (if bt396.2 = 0 then (if bt400.2 = 0 then (if (bt396.1.length : Int) = (t382.length : Int) then (churnlaw12_BraidCarries.j1 kj7 l1 l2 t382 t383 t389 t390 bt396.1 bt400.1 ((bt400.1.length : Int) != (t382.length : Int))) else (churnlaw12_BraidCarries.j1 kj7 l1 l2 t382 t383 t389 t390 bt396.1 bt400.1 true)) else (churnlaw12_BraidCarries.j1 kj7 l1 l2 t382 t383 t389 t390 bt396.1 bt400.1 true)) else (churnlaw12_BraidCarries.j1 kj7 l1 l2 t382 t383 t389 t390 bt396.1 bt400.1 true)))) = some r := by rw [if_neg (show ¬ (false = true) by decide)] at H; exact H
          clear H
          have H := H1
          clear H1
          replace H := Option.bind_eq_some_iff.mp H
          obtain ⟨⟨t396, t397⟩, A140, H⟩ := H
          replace H : ((braid_Draws.f kj7 l0 t389 t383).bind fun bt400 => (if t397 = 0 then (if bt400.2 = 0 then (if (t396.length : Int) = (t382.length : Int) then (churnlaw12_BraidCarries.j1 kj7 l1 l2 t382 t383 t389 t390 t396 bt400.1 ((bt400.1.length : Int) != (t382.length : Int))) else (churnlaw12_BraidCarries.j1 kj7 l1 l2 t382 t383 t389 t390 t396 bt400.1 true)) else (churnlaw12_BraidCarries.j1 kj7 l1 l2 t382 t383 t389 t390 t396 bt400.1 true)) else (churnlaw12_BraidCarries.j1 kj7 l1 l2 t382 t383 t389 t390 t396 bt400.1 true))) = some r := H
          have A14 := Aside0.mk A140
          clear A140
          replace H := Option.bind_eq_some_iff.mp H
          obtain ⟨⟨t400, t401⟩, A150, H⟩ := H
          replace H : (if t397 = 0 then (if t401 = 0 then (if (t396.length : Int) = (t382.length : Int) then (churnlaw12_BraidCarries.j1 kj7 l1 l2 t382 t383 t389 t390 t396 t400 ((t400.length : Int) != (t382.length : Int))) else (churnlaw12_BraidCarries.j1 kj7 l1 l2 t382 t383 t389 t390 t396 t400 true)) else (churnlaw12_BraidCarries.j1 kj7 l1 l2 t382 t383 t389 t390 t396 t400 true)) else (churnlaw12_BraidCarries.j1 kj7 l1 l2 t382 t383 t389 t390 t396 t400 true)) = some r := H
          have A15 := Aside0.mk A150
          clear A150
          have HC16 := Aside0.mk H
          clear H
          obtain ⟨Ao17, co17, eo17⟩ := Kd.R_slice HO_7.out
          subst eo17
          obtain ⟨Ao18, co18, eo18⟩ := Kd.R_slice HO_11.out
          subst eo18
          go_upto_region 9 with (first | ((with_reducible refine gate_callee (f := 26) rfl ?_); refine goesL_ (some 43) rfl rfl Try.func26 (by kernel_rfl) rfl #[.slice A0 l0.length c0, .slice Ao17 t382.length co17, .slice Ao18 t390.length co18] rfl (by (try simp only [List.map_toArray, List.map_cons, List.map_nil]); first | done | rfl | (simp only [List.length_drop, List.length_take]; rfl)) ?_; (with_reducible refine (braid_Draws.calls kj7 _ _ l0 _ _ t382 _ _ t390 t396 t397 _ ?side1 ?side2 ?side3 ?side4 ?side5 ?side6 A14.out).mono ?_); (case side1 => repeat (first | exact (Kd.C_below HR0.out HB.out) | (with_reducible refine Kd.C_alloc ?_ _) | (with_reducible refine Kd.C_drewN ?_ _) | (with_reducible refine Kd.C_drew ?_))); (case side2 => exact HC0.out); (case side3 => repeat (first | exact (Kd.R_reads' HO_7.out).2.2 | (with_reducible refine Kd.C_alloc ?_ _) | (with_reducible refine Kd.C_drewN ?_ _) | (with_reducible refine Kd.C_drew ?_))); (case side4 => exact (Kd.R_reads' HO_7.out).2.1); (case side5 => repeat (first | exact (Kd.R_reads' HO_11.out).2.2 | (with_reducible refine Kd.C_alloc ?_ _) | (with_reducible refine Kd.C_drewN ?_ _) | (with_reducible refine Kd.C_drew ?_))); (case side6 => exact (Kd.R_reads' HO_11.out).2.1); rintro e w19 ⟨v398, rfl, ho0, hb⟩; refine ⟨_, rfl, ?_⟩; have n0_ := Aside0.mk (Kd.R_elder' (by (with_reducible repeat (first | apply Kd.R_alloc | apply Kd.R_drewN | apply Kd.R_drew)); exact HO_7.out) (Kd.R_base ho0) hb); have n1_ := Aside0.mk (Kd.R_elder' (by (with_reducible repeat (first | apply Kd.R_alloc | apply Kd.R_drewN | apply Kd.R_drew)); exact HO_8.out) (Kd.R_base ho0) hb); have n2_ := Aside0.mk (Kd.R_elder' (by (with_reducible repeat (first | apply Kd.R_alloc | apply Kd.R_drewN | apply Kd.R_drew)); exact HO_10.out) (Kd.R_base ho0) hb); have n3_ := Aside0.mk (Kd.R_elder' (by (with_reducible repeat (first | apply Kd.R_alloc | apply Kd.R_drewN | apply Kd.R_drew)); exact HO_11.out) (Kd.R_base ho0) hb); have n4_ := Aside0.mk (Kd.R_lower (Kd.R_new' (Kd.R_new' (Kd.R_new' (Kd.R_new' ho0 (Kd.R_lt (by (with_reducible repeat (first | apply Kd.R_alloc | apply Kd.R_drewN | apply Kd.R_drew)); exact HO_7.out))) (Kd.R_lt (by (with_reducible repeat (first | apply Kd.R_alloc | apply Kd.R_drewN | apply Kd.R_drew)); exact HO_8.out))) (Kd.R_lt (by (with_reducible repeat (first | apply Kd.R_alloc | apply Kd.R_drewN | apply Kd.R_drew)); exact HO_10.out))) (Kd.R_lt (by (with_reducible repeat (first | apply Kd.R_alloc | apply Kd.R_drewN | apply Kd.R_drew)); exact HO_11.out))) (below_size (by repeat (first | (with_reducible first | exact HB.out | apply below_alloc | apply pw_below_drewN | apply below_drew1) | exact HB.out)))); have n5_ := Aside0.mk (below_step (by repeat (first | (with_reducible first | exact HB.out | apply below_alloc | apply pw_below_drewN | apply below_drew1) | exact HB.out)) hb); clear HO_7; clear HO_8; clear HO_10; clear HO_11; clear HB; have HO_7 := n0_; have HO_8 := n1_; have HO_10 := n2_; have HO_11 := n3_; have HO399 := n4_; have HB := n5_; clear n0_ n1_ n2_ n3_ n4_ n5_; (try clear hb); (try clear hb2); (try clear hk); (try clear hi); (try clear ho0); obtain ⟨Ao20, co20, eo20⟩ := Kd.R_slice HO_10.out; subst eo20; obtain ⟨Ao21, co21, eo21⟩ := Kd.R_slice HO_8.out; subst eo21) | ((with_reducible refine gate_callee (f := 26) rfl ?_); refine goesL_ (some 50) rfl rfl Try.func26 (by kernel_rfl) rfl #[.slice A0 l0.length c0, .slice Ao20 t389.length co20, .slice Ao21 t383.length co21] rfl (by (try simp only [List.map_toArray, List.map_cons, List.map_nil]); first | done | rfl | (simp only [List.length_drop, List.length_take]; rfl)) ?_; (with_reducible refine (braid_Draws.calls kj7 _ _ l0 _ _ t389 _ _ t383 t400 t401 _ ?side1 ?side2 ?side3 ?side4 ?side5 ?side6 A15.out).mono ?_); (case side1 => repeat (first | exact (Kd.C_below HR0.out HB.out) | (with_reducible refine Kd.C_alloc ?_ _) | (with_reducible refine Kd.C_drewN ?_ _) | (with_reducible refine Kd.C_drew ?_))); (case side2 => exact HC0.out); (case side3 => repeat (first | exact (Kd.R_reads' HO_10.out).2.2 | (with_reducible refine Kd.C_alloc ?_ _) | (with_reducible refine Kd.C_drewN ?_ _) | (with_reducible refine Kd.C_drew ?_))); (case side4 => exact (Kd.R_reads' HO_10.out).2.1); (case side5 => repeat (first | exact (Kd.R_reads' HO_8.out).2.2 | (with_reducible refine Kd.C_alloc ?_ _) | (with_reducible refine Kd.C_drewN ?_ _) | (with_reducible refine Kd.C_drew ?_))); (case side6 => exact (Kd.R_reads' HO_8.out).2.1); rintro e w22 ⟨v402, rfl, ho0, hb⟩; refine ⟨_, rfl, ?_⟩; have n0_ := Aside0.mk (Kd.R_elder' (by (with_reducible repeat (first | apply Kd.R_alloc | apply Kd.R_drewN | apply Kd.R_drew)); exact HO_7.out) (Kd.R_base ho0) hb); have n1_ := Aside0.mk (Kd.R_elder' (by (with_reducible repeat (first | apply Kd.R_alloc | apply Kd.R_drewN | apply Kd.R_drew)); exact HO_8.out) (Kd.R_base ho0) hb); have n2_ := Aside0.mk (Kd.R_elder' (by (with_reducible repeat (first | apply Kd.R_alloc | apply Kd.R_drewN | apply Kd.R_drew)); exact HO_10.out) (Kd.R_base ho0) hb); have n3_ := Aside0.mk (Kd.R_elder' (by (with_reducible repeat (first | apply Kd.R_alloc | apply Kd.R_drewN | apply Kd.R_drew)); exact HO_11.out) (Kd.R_base ho0) hb); have n4_ := Aside0.mk (Kd.R_elder' (by (with_reducible repeat (first | apply Kd.R_alloc | apply Kd.R_drewN | apply Kd.R_drew)); exact HO399.out) (Kd.R_base ho0) hb); have n5_ := Aside0.mk (Kd.R_lower (Kd.R_new' (Kd.R_new' (Kd.R_new' (Kd.R_new' (Kd.R_new' ho0 (Kd.R_lt (by (with_reducible repeat (first | apply Kd.R_alloc | apply Kd.R_drewN | apply Kd.R_drew)); exact HO_7.out))) (Kd.R_lt (by (with_reducible repeat (first | apply Kd.R_alloc | apply Kd.R_drewN | apply Kd.R_drew)); exact HO_8.out))) (Kd.R_lt (by (with_reducible repeat (first | apply Kd.R_alloc | apply Kd.R_drewN | apply Kd.R_drew)); exact HO_10.out))) (Kd.R_lt (by (with_reducible repeat (first | apply Kd.R_alloc | apply Kd.R_drewN | apply Kd.R_drew)); exact HO_11.out))) (Kd.R_lt (by (with_reducible repeat (first | apply Kd.R_alloc | apply Kd.R_drewN | apply Kd.R_drew)); exact HO399.out))) (below_size (by repeat (first | (with_reducible first | exact HB.out | apply below_alloc | apply pw_below_drewN | apply below_drew1) | exact HB.out)))); have n6_ := Aside0.mk (below_step (by repeat (first | (with_reducible first | exact HB.out | apply below_alloc | apply pw_below_drewN | apply below_drew1) | exact HB.out)) hb); clear HO_7; clear HO_8; clear HO_10; clear HO_11; clear HO399; clear HB; have HO_7 := n0_; have HO_8 := n1_; have HO_10 := n2_; have HO_11 := n3_; have HO399 := n4_; have HO403 := n5_; have HB := n6_; clear n0_ n1_ n2_ n3_ n4_ n5_ n6_; (try clear hb); (try clear hb2); (try clear hk); (try clear hi); (try clear ho0)))
          (try simp only [Act.put, List.setIfInBounds_toArray, List.set_cons_zero, List.set_cons_succ])
          go_cut [72] (fun v72 wc => ∃ (kq : Nat) (x72_15 : Bool), v72 = .bool x72_15 ∧ Aside0 (churnlaw12_BraidCarries.j1 kq l1 l2 t382 t383 t389 t390 t396 t400 x72_15 = some r) ∧ Aside0 (kq ≤ kj7) ∧ Aside0 (Kd.R (Kd.int .i64) 3 wc w.heap.size (fun k_ => some k_ ≠ ((.slice Ao21 t383.length co21) : Value).ownBlock ∧ some k_ ≠ ((.slice Ao20 t389.length co20) : Value).ownBlock ∧ some k_ ≠ ((.slice Ao18 t390.length co18) : Value).ownBlock ∧ some k_ ≠ (v398 : Value).ownBlock ∧ some k_ ≠ (v402 : Value).ownBlock) (.slice Ao17 t382.length co17) t382) ∧ Aside0 (Kd.R (Kd.int .i64) 3 wc w.heap.size (fun k_ => some k_ ≠ ((.slice Ao17 t382.length co17) : Value).ownBlock ∧ some k_ ≠ ((.slice Ao20 t389.length co20) : Value).ownBlock ∧ some k_ ≠ ((.slice Ao18 t390.length co18) : Value).ownBlock ∧ some k_ ≠ (v398 : Value).ownBlock ∧ some k_ ≠ (v402 : Value).ownBlock) (.slice Ao21 t383.length co21) t383) ∧ Aside0 (Kd.R (Kd.int .i64) 3 wc w.heap.size (fun k_ => some k_ ≠ ((.slice Ao17 t382.length co17) : Value).ownBlock ∧ some k_ ≠ ((.slice Ao21 t383.length co21) : Value).ownBlock ∧ some k_ ≠ ((.slice Ao18 t390.length co18) : Value).ownBlock ∧ some k_ ≠ (v398 : Value).ownBlock ∧ some k_ ≠ (v402 : Value).ownBlock) (.slice Ao20 t389.length co20) t389) ∧ Aside0 (Kd.R (Kd.int .i64) 3 wc w.heap.size (fun k_ => some k_ ≠ ((.slice Ao17 t382.length co17) : Value).ownBlock ∧ some k_ ≠ ((.slice Ao21 t383.length co21) : Value).ownBlock ∧ some k_ ≠ ((.slice Ao20 t389.length co20) : Value).ownBlock ∧ some k_ ≠ (v398 : Value).ownBlock ∧ some k_ ≠ (v402 : Value).ownBlock) (.slice Ao18 t390.length co18) t390) ∧ Aside0 (Kd.R (Kd.int .i64) 3 wc w.heap.size (fun k_ => some k_ ≠ ((.slice Ao17 t382.length co17) : Value).ownBlock ∧ some k_ ≠ ((.slice Ao21 t383.length co21) : Value).ownBlock ∧ some k_ ≠ ((.slice Ao20 t389.length co20) : Value).ownBlock ∧ some k_ ≠ ((.slice Ao18 t390.length co18) : Value).ownBlock ∧ some k_ ≠ (v402 : Value).ownBlock) v398 t396) ∧ Aside0 (Kd.R (Kd.int .i64) 3 wc w.heap.size (fun k_ => some k_ ≠ ((.slice Ao17 t382.length co17) : Value).ownBlock ∧ some k_ ≠ ((.slice Ao21 t383.length co21) : Value).ownBlock ∧ some k_ ≠ ((.slice Ao20 t389.length co20) : Value).ownBlock ∧ some k_ ≠ ((.slice Ao18 t390.length co18) : Value).ownBlock ∧ some k_ ≠ (v398 : Value).ownBlock) v402 t400) ∧ Aside0 (Below w.heap.size w wc))
          case first =>
            have H := HC16.out
            clear HC16
            by_cases c23 : t397 = 0
            · rw [if_pos c23] at H
              have c23b0 : (t397 == 0) = true := beq_iff_eq.mpr c23
              have c23b1 : (t397 != 0) = false := bne_eq_false_iff_eq.mpr c23
              clear c23
              (first | rw [c23b0] | (simp only [i64_w, i32_w]; rw [c23b0]) | skip)
              by_cases c24 : t401 = 0
              · rw [if_pos c24] at H
                have c24b0 : (t401 == 0) = true := beq_iff_eq.mpr c24
                have c24b1 : (t401 != 0) = false := bne_eq_false_iff_eq.mpr c24
                clear c24
                by_cases c25 : (t396.length : Int) = (t382.length : Int)
                · rw [if_pos c25] at H
                  have c25b0 : ((t396.length : Int) == (t382.length : Int)) = true := beq_iff_eq.mpr c25
                  have c25b1 : ((t396.length : Int) != (t382.length : Int)) = false := bne_eq_false_iff_eq.mpr c25
                  have c25b2 : (t396.length == t382.length) = true := by first | simpa using c25 | (simp at c25 ⊢; omega)
                  clear c25
                  have H' := Aside0.mk H
                  clear H
                  obtain ⟨Ao26, co26, eo26⟩ := Kd.R_slice HO399.out
                  subst eo26
                  obtain ⟨Ao27, co27, eo27⟩ := Kd.R_slice HO403.out
                  subst eo27
                  go_wp2
                  go_meet
                  case rel => exact ⟨_, (((t400.length : Int) != (t382.length : Int))), (by first | rfl | (simp; done) | (simp [*]; done)), H', ⟨by have := HJ7.out; first | omega | exact Nat.le_refl _⟩, ⟨by (with_reducible repeat (first | apply Kd.R_alloc | apply Kd.R_drewN | apply Kd.R_drew)); exact Kd.R_mono HO_7.out (fun _ hk => ⟨hk.1.1.1, ⟨hk.1.1.2.1, ⟨hk.1.1.2.2, ⟨hk.1.2, hk.2⟩⟩⟩⟩)⟩, ⟨by (with_reducible repeat (first | apply Kd.R_alloc | apply Kd.R_drewN | apply Kd.R_drew)); exact Kd.R_mono HO_8.out (fun _ hk => ⟨hk.1.1.1, ⟨hk.1.1.2.1, ⟨hk.1.1.2.2, ⟨hk.1.2, hk.2⟩⟩⟩⟩)⟩, ⟨by (with_reducible repeat (first | apply Kd.R_alloc | apply Kd.R_drewN | apply Kd.R_drew)); exact Kd.R_mono HO_10.out (fun _ hk => ⟨hk.1.1.1, ⟨hk.1.1.2.1, ⟨hk.1.1.2.2, ⟨hk.1.2, hk.2⟩⟩⟩⟩)⟩, ⟨by (with_reducible repeat (first | apply Kd.R_alloc | apply Kd.R_drewN | apply Kd.R_drew)); exact Kd.R_mono HO_11.out (fun _ hk => ⟨hk.1.1.1, ⟨hk.1.1.2.1, ⟨hk.1.1.2.2, ⟨hk.1.2, hk.2⟩⟩⟩⟩)⟩, ⟨by (with_reducible repeat (first | apply Kd.R_alloc | apply Kd.R_drewN | apply Kd.R_drew)); exact Kd.R_mono HO399.out (fun _ hk => ⟨hk.1.1.1.1.2, ⟨hk.1.1.1.2, ⟨hk.1.1.2, ⟨hk.1.2, hk.2⟩⟩⟩⟩)⟩, ⟨by (with_reducible repeat (first | apply Kd.R_alloc | apply Kd.R_drewN | apply Kd.R_drew)); exact Kd.R_mono HO403.out (fun _ hk => ⟨hk.1.1.1.1.2, ⟨hk.1.1.1.2, ⟨hk.1.1.2, ⟨hk.1.2, hk.2⟩⟩⟩⟩)⟩, ⟨by repeat (first | (with_reducible first | exact HB.out | apply below_alloc | apply pw_below_drewN | apply below_drew1) | exact HB.out)⟩⟩
                · rw [if_neg c25] at H
                  have c25b0 : ((t396.length : Int) == (t382.length : Int)) = false := beq_eq_false_iff_ne.mpr c25
                  have c25b1 : ((t396.length : Int) != (t382.length : Int)) = true := bne_iff_ne.mpr c25
                  have c25b2 : (t396.length == t382.length) = false := by first | simpa using c25 | (simp at c25 ⊢; omega)
                  have H' := Aside0.mk H
                  clear H
                  obtain ⟨Ao28, co28, eo28⟩ := Kd.R_slice HO399.out
                  subst eo28
                  go_wp2
                  go_meet
                  case rel => exact ⟨_, (true), (by first | rfl | (simp; done) | (simp [*]; done)), H', ⟨by have := HJ7.out; first | omega | exact Nat.le_refl _⟩, ⟨by (with_reducible repeat (first | apply Kd.R_alloc | apply Kd.R_drewN | apply Kd.R_drew)); exact Kd.R_mono HO_7.out (fun _ hk => ⟨hk.1.1.1, ⟨hk.1.1.2.1, ⟨hk.1.1.2.2, ⟨hk.1.2, hk.2⟩⟩⟩⟩)⟩, ⟨by (with_reducible repeat (first | apply Kd.R_alloc | apply Kd.R_drewN | apply Kd.R_drew)); exact Kd.R_mono HO_8.out (fun _ hk => ⟨hk.1.1.1, ⟨hk.1.1.2.1, ⟨hk.1.1.2.2, ⟨hk.1.2, hk.2⟩⟩⟩⟩)⟩, ⟨by (with_reducible repeat (first | apply Kd.R_alloc | apply Kd.R_drewN | apply Kd.R_drew)); exact Kd.R_mono HO_10.out (fun _ hk => ⟨hk.1.1.1, ⟨hk.1.1.2.1, ⟨hk.1.1.2.2, ⟨hk.1.2, hk.2⟩⟩⟩⟩)⟩, ⟨by (with_reducible repeat (first | apply Kd.R_alloc | apply Kd.R_drewN | apply Kd.R_drew)); exact Kd.R_mono HO_11.out (fun _ hk => ⟨hk.1.1.1, ⟨hk.1.1.2.1, ⟨hk.1.1.2.2, ⟨hk.1.2, hk.2⟩⟩⟩⟩)⟩, ⟨by (with_reducible repeat (first | apply Kd.R_alloc | apply Kd.R_drewN | apply Kd.R_drew)); exact Kd.R_mono HO399.out (fun _ hk => ⟨hk.1.1.1.1.2, ⟨hk.1.1.1.2, ⟨hk.1.1.2, ⟨hk.1.2, hk.2⟩⟩⟩⟩)⟩, ⟨by (with_reducible repeat (first | apply Kd.R_alloc | apply Kd.R_drewN | apply Kd.R_drew)); exact Kd.R_mono HO403.out (fun _ hk => ⟨hk.1.1.1.1.2, ⟨hk.1.1.1.2, ⟨hk.1.1.2, ⟨hk.1.2, hk.2⟩⟩⟩⟩)⟩, ⟨by repeat (first | (with_reducible first | exact HB.out | apply below_alloc | apply pw_below_drewN | apply below_drew1) | exact HB.out)⟩⟩
              · rw [if_neg c24] at H
                have c24b0 : (t401 == 0) = false := beq_eq_false_iff_ne.mpr c24
                have c24b1 : (t401 != 0) = true := bne_iff_ne.mpr c24
                have H' := Aside0.mk H
                clear H
                go_wp2
                go_meet
                case rel => exact ⟨_, (true), (by first | rfl | (simp; done) | (simp [*]; done)), H', ⟨by have := HJ7.out; first | omega | exact Nat.le_refl _⟩, ⟨by (with_reducible repeat (first | apply Kd.R_alloc | apply Kd.R_drewN | apply Kd.R_drew)); exact Kd.R_mono HO_7.out (fun _ hk => ⟨hk.1.1.1, ⟨hk.1.1.2.1, ⟨hk.1.1.2.2, ⟨hk.1.2, hk.2⟩⟩⟩⟩)⟩, ⟨by (with_reducible repeat (first | apply Kd.R_alloc | apply Kd.R_drewN | apply Kd.R_drew)); exact Kd.R_mono HO_8.out (fun _ hk => ⟨hk.1.1.1, ⟨hk.1.1.2.1, ⟨hk.1.1.2.2, ⟨hk.1.2, hk.2⟩⟩⟩⟩)⟩, ⟨by (with_reducible repeat (first | apply Kd.R_alloc | apply Kd.R_drewN | apply Kd.R_drew)); exact Kd.R_mono HO_10.out (fun _ hk => ⟨hk.1.1.1, ⟨hk.1.1.2.1, ⟨hk.1.1.2.2, ⟨hk.1.2, hk.2⟩⟩⟩⟩)⟩, ⟨by (with_reducible repeat (first | apply Kd.R_alloc | apply Kd.R_drewN | apply Kd.R_drew)); exact Kd.R_mono HO_11.out (fun _ hk => ⟨hk.1.1.1, ⟨hk.1.1.2.1, ⟨hk.1.1.2.2, ⟨hk.1.2, hk.2⟩⟩⟩⟩)⟩, ⟨by (with_reducible repeat (first | apply Kd.R_alloc | apply Kd.R_drewN | apply Kd.R_drew)); exact Kd.R_mono HO399.out (fun _ hk => ⟨hk.1.1.1.1.2, ⟨hk.1.1.1.2, ⟨hk.1.1.2, ⟨hk.1.2, hk.2⟩⟩⟩⟩)⟩, ⟨by (with_reducible repeat (first | apply Kd.R_alloc | apply Kd.R_drewN | apply Kd.R_drew)); exact Kd.R_mono HO403.out (fun _ hk => ⟨hk.1.1.1.1.2, ⟨hk.1.1.1.2, ⟨hk.1.1.2, ⟨hk.1.2, hk.2⟩⟩⟩⟩)⟩, ⟨by repeat (first | (with_reducible first | exact HB.out | apply below_alloc | apply pw_below_drewN | apply below_drew1) | exact HB.out)⟩⟩
            · rw [if_neg c23] at H
              have c23b0 : (t397 == 0) = false := beq_eq_false_iff_ne.mpr c23
              have c23b1 : (t397 != 0) = true := bne_iff_ne.mpr c23
              (first | rw [c23b0] | (simp only [i64_w, i32_w]; rw [c23b0]) | skip)
              have H' := Aside0.mk H
              clear H
              go_wp2
              go_meet
              case rel => exact ⟨_, (true), (by first | rfl | (simp; done) | (simp [*]; done)), H', ⟨by have := HJ7.out; first | omega | exact Nat.le_refl _⟩, ⟨by (with_reducible repeat (first | apply Kd.R_alloc | apply Kd.R_drewN | apply Kd.R_drew)); exact Kd.R_mono HO_7.out (fun _ hk => ⟨hk.1.1.1, ⟨hk.1.1.2.1, ⟨hk.1.1.2.2, ⟨hk.1.2, hk.2⟩⟩⟩⟩)⟩, ⟨by (with_reducible repeat (first | apply Kd.R_alloc | apply Kd.R_drewN | apply Kd.R_drew)); exact Kd.R_mono HO_8.out (fun _ hk => ⟨hk.1.1.1, ⟨hk.1.1.2.1, ⟨hk.1.1.2.2, ⟨hk.1.2, hk.2⟩⟩⟩⟩)⟩, ⟨by (with_reducible repeat (first | apply Kd.R_alloc | apply Kd.R_drewN | apply Kd.R_drew)); exact Kd.R_mono HO_10.out (fun _ hk => ⟨hk.1.1.1, ⟨hk.1.1.2.1, ⟨hk.1.1.2.2, ⟨hk.1.2, hk.2⟩⟩⟩⟩)⟩, ⟨by (with_reducible repeat (first | apply Kd.R_alloc | apply Kd.R_drewN | apply Kd.R_drew)); exact Kd.R_mono HO_11.out (fun _ hk => ⟨hk.1.1.1, ⟨hk.1.1.2.1, ⟨hk.1.1.2.2, ⟨hk.1.2, hk.2⟩⟩⟩⟩)⟩, ⟨by (with_reducible repeat (first | apply Kd.R_alloc | apply Kd.R_drewN | apply Kd.R_drew)); exact Kd.R_mono HO399.out (fun _ hk => ⟨hk.1.1.1.1.2, ⟨hk.1.1.1.2, ⟨hk.1.1.2, ⟨hk.1.2, hk.2⟩⟩⟩⟩)⟩, ⟨by (with_reducible repeat (first | apply Kd.R_alloc | apply Kd.R_drewN | apply Kd.R_drew)); exact Kd.R_mono HO403.out (fun _ hk => ⟨hk.1.1.1.1.2, ⟨hk.1.1.1.2, ⟨hk.1.1.2, ⟨hk.1.2, hk.2⟩⟩⟩⟩)⟩, ⟨by repeat (first | (with_reducible first | exact HB.out | apply below_alloc | apply pw_below_drewN | apply below_drew1) | exact HB.out)⟩⟩
          case rest =>
            clear HC16
            try clear c1
            try clear c2
            try clear p2
            try clear c5
            try clear c7
            try clear c12
            try clear c12b0
            try clear c12b1
            try clear c13
            try clear c16
            try clear c23
            try clear c23b0
            try clear c23b1
            try clear c24
            try clear c24b0
            try clear c24b1
            try clear c25
            try clear c25b0
            try clear c25b1
            try clear c25b2
            try clear c26
            try clear p2
            obtain ⟨kq, x72_15, rfl, HA, HJ15, HO_7, HO_8, HO_10, HO_11, HO_13, HO_15, HB⟩ := hcut
            cases kq with
            | zero => exact absurd HA.out (by simp [churnlaw12_BraidCarries.j1])
            | succ kj15 =>
              have H := HA.out
              clear HA
              simp only [churnlaw12_BraidCarries.j1] at H
              by_cases c29 : x72_15 = true
              · subst c29
                have H1 : (some false) = some r := by rw [if_pos rfl] at H; exact H
                clear H
                have H := H1
                clear H1
                obtain rfl := Option.some.inj H
                go_wp2
                go_ret
                exact ⟨by first | rfl | (simp [errW_none, errW_some] <;> rfl) | (simp [*, errW_none, errW_some] <;> rfl), by repeat (first | (with_reducible first | exact HB.out | apply below_alloc | apply pw_below_drewN | apply below_drew1) | exact HB.out)⟩
              · replace c29 := Bool.eq_false_iff.mpr c29
                subst c29
                have H1 : ((churnlaw12_same.f kj15 t382 t389).bind fun t404 => (if t404 = true then ((churnlaw12_same.f kj15 t396 l2).bind fun t405 => (if t405 = true then ((churnlaw12_same.f kj15 t400 l1).bind fun t406 => (if t406 = true then ((churnlaw12_same.f kj15 t383 t390).bind fun t407 => (if t407 = true then ((churnlaw12_same.f kj15 t396 l1).bind fun t408 => (if t408 = true then ((churnlaw12_same.f kj15 t400 l2).bind fun t409 => (churnlaw12_BraidCarries.j2 kj15 t382 t383 t389 t390 t396 t400 (!t409))) else (churnlaw12_BraidCarries.j2 kj15 t382 t383 t389 t390 t396 t400 true))) else (churnlaw12_BraidCarries.j2 kj15 t382 t383 t389 t390 t396 t400 false))) else (churnlaw12_BraidCarries.j2 kj15 t382 t383 t389 t390 t396 t400 true))) else (churnlaw12_BraidCarries.j2 kj15 t382 t383 t389 t390 t396 t400 true))) else ((churnlaw12_same.f kj15 t383 t390).bind fun t410 => (if t410 = true then ((churnlaw12_same.f kj15 t396 l1).bind fun t411 => (if t411 = true then ((churnlaw12_same.f kj15 t400 l2).bind fun t412 => (churnlaw12_BraidCarries.j2 kj15 t382 t383 t389 t390 t396 t400 (!t412))) else (churnlaw12_BraidCarries.j2 kj15 t382 t383 t389 t390 t396 t400 true))) else (churnlaw12_BraidCarries.j2 kj15 t382 t383 t389 t390 t396 t400 false))))) = some r := by rw [if_neg (show ¬ (false = true) by decide)] at H; exact H
                clear H
                have H := H1
                clear H1
                have HC30 := Aside0.mk H
                clear H
                go_upto_region 11 with (fail)
                go_cut [104] (fun v104 wc => ∃ (kq : Nat) (x104_29 : Bool), v104 = .bool x104_29 ∧ Aside0 (churnlaw12_BraidCarries.j2 kq t382 t383 t389 t390 t396 t400 x104_29 = some r) ∧ Aside0 (kq ≤ kj15) ∧ Aside0 (Kd.R (Kd.int .i64) 3 wc w.heap.size (fun k_ => some k_ ≠ ((.slice Ao21 t383.length co21) : Value).ownBlock ∧ some k_ ≠ ((.slice Ao20 t389.length co20) : Value).ownBlock ∧ some k_ ≠ ((.slice Ao18 t390.length co18) : Value).ownBlock ∧ some k_ ≠ (v398 : Value).ownBlock ∧ some k_ ≠ (v402 : Value).ownBlock) (.slice Ao17 t382.length co17) t382) ∧ Aside0 (Kd.R (Kd.int .i64) 3 wc w.heap.size (fun k_ => some k_ ≠ ((.slice Ao17 t382.length co17) : Value).ownBlock ∧ some k_ ≠ ((.slice Ao20 t389.length co20) : Value).ownBlock ∧ some k_ ≠ ((.slice Ao18 t390.length co18) : Value).ownBlock ∧ some k_ ≠ (v398 : Value).ownBlock ∧ some k_ ≠ (v402 : Value).ownBlock) (.slice Ao21 t383.length co21) t383) ∧ Aside0 (Kd.R (Kd.int .i64) 3 wc w.heap.size (fun k_ => some k_ ≠ ((.slice Ao17 t382.length co17) : Value).ownBlock ∧ some k_ ≠ ((.slice Ao21 t383.length co21) : Value).ownBlock ∧ some k_ ≠ ((.slice Ao18 t390.length co18) : Value).ownBlock ∧ some k_ ≠ (v398 : Value).ownBlock ∧ some k_ ≠ (v402 : Value).ownBlock) (.slice Ao20 t389.length co20) t389) ∧ Aside0 (Kd.R (Kd.int .i64) 3 wc w.heap.size (fun k_ => some k_ ≠ ((.slice Ao17 t382.length co17) : Value).ownBlock ∧ some k_ ≠ ((.slice Ao21 t383.length co21) : Value).ownBlock ∧ some k_ ≠ ((.slice Ao20 t389.length co20) : Value).ownBlock ∧ some k_ ≠ (v398 : Value).ownBlock ∧ some k_ ≠ (v402 : Value).ownBlock) (.slice Ao18 t390.length co18) t390) ∧ Aside0 (Kd.R (Kd.int .i64) 3 wc w.heap.size (fun k_ => some k_ ≠ ((.slice Ao17 t382.length co17) : Value).ownBlock ∧ some k_ ≠ ((.slice Ao21 t383.length co21) : Value).ownBlock ∧ some k_ ≠ ((.slice Ao20 t389.length co20) : Value).ownBlock ∧ some k_ ≠ ((.slice Ao18 t390.length co18) : Value).ownBlock ∧ some k_ ≠ (v402 : Value).ownBlock) v398 t396) ∧ Aside0 (Kd.R (Kd.int .i64) 3 wc w.heap.size (fun k_ => some k_ ≠ ((.slice Ao17 t382.length co17) : Value).ownBlock ∧ some k_ ≠ ((.slice Ao21 t383.length co21) : Value).ownBlock ∧ some k_ ≠ ((.slice Ao20 t389.length co20) : Value).ownBlock ∧ some k_ ≠ ((.slice Ao18 t390.length co18) : Value).ownBlock ∧ some k_ ≠ (v398 : Value).ownBlock) v402 t400) ∧ Aside0 (Below w.heap.size w wc))
                case first =>
                  have H := HC30.out
                  clear HC30
                  replace H := Option.bind_eq_some_iff.mp H
                  obtain ⟨t404, A310, H⟩ := H
                  replace H : (if t404 = true then ((churnlaw12_same.f kj15 t396 l2).bind fun t405 => (if t405 = true then ((churnlaw12_same.f kj15 t400 l1).bind fun t406 => (if t406 = true then ((churnlaw12_same.f kj15 t383 t390).bind fun t407 => (if t407 = true then ((churnlaw12_same.f kj15 t396 l1).bind fun t408 => (if t408 = true then ((churnlaw12_same.f kj15 t400 l2).bind fun t409 => (churnlaw12_BraidCarries.j2 kj15 t382 t383 t389 t390 t396 t400 (!t409))) else (churnlaw12_BraidCarries.j2 kj15 t382 t383 t389 t390 t396 t400 true))) else (churnlaw12_BraidCarries.j2 kj15 t382 t383 t389 t390 t396 t400 false))) else (churnlaw12_BraidCarries.j2 kj15 t382 t383 t389 t390 t396 t400 true))) else (churnlaw12_BraidCarries.j2 kj15 t382 t383 t389 t390 t396 t400 true))) else ((churnlaw12_same.f kj15 t383 t390).bind fun t410 => (if t410 = true then ((churnlaw12_same.f kj15 t396 l1).bind fun t411 => (if t411 = true then ((churnlaw12_same.f kj15 t400 l2).bind fun t412 => (churnlaw12_BraidCarries.j2 kj15 t382 t383 t389 t390 t396 t400 (!t412))) else (churnlaw12_BraidCarries.j2 kj15 t382 t383 t389 t390 t396 t400 true))) else (churnlaw12_BraidCarries.j2 kj15 t382 t383 t389 t390 t396 t400 false)))) = some r := H
                  have A31 := Aside0.mk A310
                  clear A310
                  by_cases c32 : t404 = true
                  · subst c32
                    have H1 : ((churnlaw12_same.f kj15 t396 l2).bind fun t405 => (if t405 = true then ((churnlaw12_same.f kj15 t400 l1).bind fun t406 => (if t406 = true then ((churnlaw12_same.f kj15 t383 t390).bind fun t407 => (if t407 = true then ((churnlaw12_same.f kj15 t396 l1).bind fun t408 => (if t408 = true then ((churnlaw12_same.f kj15 t400 l2).bind fun t409 => (churnlaw12_BraidCarries.j2 kj15 t382 t383 t389 t390 t396 t400 (!t409))) else (churnlaw12_BraidCarries.j2 kj15 t382 t383 t389 t390 t396 t400 true))) else (churnlaw12_BraidCarries.j2 kj15 t382 t383 t389 t390 t396 t400 false))) else (churnlaw12_BraidCarries.j2 kj15 t382 t383 t389 t390 t396 t400 true))) else (churnlaw12_BraidCarries.j2 kj15 t382 t383 t389 t390 t396 t400 true))) = some r := by rw [if_pos rfl] at H; exact H
                    clear H
                    have H := H1
                    clear H1
                    replace H := Option.bind_eq_some_iff.mp H
                    obtain ⟨t405, A330, H⟩ := H
                    replace H : (if t405 = true then ((churnlaw12_same.f kj15 t400 l1).bind fun t406 => (if t406 = true then ((churnlaw12_same.f kj15 t383 t390).bind fun t407 => (if t407 = true then ((churnlaw12_same.f kj15 t396 l1).bind fun t408 => (if t408 = true then ((churnlaw12_same.f kj15 t400 l2).bind fun t409 => (churnlaw12_BraidCarries.j2 kj15 t382 t383 t389 t390 t396 t400 (!t409))) else (churnlaw12_BraidCarries.j2 kj15 t382 t383 t389 t390 t396 t400 true))) else (churnlaw12_BraidCarries.j2 kj15 t382 t383 t389 t390 t396 t400 false))) else (churnlaw12_BraidCarries.j2 kj15 t382 t383 t389 t390 t396 t400 true))) else (churnlaw12_BraidCarries.j2 kj15 t382 t383 t389 t390 t396 t400 true)) = some r := H
                    have A33 := Aside0.mk A330
                    clear A330
                    by_cases c34 : t405 = true
                    · subst c34
                      have H1 : ((churnlaw12_same.f kj15 t400 l1).bind fun t406 => (if t406 = true then ((churnlaw12_same.f kj15 t383 t390).bind fun t407 => (if t407 = true then ((churnlaw12_same.f kj15 t396 l1).bind fun t408 => (if t408 = true then ((churnlaw12_same.f kj15 t400 l2).bind fun t409 => (churnlaw12_BraidCarries.j2 kj15 t382 t383 t389 t390 t396 t400 (!t409))) else (churnlaw12_BraidCarries.j2 kj15 t382 t383 t389 t390 t396 t400 true))) else (churnlaw12_BraidCarries.j2 kj15 t382 t383 t389 t390 t396 t400 false))) else (churnlaw12_BraidCarries.j2 kj15 t382 t383 t389 t390 t396 t400 true))) = some r := by rw [if_pos rfl] at H; exact H
                      clear H
                      have H := H1
                      clear H1
                      replace H := Option.bind_eq_some_iff.mp H
                      obtain ⟨t406, A350, H⟩ := H
                      replace H : (if t406 = true then ((churnlaw12_same.f kj15 t383 t390).bind fun t407 => (if t407 = true then ((churnlaw12_same.f kj15 t396 l1).bind fun t408 => (if t408 = true then ((churnlaw12_same.f kj15 t400 l2).bind fun t409 => (churnlaw12_BraidCarries.j2 kj15 t382 t383 t389 t390 t396 t400 (!t409))) else (churnlaw12_BraidCarries.j2 kj15 t382 t383 t389 t390 t396 t400 true))) else (churnlaw12_BraidCarries.j2 kj15 t382 t383 t389 t390 t396 t400 false))) else (churnlaw12_BraidCarries.j2 kj15 t382 t383 t389 t390 t396 t400 true)) = some r := H
                      have A35 := Aside0.mk A350
                      clear A350
                      by_cases c36 : t406 = true
                      · subst c36
                        have H1 : ((churnlaw12_same.f kj15 t383 t390).bind fun t407 => (if t407 = true then ((churnlaw12_same.f kj15 t396 l1).bind fun t408 => (if t408 = true then ((churnlaw12_same.f kj15 t400 l2).bind fun t409 => (churnlaw12_BraidCarries.j2 kj15 t382 t383 t389 t390 t396 t400 (!t409))) else (churnlaw12_BraidCarries.j2 kj15 t382 t383 t389 t390 t396 t400 true))) else (churnlaw12_BraidCarries.j2 kj15 t382 t383 t389 t390 t396 t400 false))) = some r := by rw [if_pos rfl] at H; exact H
                        clear H
                        have H := H1
                        clear H1
                        replace H := Option.bind_eq_some_iff.mp H
                        obtain ⟨t407, A370, H⟩ := H
                        replace H : (if t407 = true then ((churnlaw12_same.f kj15 t396 l1).bind fun t408 => (if t408 = true then ((churnlaw12_same.f kj15 t400 l2).bind fun t409 => (churnlaw12_BraidCarries.j2 kj15 t382 t383 t389 t390 t396 t400 (!t409))) else (churnlaw12_BraidCarries.j2 kj15 t382 t383 t389 t390 t396 t400 true))) else (churnlaw12_BraidCarries.j2 kj15 t382 t383 t389 t390 t396 t400 false)) = some r := H
                        have A37 := Aside0.mk A370
                        clear A370
                        by_cases c38 : t407 = true
                        · subst c38
                          have H1 : ((churnlaw12_same.f kj15 t396 l1).bind fun t408 => (if t408 = true then ((churnlaw12_same.f kj15 t400 l2).bind fun t409 => (churnlaw12_BraidCarries.j2 kj15 t382 t383 t389 t390 t396 t400 (!t409))) else (churnlaw12_BraidCarries.j2 kj15 t382 t383 t389 t390 t396 t400 true))) = some r := by rw [if_pos rfl] at H; exact H
                          clear H
                          have H := H1
                          clear H1
                          replace H := Option.bind_eq_some_iff.mp H
                          obtain ⟨t408, A390, H⟩ := H
                          replace H : (if t408 = true then ((churnlaw12_same.f kj15 t400 l2).bind fun t409 => (churnlaw12_BraidCarries.j2 kj15 t382 t383 t389 t390 t396 t400 (!t409))) else (churnlaw12_BraidCarries.j2 kj15 t382 t383 t389 t390 t396 t400 true)) = some r := H
                          have A39 := Aside0.mk A390
                          clear A390
                          by_cases c40 : t408 = true
                          · subst c40
                            have H1 : ((churnlaw12_same.f kj15 t400 l2).bind fun t409 => (churnlaw12_BraidCarries.j2 kj15 t382 t383 t389 t390 t396 t400 (!t409))) = some r := by rw [if_pos rfl] at H; exact H
                            clear H
                            have H := H1
                            clear H1
                            replace H := Option.bind_eq_some_iff.mp H
                            obtain ⟨t409, A410, H⟩ := H
                            replace H : (churnlaw12_BraidCarries.j2 kj15 t382 t383 t389 t390 t396 t400 (!t409)) = some r := H
                            have A41 := Aside0.mk A410
                            clear A410
                            have H' := Aside0.mk H
                            clear H
                            go_wp2_with (first | ((with_reducible refine gate_callee (f := 21) rfl ?_); refine goesL_ (some 75) rfl rfl Try.func21 (by kernel_rfl) rfl #[.slice Ao17 t382.length co17, .slice Ao20 t389.length co20] rfl (by (try simp only [List.map_toArray, List.map_cons, List.map_nil]); first | done | rfl | (simp only [List.length_drop, List.length_take]; rfl)) ?_; (with_reducible refine (churnlaw12_same.calls kj15 _ _ t382 _ _ t389 true _ ?side1 ?side2 ?side3 ?side4 A31.out).mono ?_); (case side1 => repeat (first | exact (Kd.R_reads' HO_7.out).2.2 | (with_reducible refine Kd.C_alloc ?_ _) | (with_reducible refine Kd.C_drewN ?_ _) | (with_reducible refine Kd.C_drew ?_))); (case side2 => exact (Kd.R_reads' HO_7.out).2.1); (case side3 => repeat (first | exact (Kd.R_reads' HO_10.out).2.2 | (with_reducible refine Kd.C_alloc ?_ _) | (with_reducible refine Kd.C_drewN ?_ _) | (with_reducible refine Kd.C_drew ?_))); (case side4 => exact (Kd.R_reads' HO_10.out).2.1); rintro e w' ⟨rfl, ⟨nd, rfl⟩⟩; refine ⟨_, rfl, ?_⟩; obtain ⟨Ao42, co42, eo42⟩ := Kd.R_slice HO_13.out; subst eo42) | (go_at_call 21; (with_reducible refine (churnlaw12_same.calls kj15 _ _ t396 _ _ l2 true _ ?side1 ?side2 ?side3 ?side4 A33.out).mono ?_); (case side1 => repeat (first | exact (Kd.R_reads' HO_13.out).2.2 | (with_reducible refine Kd.C_alloc ?_ _) | (with_reducible refine Kd.C_drewN ?_ _) | (with_reducible refine Kd.C_drew ?_))); (case side2 => exact (Kd.R_reads' HO_13.out).2.1); (case side3 => repeat (first | exact (Kd.C_below HR2.out (by repeat (first | (with_reducible first | exact HB.out | apply below_alloc | apply pw_below_drewN | apply below_drew1) | exact HB.out))) | (with_reducible refine Kd.C_alloc ?_ _) | (with_reducible refine Kd.C_drewN ?_ _) | (with_reducible refine Kd.C_drew ?_))); (case side4 => exact HC2.out); rintro e w' ⟨rfl, ⟨nd, rfl⟩⟩; obtain ⟨Ao43, co43, eo43⟩ := Kd.R_slice HO_15.out; subst eo43) | (go_at_call 21; (with_reducible refine (churnlaw12_same.calls kj15 _ _ t400 _ _ l1 true _ ?side1 ?side2 ?side3 ?side4 A35.out).mono ?_); (case side1 => repeat (first | exact (Kd.R_reads' HO_15.out).2.2 | (with_reducible refine Kd.C_alloc ?_ _) | (with_reducible refine Kd.C_drewN ?_ _) | (with_reducible refine Kd.C_drew ?_))); (case side2 => exact (Kd.R_reads' HO_15.out).2.1); (case side3 => repeat (first | exact (Kd.C_below HR1.out (by repeat (first | (with_reducible first | exact HB.out | apply below_alloc | apply pw_below_drewN | apply below_drew1) | exact HB.out))) | (with_reducible refine Kd.C_alloc ?_ _) | (with_reducible refine Kd.C_drewN ?_ _) | (with_reducible refine Kd.C_drew ?_))); (case side4 => exact HC1.out); rintro e w' ⟨rfl, ⟨nd, rfl⟩⟩) | (go_at_call 21; (with_reducible refine (churnlaw12_same.calls kj15 _ _ t383 _ _ t390 true _ ?side1 ?side2 ?side3 ?side4 A37.out).mono ?_); (case side1 => repeat (first | exact (Kd.R_reads' HO_8.out).2.2 | (with_reducible refine Kd.C_alloc ?_ _) | (with_reducible refine Kd.C_drewN ?_ _) | (with_reducible refine Kd.C_drew ?_))); (case side2 => exact (Kd.R_reads' HO_8.out).2.1); (case side3 => repeat (first | exact (Kd.R_reads' HO_11.out).2.2 | (with_reducible refine Kd.C_alloc ?_ _) | (with_reducible refine Kd.C_drewN ?_ _) | (with_reducible refine Kd.C_drew ?_))); (case side4 => exact (Kd.R_reads' HO_11.out).2.1); rintro e w' ⟨rfl, ⟨nd, rfl⟩⟩) | (go_at_call 21; (with_reducible refine (churnlaw12_same.calls kj15 _ _ t396 _ _ l1 true _ ?side1 ?side2 ?side3 ?side4 A39.out).mono ?_); (case side1 => repeat (first | exact (Kd.R_reads' HO_13.out).2.2 | (with_reducible refine Kd.C_alloc ?_ _) | (with_reducible refine Kd.C_drewN ?_ _) | (with_reducible refine Kd.C_drew ?_))); (case side2 => exact (Kd.R_reads' HO_13.out).2.1); (case side3 => repeat (first | exact (Kd.C_below HR1.out (by repeat (first | (with_reducible first | exact HB.out | apply below_alloc | apply pw_below_drewN | apply below_drew1) | exact HB.out))) | (with_reducible refine Kd.C_alloc ?_ _) | (with_reducible refine Kd.C_drewN ?_ _) | (with_reducible refine Kd.C_drew ?_))); (case side4 => exact HC1.out); rintro e w' ⟨rfl, ⟨nd, rfl⟩⟩) | (go_at_call 21; (with_reducible refine (churnlaw12_same.calls kj15 _ _ t400 _ _ l2 t409 _ ?side1 ?side2 ?side3 ?side4 A41.out).mono ?_); (case side1 => repeat (first | exact (Kd.R_reads' HO_15.out).2.2 | (with_reducible refine Kd.C_alloc ?_ _) | (with_reducible refine Kd.C_drewN ?_ _) | (with_reducible refine Kd.C_drew ?_))); (case side2 => exact (Kd.R_reads' HO_15.out).2.1); (case side3 => repeat (first | exact (Kd.C_below HR2.out (by repeat (first | (with_reducible first | exact HB.out | apply below_alloc | apply pw_below_drewN | apply below_drew1) | exact HB.out))) | (with_reducible refine Kd.C_alloc ?_ _) | (with_reducible refine Kd.C_drewN ?_ _) | (with_reducible refine Kd.C_drew ?_))); (case side4 => exact HC2.out); rintro e w' ⟨rfl, ⟨nd, rfl⟩⟩))
                            go_meet
                            case rel => exact ⟨_, (!t409), (by first | rfl | (simp; done) | (simp [*]; done)), H', ⟨by have := HJ7.out; have := HJ15.out; first | omega | exact Nat.le_refl _⟩, ⟨by (with_reducible repeat (first | apply Kd.R_alloc | apply Kd.R_drewN | apply Kd.R_drew)); exact HO_7.out⟩, ⟨by (with_reducible repeat (first | apply Kd.R_alloc | apply Kd.R_drewN | apply Kd.R_drew)); exact HO_8.out⟩, ⟨by (with_reducible repeat (first | apply Kd.R_alloc | apply Kd.R_drewN | apply Kd.R_drew)); exact HO_10.out⟩, ⟨by (with_reducible repeat (first | apply Kd.R_alloc | apply Kd.R_drewN | apply Kd.R_drew)); exact HO_11.out⟩, ⟨by (with_reducible repeat (first | apply Kd.R_alloc | apply Kd.R_drewN | apply Kd.R_drew)); exact HO_13.out⟩, ⟨by (with_reducible repeat (first | apply Kd.R_alloc | apply Kd.R_drewN | apply Kd.R_drew)); exact HO_15.out⟩, ⟨by repeat (first | (with_reducible first | exact HB.out | apply below_alloc | apply pw_below_drewN | apply below_drew1) | exact HB.out)⟩⟩
                          · replace c40 := Bool.eq_false_iff.mpr c40
                            subst c40
                            have H1 : (churnlaw12_BraidCarries.j2 kj15 t382 t383 t389 t390 t396 t400 true) = some r := by rw [if_neg (show ¬ (false = true) by decide)] at H; exact H
                            clear H
                            have H := H1
                            clear H1
                            have H' := Aside0.mk H
                            clear H
                            go_wp2_with (first | ((with_reducible refine gate_callee (f := 21) rfl ?_); refine goesL_ (some 75) rfl rfl Try.func21 (by kernel_rfl) rfl #[.slice Ao17 t382.length co17, .slice Ao20 t389.length co20] rfl (by (try simp only [List.map_toArray, List.map_cons, List.map_nil]); first | done | rfl | (simp only [List.length_drop, List.length_take]; rfl)) ?_; (with_reducible refine (churnlaw12_same.calls kj15 _ _ t382 _ _ t389 true _ ?side1 ?side2 ?side3 ?side4 A31.out).mono ?_); (case side1 => repeat (first | exact (Kd.R_reads' HO_7.out).2.2 | (with_reducible refine Kd.C_alloc ?_ _) | (with_reducible refine Kd.C_drewN ?_ _) | (with_reducible refine Kd.C_drew ?_))); (case side2 => exact (Kd.R_reads' HO_7.out).2.1); (case side3 => repeat (first | exact (Kd.R_reads' HO_10.out).2.2 | (with_reducible refine Kd.C_alloc ?_ _) | (with_reducible refine Kd.C_drewN ?_ _) | (with_reducible refine Kd.C_drew ?_))); (case side4 => exact (Kd.R_reads' HO_10.out).2.1); rintro e w' ⟨rfl, ⟨nd, rfl⟩⟩; refine ⟨_, rfl, ?_⟩; obtain ⟨Ao44, co44, eo44⟩ := Kd.R_slice HO_13.out; subst eo44) | (go_at_call 21; (with_reducible refine (churnlaw12_same.calls kj15 _ _ t396 _ _ l2 true _ ?side1 ?side2 ?side3 ?side4 A33.out).mono ?_); (case side1 => repeat (first | exact (Kd.R_reads' HO_13.out).2.2 | (with_reducible refine Kd.C_alloc ?_ _) | (with_reducible refine Kd.C_drewN ?_ _) | (with_reducible refine Kd.C_drew ?_))); (case side2 => exact (Kd.R_reads' HO_13.out).2.1); (case side3 => repeat (first | exact (Kd.C_below HR2.out (by repeat (first | (with_reducible first | exact HB.out | apply below_alloc | apply pw_below_drewN | apply below_drew1) | exact HB.out))) | (with_reducible refine Kd.C_alloc ?_ _) | (with_reducible refine Kd.C_drewN ?_ _) | (with_reducible refine Kd.C_drew ?_))); (case side4 => exact HC2.out); rintro e w' ⟨rfl, ⟨nd, rfl⟩⟩; obtain ⟨Ao45, co45, eo45⟩ := Kd.R_slice HO_15.out; subst eo45) | (go_at_call 21; (with_reducible refine (churnlaw12_same.calls kj15 _ _ t400 _ _ l1 true _ ?side1 ?side2 ?side3 ?side4 A35.out).mono ?_); (case side1 => repeat (first | exact (Kd.R_reads' HO_15.out).2.2 | (with_reducible refine Kd.C_alloc ?_ _) | (with_reducible refine Kd.C_drewN ?_ _) | (with_reducible refine Kd.C_drew ?_))); (case side2 => exact (Kd.R_reads' HO_15.out).2.1); (case side3 => repeat (first | exact (Kd.C_below HR1.out (by repeat (first | (with_reducible first | exact HB.out | apply below_alloc | apply pw_below_drewN | apply below_drew1) | exact HB.out))) | (with_reducible refine Kd.C_alloc ?_ _) | (with_reducible refine Kd.C_drewN ?_ _) | (with_reducible refine Kd.C_drew ?_))); (case side4 => exact HC1.out); rintro e w' ⟨rfl, ⟨nd, rfl⟩⟩) | (go_at_call 21; (with_reducible refine (churnlaw12_same.calls kj15 _ _ t383 _ _ t390 true _ ?side1 ?side2 ?side3 ?side4 A37.out).mono ?_); (case side1 => repeat (first | exact (Kd.R_reads' HO_8.out).2.2 | (with_reducible refine Kd.C_alloc ?_ _) | (with_reducible refine Kd.C_drewN ?_ _) | (with_reducible refine Kd.C_drew ?_))); (case side2 => exact (Kd.R_reads' HO_8.out).2.1); (case side3 => repeat (first | exact (Kd.R_reads' HO_11.out).2.2 | (with_reducible refine Kd.C_alloc ?_ _) | (with_reducible refine Kd.C_drewN ?_ _) | (with_reducible refine Kd.C_drew ?_))); (case side4 => exact (Kd.R_reads' HO_11.out).2.1); rintro e w' ⟨rfl, ⟨nd, rfl⟩⟩) | (go_at_call 21; (with_reducible refine (churnlaw12_same.calls kj15 _ _ t396 _ _ l1 false _ ?side1 ?side2 ?side3 ?side4 A39.out).mono ?_); (case side1 => repeat (first | exact (Kd.R_reads' HO_13.out).2.2 | (with_reducible refine Kd.C_alloc ?_ _) | (with_reducible refine Kd.C_drewN ?_ _) | (with_reducible refine Kd.C_drew ?_))); (case side2 => exact (Kd.R_reads' HO_13.out).2.1); (case side3 => repeat (first | exact (Kd.C_below HR1.out (by repeat (first | (with_reducible first | exact HB.out | apply below_alloc | apply pw_below_drewN | apply below_drew1) | exact HB.out))) | (with_reducible refine Kd.C_alloc ?_ _) | (with_reducible refine Kd.C_drewN ?_ _) | (with_reducible refine Kd.C_drew ?_))); (case side4 => exact HC1.out); rintro e w' ⟨rfl, ⟨nd, rfl⟩⟩))
                            go_meet
                            case rel => exact ⟨_, (true), (by first | rfl | (simp; done) | (simp [*]; done)), H', ⟨by have := HJ7.out; have := HJ15.out; first | omega | exact Nat.le_refl _⟩, ⟨by (with_reducible repeat (first | apply Kd.R_alloc | apply Kd.R_drewN | apply Kd.R_drew)); exact HO_7.out⟩, ⟨by (with_reducible repeat (first | apply Kd.R_alloc | apply Kd.R_drewN | apply Kd.R_drew)); exact HO_8.out⟩, ⟨by (with_reducible repeat (first | apply Kd.R_alloc | apply Kd.R_drewN | apply Kd.R_drew)); exact HO_10.out⟩, ⟨by (with_reducible repeat (first | apply Kd.R_alloc | apply Kd.R_drewN | apply Kd.R_drew)); exact HO_11.out⟩, ⟨by (with_reducible repeat (first | apply Kd.R_alloc | apply Kd.R_drewN | apply Kd.R_drew)); exact HO_13.out⟩, ⟨by (with_reducible repeat (first | apply Kd.R_alloc | apply Kd.R_drewN | apply Kd.R_drew)); exact HO_15.out⟩, ⟨by repeat (first | (with_reducible first | exact HB.out | apply below_alloc | apply pw_below_drewN | apply below_drew1) | exact HB.out)⟩⟩
                        · replace c38 := Bool.eq_false_iff.mpr c38
                          subst c38
                          have H1 : (churnlaw12_BraidCarries.j2 kj15 t382 t383 t389 t390 t396 t400 false) = some r := by rw [if_neg (show ¬ (false = true) by decide)] at H; exact H
                          clear H
                          have H := H1
                          clear H1
                          have H' := Aside0.mk H
                          clear H
                          go_wp2_with (first | ((with_reducible refine gate_callee (f := 21) rfl ?_); refine goesL_ (some 75) rfl rfl Try.func21 (by kernel_rfl) rfl #[.slice Ao17 t382.length co17, .slice Ao20 t389.length co20] rfl (by (try simp only [List.map_toArray, List.map_cons, List.map_nil]); first | done | rfl | (simp only [List.length_drop, List.length_take]; rfl)) ?_; (with_reducible refine (churnlaw12_same.calls kj15 _ _ t382 _ _ t389 true _ ?side1 ?side2 ?side3 ?side4 A31.out).mono ?_); (case side1 => repeat (first | exact (Kd.R_reads' HO_7.out).2.2 | (with_reducible refine Kd.C_alloc ?_ _) | (with_reducible refine Kd.C_drewN ?_ _) | (with_reducible refine Kd.C_drew ?_))); (case side2 => exact (Kd.R_reads' HO_7.out).2.1); (case side3 => repeat (first | exact (Kd.R_reads' HO_10.out).2.2 | (with_reducible refine Kd.C_alloc ?_ _) | (with_reducible refine Kd.C_drewN ?_ _) | (with_reducible refine Kd.C_drew ?_))); (case side4 => exact (Kd.R_reads' HO_10.out).2.1); rintro e w' ⟨rfl, ⟨nd, rfl⟩⟩; refine ⟨_, rfl, ?_⟩; obtain ⟨Ao46, co46, eo46⟩ := Kd.R_slice HO_13.out; subst eo46) | (go_at_call 21; (with_reducible refine (churnlaw12_same.calls kj15 _ _ t396 _ _ l2 true _ ?side1 ?side2 ?side3 ?side4 A33.out).mono ?_); (case side1 => repeat (first | exact (Kd.R_reads' HO_13.out).2.2 | (with_reducible refine Kd.C_alloc ?_ _) | (with_reducible refine Kd.C_drewN ?_ _) | (with_reducible refine Kd.C_drew ?_))); (case side2 => exact (Kd.R_reads' HO_13.out).2.1); (case side3 => repeat (first | exact (Kd.C_below HR2.out (by repeat (first | (with_reducible first | exact HB.out | apply below_alloc | apply pw_below_drewN | apply below_drew1) | exact HB.out))) | (with_reducible refine Kd.C_alloc ?_ _) | (with_reducible refine Kd.C_drewN ?_ _) | (with_reducible refine Kd.C_drew ?_))); (case side4 => exact HC2.out); rintro e w' ⟨rfl, ⟨nd, rfl⟩⟩; obtain ⟨Ao47, co47, eo47⟩ := Kd.R_slice HO_15.out; subst eo47) | (go_at_call 21; (with_reducible refine (churnlaw12_same.calls kj15 _ _ t400 _ _ l1 true _ ?side1 ?side2 ?side3 ?side4 A35.out).mono ?_); (case side1 => repeat (first | exact (Kd.R_reads' HO_15.out).2.2 | (with_reducible refine Kd.C_alloc ?_ _) | (with_reducible refine Kd.C_drewN ?_ _) | (with_reducible refine Kd.C_drew ?_))); (case side2 => exact (Kd.R_reads' HO_15.out).2.1); (case side3 => repeat (first | exact (Kd.C_below HR1.out (by repeat (first | (with_reducible first | exact HB.out | apply below_alloc | apply pw_below_drewN | apply below_drew1) | exact HB.out))) | (with_reducible refine Kd.C_alloc ?_ _) | (with_reducible refine Kd.C_drewN ?_ _) | (with_reducible refine Kd.C_drew ?_))); (case side4 => exact HC1.out); rintro e w' ⟨rfl, ⟨nd, rfl⟩⟩) | (go_at_call 21; (with_reducible refine (churnlaw12_same.calls kj15 _ _ t383 _ _ t390 false _ ?side1 ?side2 ?side3 ?side4 A37.out).mono ?_); (case side1 => repeat (first | exact (Kd.R_reads' HO_8.out).2.2 | (with_reducible refine Kd.C_alloc ?_ _) | (with_reducible refine Kd.C_drewN ?_ _) | (with_reducible refine Kd.C_drew ?_))); (case side2 => exact (Kd.R_reads' HO_8.out).2.1); (case side3 => repeat (first | exact (Kd.R_reads' HO_11.out).2.2 | (with_reducible refine Kd.C_alloc ?_ _) | (with_reducible refine Kd.C_drewN ?_ _) | (with_reducible refine Kd.C_drew ?_))); (case side4 => exact (Kd.R_reads' HO_11.out).2.1); rintro e w' ⟨rfl, ⟨nd, rfl⟩⟩))
                          go_meet
                          case rel => exact ⟨_, (false), (by first | rfl | (simp; done) | (simp [*]; done)), H', ⟨by have := HJ7.out; have := HJ15.out; first | omega | exact Nat.le_refl _⟩, ⟨by (with_reducible repeat (first | apply Kd.R_alloc | apply Kd.R_drewN | apply Kd.R_drew)); exact HO_7.out⟩, ⟨by (with_reducible repeat (first | apply Kd.R_alloc | apply Kd.R_drewN | apply Kd.R_drew)); exact HO_8.out⟩, ⟨by (with_reducible repeat (first | apply Kd.R_alloc | apply Kd.R_drewN | apply Kd.R_drew)); exact HO_10.out⟩, ⟨by (with_reducible repeat (first | apply Kd.R_alloc | apply Kd.R_drewN | apply Kd.R_drew)); exact HO_11.out⟩, ⟨by (with_reducible repeat (first | apply Kd.R_alloc | apply Kd.R_drewN | apply Kd.R_drew)); exact HO_13.out⟩, ⟨by (with_reducible repeat (first | apply Kd.R_alloc | apply Kd.R_drewN | apply Kd.R_drew)); exact HO_15.out⟩, ⟨by repeat (first | (with_reducible first | exact HB.out | apply below_alloc | apply pw_below_drewN | apply below_drew1) | exact HB.out)⟩⟩
                      · replace c36 := Bool.eq_false_iff.mpr c36
                        subst c36
                        have H1 : (churnlaw12_BraidCarries.j2 kj15 t382 t383 t389 t390 t396 t400 true) = some r := by rw [if_neg (show ¬ (false = true) by decide)] at H; exact H
                        clear H
                        have H := H1
                        clear H1
                        have H' := Aside0.mk H
                        clear H
                        go_wp2_with (first | ((with_reducible refine gate_callee (f := 21) rfl ?_); refine goesL_ (some 75) rfl rfl Try.func21 (by kernel_rfl) rfl #[.slice Ao17 t382.length co17, .slice Ao20 t389.length co20] rfl (by (try simp only [List.map_toArray, List.map_cons, List.map_nil]); first | done | rfl | (simp only [List.length_drop, List.length_take]; rfl)) ?_; (with_reducible refine (churnlaw12_same.calls kj15 _ _ t382 _ _ t389 true _ ?side1 ?side2 ?side3 ?side4 A31.out).mono ?_); (case side1 => repeat (first | exact (Kd.R_reads' HO_7.out).2.2 | (with_reducible refine Kd.C_alloc ?_ _) | (with_reducible refine Kd.C_drewN ?_ _) | (with_reducible refine Kd.C_drew ?_))); (case side2 => exact (Kd.R_reads' HO_7.out).2.1); (case side3 => repeat (first | exact (Kd.R_reads' HO_10.out).2.2 | (with_reducible refine Kd.C_alloc ?_ _) | (with_reducible refine Kd.C_drewN ?_ _) | (with_reducible refine Kd.C_drew ?_))); (case side4 => exact (Kd.R_reads' HO_10.out).2.1); rintro e w' ⟨rfl, ⟨nd, rfl⟩⟩; refine ⟨_, rfl, ?_⟩; obtain ⟨Ao48, co48, eo48⟩ := Kd.R_slice HO_13.out; subst eo48) | (go_at_call 21; (with_reducible refine (churnlaw12_same.calls kj15 _ _ t396 _ _ l2 true _ ?side1 ?side2 ?side3 ?side4 A33.out).mono ?_); (case side1 => repeat (first | exact (Kd.R_reads' HO_13.out).2.2 | (with_reducible refine Kd.C_alloc ?_ _) | (with_reducible refine Kd.C_drewN ?_ _) | (with_reducible refine Kd.C_drew ?_))); (case side2 => exact (Kd.R_reads' HO_13.out).2.1); (case side3 => repeat (first | exact (Kd.C_below HR2.out (by repeat (first | (with_reducible first | exact HB.out | apply below_alloc | apply pw_below_drewN | apply below_drew1) | exact HB.out))) | (with_reducible refine Kd.C_alloc ?_ _) | (with_reducible refine Kd.C_drewN ?_ _) | (with_reducible refine Kd.C_drew ?_))); (case side4 => exact HC2.out); rintro e w' ⟨rfl, ⟨nd, rfl⟩⟩; obtain ⟨Ao49, co49, eo49⟩ := Kd.R_slice HO_15.out; subst eo49) | (go_at_call 21; (with_reducible refine (churnlaw12_same.calls kj15 _ _ t400 _ _ l1 false _ ?side1 ?side2 ?side3 ?side4 A35.out).mono ?_); (case side1 => repeat (first | exact (Kd.R_reads' HO_15.out).2.2 | (with_reducible refine Kd.C_alloc ?_ _) | (with_reducible refine Kd.C_drewN ?_ _) | (with_reducible refine Kd.C_drew ?_))); (case side2 => exact (Kd.R_reads' HO_15.out).2.1); (case side3 => repeat (first | exact (Kd.C_below HR1.out (by repeat (first | (with_reducible first | exact HB.out | apply below_alloc | apply pw_below_drewN | apply below_drew1) | exact HB.out))) | (with_reducible refine Kd.C_alloc ?_ _) | (with_reducible refine Kd.C_drewN ?_ _) | (with_reducible refine Kd.C_drew ?_))); (case side4 => exact HC1.out); rintro e w' ⟨rfl, ⟨nd, rfl⟩⟩))
                        go_meet
                        case rel => exact ⟨_, (true), (by first | rfl | (simp; done) | (simp [*]; done)), H', ⟨by have := HJ7.out; have := HJ15.out; first | omega | exact Nat.le_refl _⟩, ⟨by (with_reducible repeat (first | apply Kd.R_alloc | apply Kd.R_drewN | apply Kd.R_drew)); exact HO_7.out⟩, ⟨by (with_reducible repeat (first | apply Kd.R_alloc | apply Kd.R_drewN | apply Kd.R_drew)); exact HO_8.out⟩, ⟨by (with_reducible repeat (first | apply Kd.R_alloc | apply Kd.R_drewN | apply Kd.R_drew)); exact HO_10.out⟩, ⟨by (with_reducible repeat (first | apply Kd.R_alloc | apply Kd.R_drewN | apply Kd.R_drew)); exact HO_11.out⟩, ⟨by (with_reducible repeat (first | apply Kd.R_alloc | apply Kd.R_drewN | apply Kd.R_drew)); exact HO_13.out⟩, ⟨by (with_reducible repeat (first | apply Kd.R_alloc | apply Kd.R_drewN | apply Kd.R_drew)); exact HO_15.out⟩, ⟨by repeat (first | (with_reducible first | exact HB.out | apply below_alloc | apply pw_below_drewN | apply below_drew1) | exact HB.out)⟩⟩
                    · replace c34 := Bool.eq_false_iff.mpr c34
                      subst c34
                      have H1 : (churnlaw12_BraidCarries.j2 kj15 t382 t383 t389 t390 t396 t400 true) = some r := by rw [if_neg (show ¬ (false = true) by decide)] at H; exact H
                      clear H
                      have H := H1
                      clear H1
                      have H' := Aside0.mk H
                      clear H
                      go_wp2_with (first | ((with_reducible refine gate_callee (f := 21) rfl ?_); refine goesL_ (some 75) rfl rfl Try.func21 (by kernel_rfl) rfl #[.slice Ao17 t382.length co17, .slice Ao20 t389.length co20] rfl (by (try simp only [List.map_toArray, List.map_cons, List.map_nil]); first | done | rfl | (simp only [List.length_drop, List.length_take]; rfl)) ?_; (with_reducible refine (churnlaw12_same.calls kj15 _ _ t382 _ _ t389 true _ ?side1 ?side2 ?side3 ?side4 A31.out).mono ?_); (case side1 => repeat (first | exact (Kd.R_reads' HO_7.out).2.2 | (with_reducible refine Kd.C_alloc ?_ _) | (with_reducible refine Kd.C_drewN ?_ _) | (with_reducible refine Kd.C_drew ?_))); (case side2 => exact (Kd.R_reads' HO_7.out).2.1); (case side3 => repeat (first | exact (Kd.R_reads' HO_10.out).2.2 | (with_reducible refine Kd.C_alloc ?_ _) | (with_reducible refine Kd.C_drewN ?_ _) | (with_reducible refine Kd.C_drew ?_))); (case side4 => exact (Kd.R_reads' HO_10.out).2.1); rintro e w' ⟨rfl, ⟨nd, rfl⟩⟩; refine ⟨_, rfl, ?_⟩; obtain ⟨Ao50, co50, eo50⟩ := Kd.R_slice HO_13.out; subst eo50) | (go_at_call 21; (with_reducible refine (churnlaw12_same.calls kj15 _ _ t396 _ _ l2 false _ ?side1 ?side2 ?side3 ?side4 A33.out).mono ?_); (case side1 => repeat (first | exact (Kd.R_reads' HO_13.out).2.2 | (with_reducible refine Kd.C_alloc ?_ _) | (with_reducible refine Kd.C_drewN ?_ _) | (with_reducible refine Kd.C_drew ?_))); (case side2 => exact (Kd.R_reads' HO_13.out).2.1); (case side3 => repeat (first | exact (Kd.C_below HR2.out (by repeat (first | (with_reducible first | exact HB.out | apply below_alloc | apply pw_below_drewN | apply below_drew1) | exact HB.out))) | (with_reducible refine Kd.C_alloc ?_ _) | (with_reducible refine Kd.C_drewN ?_ _) | (with_reducible refine Kd.C_drew ?_))); (case side4 => exact HC2.out); rintro e w' ⟨rfl, ⟨nd, rfl⟩⟩))
                      go_meet
                      case rel => exact ⟨_, (true), (by first | rfl | (simp; done) | (simp [*]; done)), H', ⟨by have := HJ7.out; have := HJ15.out; first | omega | exact Nat.le_refl _⟩, ⟨by (with_reducible repeat (first | apply Kd.R_alloc | apply Kd.R_drewN | apply Kd.R_drew)); exact HO_7.out⟩, ⟨by (with_reducible repeat (first | apply Kd.R_alloc | apply Kd.R_drewN | apply Kd.R_drew)); exact HO_8.out⟩, ⟨by (with_reducible repeat (first | apply Kd.R_alloc | apply Kd.R_drewN | apply Kd.R_drew)); exact HO_10.out⟩, ⟨by (with_reducible repeat (first | apply Kd.R_alloc | apply Kd.R_drewN | apply Kd.R_drew)); exact HO_11.out⟩, ⟨by (with_reducible repeat (first | apply Kd.R_alloc | apply Kd.R_drewN | apply Kd.R_drew)); exact HO_13.out⟩, ⟨by (with_reducible repeat (first | apply Kd.R_alloc | apply Kd.R_drewN | apply Kd.R_drew)); exact HO_15.out⟩, ⟨by repeat (first | (with_reducible first | exact HB.out | apply below_alloc | apply pw_below_drewN | apply below_drew1) | exact HB.out)⟩⟩
                  · replace c32 := Bool.eq_false_iff.mpr c32
                    subst c32
                    have H1 : ((churnlaw12_same.f kj15 t383 t390).bind fun t410 => (if t410 = true then ((churnlaw12_same.f kj15 t396 l1).bind fun t411 => (if t411 = true then ((churnlaw12_same.f kj15 t400 l2).bind fun t412 => (churnlaw12_BraidCarries.j2 kj15 t382 t383 t389 t390 t396 t400 (!t412))) else (churnlaw12_BraidCarries.j2 kj15 t382 t383 t389 t390 t396 t400 true))) else (churnlaw12_BraidCarries.j2 kj15 t382 t383 t389 t390 t396 t400 false))) = some r := by rw [if_neg (show ¬ (false = true) by decide)] at H; exact H
                    clear H
                    have H := H1
                    clear H1
                    replace H := Option.bind_eq_some_iff.mp H
                    obtain ⟨t410, A510, H⟩ := H
                    replace H : (if t410 = true then ((churnlaw12_same.f kj15 t396 l1).bind fun t411 => (if t411 = true then ((churnlaw12_same.f kj15 t400 l2).bind fun t412 => (churnlaw12_BraidCarries.j2 kj15 t382 t383 t389 t390 t396 t400 (!t412))) else (churnlaw12_BraidCarries.j2 kj15 t382 t383 t389 t390 t396 t400 true))) else (churnlaw12_BraidCarries.j2 kj15 t382 t383 t389 t390 t396 t400 false)) = some r := H
                    have A51 := Aside0.mk A510
                    clear A510
                    by_cases c52 : t410 = true
                    · subst c52
                      have H1 : ((churnlaw12_same.f kj15 t396 l1).bind fun t411 => (if t411 = true then ((churnlaw12_same.f kj15 t400 l2).bind fun t412 => (churnlaw12_BraidCarries.j2 kj15 t382 t383 t389 t390 t396 t400 (!t412))) else (churnlaw12_BraidCarries.j2 kj15 t382 t383 t389 t390 t396 t400 true))) = some r := by rw [if_pos rfl] at H; exact H
                      clear H
                      have H := H1
                      clear H1
                      replace H := Option.bind_eq_some_iff.mp H
                      obtain ⟨t411, A530, H⟩ := H
                      replace H : (if t411 = true then ((churnlaw12_same.f kj15 t400 l2).bind fun t412 => (churnlaw12_BraidCarries.j2 kj15 t382 t383 t389 t390 t396 t400 (!t412))) else (churnlaw12_BraidCarries.j2 kj15 t382 t383 t389 t390 t396 t400 true)) = some r := H
                      have A53 := Aside0.mk A530
                      clear A530
                      by_cases c54 : t411 = true
                      · subst c54
                        have H1 : ((churnlaw12_same.f kj15 t400 l2).bind fun t412 => (churnlaw12_BraidCarries.j2 kj15 t382 t383 t389 t390 t396 t400 (!t412))) = some r := by rw [if_pos rfl] at H; exact H
                        clear H
                        have H := H1
                        clear H1
                        replace H := Option.bind_eq_some_iff.mp H
                        obtain ⟨t412, A550, H⟩ := H
                        replace H : (churnlaw12_BraidCarries.j2 kj15 t382 t383 t389 t390 t396 t400 (!t412)) = some r := H
                        have A55 := Aside0.mk A550
                        clear A550
                        have H' := Aside0.mk H
                        clear H
                        go_wp2_with (first | ((with_reducible refine gate_callee (f := 21) rfl ?_); refine goesL_ (some 75) rfl rfl Try.func21 (by kernel_rfl) rfl #[.slice Ao17 t382.length co17, .slice Ao20 t389.length co20] rfl (by (try simp only [List.map_toArray, List.map_cons, List.map_nil]); first | done | rfl | (simp only [List.length_drop, List.length_take]; rfl)) ?_; (with_reducible refine (churnlaw12_same.calls kj15 _ _ t382 _ _ t389 false _ ?side1 ?side2 ?side3 ?side4 A31.out).mono ?_); (case side1 => repeat (first | exact (Kd.R_reads' HO_7.out).2.2 | (with_reducible refine Kd.C_alloc ?_ _) | (with_reducible refine Kd.C_drewN ?_ _) | (with_reducible refine Kd.C_drew ?_))); (case side2 => exact (Kd.R_reads' HO_7.out).2.1); (case side3 => repeat (first | exact (Kd.R_reads' HO_10.out).2.2 | (with_reducible refine Kd.C_alloc ?_ _) | (with_reducible refine Kd.C_drewN ?_ _) | (with_reducible refine Kd.C_drew ?_))); (case side4 => exact (Kd.R_reads' HO_10.out).2.1); rintro e w' ⟨rfl, ⟨nd, rfl⟩⟩; refine ⟨_, rfl, ?_⟩) | (go_at_call 21; (with_reducible refine (churnlaw12_same.calls kj15 _ _ t383 _ _ t390 true _ ?side1 ?side2 ?side3 ?side4 A51.out).mono ?_); (case side1 => repeat (first | exact (Kd.R_reads' HO_8.out).2.2 | (with_reducible refine Kd.C_alloc ?_ _) | (with_reducible refine Kd.C_drewN ?_ _) | (with_reducible refine Kd.C_drew ?_))); (case side2 => exact (Kd.R_reads' HO_8.out).2.1); (case side3 => repeat (first | exact (Kd.R_reads' HO_11.out).2.2 | (with_reducible refine Kd.C_alloc ?_ _) | (with_reducible refine Kd.C_drewN ?_ _) | (with_reducible refine Kd.C_drew ?_))); (case side4 => exact (Kd.R_reads' HO_11.out).2.1); rintro e w' ⟨rfl, ⟨nd, rfl⟩⟩; obtain ⟨Ao56, co56, eo56⟩ := Kd.R_slice HO_13.out; subst eo56) | (go_at_call 21; (with_reducible refine (churnlaw12_same.calls kj15 _ _ t396 _ _ l1 true _ ?side1 ?side2 ?side3 ?side4 A53.out).mono ?_); (case side1 => repeat (first | exact (Kd.R_reads' HO_13.out).2.2 | (with_reducible refine Kd.C_alloc ?_ _) | (with_reducible refine Kd.C_drewN ?_ _) | (with_reducible refine Kd.C_drew ?_))); (case side2 => exact (Kd.R_reads' HO_13.out).2.1); (case side3 => repeat (first | exact (Kd.C_below HR1.out (by repeat (first | (with_reducible first | exact HB.out | apply below_alloc | apply pw_below_drewN | apply below_drew1) | exact HB.out))) | (with_reducible refine Kd.C_alloc ?_ _) | (with_reducible refine Kd.C_drewN ?_ _) | (with_reducible refine Kd.C_drew ?_))); (case side4 => exact HC1.out); rintro e w' ⟨rfl, ⟨nd, rfl⟩⟩; obtain ⟨Ao57, co57, eo57⟩ := Kd.R_slice HO_15.out; subst eo57) | (go_at_call 21; (with_reducible refine (churnlaw12_same.calls kj15 _ _ t400 _ _ l2 t412 _ ?side1 ?side2 ?side3 ?side4 A55.out).mono ?_); (case side1 => repeat (first | exact (Kd.R_reads' HO_15.out).2.2 | (with_reducible refine Kd.C_alloc ?_ _) | (with_reducible refine Kd.C_drewN ?_ _) | (with_reducible refine Kd.C_drew ?_))); (case side2 => exact (Kd.R_reads' HO_15.out).2.1); (case side3 => repeat (first | exact (Kd.C_below HR2.out (by repeat (first | (with_reducible first | exact HB.out | apply below_alloc | apply pw_below_drewN | apply below_drew1) | exact HB.out))) | (with_reducible refine Kd.C_alloc ?_ _) | (with_reducible refine Kd.C_drewN ?_ _) | (with_reducible refine Kd.C_drew ?_))); (case side4 => exact HC2.out); rintro e w' ⟨rfl, ⟨nd, rfl⟩⟩))
                        go_meet
                        case rel => exact ⟨_, (!t412), (by first | rfl | (simp; done) | (simp [*]; done)), H', ⟨by have := HJ7.out; have := HJ15.out; first | omega | exact Nat.le_refl _⟩, ⟨by (with_reducible repeat (first | apply Kd.R_alloc | apply Kd.R_drewN | apply Kd.R_drew)); exact HO_7.out⟩, ⟨by (with_reducible repeat (first | apply Kd.R_alloc | apply Kd.R_drewN | apply Kd.R_drew)); exact HO_8.out⟩, ⟨by (with_reducible repeat (first | apply Kd.R_alloc | apply Kd.R_drewN | apply Kd.R_drew)); exact HO_10.out⟩, ⟨by (with_reducible repeat (first | apply Kd.R_alloc | apply Kd.R_drewN | apply Kd.R_drew)); exact HO_11.out⟩, ⟨by (with_reducible repeat (first | apply Kd.R_alloc | apply Kd.R_drewN | apply Kd.R_drew)); exact HO_13.out⟩, ⟨by (with_reducible repeat (first | apply Kd.R_alloc | apply Kd.R_drewN | apply Kd.R_drew)); exact HO_15.out⟩, ⟨by repeat (first | (with_reducible first | exact HB.out | apply below_alloc | apply pw_below_drewN | apply below_drew1) | exact HB.out)⟩⟩
                      · replace c54 := Bool.eq_false_iff.mpr c54
                        subst c54
                        have H1 : (churnlaw12_BraidCarries.j2 kj15 t382 t383 t389 t390 t396 t400 true) = some r := by rw [if_neg (show ¬ (false = true) by decide)] at H; exact H
                        clear H
                        have H := H1
                        clear H1
                        have H' := Aside0.mk H
                        clear H
                        go_wp2_with (first | ((with_reducible refine gate_callee (f := 21) rfl ?_); refine goesL_ (some 75) rfl rfl Try.func21 (by kernel_rfl) rfl #[.slice Ao17 t382.length co17, .slice Ao20 t389.length co20] rfl (by (try simp only [List.map_toArray, List.map_cons, List.map_nil]); first | done | rfl | (simp only [List.length_drop, List.length_take]; rfl)) ?_; (with_reducible refine (churnlaw12_same.calls kj15 _ _ t382 _ _ t389 false _ ?side1 ?side2 ?side3 ?side4 A31.out).mono ?_); (case side1 => repeat (first | exact (Kd.R_reads' HO_7.out).2.2 | (with_reducible refine Kd.C_alloc ?_ _) | (with_reducible refine Kd.C_drewN ?_ _) | (with_reducible refine Kd.C_drew ?_))); (case side2 => exact (Kd.R_reads' HO_7.out).2.1); (case side3 => repeat (first | exact (Kd.R_reads' HO_10.out).2.2 | (with_reducible refine Kd.C_alloc ?_ _) | (with_reducible refine Kd.C_drewN ?_ _) | (with_reducible refine Kd.C_drew ?_))); (case side4 => exact (Kd.R_reads' HO_10.out).2.1); rintro e w' ⟨rfl, ⟨nd, rfl⟩⟩; refine ⟨_, rfl, ?_⟩) | (go_at_call 21; (with_reducible refine (churnlaw12_same.calls kj15 _ _ t383 _ _ t390 true _ ?side1 ?side2 ?side3 ?side4 A51.out).mono ?_); (case side1 => repeat (first | exact (Kd.R_reads' HO_8.out).2.2 | (with_reducible refine Kd.C_alloc ?_ _) | (with_reducible refine Kd.C_drewN ?_ _) | (with_reducible refine Kd.C_drew ?_))); (case side2 => exact (Kd.R_reads' HO_8.out).2.1); (case side3 => repeat (first | exact (Kd.R_reads' HO_11.out).2.2 | (with_reducible refine Kd.C_alloc ?_ _) | (with_reducible refine Kd.C_drewN ?_ _) | (with_reducible refine Kd.C_drew ?_))); (case side4 => exact (Kd.R_reads' HO_11.out).2.1); rintro e w' ⟨rfl, ⟨nd, rfl⟩⟩; obtain ⟨Ao58, co58, eo58⟩ := Kd.R_slice HO_13.out; subst eo58) | (go_at_call 21; (with_reducible refine (churnlaw12_same.calls kj15 _ _ t396 _ _ l1 false _ ?side1 ?side2 ?side3 ?side4 A53.out).mono ?_); (case side1 => repeat (first | exact (Kd.R_reads' HO_13.out).2.2 | (with_reducible refine Kd.C_alloc ?_ _) | (with_reducible refine Kd.C_drewN ?_ _) | (with_reducible refine Kd.C_drew ?_))); (case side2 => exact (Kd.R_reads' HO_13.out).2.1); (case side3 => repeat (first | exact (Kd.C_below HR1.out (by repeat (first | (with_reducible first | exact HB.out | apply below_alloc | apply pw_below_drewN | apply below_drew1) | exact HB.out))) | (with_reducible refine Kd.C_alloc ?_ _) | (with_reducible refine Kd.C_drewN ?_ _) | (with_reducible refine Kd.C_drew ?_))); (case side4 => exact HC1.out); rintro e w' ⟨rfl, ⟨nd, rfl⟩⟩))
                        go_meet
                        case rel => exact ⟨_, (true), (by first | rfl | (simp; done) | (simp [*]; done)), H', ⟨by have := HJ7.out; have := HJ15.out; first | omega | exact Nat.le_refl _⟩, ⟨by (with_reducible repeat (first | apply Kd.R_alloc | apply Kd.R_drewN | apply Kd.R_drew)); exact HO_7.out⟩, ⟨by (with_reducible repeat (first | apply Kd.R_alloc | apply Kd.R_drewN | apply Kd.R_drew)); exact HO_8.out⟩, ⟨by (with_reducible repeat (first | apply Kd.R_alloc | apply Kd.R_drewN | apply Kd.R_drew)); exact HO_10.out⟩, ⟨by (with_reducible repeat (first | apply Kd.R_alloc | apply Kd.R_drewN | apply Kd.R_drew)); exact HO_11.out⟩, ⟨by (with_reducible repeat (first | apply Kd.R_alloc | apply Kd.R_drewN | apply Kd.R_drew)); exact HO_13.out⟩, ⟨by (with_reducible repeat (first | apply Kd.R_alloc | apply Kd.R_drewN | apply Kd.R_drew)); exact HO_15.out⟩, ⟨by repeat (first | (with_reducible first | exact HB.out | apply below_alloc | apply pw_below_drewN | apply below_drew1) | exact HB.out)⟩⟩
                    · replace c52 := Bool.eq_false_iff.mpr c52
                      subst c52
                      have H1 : (churnlaw12_BraidCarries.j2 kj15 t382 t383 t389 t390 t396 t400 false) = some r := by rw [if_neg (show ¬ (false = true) by decide)] at H; exact H
                      clear H
                      have H := H1
                      clear H1
                      have H' := Aside0.mk H
                      clear H
                      go_wp2_with (first | ((with_reducible refine gate_callee (f := 21) rfl ?_); refine goesL_ (some 75) rfl rfl Try.func21 (by kernel_rfl) rfl #[.slice Ao17 t382.length co17, .slice Ao20 t389.length co20] rfl (by (try simp only [List.map_toArray, List.map_cons, List.map_nil]); first | done | rfl | (simp only [List.length_drop, List.length_take]; rfl)) ?_; (with_reducible refine (churnlaw12_same.calls kj15 _ _ t382 _ _ t389 false _ ?side1 ?side2 ?side3 ?side4 A31.out).mono ?_); (case side1 => repeat (first | exact (Kd.R_reads' HO_7.out).2.2 | (with_reducible refine Kd.C_alloc ?_ _) | (with_reducible refine Kd.C_drewN ?_ _) | (with_reducible refine Kd.C_drew ?_))); (case side2 => exact (Kd.R_reads' HO_7.out).2.1); (case side3 => repeat (first | exact (Kd.R_reads' HO_10.out).2.2 | (with_reducible refine Kd.C_alloc ?_ _) | (with_reducible refine Kd.C_drewN ?_ _) | (with_reducible refine Kd.C_drew ?_))); (case side4 => exact (Kd.R_reads' HO_10.out).2.1); rintro e w' ⟨rfl, ⟨nd, rfl⟩⟩; refine ⟨_, rfl, ?_⟩) | (go_at_call 21; (with_reducible refine (churnlaw12_same.calls kj15 _ _ t383 _ _ t390 false _ ?side1 ?side2 ?side3 ?side4 A51.out).mono ?_); (case side1 => repeat (first | exact (Kd.R_reads' HO_8.out).2.2 | (with_reducible refine Kd.C_alloc ?_ _) | (with_reducible refine Kd.C_drewN ?_ _) | (with_reducible refine Kd.C_drew ?_))); (case side2 => exact (Kd.R_reads' HO_8.out).2.1); (case side3 => repeat (first | exact (Kd.R_reads' HO_11.out).2.2 | (with_reducible refine Kd.C_alloc ?_ _) | (with_reducible refine Kd.C_drewN ?_ _) | (with_reducible refine Kd.C_drew ?_))); (case side4 => exact (Kd.R_reads' HO_11.out).2.1); rintro e w' ⟨rfl, ⟨nd, rfl⟩⟩))
                      go_meet
                      case rel => exact ⟨_, (false), (by first | rfl | (simp; done) | (simp [*]; done)), H', ⟨by have := HJ7.out; have := HJ15.out; first | omega | exact Nat.le_refl _⟩, ⟨by (with_reducible repeat (first | apply Kd.R_alloc | apply Kd.R_drewN | apply Kd.R_drew)); exact HO_7.out⟩, ⟨by (with_reducible repeat (first | apply Kd.R_alloc | apply Kd.R_drewN | apply Kd.R_drew)); exact HO_8.out⟩, ⟨by (with_reducible repeat (first | apply Kd.R_alloc | apply Kd.R_drewN | apply Kd.R_drew)); exact HO_10.out⟩, ⟨by (with_reducible repeat (first | apply Kd.R_alloc | apply Kd.R_drewN | apply Kd.R_drew)); exact HO_11.out⟩, ⟨by (with_reducible repeat (first | apply Kd.R_alloc | apply Kd.R_drewN | apply Kd.R_drew)); exact HO_13.out⟩, ⟨by (with_reducible repeat (first | apply Kd.R_alloc | apply Kd.R_drewN | apply Kd.R_drew)); exact HO_15.out⟩, ⟨by repeat (first | (with_reducible first | exact HB.out | apply below_alloc | apply pw_below_drewN | apply below_drew1) | exact HB.out)⟩⟩
                case rest =>
                  clear HC30
                  try clear c1
                  try clear c2
                  try clear p2
                  try clear c3
                  try clear c4
                  try clear c5
                  try clear c7
                  try clear c12
                  try clear c12b0
                  try clear c12b1
                  try clear c13
                  try clear c16
                  try clear c21
                  try clear c23
                  try clear c23b0
                  try clear c23b1
                  try clear c24
                  try clear c24b0
                  try clear c24b1
                  try clear c25
                  try clear c25b0
                  try clear c25b1
                  try clear c25b2
                  try clear c26
                  try clear c29
                  try clear c32
                  try clear c34
                  try clear c36
                  try clear c38
                  try clear c40
                  try clear c52
                  try clear c54
                  try clear p2
                  obtain ⟨kq, x104_29, rfl, HA, HJ29, HO_7, HO_8, HO_10, HO_11, HO_13, HO_15, HB⟩ := hcut
                  cases kq with
                  | zero => exact absurd HA.out (by simp [churnlaw12_BraidCarries.j2])
                  | succ kj29 =>
                    have H := HA.out
                    clear HA
                    simp only [churnlaw12_BraidCarries.j2] at H
                    by_cases c59 : x104_29 = true
                    · subst c59
                      have H1 : (some false) = some r := by rw [if_pos rfl] at H; exact H
                      clear H
                      have H := H1
                      clear H1
                      obtain rfl := Option.some.inj H
                      go_wp2
                      go_ret
                      exact ⟨by first | rfl | (simp [errW_none, errW_some] <;> rfl) | (simp [*, errW_none, errW_some] <;> rfl), by repeat (first | (with_reducible first | exact HB.out | apply below_alloc | apply pw_below_drewN | apply below_drew1) | exact HB.out)⟩
                    · replace c59 := Bool.eq_false_iff.mpr c59
                      subst c59
                      have H1 : ((churnlaw12_same.f kj29 t396 t400).bind fun t413 => ((churnlaw12_same.f kj29 t382 t389).bind fun t414 => (if t414 = true then ((churnlaw12_same.f kj29 t383 t390).bind fun t415 => (some (t413 == t415))) else (some (t413 == false))))) = some r := by rw [if_neg (show ¬ (false = true) by decide)] at H; exact H
                      clear H
                      have H := H1
                      clear H1
                      replace H := Option.bind_eq_some_iff.mp H
                      obtain ⟨t413, A600, H⟩ := H
                      replace H : ((churnlaw12_same.f kj29 t382 t389).bind fun t414 => (if t414 = true then ((churnlaw12_same.f kj29 t383 t390).bind fun t415 => (some (t413 == t415))) else (some (t413 == false)))) = some r := H
                      have A60 := Aside0.mk A600
                      clear A600
                      replace H := Option.bind_eq_some_iff.mp H
                      obtain ⟨t414, A610, H⟩ := H
                      replace H : (if t414 = true then ((churnlaw12_same.f kj29 t383 t390).bind fun t415 => (some (t413 == t415))) else (some (t413 == false))) = some r := H
                      have A61 := Aside0.mk A610
                      clear A610
                      by_cases c62 : t414 = true
                      · subst c62
                        have H1 : ((churnlaw12_same.f kj29 t383 t390).bind fun t415 => (some (t413 == t415))) = some r := by rw [if_pos rfl] at H; exact H
                        clear H
                        have H := H1
                        clear H1
                        replace H := Option.bind_eq_some_iff.mp H
                        obtain ⟨t415, A630, H⟩ := H
                        replace H : (some (t413 == t415)) = some r := H
                        have A63 := Aside0.mk A630
                        clear A630
                        obtain rfl := Option.some.inj H
                        obtain ⟨Ao64, co64, eo64⟩ := Kd.R_slice HO_13.out
                        subst eo64
                        obtain ⟨Ao65, co65, eo65⟩ := Kd.R_slice HO_15.out
                        subst eo65
                        go_wp2_with (first | ((with_reducible refine gate_callee (f := 21) rfl ?_); refine goesL_ (some 107) rfl rfl Try.func21 (by kernel_rfl) rfl #[.slice Ao64 t396.length co64, .slice Ao65 t400.length co65] rfl (by (try simp only [List.map_toArray, List.map_cons, List.map_nil]); first | done | rfl | (simp only [List.length_drop, List.length_take]; rfl)) ?_; (with_reducible refine (churnlaw12_same.calls kj29 _ _ t396 _ _ t400 t413 _ ?side1 ?side2 ?side3 ?side4 A60.out).mono ?_); (case side1 => repeat (first | exact (Kd.R_reads' HO_13.out).2.2 | (with_reducible refine Kd.C_alloc ?_ _) | (with_reducible refine Kd.C_drewN ?_ _) | (with_reducible refine Kd.C_drew ?_))); (case side2 => exact (Kd.R_reads' HO_13.out).2.1); (case side3 => repeat (first | exact (Kd.R_reads' HO_15.out).2.2 | (with_reducible refine Kd.C_alloc ?_ _) | (with_reducible refine Kd.C_drewN ?_ _) | (with_reducible refine Kd.C_drew ?_))); (case side4 => exact (Kd.R_reads' HO_15.out).2.1); rintro e w' ⟨rfl, ⟨nd, rfl⟩⟩; refine ⟨_, rfl, ?_⟩) | ((with_reducible refine gate_callee (f := 21) rfl ?_); refine goesL_ (some 110) rfl rfl Try.func21 (by kernel_rfl) rfl #[.slice Ao17 t382.length co17, .slice Ao20 t389.length co20] rfl (by (try simp only [List.map_toArray, List.map_cons, List.map_nil]); first | done | rfl | (simp only [List.length_drop, List.length_take]; rfl)) ?_; (with_reducible refine (churnlaw12_same.calls kj29 _ _ t382 _ _ t389 true _ ?side1 ?side2 ?side3 ?side4 A61.out).mono ?_); (case side1 => repeat (first | exact (Kd.R_reads' HO_7.out).2.2 | (with_reducible refine Kd.C_alloc ?_ _) | (with_reducible refine Kd.C_drewN ?_ _) | (with_reducible refine Kd.C_drew ?_))); (case side2 => exact (Kd.R_reads' HO_7.out).2.1); (case side3 => repeat (first | exact (Kd.R_reads' HO_10.out).2.2 | (with_reducible refine Kd.C_alloc ?_ _) | (with_reducible refine Kd.C_drewN ?_ _) | (with_reducible refine Kd.C_drew ?_))); (case side4 => exact (Kd.R_reads' HO_10.out).2.1); rintro e w' ⟨rfl, ⟨nd, rfl⟩⟩; refine ⟨_, rfl, ?_⟩) | (go_at_call 21; (with_reducible refine (churnlaw12_same.calls kj29 _ _ t383 _ _ t390 t415 _ ?side1 ?side2 ?side3 ?side4 A63.out).mono ?_); (case side1 => repeat (first | exact (Kd.R_reads' HO_8.out).2.2 | (with_reducible refine Kd.C_alloc ?_ _) | (with_reducible refine Kd.C_drewN ?_ _) | (with_reducible refine Kd.C_drew ?_))); (case side2 => exact (Kd.R_reads' HO_8.out).2.1); (case side3 => repeat (first | exact (Kd.R_reads' HO_11.out).2.2 | (with_reducible refine Kd.C_alloc ?_ _) | (with_reducible refine Kd.C_drewN ?_ _) | (with_reducible refine Kd.C_drew ?_))); (case side4 => exact (Kd.R_reads' HO_11.out).2.1); rintro e w' ⟨rfl, ⟨nd, rfl⟩⟩))
                        go_ret
                        exact ⟨by first | rfl | (simp [errW_none, errW_some] <;> rfl) | (simp [*, errW_none, errW_some] <;> rfl), by repeat (first | (with_reducible first | exact HB.out | apply below_alloc | apply pw_below_drewN | apply below_drew1) | exact HB.out)⟩
                      · replace c62 := Bool.eq_false_iff.mpr c62
                        subst c62
                        have H1 : (some (t413 == false)) = some r := by rw [if_neg (show ¬ (false = true) by decide)] at H; exact H
                        clear H
                        have H := H1
                        clear H1
                        obtain rfl := Option.some.inj H
                        obtain ⟨Ao66, co66, eo66⟩ := Kd.R_slice HO_13.out
                        subst eo66
                        obtain ⟨Ao67, co67, eo67⟩ := Kd.R_slice HO_15.out
                        subst eo67
                        go_wp2_with (first | ((with_reducible refine gate_callee (f := 21) rfl ?_); refine goesL_ (some 107) rfl rfl Try.func21 (by kernel_rfl) rfl #[.slice Ao66 t396.length co66, .slice Ao67 t400.length co67] rfl (by (try simp only [List.map_toArray, List.map_cons, List.map_nil]); first | done | rfl | (simp only [List.length_drop, List.length_take]; rfl)) ?_; (with_reducible refine (churnlaw12_same.calls kj29 _ _ t396 _ _ t400 t413 _ ?side1 ?side2 ?side3 ?side4 A60.out).mono ?_); (case side1 => repeat (first | exact (Kd.R_reads' HO_13.out).2.2 | (with_reducible refine Kd.C_alloc ?_ _) | (with_reducible refine Kd.C_drewN ?_ _) | (with_reducible refine Kd.C_drew ?_))); (case side2 => exact (Kd.R_reads' HO_13.out).2.1); (case side3 => repeat (first | exact (Kd.R_reads' HO_15.out).2.2 | (with_reducible refine Kd.C_alloc ?_ _) | (with_reducible refine Kd.C_drewN ?_ _) | (with_reducible refine Kd.C_drew ?_))); (case side4 => exact (Kd.R_reads' HO_15.out).2.1); rintro e w' ⟨rfl, ⟨nd, rfl⟩⟩; refine ⟨_, rfl, ?_⟩) | ((with_reducible refine gate_callee (f := 21) rfl ?_); refine goesL_ (some 110) rfl rfl Try.func21 (by kernel_rfl) rfl #[.slice Ao17 t382.length co17, .slice Ao20 t389.length co20] rfl (by (try simp only [List.map_toArray, List.map_cons, List.map_nil]); first | done | rfl | (simp only [List.length_drop, List.length_take]; rfl)) ?_; (with_reducible refine (churnlaw12_same.calls kj29 _ _ t382 _ _ t389 false _ ?side1 ?side2 ?side3 ?side4 A61.out).mono ?_); (case side1 => repeat (first | exact (Kd.R_reads' HO_7.out).2.2 | (with_reducible refine Kd.C_alloc ?_ _) | (with_reducible refine Kd.C_drewN ?_ _) | (with_reducible refine Kd.C_drew ?_))); (case side2 => exact (Kd.R_reads' HO_7.out).2.1); (case side3 => repeat (first | exact (Kd.R_reads' HO_10.out).2.2 | (with_reducible refine Kd.C_alloc ?_ _) | (with_reducible refine Kd.C_drewN ?_ _) | (with_reducible refine Kd.C_drew ?_))); (case side4 => exact (Kd.R_reads' HO_10.out).2.1); rintro e w' ⟨rfl, ⟨nd, rfl⟩⟩; refine ⟨_, rfl, ?_⟩))
                        go_ret
                        exact ⟨by first | rfl | (simp [errW_none, errW_some] <;> rfl) | (simp [*, errW_none, errW_some] <;> rfl), by repeat (first | (with_reducible first | exact HB.out | apply below_alloc | apply pw_below_drewN | apply below_drew1) | exact HB.out)⟩
  · replace c5 := Bool.eq_false_iff.mpr c5
    subst c5
    have H1 : (some false) = some r := by rw [if_neg (show ¬ (false = true) by decide)] at H; exact H
    clear H
    have H := H1
    clear H1
    obtain rfl := Option.some.inj H
    go_enter Try.func7, Try.ntmps7
    go_wp2_with (first | ((with_reducible refine gate_callee (f := 16) rfl ?_); refine goesL_ (some 17) rfl rfl Try.func16 (by kernel_rfl) rfl #[] rfl (by (try simp only [List.map_toArray, List.map_cons, List.map_nil]); first | done | rfl | (simp only [List.length_drop, List.length_take]; rfl)) ?_; (with_reducible refine (churnlaw12_awake.calls k  false _ A4.out).mono ?_); rintro e w68 ⟨rfl, hb⟩; refine ⟨_, rfl, ?_⟩; have n0_ := Aside0.mk (below_step (by repeat (first | (with_reducible first | exact HB.out | apply below_alloc | apply pw_below_drewN | apply below_drew1) | exact HB.out)) hb); clear HB; have HB := n0_; clear n0_; (try clear hb); (try clear hb2); (try clear hk); (try clear hi)))
    go_ret
    exact ⟨by first | rfl | (simp [errW_none, errW_some] <;> rfl) | (simp [*, errW_none, errW_some] <;> rfl), by repeat (first | (with_reducible first | exact HB.out | apply below_alloc | apply pw_below_drewN | apply below_drew1) | exact HB.out)⟩

/-- THE ONE PURE STATEMENT of churnlaw12_BraidCarries: yours. -/
def churnlaw12_BraidCarries.Pure : Prop := ∀ (l0 : List Int) (l1 : List Int) (l2 : List Int), l0.length ≤ maxLen → l0.length * 8 ≤ 140737488351232 → (∀ x ∈ l0, (Lit.int .i64 x).wf = true) → l1.length ≤ maxLen → l1.length * 8 ≤ 140737488351232 → (∀ x ∈ l1, (Lit.int .i64 x).wf = true) → l2.length ≤ maxLen → l2.length * 8 ≤ 140737488351232 → (∀ x ∈ l2, (Lit.int .i64 x).wf = true) → ∃ k, churnlaw12_BraidCarries.f k l0 l1 l2 = some true
theorem churnlaw12_BraidCarries.walk (P : churnlaw12_BraidCarries.Pure) (a0 : Option Addr) (len0 cap0 : Nat) (z0 : List Int) (a1 : Option Addr) (len1 cap1 : Nat) (z1 : List Int) (a2 : Option Addr) (len2 cap2 : Nat) (z2 : List Int) (w : World) (w0 : (a0 = none ∧ len0 = 0 ∧ cap0 = 0 ∧ z0 = []) ∨ ∃ x, a0 = some x ∧ len0 ≤ cap0 ∧ cap0 ≤ maxLen ∧ z0.length = cap0 ∧ (∀ i, i < z0.length → w.cell? (x.add i) = some (.int .i64 (z0.getD i 0))) ∧ ∀ n ∈ z0, (Lit.int .i64 n).wf = true) (y0 : len0 * 8 ≤ 140737488351232) (w1 : (a1 = none ∧ len1 = 0 ∧ cap1 = 0 ∧ z1 = []) ∨ ∃ x, a1 = some x ∧ len1 ≤ cap1 ∧ cap1 ≤ maxLen ∧ z1.length = cap1 ∧ (∀ i, i < z1.length → w.cell? (x.add i) = some (.int .i64 (z1.getD i 0))) ∧ ∀ n ∈ z1, (Lit.int .i64 n).wf = true) (y1 : len1 * 8 ≤ 140737488351232) (w2 : (a2 = none ∧ len2 = 0 ∧ cap2 = 0 ∧ z2 = []) ∨ ∃ x, a2 = some x ∧ len2 ≤ cap2 ∧ cap2 ≤ maxLen ∧ z2.length = cap2 ∧ (∀ i, i < z2.length → w.cell? (x.add i) = some (.int .i64 (z2.getD i 0))) ∧ ∀ n ∈ z2, (Lit.int .i64 n).wf = true) (y2 : len2 * 8 ≤ 140737488351232) :
    Calls Try.prog 7 #[.slice a0 len0 cap0, .slice a1 len1 cap1, .slice a2 len2 cap2] w fun e w' => e = .returned (.bool true) ∧ Below w.heap.size w w' := by
  obtain ⟨l0, rfl, hr0, hm0, hw0, hc0⟩ := ReadsInt.ofRowC w0
  obtain ⟨l1, rfl, hr1, hm1, hw1, hc1⟩ := ReadsInt.ofRowC w1
  obtain ⟨l2, rfl, hr2, hm2, hw2, hc2⟩ := ReadsInt.ofRowC w2
  obtain ⟨k, h⟩ := P l0 l1 l2 hm0 y0 hw0 hm1 y1 hw1 hm2 y2 hw2
  refine (churnlaw12_BraidCarries.calls k _ _ l0 _ _ l1 _ _ l2 true w (Kd.C_of_reads (d := (0 : Int)) (h1 := fun _ => rfl) hr0) hc0 (Kd.C_of_reads (d := (0 : Int)) (h1 := fun _ => rfl) hr1) hc1 (Kd.C_of_reads (d := (0 : Int)) (h1 := fun _ => rfl) hr2) hc2 h).mono ?_
  rintro e w' ⟨rfl, hd⟩
  exact ⟨rfl, hd⟩

end Go.Proofs.Ytiefmocfgneldaa.Q
