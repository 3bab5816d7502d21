/- Functions of the program as plain Lean functions, each with a proof that its call comes to just these answers, or the row that joins them to the given statement; no condition beside the statement's own. Written for this claim by pf.py, this session's program over the kit's print. -/
import Derived.Test.YtiefmocfgneldaaQx0
import Derived.Test.YtiefmocfgneldaaQx7
namespace Go.Proofs.Ytiefmocfgneldaa.Q
open Go.RowKit Go.Proofs.YtiefmocfgneldaaW.PrintWords Go.Proofs.YtiefmocfgneldaaW.PrintLast Go.Proofs.YtiefmocfgneldaaW.PrintMore
attribute [local go_sem] max2_int min2_int max_two min_two max_three min_three max_four min_four   -- for this text's walks alone
set_option linter.unusedVariables false
set_option linter.unusedSimpArgs false

/-! ### braid_Draws: function 26 -/
mutual
def braid_Draws.j0 : Nat → List Int → List Int → List Int → Int → Bool → Option (List Int × Int)
  | 0, _, _, _, _, _ => none
  | k + 1, x0, x1, x2, x8, x37 => if x37 = true then (some (([] : List Int), 2)) else ((some (([] : List Int) : List Int)).bind fun y290 => (if y290.length + x0.length < 17592186044416 then (if 0 ≤ (x0.length : Int) then (if ((x0.length : Int) : Int).toNat ≤ 35184372088832 then (braid_Draws.l0 k x0 x1 x2 x8 (y290 ++ x0) (List.replicate ((x0.length : Int) : Int).toNat 0) 1) else (none)) else (none)) else (none)))
def braid_Draws.l0 : Nat → List Int → List Int → List Int → Int → List Int → List Int → Int → Option (List Int × Int)
  | 0, _, _, _, _, _, _, _ => none
  | k + 1, x0, x1, x2, x8, x10, x11, x12 => if x12 < (x0.length : Int) then (if 0 ≤ (wrap64 (x12 - 1)) then (if (wrap64 (x12 - 1)) < (x11.length : Int) then (if (wrap64 (x12 - 1)) < (x0.length : Int) then (if 0 ≤ x12 then (if x12 < (x11.length : Int) then (braid_Draws.l0 k x0 x1 x2 x8 x10 (x11.set (x12 : Int).toNat (wrap64 ((rd x11 (wrap64 (x12 - 1))) + (rd x0 (wrap64 (x12 - 1)))))) (wrap64 (x12 + 1))) else (none)) else (none)) else (none)) else (none)) else (none)) else (if 0 ≤ x8 then (if (x8 : Int).toNat ≤ 35184372088832 then (braid_Draws.l1 k x0 x2 x10 x11 (([] : List Int)) x1 (x1.length : Int) 0) else (none)) else (none))
def braid_Draws.l1 : Nat → List Int → List Int → List Int → List Int → List Int → List Int → Int → Int → Option (List Int × Int)
  | 0, _, _, _, _, _, _, _, _ => none
  | k + 1, x0, x2, x10, x11, x13, x66, x67, x68 => if x68 < x67 then (if 0 ≤ x68 then (if x68 < (x66.length : Int) then (if (rd x66 x68) < 0 then (braid_Draws.j3 k x0 x2 x10 x11 x13 (rd x66 x68) x66 x67 x68 true) else (if (rd x66 x68) ≥ (x0.length : Int) then (braid_Draws.j3 k x0 x2 x10 x11 x13 (rd x66 x68) x66 x67 x68 true) else (if 0 ≤ (rd x66 x68) then (if (rd x66 x68) < (x10.length : Int) then (braid_Draws.j3 k x0 x2 x10 x11 x13 (rd x66 x68) x66 x67 x68 ((rd x10 (rd x66 x68)) == 0)) else (none)) else (none)))) else (none)) else (none)) else (some (x13, 0))
def braid_Draws.j3 : Nat → List Int → List Int → List Int → List Int → List Int → Int → List Int → Int → Int → Bool → Option (List Int × Int)
  | 0, _, _, _, _, _, _, _, _, _, _ => none
  | k + 1, x0, x2, x10, x11, x13, x15, x66, x67, x68, x86 => if x86 = true then (some (([] : List Int), 2)) else (if 0 ≤ x15 then (if x15 < (x11.length : Int) then (if 0 ≤ (rd x11 x15) then (if (rd x11 x15) < (x2.length : Int) then (if (rd x2 (rd x11 x15)) < 0 then (braid_Draws.j4 k x0 x2 x10 x11 x13 x15 (rd x2 (rd x11 x15)) x66 x67 x68 true) else (if x15 < (x10.length : Int) then (braid_Draws.j4 k x0 x2 x10 x11 x13 x15 (rd x2 (rd x11 x15)) x66 x67 x68 (decide ((rd x2 (rd x11 x15)) ≥ (rd x10 x15)))) else (none))) else (none)) else (none)) else (none)) else (none))
def braid_Draws.j4 : Nat → List Int → List Int → List Int → List Int → List Int → Int → Int → List Int → Int → Int → Bool → Option (List Int × Int)
  | 0, _, _, _, _, _, _, _, _, _, _, _ => none
  | k + 1, x0, x2, x10, x11, x13, x15, x16, x66, x67, x68, x103 => if x103 = true then (some (([] : List Int), 2)) else (if 0 ≤ x15 then (if x15 ≤ (x10.length : Int) then ((some (x10.take (x15 : Int).toNat : List Int)).bind fun y310 => (braid_Draws.l2 k x0 x2 x10 x11 x13 x15 x16 x66 x67 x68 y310 (y310.length : Int) 0)) else (none)) else (none))
def braid_Draws.l2 : Nat → List Int → List Int → List Int → List Int → List Int → Int → Int → List Int → Int → Int → List Int → Int → Int → Option (List Int × Int)
  | 0, _, _, _, _, _, _, _, _, _, _, _, _, _ => none
  | k + 1, x0, x2, x10, x11, x13, x15, x16, x66, x67, x68, x106, x107, x108 => if x108 < x107 then (if 0 ≤ x108 then (if x108 < (x106.length : Int) then (braid_Draws.l2 k x0 x2 x10 x11 x13 x15 (wrap64 (x16 + (rd x106 x108))) x66 x67 x68 x106 x107 (wrap64 (x108 + 1))) else (none)) else (none)) else (if x13.length < 17592186044416 then (if 0 ≤ x15 then (if x15 < (x10.length : Int) then (if x15 < (x11.length : Int) then (braid_Draws.l1 k x0 x2 (x10.set (x15 : Int).toNat (wrap64 ((rd x10 x15) - 1))) (x11.set (x15 : Int).toNat (wrap64 ((rd x11 x15) + 1))) (x13 ++ [x16]) x66 x67 (wrap64 (x68 + 1))) else (none)) else (none)) else (none)) else (none))
end
def braid_Draws.f (k : Nat) (l0 : List Int) (l1 : List Int) (l2 : List Int) : Option (List Int × Int) := (braid_total.f k l0).bind fun bt288 => (if bt288.2 = true then (if (l1.length : Int) = bt288.1 then (braid_Draws.j0 k l0 l1 l2 bt288.1 ((l2.length : Int) != bt288.1)) else (braid_Draws.j0 k l0 l1 l2 bt288.1 true)) else (braid_Draws.j0 k l0 l1 l2 bt288.1 true))
theorem braid_Draws.mono_l : ∀ k, (∀ y0 y1 y2 y3 y4, LeO (braid_Draws.j0 k y0 y1 y2 y3 y4) (braid_Draws.j0 (k + 1) y0 y1 y2 y3 y4)) ∧ (∀ y0 y1 y2 y3 y4 y5 y6, LeO (braid_Draws.l0 k y0 y1 y2 y3 y4 y5 y6) (braid_Draws.l0 (k + 1) y0 y1 y2 y3 y4 y5 y6)) ∧ (∀ y0 y1 y2 y3 y4 y5 y6 y7, LeO (braid_Draws.l1 k y0 y1 y2 y3 y4 y5 y6 y7) (braid_Draws.l1 (k + 1) y0 y1 y2 y3 y4 y5 y6 y7)) ∧ (∀ y0 y1 y2 y3 y4 y5 y6 y7 y8 y9, LeO (braid_Draws.j3 k y0 y1 y2 y3 y4 y5 y6 y7 y8 y9) (braid_Draws.j3 (k + 1) y0 y1 y2 y3 y4 y5 y6 y7 y8 y9)) ∧ (∀ y0 y1 y2 y3 y4 y5 y6 y7 y8 y9 y10, LeO (braid_Draws.j4 k y0 y1 y2 y3 y4 y5 y6 y7 y8 y9 y10) (braid_Draws.j4 (k + 1) y0 y1 y2 y3 y4 y5 y6 y7 y8 y9 y10)) ∧ (∀ y0 y1 y2 y3 y4 y5 y6 y7 y8 y9 y10 y11 y12, LeO (braid_Draws.l2 k y0 y1 y2 y3 y4 y5 y6 y7 y8 y9 y10 y11 y12) (braid_Draws.l2 (k + 1) y0 y1 y2 y3 y4 y5 y6 y7 y8 y9 y10 y11 y12))
  | 0 => ⟨fun _ _ _ _ _ r h => by simp [braid_Draws.j0] at h, fun _ _ _ _ _ _ _ r h => by simp [braid_Draws.l0] at h, fun _ _ _ _ _ _ _ _ r h => by simp [braid_Draws.l1] at h, fun _ _ _ _ _ _ _ _ _ _ r h => by simp [braid_Draws.j3] at h, fun _ _ _ _ _ _ _ _ _ _ _ r h => by simp [braid_Draws.j4] at h, fun _ _ _ _ _ _ _ _ _ _ _ _ _ r h => by simp [braid_Draws.l2] at h⟩
  | k + 1 => by
    obtain ⟨ih0, ih1, ih2, ih3, ih4, ih5⟩ := braid_Draws.mono_l k
    refine ⟨?_, ?_, ?_, ?_, ?_, ?_⟩
    · intro y0 y1 y2 y3 y4
      unfold braid_Draws.j0
      repeat' first
      | (with_reducible exact ih0 _ _ _ _ _)
      | (with_reducible exact ih1 _ _ _ _ _ _ _)
      | (with_reducible exact ih2 _ _ _ _ _ _ _ _)
      | (with_reducible exact ih3 _ _ _ _ _ _ _ _ _ _)
      | (with_reducible exact ih4 _ _ _ _ _ _ _ _ _ _ _)
      | (with_reducible exact ih5 _ _ _ _ _ _ _ _ _ _ _ _ _)
      | (with_reducible exact braid_total.mono _ _)
      | (with_reducible exact LeO.refl _)
      | (with_reducible exact LeO.none _)
      | (with_reducible refine LeO.ite ?_ ?_)
      | (with_reducible refine LeO.bind ?_ (fun _ => ?_))
      | exact ih0 _ _ _ _ _
      | exact ih1 _ _ _ _ _ _ _
      | exact ih2 _ _ _ _ _ _ _ _
      | exact ih3 _ _ _ _ _ _ _ _ _ _
      | exact ih4 _ _ _ _ _ _ _ _ _ _ _
      | exact ih5 _ _ _ _ _ _ _ _ _ _ _ _ _
      | exact braid_total.mono _ _
      | exact LeO.none _
      | refine LeO.ite ?_ ?_
      | refine LeO.bind ?_ (fun _ => ?_)
    · intro y0 y1 y2 y3 y4 y5 y6
      unfold braid_Draws.l0
      repeat' first
      | (with_reducible exact ih0 _ _ _ _ _)
      | (with_reducible exact ih1 _ _ _ _ _ _ _)
      | (with_reducible exact ih2 _ _ _ _ _ _ _ _)
      | (with_reducible exact ih3 _ _ _ _ _ _ _ _ _ _)
      | (with_reducible exact ih4 _ _ _ _ _ _ _ _ _ _ _)
      | (with_reducible exact ih5 _ _ _ _ _ _ _ _ _ _ _ _ _)
      | (with_reducible exact braid_total.mono _ _)
      | (with_reducible exact LeO.refl _)
      | (with_reducible exact LeO.none _)
      | (with_reducible refine LeO.ite ?_ ?_)
      | (with_reducible refine LeO.bind ?_ (fun _ => ?_))
      | exact ih0 _ _ _ _ _
      | exact ih1 _ _ _ _ _ _ _
      | exact ih2 _ _ _ _ _ _ _ _
      | exact ih3 _ _ _ _ _ _ _ _ _ _
      | exact ih4 _ _ _ _ _ _ _ _ _ _ _
      | exact ih5 _ _ _ _ _ _ _ _ _ _ _ _ _
      | exact braid_total.mono _ _
      | exact LeO.none _
      | refine LeO.ite ?_ ?_
      | refine LeO.bind ?_ (fun _ => ?_)
    · intro y0 y1 y2 y3 y4 y5 y6 y7
      unfold braid_Draws.l1
      repeat' first
      | (with_reducible exact ih0 _ _ _ _ _)
      | (with_reducible exact ih1 _ _ _ _ _ _ _)
      | (with_reducible exact ih2 _ _ _ _ _ _ _ _)
      | (with_reducible exact ih3 _ _ _ _ _ _ _ _ _ _)
      | (with_reducible exact ih4 _ _ _ _ _ _ _ _ _ _ _)
      | (with_reducible exact ih5 _ _ _ _ _ _ _ _ _ _ _ _ _)
      | (with_reducible exact braid_total.mono _ _)
      | (with_reducible exact LeO.refl _)
      | (with_reducible exact LeO.none _)
      | (with_reducible refine LeO.ite ?_ ?_)
      | (with_reducible refine LeO.bind ?_ (fun _ => ?_))
      | exact ih0 _ _ _ _ _
      | exact ih1 _ _ _ _ _ _ _
      | exact ih2 _ _ _ _ _ _ _ _
      | exact ih3 _ _ _ _ _ _ _ _ _ _
      | exact ih4 _ _ _ _ _ _ _ _ _ _ _
      | exact ih5 _ _ _ _ _ _ _ _ _ _ _ _ _
      | exact braid_total.mono _ _
      | exact LeO.none _
      | refine LeO.ite ?_ ?_
      | refine LeO.bind ?_ (fun _ => ?_)
    · intro y0 y1 y2 y3 y4 y5 y6 y7 y8 y9
      unfold braid_Draws.j3
      repeat' first
      | (with_reducible exact ih0 _ _ _ _ _)
      | (with_reducible exact ih1 _ _ _ _ _ _ _)
      | (with_reducible exact ih2 _ _ _ _ _ _ _ _)
      | (with_reducible exact ih3 _ _ _ _ _ _ _ _ _ _)
      | (with_reducible exact ih4 _ _ _ _ _ _ _ _ _ _ _)
      | (with_reducible exact ih5 _ _ _ _ _ _ _ _ _ _ _ _ _)
      | (with_reducible exact braid_total.mono _ _)
      | (with_reducible exact LeO.refl _)
      | (with_reducible exact LeO.none _)
      | (with_reducible refine LeO.ite ?_ ?_)
      | (with_reducible refine LeO.bind ?_ (fun _ => ?_))
      | exact ih0 _ _ _ _ _
      | exact ih1 _ _ _ _ _ _ _
      | exact ih2 _ _ _ _ _ _ _ _
      | exact ih3 _ _ _ _ _ _ _ _ _ _
      | exact ih4 _ _ _ _ _ _ _ _ _ _ _
      | exact ih5 _ _ _ _ _ _ _ _ _ _ _ _ _
      | exact braid_total.mono _ _
      | exact LeO.none _
      | refine LeO.ite ?_ ?_
      | refine LeO.bind ?_ (fun _ => ?_)
    · intro y0 y1 y2 y3 y4 y5 y6 y7 y8 y9 y10
      unfold braid_Draws.j4
      repeat' first
      | (with_reducible exact ih0 _ _ _ _ _)
      | (with_reducible exact ih1 _ _ _ _ _ _ _)
      | (with_reducible exact ih2 _ _ _ _ _ _ _ _)
      | (with_reducible exact ih3 _ _ _ _ _ _ _ _ _ _)
      | (with_reducible exact ih4 _ _ _ _ _ _ _ _ _ _ _)
      | (with_reducible exact ih5 _ _ _ _ _ _ _ _ _ _ _ _ _)
      | (with_reducible exact braid_total.mono _ _)
      | (with_reducible exact LeO.refl _)
      | (with_reducible exact LeO.none _)
      | (with_reducible refine LeO.ite ?_ ?_)
      | (with_reducible refine LeO.bind ?_ (fun _ => ?_))
      | exact ih0 _ _ _ _ _
      | exact ih1 _ _ _ _ _ _ _
      | exact ih2 _ _ _ _ _ _ _ _
      | exact ih3 _ _ _ _ _ _ _ _ _ _
      | exact ih4 _ _ _ _ _ _ _ _ _ _ _
      | exact ih5 _ _ _ _ _ _ _ _ _ _ _ _ _
      | exact braid_total.mono _ _
      | exact LeO.none _
      | refine LeO.ite ?_ ?_
      | refine LeO.bind ?_ (fun _ => ?_)
    · intro y0 y1 y2 y3 y4 y5 y6 y7 y8 y9 y10 y11 y12
      unfold braid_Draws.l2
      repeat' first
      | (with_reducible exact ih0 _ _ _ _ _)
      | (with_reducible exact ih1 _ _ _ _ _ _ _)
      | (with_reducible exact ih2 _ _ _ _ _ _ _ _)
      | (with_reducible exact ih3 _ _ _ _ _ _ _ _ _ _)
      | (with_reducible exact ih4 _ _ _ _ _ _ _ _ _ _ _)
      | (with_reducible exact ih5 _ _ _ _ _ _ _ _ _ _ _ _ _)
      | (with_reducible exact braid_total.mono _ _)
      | (with_reducible exact LeO.refl _)
      | (with_reducible exact LeO.none _)
      | (with_reducible refine LeO.ite ?_ ?_)
      | (with_reducible refine LeO.bind ?_ (fun _ => ?_))
      | exact ih0 _ _ _ _ _
      | exact ih1 _ _ _ _ _ _ _
      | exact ih2 _ _ _ _ _ _ _ _
      | exact ih3 _ _ _ _ _ _ _ _ _ _
      | exact ih4 _ _ _ _ _ _ _ _ _ _ _
      | exact ih5 _ _ _ _ _ _ _ _ _ _ _ _ _
      | exact braid_total.mono _ _
      | exact LeO.none _
      | refine LeO.ite ?_ ?_
      | refine LeO.bind ?_ (fun _ => ?_)
theorem braid_Draws.mono : ∀ a0 a1 a2 k, LeO (braid_Draws.f k a0 a1 a2) (braid_Draws.f (k + 1) a0 a1 a2) := by
  intro a0 a1 a2 k
  obtain ⟨ih0, ih1, ih2, ih3, ih4, ih5⟩ := braid_Draws.mono_l k
  unfold braid_Draws.f
  repeat' first
      | (with_reducible exact ih0 _ _ _ _ _)
      | (with_reducible exact ih1 _ _ _ _ _ _ _)
      | (with_reducible exact ih2 _ _ _ _ _ _ _ _)
      | (with_reducible exact ih3 _ _ _ _ _ _ _ _ _ _)
      | (with_reducible exact ih4 _ _ _ _ _ _ _ _ _ _ _)
      | (with_reducible exact ih5 _ _ _ _ _ _ _ _ _ _ _ _ _)
      | (with_reducible exact braid_total.mono _ _)
      | (with_reducible exact LeO.refl _)
      | (with_reducible exact LeO.none _)
      | (with_reducible refine LeO.ite ?_ ?_)
      | (with_reducible refine LeO.bind ?_ (fun _ => ?_))
      | exact ih0 _ _ _ _ _
      | exact ih1 _ _ _ _ _ _ _
      | exact ih2 _ _ _ _ _ _ _ _
      | exact ih3 _ _ _ _ _ _ _ _ _ _
      | exact ih4 _ _ _ _ _ _ _ _ _ _ _
      | exact ih5 _ _ _ _ _ _ _ _ _ _ _ _ _
      | exact braid_total.mono _ _
      | exact LeO.none _
      | refine LeO.ite ?_ ?_
      | refine LeO.bind ?_ (fun _ => ?_)
def braid_Draws.T9 : Bool × List (List Nat × List Nat) := (true, [([], []), ([], []), ([], []), ([], []), ([3], [3]), ([2, 4], [2, 4]), ([5], [5]), ([], []), ([], []), ([8], [8]), ([7, 9], [7, 9]), ([10], [10]), ([6, 11], [6, 11]), ([0, 1, 0, 1, 2, 3, 4, 5, 6, 7, 8, 9, 10, 11, 12], [0, 1]), ([13, 12, 0, 1, 2, 3, 4, 5, 6, 7, 8, 9, 10, 11, 12], [12, 13])])
def braid_Draws.B9 : List Nat := [0, 0, 0, 0, 8, 28, 60, 0, 0, 256, 896, 1920, 4092, 8191, 16383]
theorem braid_Draws.tab9 : rtab .any (opsOf Try.f26 9) = braid_Draws.T9 := by kernel_rfl
theorem braid_Draws.bits9 : waitsOk braid_Draws.T9.2 braid_Draws.B9 = true := by kernel_rfl
set_option maxHeartbeats 8000000 in
set_option maxRecDepth 100000 in
theorem braid_Draws.calls (k : Nat) (A0 : Option Addr) (c0 : Nat) (l0 : List Int) (A1 : Option Addr) (c1 : Nat) (l1 : List Int) (A2 : Option Addr) (c2 : Nat) (l2 : List Int) (r1 : List Int) (r2 : Int) (w : World) (hr0 : Kd.C (Kd.int .i64) w A0 l0.length l0) (hc0 : l0.length ≤ c0) (hr1 : Kd.C (Kd.int .i64) w A1 l1.length l1) (hc1 : l1.length ≤ c1) (hr2 : Kd.C (Kd.int .i64) w A2 l2.length l2) (hc2 : l2.length ≤ c2) (h : braid_Draws.f k l0 l1 l2 = some (r1, r2)) :
    Calls Try.prog 26 #[.slice A0 l0.length c0, .slice A1 l1.length c1, .slice A2 l2.length c2] w fun e w' => ∃ v0_ : Value, e = .returned (.tuple #[v0_, .int .i64 r2]) ∧ Kd.R (Kd.int .i64) 3 w' w.heap.size (fun _ => True) v0_ r1 ∧ Below w.heap.size w w' := by
  have HR0 := Aside0.mk hr0
  have HC0 := Aside0.mk hc0
  clear hr0 hc0
  have HR1 := Aside0.mk hr1
  have HC1 := Aside0.mk hc1
  clear hr1 hc1
  have HR2 := Aside0.mk hr2
  have HC2 := Aside0.mk hc2
  clear hr2 hc2
  have HB := Aside0.mk (Below.refl w.heap.size w)
  have H : ((braid_total.f k l0).bind fun bt288 => (if bt288.2 = true then (if (l1.length : Int) = bt288.1 then (braid_Draws.j0 k l0 l1 l2 bt288.1 ((l2.length : Int) != bt288.1)) else (braid_Draws.j0 k l0 l1 l2 bt288.1 true)) else (braid_Draws.j0 k l0 l1 l2 bt288.1 true))) = some (r1, r2) := h
  clear h
  replace H := Option.bind_eq_some_iff.mp H
  obtain ⟨⟨t288, t289⟩, A40, H⟩ := H
  replace H : (if t289 = true then (if (l1.length : Int) = t288 then (braid_Draws.j0 k l0 l1 l2 t288 ((l2.length : Int) != t288)) else (braid_Draws.j0 k l0 l1 l2 t288 true)) else (braid_Draws.j0 k l0 l1 l2 t288 true)) = some (r1, r2) := H
  have A4 := Aside0.mk A40
  clear A40
  have HC5 := Aside0.mk H
  clear H
  go_enter Try.func26, Try.ntmps26
  go_upto_region 2 with (first | ((with_reducible refine gate_callee (f := 30) rfl ?_); refine goesL_ (some 21) rfl rfl Try.func30 (by kernel_rfl) rfl #[.slice A0 l0.length c0] rfl (by (try simp only [List.map_toArray, List.map_cons, List.map_nil]); first | done | rfl | (simp only [List.length_drop, List.length_take]; rfl)) ?_; (with_reducible refine (braid_total.calls k _ _ l0 t288 t289 _ ?side1 ?side2 A4.out).mono ?_); (case side1 => repeat (first | exact HR0.out | (with_reducible refine Kd.C_alloc ?_ _) | (with_reducible refine Kd.C_drewN ?_ _) | (with_reducible refine Kd.C_drew ?_))); (case side2 => exact HC0.out); rintro e w' ⟨rfl, ⟨nd, rfl⟩⟩; refine ⟨_, rfl, ?_⟩))
  (try simp only [Act.put, List.setIfInBounds_toArray, List.set_cons_zero, List.set_cons_succ])
  go_cut [37] (fun v37 wc => ∃ (kq : Nat) (x37_4 : Bool), v37 = .bool x37_4 ∧ Aside0 (braid_Draws.j0 kq l0 l1 l2 t288 x37_4 = some (r1, r2)) ∧ Aside0 (kq ≤ k) ∧ Aside0 (Below w.heap.size w wc))
  case first =>
    have H := HC5.out
    clear HC5
    by_cases c6 : t289 = true
    · subst c6
      have H1 : (if (l1.length : Int) = t288 then (braid_Draws.j0 k l0 l1 l2 t288 ((l2.length : Int) != t288)) else (braid_Draws.j0 k l0 l1 l2 t288 true)) = some (r1, r2) := by rw [if_pos rfl] at H; exact H
      clear H
      have H := H1
      clear H1
      by_cases c7 : (l1.length : Int) = t288
      · rw [if_pos c7] at H
        have c7b0 : ((l1.length : Int) == t288) = true := beq_iff_eq.mpr c7
        have c7b1 : ((l1.length : Int) != t288) = false := bne_eq_false_iff_eq.mpr c7
        clear c7
        (first | rw [c7b0] | (simp only [i64_w, i32_w]; rw [c7b0]) | skip)
        have H' := Aside0.mk H
        clear H
        go_wp2
        go_meet
        case rel => exact ⟨_, (((l2.length : Int) != t288)), (by first | rfl | (simp; done) | (simp [*]; done)), H', ⟨by first | omega | exact Nat.le_refl _⟩, ⟨by repeat (first | (with_reducible first | exact HB.out | apply below_alloc | apply pw_below_drewN | apply below_drew1) | exact HB.out)⟩⟩
      · rw [if_neg c7] at H
        have c7b0 : ((l1.length : Int) == t288) = false := beq_eq_false_iff_ne.mpr c7
        have c7b1 : ((l1.length : Int) != t288) = true := bne_iff_ne.mpr c7
        (first | rw [c7b0] | (simp only [i64_w, i32_w]; rw [c7b0]) | skip)
        have H' := Aside0.mk H
        clear H
        go_wp2
        go_meet
        case rel => exact ⟨_, (true), (by first | rfl | (simp; done) | (simp [*]; done)), H', ⟨by first | omega | exact Nat.le_refl _⟩, ⟨by repeat (first | (with_reducible first | exact HB.out | apply below_alloc | apply pw_below_drewN | apply below_drew1) | exact HB.out)⟩⟩
    · replace c6 := Bool.eq_false_iff.mpr c6
      subst c6
      have H1 : (braid_Draws.j0 k l0 l1 l2 t288 true) = some (r1, r2) := by rw [if_neg (show ¬ (false = true) by decide)] at H; exact H
      clear H
      have H := H1
      clear H1
      have H' := Aside0.mk H
      clear H
      go_wp2
      go_meet
      case rel => exact ⟨_, (true), (by first | rfl | (simp; done) | (simp [*]; done)), H', ⟨by first | omega | exact Nat.le_refl _⟩, ⟨by repeat (first | (with_reducible first | exact HB.out | apply below_alloc | apply pw_below_drewN | apply below_drew1) | exact HB.out)⟩⟩
  case rest =>
    clear HC5
    try clear c1
    try clear c2
    try clear p2
    try clear c3
    try clear c6
    try clear c7
    try clear c7b0
    try clear c7b1
    obtain ⟨kq, x37_4, rfl, HA, HJ4, HB⟩ := hcut
    cases kq with
    | zero => exact absurd HA.out (by simp [braid_Draws.j0])
    | succ kj4 =>
      have H := HA.out
      clear HA
      simp only [braid_Draws.j0] at H
      by_cases c8 : x37_4 = true
      · subst c8
        have H1 : (some (([] : List Int), 2)) = some (r1, r2) := by rw [if_pos rfl] at H; exact H
        clear H
        have H := H1
        clear H1
        simp only [Option.some.injEq, Prod.mk.injEq] at H
        obtain ⟨rfl, rfl⟩ := H
        go_wp2
        go_ret2
        exact ⟨_, by first | rfl | (simp [errW_none, errW_some] <;> rfl) | (simp [*, errW_none, errW_some] <;> rfl), by first | exact Kd.R_nil _ _ _ _ _ | exact Kd.N_nil _ _ _ _ _ | exact Kd.V_nil _ _ _ _ _ | exact Kd.Q_nil _ _ _ _ _ | exact Kd.S_nil _ _ _ _ _, by repeat (first | (with_reducible first | exact HB.out | apply below_alloc | apply pw_below_drewN | apply below_drew1) | exact HB.out)⟩
      · replace c8 := Bool.eq_false_iff.mpr c8
        subst c8
        have H1 : ((some (([] : List Int) : List Int)).bind fun y290 => (if y290.length + l0.length < 17592186044416 then (if 0 ≤ (l0.length : Int) then (if ((l0.length : Int) : Int).toNat ≤ 35184372088832 then (braid_Draws.l0 kj4 l0 l1 l2 t288 (y290 ++ l0) (List.replicate ((l0.length : Int) : Int).toNat 0) 1) else (none)) else (none)) else (none))) = some (r1, r2) := by rw [if_neg (show ¬ (false = true) by decide)] at H; exact H
        clear H
        have H := H1
        clear H1
        obtain ⟨y290, hy290⟩ : ∃ y_ : List Int, y_ = (([] : List Int)) := ⟨_, rfl⟩
        replace H : (if y290.length + l0.length < 17592186044416 then (if 0 ≤ (l0.length : Int) then (if ((l0.length : Int) : Int).toNat ≤ 35184372088832 then (braid_Draws.l0 kj4 l0 l1 l2 t288 (y290 ++ l0) (List.replicate ((l0.length : Int) : Int).toNat 0) 1) else (none)) else (none)) else (none)) = some (r1, r2) := by first | (rw [hy290]; with_reducible exact H) | (have H2_ := (Option.bind_some _ _).symm.trans H; rw [hy290]; with_reducible exact H2_) | (have H2_ := (Option.bind_some _ _).symm.trans H; with_reducible exact H2_) | with_reducible exact H | (rw [hy290]; exact H) | exact H
        have Ny290 := Aside0.mk hy290
        clear hy290
        by_cases c9 : y290.length + l0.length < 17592186044416
        · rw [if_pos c9] at H
          have LMc9 := Aside0.mk c9
          clear c9
          obtain ⟨y293, hy293⟩ : ∃ y_ : List Int, y_ = (y290 ++ l0) := ⟨_, rfl⟩
          replace H : (if 0 ≤ (l0.length : Int) then (if ((l0.length : Int) : Int).toNat ≤ 35184372088832 then (braid_Draws.l0 kj4 l0 l1 l2 t288 y293 (List.replicate ((l0.length : Int) : Int).toNat 0) 1) else (none)) else (none)) = some (r1, r2) := by first | (rw [hy293]; with_reducible exact H) | (have H2_ := (Option.bind_some _ _).symm.trans H; rw [hy293]; with_reducible exact H2_) | (have H2_ := (Option.bind_some _ _).symm.trans H; with_reducible exact H2_) | with_reducible exact H | (rw [hy293]; exact H) | exact H
          have Ny293 := Aside0.mk hy293
          clear hy293
          by_cases c10 : 0 ≤ (l0.length : Int)
          · rw [if_pos c10] at H
            have c10b0 := eq_true c10
            have c10b1 : decide (0 ≤ (l0.length : Int)) = true := decide_eq_true c10
            clear c10
            by_cases c11 : ((l0.length : Int) : Int).toNat ≤ 35184372088832
            · rw [if_pos c11] at H
              have c11b0 := eq_true c11
              have c11b1 : decide (((l0.length : Int) : Int).toNat ≤ 35184372088832) = true := decide_eq_true c11
              clear c11
              obtain ⟨y296, hy296⟩ : ∃ y_ : List Int, y_ = (List.replicate ((l0.length : Int) : Int).toNat 0) := ⟨_, rfl⟩
              replace H : (braid_Draws.l0 kj4 l0 l1 l2 t288 y293 y296 1) = some (r1, r2) := by first | (rw [hy296]; with_reducible exact H) | (have H2_ := (Option.bind_some _ _).symm.trans H; rw [hy296]; with_reducible exact H2_) | (have H2_ := (Option.bind_some _ _).symm.trans H; with_reducible exact H2_) | with_reducible exact H | (rw [hy296]; exact H) | exact H
              have Ny296 := Aside0.mk hy296
              clear hy296
              have H' := Aside0.mk H
              clear H
              go_wp2_with (first | ((with_reducible refine gate_dst (N := 38) rfl ?_); (try (refine gate_guard (by rfl) ?_; dsimp only)); refine Kd.R_lit (Kd.int .i64) _ 3 ?hg (N := 38) ?hd (xs := ([] : List Int)) (inner := []) (ok := fun _ => True) (okp := fun _ => True) ?hr ?hp (fun _ hk => hk) trivial (Below.refl _ _) (Nat.le_refl _) (by simp) ?_; (case hd => rfl); (case hg => rfl); (case hr => first | (go_simp; done) | (go_simp; rfl)); (case hp => exact (Reps.none _ _)); intro v291 w12 ho13 hb hg_ hnew_; clear hg_ hnew_; (first | rw [← Ny290.out] at ho13 | (simp only [Int.reduceToNat] at ho13; rw [← Ny290.out] at ho13)); have n0_ := Aside0.mk (Kd.R_lower ho13 (below_size (by repeat (first | (with_reducible first | exact HB.out | apply below_alloc | apply pw_below_drewN | apply below_drew1) | exact HB.out)))); have n1_ := Aside0.mk (below_step (by repeat (first | (with_reducible first | exact HB.out | apply below_alloc | apply pw_below_drewN | apply below_drew1) | exact HB.out)) hb); clear HB; have HO292 := n0_; have HB := n1_; clear n0_ n1_; clear hb ho13) | ((with_reducible refine gate_builtin (b := .append) (xs := #[.tmp 38, .tmp 39]) rfl ?_); (try (refine gate_guard (by rfl) ?_; dsimp only)); at_builtin; refine Kd.R_append_rows (Kd.int .i64) (w0 := w) w.heap.size rfl (.tmp 38) (.tmp 39) 22 3 (.int .i64 0) 8 rfl Try.underlying22 info3 rfl (by decide) (by omega) v291 y290 l0 _ _ _ (fun _ => True) (fun _ => False) rfl rfl ?aO ?aR (fun _ _ h => h) (fun _ h => h.elim) ?aF ?aB ?aS ?aL ?_; (case aR => repeat (first | exact (Kd.C_below HR0.out HB.out) | (with_reducible refine Kd.C_alloc ?_ _) | (with_reducible refine Kd.C_drewN ?_ _) | (with_reducible refine Kd.C_drew ?_))); (case aB => exact (by repeat (first | (with_reducible first | exact HB.out | apply below_alloc | apply pw_below_drewN | apply below_drew1) | exact HB.out))); (case aF => exact (fun _ _ => trivial)); (case aO => exact (by (with_reducible repeat (first | apply Kd.R_alloc | apply Kd.R_drewN | apply Kd.R_drew)); exact HO292.out)); (case aS => exact (below_size (by repeat (first | (with_reducible first | exact HB.out | apply below_alloc | apply pw_below_drewN | apply below_drew1) | exact HB.out)))); (case aL => have := LMc9.out; omega); intro v294 w14 ho hb hg hat; rw [← Ny293.out] at ho; have n0_ := Aside0.mk (hb); have n1_ := Aside0.mk (ho); clear HB; clear HO292; have HB := n0_; have HO295 := n1_; clear n0_ n1_; clear ho hb hg hat) | ((with_reducible refine gate_dst (N := 43) rfl ?_); (try (refine gate_guard (by rfl) ?_; dsimp only)); refine Kd.R_make (Kd.int .i64) _ 3 rfl (N := 43) rfl 22 _ _ rfl (l0.length : Int) rfl rfl Try.underlying22 (.int .i64 0) 8 info3 rfl (by decide) (by omega) 0 (ok := fun _ => True) (okp := fun _ => True) rfl (fun _ hk => hk) trivial (of_decide_eq_true (by first | (with_reducible assumption) | assumption)) (Nat.le_trans (Nat.mul_le_mul_right _ (of_decide_eq_true (by first | (with_reducible assumption) | assumption) : (l0.length : Int).toNat ≤ 35184372088832)) (by omega)) (Below.refl _ _) (Nat.le_refl _) ?_; intro v297 w15 ho16 hb hg_ hnew_; clear hg_ hnew_; (first | rw [← Ny296.out] at ho16 | (simp only [Int.reduceToNat] at ho16; rw [← Ny296.out] at ho16)); have n0_ := Aside0.mk (Kd.R_elder' (by (with_reducible repeat (first | apply Kd.R_alloc | apply Kd.R_drewN | apply Kd.R_drew)); exact HO295.out) (Kd.R_base ho16) hb); have n1_ := Aside0.mk (Kd.R_lower (Kd.R_new' ho16 (Kd.R_lt (by (with_reducible repeat (first | apply Kd.R_alloc | apply Kd.R_drewN | apply Kd.R_drew)); exact HO295.out))) (below_size (by repeat (first | (with_reducible first | exact HB.out | apply below_alloc | apply pw_below_drewN | apply below_drew1) | exact HB.out)))); have n2_ := Aside0.mk (below_step (by repeat (first | (with_reducible first | exact HB.out | apply below_alloc | apply pw_below_drewN | apply below_drew1) | exact HB.out)) hb); clear HO295; clear HB; have HO295 := n0_; have HO298 := n1_; have HB := n2_; clear n0_ n1_ n2_; clear hb ho16))
              go_loopg [12] kj4 (fun kq v12 w' => ∃ (x11_2 : List Int) (x12_2 : Int), v12 = .int .i64 x12_2 ∧ Aside0 (braid_Draws.l0 kq l0 l1 l2 t288 y293 x11_2 x12_2 = some (r1, r2)) ∧ Aside0 (kq ≤ kj4) ∧ Aside0 (Kd.R (Kd.int .i64) 3 w' w.heap.size (fun k_ => some k_ ≠ (v297 : Value).ownBlock) v294 y293) ∧ Aside0 (Kd.R (Kd.int .i64) 3 w' w.heap.size (fun k_ => some k_ ≠ (v294 : Value).ownBlock) v297 x11_2) ∧ Aside0 (Below w.heap.size w w'))
              case atStart => exact ⟨(y296), (1), (by first | rfl | (simp; done) | (simp [*]; done)), H', ⟨Nat.le_refl _⟩, ⟨by (with_reducible repeat (first | apply Kd.R_alloc | apply Kd.R_drewN | apply Kd.R_drew)); exact Kd.R_mono HO295.out (fun _ hk => hk.2)⟩, ⟨by (with_reducible repeat (first | apply Kd.R_alloc | apply Kd.R_drewN | apply Kd.R_drew)); exact Kd.R_mono HO298.out (fun _ hk => hk.2)⟩, ⟨by repeat (first | (with_reducible first | exact HB.out | apply below_alloc | apply pw_below_drewN | apply below_drew1) | exact HB.out)⟩⟩
              case round =>
                clear H'
                try clear c1
                try clear c2
                try clear p2
                try clear c3
                try clear c6
                try clear c7
                try clear c7b0
                try clear c7b1
                try clear c8
                try clear c9
                try clear c10
                try clear c10b0
                try clear c10b1
                try clear c11
                try clear c11b0
                try clear c11b1
                try clear p2
                obtain ⟨x11_2, x12_2, rfl, HA, HK2, HO_10, HO_11, HB⟩ := hrel
                cases gk with
                | zero => exact absurd HA.out (by simp [braid_Draws.l0])
                | succ k2 =>
                  have H := HA.out
                  clear HA
                  simp only [braid_Draws.l0] at H
                  by_cases c17 : x12_2 < (l0.length : Int)
                  · rw [if_pos c17] at H
                    have c17b0 : decide (x12_2 < (l0.length : Int)) = true := decide_eq_true c17
                    clear c17
                    obtain ⟨ji18, hji18⟩ : ∃ j_ : Int, (wrap64 (x12_2 - 1)) = j_ := ⟨_, rfl⟩
                    replace H : (if 0 ≤ (ji18) then (if (ji18) < (x11_2.length : Int) then (if (ji18) < (l0.length : Int) then (if 0 ≤ x12_2 then (if x12_2 < (x11_2.length : Int) then (braid_Draws.l0 k2 l0 l1 l2 t288 y293 (x11_2.set (x12_2 : Int).toNat (wrap64 ((rd x11_2 (ji18)) + (rd l0 (ji18))))) (wrap64 (x12_2 + 1))) else (none)) else (none)) else (none)) else (none)) else (none)) = some (r1, r2) := by first | (rw [hji18] at H; exact H) | (simp only [hji18] at H ⊢; exact H)
                    have hji18w : (IntKind.i64.wrap (x12_2 - 1)) = ji18 := (i64_w _).trans hji18
                    by_cases c19 : 0 ≤ (ji18)
                    · rw [if_pos c19] at H
                      have c19b0 : decide (0 ≤ (ji18)) = true := decide_eq_true c19
                      clear c19
                      by_cases c20 : (ji18) < (x11_2.length : Int)
                      · rw [if_pos c20] at H
                        have c20b0 : decide ((ji18) < (x11_2.length : Int)) = true := decide_eq_true c20
                        clear c20
                        by_cases c21 : (ji18) < (l0.length : Int)
                        · rw [if_pos c21] at H
                          have c21b0 : decide ((ji18) < (l0.length : Int)) = true := decide_eq_true c21
                          clear c21
                          by_cases c22 : 0 ≤ x12_2
                          · rw [if_pos c22] at H
                            have c22b0 : decide (0 ≤ x12_2) = true := decide_eq_true c22
                            clear c22
                            by_cases c23 : x12_2 < (x11_2.length : Int)
                            · rw [if_pos c23] at H
                              have c23b0 : decide (x12_2 < (x11_2.length : Int)) = true := decide_eq_true c23
                              clear c23
                              obtain ⟨y301, hy301⟩ : ∃ y_ : List Int, y_ = (x11_2.set (x12_2 : Int).toNat (wrap64 ((rd x11_2 (ji18)) + (rd l0 (ji18))))) := ⟨_, rfl⟩
                              replace H : (braid_Draws.l0 k2 l0 l1 l2 t288 y293 y301 (wrap64 (x12_2 + 1))) = some (r1, r2) := by first | (rw [hy301]; with_reducible exact H) | (have H2_ := (Option.bind_some _ _).symm.trans H; rw [hy301]; with_reducible exact H2_) | (have H2_ := (Option.bind_some _ _).symm.trans H; with_reducible exact H2_) | with_reducible exact H | (rw [hy301]; exact H) | exact H
                              have Ny301 := Aside0.mk hy301
                              clear hy301
                              have H' := Aside0.mk H
                              clear H
                              try go_wp2
                              have n0_ := Aside0.mk (Kd.R_drew HO_10.out)
                              have n1_ := Aside0.mk (Kd.R_drew HO_11.out)
                              have n2_ := Aside0.mk (below_drew1 HB.out)
                              clear HO_10
                              clear HO_11
                              clear HB
                              have HO_10 := n0_
                              have HO_11 := n1_
                              have HB := n2_
                              clear n0_ n1_ n2_
                              obtain ⟨Ao26, co26, eo26⟩ := Kd.R_slice HO_11.out
                              (first | subst eo26 | (injection eo26 with f1_ f2_ f3_; have f4_ := f1_.symm; have f5_ := f3_.symm; clear f1_ f2_ f3_; subst f4_; subst f5_))
                              have p299 : 0 ≤ ((ji18) : Int) := of_decide_eq_true (by first | (with_reducible assumption) | assumption)
                              have q299 : (ji18) < (x11_2.length : Int) := of_decide_eq_true (by first | (with_reducible assumption) | assumption)
                              obtain ⟨ad299, e299, hx299_0⟩ := Kd.at_int (Kd.R_reads' HO_11.out).2.2 (ji18) p299 q299
                              cases e299
                              replace p299 := eq_true p299
                              replace q299 := eq_true q299
                              have p300 : 0 ≤ ((ji18) : Int) := of_decide_eq_true (by first | (with_reducible assumption) | assumption)
                              have q300 : (ji18) < (l0.length : Int) := of_decide_eq_true (by first | (with_reducible assumption) | assumption)
                              obtain ⟨ad300, e300, hx300_0⟩ := Kd.at_int HR0.out (ji18) p300 q300
                              have hw300_0 := hx300_0
                              cases e300
                              (try (replace hx300_0 := (HB.out.cell (World.block_lt_of_cell? w _ hx300_0)).trans hx300_0))
                              replace p300 := eq_true p300
                              replace q300 := eq_true q300
                              have p24 : 0 ≤ (x12_2 : Int) := of_decide_eq_true (by first | (with_reducible assumption) | assumption)
                              have q24 : (x12_2 : Int) < ((x11_2.length : Int) : Int) := of_decide_eq_true (by first | (with_reducible assumption) | assumption)
                              obtain ⟨go24, co24, eo24, gb24, gl24, cl24, HG24⟩ := Kd.R_form HO_11.out (by omega)
                              (first | cases eo24 | (injection eo24 with ea_ en_ ec_; (first | subst ea_ | (injection ea_ with ea_; subst ea_)); subst ec_; clear en_))
                              have GB24 := Aside0.mk gb24
                              have GG24 := Aside0.mk HG24
                              clear gb24 gl24 HG24
                              (first | simp only [add_plain] at hx299_0 | skip)
                              obtain ⟨hx24_0, hf24_0⟩ := Kd.R_celln 0 HO_11.out (x12_2 : Int) p24 q24
                              replace p24 := eq_true p24
                              replace q24 := eq_true q24
                              have HP27 := Kd.R_putn HO_11.out (x12_2 : Int) (wrap64 ((rd x11_2 (ji18)) + (rd l0 (ji18))))
                              rw [← Ny301.out] at HP27
                              have HQ27 := Aside0.mk HP27
                              clear HP27
                              refine start_ (n := 15) (S := fun w' => w'.cell? ⟨go24, ((ji18)).toNat, none⟩ = some (.int .i64 (rd x11_2 (ji18))) ∧ w'.cell? (ad300.add ((ji18)).toNat) = some (.int .i64 (rd l0 (ji18)))) (ds := [14]) #[false, false, false, false, false, false, false, false, false, false, false, false, false, false, false] (by kernel_rfl) rfl rfl ⟨hx299_0, ((HB.out.cell (World.block_lt_of_cell? w _ hw300_0)).trans hw300_0)⟩ (fun hHeld => ?_); refine with_tabW braid_Draws.tab9 braid_Draws.bits9 (fun HT_ HW_ => ?_)
                              generalize wr.drew = w25 at HO_10 HO_11 HB GG24 HQ27 hf24_0 hx24_0 hx299_0 hx300_0 hHeld ⊢
                              refine pure_ (i := 0) (N := some 50) (v := ?_) (a' := ?_) #[true, false, false, false, false, false, false, false, false, false, false, false, false, false, false] rfl rfl (any_of HT_.out (by kernel_rfl)) (fun _ _ _ h => h) (Or.inl ⟨by rfl, ?_⟩) ?_ ?_
                              rotate_left
                              · intro w'
                                go_simp
                                with_reducible rfl
                              rotate_left
                              · simp only [Act.put, List.setIfInBounds_toArray, List.set_cons_zero, List.set_cons_succ, i64_w, i32_w]
                                rfl
                              refine pure_ (i := 1) (N := some 51) (v := ?_) (a' := ?_) #[true, true, false, false, false, false, false, false, false, false, false, false, false, false, false] rfl rfl (any_of HT_.out (by kernel_rfl)) (fun _ _ _ h => h) (Or.inl ⟨by rfl, ?_⟩) ?_ ?_
                              rotate_left
                              · intro w'
                                go_simp
                                with_reducible rfl
                              rotate_left
                              · simp only [Act.put, List.setIfInBounds_toArray, List.set_cons_zero, List.set_cons_succ, i64_w, i32_w]
                                rfl
                              refine pure_ (i := 2) (N := some 52) (v := ?_) (a' := ?_) #[true, true, true, false, false, false, false, false, false, false, false, false, false, false, false] rfl rfl (any_of HT_.out (by kernel_rfl)) (fun _ _ _ h => h) (Or.inl ⟨by rfl, ?_⟩) ?_ ?_
                              rotate_left
                              · intro w'
                                go_simp
                                with_reducible rfl
                              rotate_left
                              · simp only [Act.put, List.setIfInBounds_toArray, List.set_cons_zero, List.set_cons_succ, i64_w, i32_w]
                                rfl
                              refine pure_ (i := 3) (N := some 53) (v := ?_) (a' := ?_) #[true, true, true, true, false, false, false, false, false, false, false, false, false, false, false] rfl rfl (any_of HT_.out (by kernel_rfl)) (fun _ _ _ h => h) (Or.inl ⟨by rfl, ?_⟩) ?_ ?_
                              rotate_left
                              · intro w'
                                go_simp
                                with_reducible rfl
                              rotate_left
                              · simp only [Act.put, List.setIfInBounds_toArray, List.set_cons_zero, List.set_cons_succ, i64_w, i32_w]
                                rfl
                              refine pure_ (i := 4) (N := some 54) (v := ?_) (a' := ?_) #[true, true, true, true, true, false, false, false, false, false, false, false, false, false, false] rfl rfl (any_of HT_.out (by kernel_rfl)) (fun _ _ _ h => h) (Or.inl ⟨by rfl, ?_⟩) ?_ ?_
                              rotate_left
                              · intro w'
                                go_simp
                                with_reducible rfl
                              rotate_left
                              · simp only [Act.put, List.setIfInBounds_toArray, List.set_cons_zero, List.set_cons_succ, i64_w, i32_w]
                                rfl
                              refine pure_ (i := 5) (N := some 55) (v := ?_) (a' := ?_) #[true, true, true, true, true, true, false, false, false, false, false, false, false, false, false] rfl rfl (any_of HT_.out (by kernel_rfl)) (fun _ _ _ h => h) (Or.inl ⟨by rfl, ?_⟩) ?_ ?_
                              rotate_left
                              · intro w'
                                go_simp
                                with_reducible rfl
                              rotate_left
                              · simp only [Act.put, List.setIfInBounds_toArray, List.set_cons_zero, List.set_cons_succ, i64_w, i32_w]
                                rfl
                              refine pure_ (i := 7) (N := some 57) (v := ?_) (a' := ?_) #[true, true, true, true, true, true, false, true, false, false, false, false, false, false, false] rfl rfl (any_of HT_.out (by kernel_rfl)) (fun _ _ _ h => h) (Or.inl ⟨by rfl, ?_⟩) ?_ ?_
                              rotate_left
                              · intro w'
                                go_simp
                                with_reducible rfl
                              rotate_left
                              · simp only [Act.put, List.setIfInBounds_toArray, List.set_cons_zero, List.set_cons_succ, i64_w, i32_w]
                                rfl
                              refine pure_ (i := 8) (N := some 58) (v := ?_) (a' := ?_) #[true, true, true, true, true, true, false, true, true, false, false, false, false, false, false] rfl rfl (any_of HT_.out (by kernel_rfl)) (fun _ _ _ h => h) (Or.inl ⟨by rfl, ?_⟩) ?_ ?_
                              rotate_left
                              · intro w'
                                go_simp
                                with_reducible rfl
                              rotate_left
                              · simp only [Act.put, List.setIfInBounds_toArray, List.set_cons_zero, List.set_cons_succ, i64_w, i32_w]
                                rfl
                              refine pure_ (i := 9) (N := some 59) (v := ?_) (a' := ?_) #[true, true, true, true, true, true, false, true, true, true, false, false, false, false, false] rfl rfl (any_of HT_.out (by kernel_rfl)) (fun _ _ _ h => h) (Or.inl ⟨by rfl, ?_⟩) ?_ ?_
                              rotate_left
                              · intro w'
                                go_simp
                                with_reducible rfl
                              rotate_left
                              · simp only [Act.put, List.setIfInBounds_toArray, List.set_cons_zero, List.set_cons_succ, i64_w, i32_w]
                                rfl
                              refine pure_ (i := 10) (N := some 60) (v := ?_) (a' := ?_) #[true, true, true, true, true, true, false, true, true, true, true, false, false, false, false] rfl rfl (any_of HT_.out (by kernel_rfl)) (fun _ _ _ h => h) (Or.inl ⟨by rfl, ?_⟩) ?_ ?_
                              rotate_left
                              · intro w'
                                go_simp
                                with_reducible rfl
                              rotate_left
                              · simp only [Act.put, List.setIfInBounds_toArray, List.set_cons_zero, List.set_cons_succ, i64_w, i32_w]
                                rfl
                              refine take_ (i := 6) (N := some 56) (v := ?_) (a' := ?_) #[true, true, true, true, true, true, true, true, true, true, true, false, false, false, false] rfl rfl (take_ofW HT_.out HW_.out (by kernel_rfl)) (fun _ _ _ h => h) (Or.inl ⟨by rfl, ?_⟩) hHeld ?_ ?_
                              rotate_left
                              · rintro w' ⟨s0, s1⟩
                                go_simp
                                with_reducible rfl
                              rotate_left
                              · simp only [Act.put, List.setIfInBounds_toArray, List.set_cons_zero, List.set_cons_succ, i64_w, i32_w]
                                rfl
                              refine take_ (i := 11) (N := some 61) (v := ?_) (a' := ?_) #[true, true, true, true, true, true, true, true, true, true, true, true, false, false, false] rfl rfl (take_ofW HT_.out HW_.out (by kernel_rfl)) (fun _ _ _ h => h) (Or.inl ⟨by rfl, ?_⟩) hHeld ?_ ?_
                              rotate_left
                              · rintro w' ⟨s0, s1⟩
                                go_simp
                                with_reducible rfl
                              rotate_left
                              · simp only [Act.put, List.setIfInBounds_toArray, List.set_cons_zero, List.set_cons_succ, i64_w, i32_w]
                                rfl
                              refine pure_ (i := 12) (N := some 62) (v := ?_) (a' := ?_) #[true, true, true, true, true, true, true, true, true, true, true, true, true, false, false] rfl rfl (any_of HT_.out (by kernel_rfl)) (fun _ _ _ h => h) (Or.inl ⟨by rfl, ?_⟩) ?_ ?_
                              rotate_left
                              · intro w'
                                go_simp
                                with_reducible rfl
                              rotate_left
                              · simp only [Act.put, List.setIfInBounds_toArray, List.set_cons_zero, List.set_cons_succ, i64_w, i32_w]
                                rfl
                              refine pure_ (i := 13) (N := some 63) (v := ?_) (a' := ?_) #[true, true, true, true, true, true, true, true, true, true, true, true, true, true, false] rfl rfl (any_of HT_.out (by kernel_rfl)) (fun _ _ _ h => h) (Or.inl ⟨by rfl, ?_⟩) ?_ ?_
                              rotate_left
                              · intro w'
                                go_simp
                                with_reducible rfl
                              rotate_left
                              · simp only [Act.put, List.setIfInBounds_toArray, List.set_cons_zero, List.set_cons_succ, i64_w, i32_w]
                                rfl
                              refine last_ (i := 14) (N := none) #[true, true, true, true, true, true, true, true, true, true, true, true, true, true, true] rfl rfl (one_of HT_.out (by kernel_rfl)) (by decide) (fun K hK => ?_)
                              refine skip_ (w1 := ?_) (by rfl) rfl ?_ ?_
                              rotate_left
                              · go_simp
                                rfl
                              refine hK.out _ _ ?_
                              clear hK K
                              refine done_ (done_of HT_.out (by kernel_rfl)) ?_
                              try go_wp2
                              go_roundg k2
                              case measure => have := HJ4.out; have := HK2.out; omega
                              case rel => exact ⟨(y301), (wrap64 (x12_2 + 1)), (by first | rfl | (simp; done) | (simp [*]; done)), H', ⟨by have := HJ4.out; have := HK2.out; omega⟩, ⟨by (with_reducible repeat (first | apply Kd.R_alloc | apply Kd.R_drewN | apply Kd.R_drew)); exact Kd.R_mono (Kd.R_far (p := ⟨go24, (x12_2 : Int).toNat, none⟩) (Kd.R_mono HO_10.out (fun k_ hk => (⟨hk, fun e_ => hk (by rw [e_]; rfl)⟩ : _ ∧ k_ ≠ go24))) (fun _ hk => hk.2) (.int .i64 (wrap64 ((rd x11_2 (ji18)) + (rd l0 (ji18)))))) (fun _ hk => hk.1)⟩, ⟨by (with_reducible repeat (first | apply Kd.R_alloc | apply Kd.R_drewN | apply Kd.R_drew)); exact HQ27.out⟩, ⟨by repeat (first | (with_reducible first | exact HB.out | apply below_alloc | apply pw_below_drewN | apply below_drew1 | refine below_set ?_ GB24.out) | exact HB.out)⟩⟩
                            · rw [if_neg c23] at H
                              exact absurd H (by simp)
                          · rw [if_neg c22] at H
                            exact absurd H (by simp)
                        · rw [if_neg c21] at H
                          exact absurd H (by simp)
                      · rw [if_neg c20] at H
                        exact absurd H (by simp)
                    · rw [if_neg c19] at H
                      exact absurd H (by simp)
                  · rw [if_neg c17] at H
                    have c17b0 : decide (x12_2 < (l0.length : Int)) = false := decide_eq_false c17
                    clear c17
                    by_cases c28 : 0 ≤ t288
                    · rw [if_pos c28] at H
                      have c28b0 := eq_true c28
                      have c28b1 : decide (0 ≤ t288) = true := decide_eq_true c28
                      clear c28
                      by_cases c29 : (t288 : Int).toNat ≤ 35184372088832
                      · rw [if_pos c29] at H
                        have c29b0 := eq_true c29
                        have c29b1 : decide ((t288 : Int).toNat ≤ 35184372088832) = true := decide_eq_true c29
                        clear c29
                        obtain ⟨y302, hy302⟩ : ∃ y_ : List Int, y_ = (([] : List Int)) := ⟨_, rfl⟩
                        replace H : (braid_Draws.l1 k2 l0 l2 y293 x11_2 y302 l1 (l1.length : Int) 0) = some (r1, r2) := by first | (rw [hy302]; with_reducible exact H) | (have H2_ := (Option.bind_some _ _).symm.trans H; rw [hy302]; with_reducible exact H2_) | (have H2_ := (Option.bind_some _ _).symm.trans H; with_reducible exact H2_) | with_reducible exact H | (rw [hy302]; exact H) | exact H
                        have Ny302 := Aside0.mk hy302
                        clear hy302
                        have H' := Aside0.mk H
                        clear H
                        go_wp2_with (first | ((with_reducible refine gate_dst (N := 65) rfl ?_); (try (refine gate_guard (by rfl) ?_; dsimp only)); refine Kd.R_make0 (Kd.int .i64) _ 3 rfl (N := 65) rfl 22 _ _ rfl t288 rfl rfl Try.underlying22 (.int .i64 0) 8 info3 rfl (by decide) (by omega) 0 (ok := fun _ => True) (okp := fun _ => True) rfl (fun _ hk => hk) trivial (of_decide_eq_true (by first | (with_reducible assumption) | assumption)) (Nat.le_trans (Nat.mul_le_mul_right _ (of_decide_eq_true (by first | (with_reducible assumption) | assumption) : t288.toNat ≤ 35184372088832)) (by omega)) (Below.refl _ _) (Nat.le_refl _) ?_; intro v303 w30 ho31 hb hg_ hnew_; clear hg_ hnew_; (first | rw [← Ny302.out] at ho31 | (simp only [Int.reduceToNat] at ho31; rw [← Ny302.out] at ho31)); have n0_ := Aside0.mk (Kd.R_elder' (by (with_reducible repeat (first | apply Kd.R_alloc | apply Kd.R_drewN | apply Kd.R_drew)); exact HO_10.out) (Kd.R_base ho31) hb); have n1_ := Aside0.mk (Kd.R_elder' (by (with_reducible repeat (first | apply Kd.R_alloc | apply Kd.R_drewN | apply Kd.R_drew)); exact HO_11.out) (Kd.R_base ho31) hb); have n2_ := Aside0.mk (Kd.R_lower (Kd.R_new' (Kd.R_new' ho31 (Kd.R_lt (by (with_reducible repeat (first | apply Kd.R_alloc | apply Kd.R_drewN | apply Kd.R_drew)); exact HO_10.out))) (Kd.R_lt (by (with_reducible repeat (first | apply Kd.R_alloc | apply Kd.R_drewN | apply Kd.R_drew)); exact HO_11.out))) (below_size (by repeat (first | (with_reducible first | exact HB.out | apply below_alloc | apply pw_below_drewN | apply below_drew1) | exact HB.out)))); have n3_ := Aside0.mk (below_step (by repeat (first | (with_reducible first | exact HB.out | apply below_alloc | apply pw_below_drewN | apply below_drew1) | exact HB.out)) hb); clear HO_10; clear HO_11; clear HB; have HO_10 := n0_; have HO_11 := n1_; have HO304 := n2_; have HB := n3_; clear n0_ n1_ n2_ n3_; clear hb ho31))
                        go_loopg [13, 68] k2 (fun kq v13 v68 w' => ∃ (x10_3 : List Int) (x11_3 : List Int) (x13_3 : List Int) (x68_3 : Int), v68 = .int .i64 x68_3 ∧ Aside0 (braid_Draws.l1 kq l0 l2 x10_3 x11_3 x13_3 l1 (l1.length : Int) x68_3 = some (r1, r2)) ∧ Aside0 (kq ≤ k2) ∧ Aside0 (Kd.R (Kd.int .i64) 3 w' w.heap.size (fun k_ => some k_ ≠ (v297 : Value).ownBlock ∧ some k_ ≠ (v13 : Value).ownBlock) v294 x10_3) ∧ Aside0 (Kd.R (Kd.int .i64) 3 w' w.heap.size (fun k_ => some k_ ≠ (v294 : Value).ownBlock ∧ some k_ ≠ (v13 : Value).ownBlock) v297 x11_3) ∧ Aside0 (Kd.R (Kd.int .i64) 3 w' w.heap.size (fun k_ => some k_ ≠ (v294 : Value).ownBlock ∧ some k_ ≠ (v297 : Value).ownBlock) v13 x13_3) ∧ Aside0 (Below w.heap.size w w'))
                        case atStart => exact ⟨(y293), (x11_2), (y302), (0), (by first | rfl | (simp; done) | (simp [*]; done)), H', ⟨Nat.le_refl _⟩, ⟨by (with_reducible repeat (first | apply Kd.R_alloc | apply Kd.R_drewN | apply Kd.R_drew)); exact HO_10.out⟩, ⟨by (with_reducible repeat (first | apply Kd.R_alloc | apply Kd.R_drewN | apply Kd.R_drew)); exact HO_11.out⟩, ⟨by (with_reducible repeat (first | apply Kd.R_alloc | apply Kd.R_drewN | apply Kd.R_drew)); exact Kd.R_mono HO304.out (fun _ hk => ⟨hk.1.2, hk.2⟩)⟩, ⟨by repeat (first | (with_reducible first | exact HB.out | apply below_alloc | apply pw_below_drewN | apply below_drew1) | exact HB.out)⟩⟩
                        case round =>
                          clear H'
                          try clear c1
                          try clear c2
                          try clear p2
                          try clear q2
                          try clear hx2
                          try clear c3
                          try clear p3
                          try clear q3
                          try clear hx3
                          try clear c6
                          try clear p6
                          try clear c7
                          try clear c7b0
                          try clear c7b1
                          try clear c8
                          try clear c9
                          try clear c10
                          try clear c10b0
                          try clear c10b1
                          try clear c11
                          try clear c11b0
                          try clear c11b1
                          try clear c17
                          try clear c17b0
                          try clear c19
                          try clear c19b0
                          try clear c20
                          try clear c20b0
                          try clear c21
                          try clear c21b0
                          try clear c22
                          try clear c22b0
                          try clear c23
                          try clear c23b0
                          try clear p24
                          try clear q24
                          try clear hx24
                          try clear hf24
                          try clear c26
                          try clear c28
                          try clear c28b0
                          try clear c28b1
                          try clear c29
                          try clear c29b0
                          try clear c29b1
                          try clear p29
                          try clear q29
                          try clear hx29
                          try clear c30
                          try clear p30
                          try clear q30
                          try clear hx30
                          try clear hx24_0
                          try clear hx299_0
                          try clear hx300_0
                          try clear p2
                          try clear p24
                          try clear p299
                          try clear p300
                          try clear q24
                          try clear q299
                          try clear q300
                          obtain ⟨x10_3, x11_3, x13_3, x68_3, rfl, HA, HK3, HO_10, HO_11, HO_13, HB⟩ := hrel
                          cases gk with
                          | zero => exact absurd HA.out (by simp [braid_Draws.l1])
                          | succ k3 =>
                            have H := HA.out
                            clear HA
                            simp only [braid_Draws.l1] at H
                            by_cases c32 : x68_3 < (l1.length : Int)
                            · rw [if_pos c32] at H
                              have c32b0 : decide (x68_3 < (l1.length : Int)) = true := decide_eq_true c32
                              clear c32
                              by_cases c33 : 0 ≤ x68_3
                              · rw [if_pos c33] at H
                                have c33b0 : decide (0 ≤ x68_3) = true := decide_eq_true c33
                                clear c33
                                by_cases c34 : x68_3 < (l1.length : Int)
                                · rw [if_pos c34] at H
                                  have c34b0 : decide (x68_3 < (l1.length : Int)) = true := decide_eq_true c34
                                  clear c34
                                  have HC35 := Aside0.mk H
                                  clear H
                                  have p305 : 0 ≤ (x68_3 : Int) := of_decide_eq_true (by first | (with_reducible assumption) | assumption)
                                  have q305 : x68_3 < (l1.length : Int) := of_decide_eq_true (by first | (with_reducible assumption) | assumption)
                                  obtain ⟨ad305, e305, hx305_0⟩ := Kd.at_int HR1.out x68_3 p305 q305
                                  cases e305
                                  (try (replace hx305_0 := (HB.out.cell (World.block_lt_of_cell? w _ hx305_0)).trans hx305_0))
                                  replace p305 := eq_true p305
                                  replace q305 := eq_true q305
                                  go_upto_region 14 with (fail)
                                  go_cut [86] (fun v86 wc => ∃ (kq : Nat) (x86_34 : Bool), v86 = .bool x86_34 ∧ Aside0 (braid_Draws.j3 kq l0 l2 x10_3 x11_3 x13_3 (rd l1 x68_3) l1 (l1.length : Int) x68_3 x86_34 = some (r1, r2)) ∧ Aside0 (kq ≤ k3) ∧ Aside0 (Kd.R (Kd.int .i64) 3 wc w.heap.size (fun k_ => some k_ ≠ (v297 : Value).ownBlock ∧ some k_ ≠ (u13 : Value).ownBlock) v294 x10_3) ∧ Aside0 (Kd.R (Kd.int .i64) 3 wc w.heap.size (fun k_ => some k_ ≠ (v294 : Value).ownBlock ∧ some k_ ≠ (u13 : Value).ownBlock) v297 x11_3) ∧ Aside0 (Kd.R (Kd.int .i64) 3 wc w.heap.size (fun k_ => some k_ ≠ (v294 : Value).ownBlock ∧ some k_ ≠ (v297 : Value).ownBlock) u13 x13_3) ∧ Aside0 (Below w.heap.size w wc))
                                  case first =>
                                    have H := HC35.out
                                    clear HC35
                                    by_cases c36 : (rd l1 x68_3) < 0
                                    · rw [if_pos c36] at H
                                      have c36b0 : decide ((rd l1 x68_3) < 0) = true := decide_eq_true c36
                                      clear c36
                                      (first | rw [c36b0] | (simp only [i64_w, i32_w]; rw [c36b0]) | skip)
                                      have H' := Aside0.mk H
                                      clear H
                                      go_wp2
                                      go_meet
                                      case rel => exact ⟨_, (true), (by first | rfl | (simp; done) | (simp [*]; done)), H', ⟨by have := HJ4.out; have := HK2.out; have := HK3.out; first | omega | exact Nat.le_refl _⟩, ⟨by (with_reducible repeat (first | apply Kd.R_alloc | apply Kd.R_drewN | apply Kd.R_drew)); exact HO_10.out⟩, ⟨by (with_reducible repeat (first | apply Kd.R_alloc | apply Kd.R_drewN | apply Kd.R_drew)); exact HO_11.out⟩, ⟨by (with_reducible repeat (first | apply Kd.R_alloc | apply Kd.R_drewN | apply Kd.R_drew)); exact HO_13.out⟩, ⟨by repeat (first | (with_reducible first | exact HB.out | apply below_alloc | apply pw_below_drewN | apply below_drew1) | exact HB.out)⟩⟩
                                    · rw [if_neg c36] at H
                                      have c36b0 : decide ((rd l1 x68_3) < 0) = false := decide_eq_false c36
                                      clear c36
                                      (first | rw [c36b0] | (simp only [i64_w, i32_w]; rw [c36b0]) | skip)
                                      by_cases c37 : (rd l1 x68_3) ≥ (l0.length : Int)
                                      · rw [if_pos c37] at H
                                        have c37b0 : decide ((l0.length : Int) ≤ (rd l1 x68_3)) = true := decide_eq_true c37
                                        clear c37
                                        have H' := Aside0.mk H
                                        clear H
                                        go_wp2
                                        go_meet
                                        case rel => exact ⟨_, (true), (by first | rfl | (simp; done) | (simp [*]; done)), H', ⟨by have := HJ4.out; have := HK2.out; have := HK3.out; first | omega | exact Nat.le_refl _⟩, ⟨by (with_reducible repeat (first | apply Kd.R_alloc | apply Kd.R_drewN | apply Kd.R_drew)); exact HO_10.out⟩, ⟨by (with_reducible repeat (first | apply Kd.R_alloc | apply Kd.R_drewN | apply Kd.R_drew)); exact HO_11.out⟩, ⟨by (with_reducible repeat (first | apply Kd.R_alloc | apply Kd.R_drewN | apply Kd.R_drew)); exact HO_13.out⟩, ⟨by repeat (first | (with_reducible first | exact HB.out | apply below_alloc | apply pw_below_drewN | apply below_drew1) | exact HB.out)⟩⟩
                                      · rw [if_neg c37] at H
                                        have c37b0 : decide ((l0.length : Int) ≤ (rd l1 x68_3)) = false := decide_eq_false c37
                                        clear c37
                                        by_cases c38 : 0 ≤ (rd l1 x68_3)
                                        · rw [if_pos c38] at H
                                          have c38b0 : decide (0 ≤ (rd l1 x68_3)) = true := decide_eq_true c38
                                          clear c38
                                          by_cases c39 : (rd l1 x68_3) < (x10_3.length : Int)
                                          · rw [if_pos c39] at H
                                            have c39b0 : decide ((rd l1 x68_3) < (x10_3.length : Int)) = true := decide_eq_true c39
                                            clear c39
                                            have H' := Aside0.mk H
                                            clear H
                                            obtain ⟨Ao40, co40, eo40⟩ := Kd.R_slice HO_10.out
                                            subst eo40
                                            have p306 : 0 ≤ ((rd l1 x68_3) : Int) := of_decide_eq_true (by first | (with_reducible assumption) | assumption)
                                            have q306 : (rd l1 x68_3) < (x10_3.length : Int) := of_decide_eq_true (by first | (with_reducible assumption) | assumption)
                                            obtain ⟨ad306, e306, hx306_0⟩ := Kd.at_int (Kd.R_reads' HO_10.out).2.2 (rd l1 x68_3) p306 q306
                                            cases e306
                                            replace p306 := eq_true p306
                                            replace q306 := eq_true q306
                                            go_wp2
                                            go_meet
                                            case rel => exact ⟨_, (((rd x10_3 (rd l1 x68_3)) == 0)), (by first | rfl | (simp; done) | (simp [*]; done)), H', ⟨by have := HJ4.out; have := HK2.out; have := HK3.out; first | omega | exact Nat.le_refl _⟩, ⟨by (with_reducible repeat (first | apply Kd.R_alloc | apply Kd.R_drewN | apply Kd.R_drew)); exact HO_10.out⟩, ⟨by (with_reducible repeat (first | apply Kd.R_alloc | apply Kd.R_drewN | apply Kd.R_drew)); exact HO_11.out⟩, ⟨by (with_reducible repeat (first | apply Kd.R_alloc | apply Kd.R_drewN | apply Kd.R_drew)); exact HO_13.out⟩, ⟨by repeat (first | (with_reducible first | exact HB.out | apply below_alloc | apply pw_below_drewN | apply below_drew1) | exact HB.out)⟩⟩
                                          · rw [if_neg c39] at H
                                            exact absurd H (by simp)
                                        · rw [if_neg c38] at H
                                          exact absurd H (by simp)
                                  case rest =>
                                    clear HC35
                                    try clear c1
                                    try clear c2
                                    try clear p2
                                    try clear q2
                                    try clear hx2
                                    try clear c3
                                    try clear p3
                                    try clear q3
                                    try clear hx3
                                    try clear c6
                                    try clear p6
                                    try clear c7
                                    try clear c7b0
                                    try clear c7b1
                                    try clear c8
                                    try clear c9
                                    try clear c10
                                    try clear c10b0
                                    try clear c10b1
                                    try clear c11
                                    try clear c11b0
                                    try clear c11b1
                                    try clear c17
                                    try clear c17b0
                                    try clear c19
                                    try clear c19b0
                                    try clear c20
                                    try clear c20b0
                                    try clear c21
                                    try clear c21b0
                                    try clear c22
                                    try clear c22b0
                                    try clear c23
                                    try clear c23b0
                                    try clear p24
                                    try clear q24
                                    try clear hx24
                                    try clear hf24
                                    try clear c26
                                    try clear c28
                                    try clear c28b0
                                    try clear c28b1
                                    try clear c29
                                    try clear c29b0
                                    try clear c29b1
                                    try clear p29
                                    try clear q29
                                    try clear hx29
                                    try clear c30
                                    try clear p30
                                    try clear q30
                                    try clear hx30
                                    try clear c32
                                    try clear c32b0
                                    try clear c33
                                    try clear c33b0
                                    try clear c34
                                    try clear c34b0
                                    try clear c36
                                    try clear c36b0
                                    try clear c37
                                    try clear c37b0
                                    try clear c38
                                    try clear c38b0
                                    try clear c39
                                    try clear c39b0
                                    try clear hx24_0
                                    try clear hx299_0
                                    try clear hx300_0
                                    try clear hx305_0
                                    try clear hx306_0
                                    try clear p2
                                    try clear p24
                                    try clear p29
                                    try clear p299
                                    try clear p3
                                    try clear p30
                                    try clear p300
                                    try clear p305
                                    try clear p306
                                    try clear p6
                                    try clear q2
                                    try clear q24
                                    try clear q29
                                    try clear q299
                                    try clear q3
                                    try clear q30
                                    try clear q300
                                    try clear q305
                                    try clear q306
                                    obtain ⟨kq, x86_34, rfl, HA, HJ34, HO_10, HO_11, HO_13, HB⟩ := hcut
                                    cases kq with
                                    | zero => exact absurd HA.out (by simp [braid_Draws.j3])
                                    | succ kj34 =>
                                      have H := HA.out
                                      clear HA
                                      simp only [braid_Draws.j3] at H
                                      by_cases c41 : x86_34 = true
                                      · subst c41
                                        have H1 : (some (([] : List Int), 2)) = some (r1, r2) := by rw [if_pos rfl] at H; exact H
                                        clear H
                                        have H := H1
                                        clear H1
                                        simp only [Option.some.injEq, Prod.mk.injEq] at H
                                        obtain ⟨rfl, rfl⟩ := H
                                        go_wp2
                                        go_ret2
                                        exact ⟨_, by first | rfl | (simp [errW_none, errW_some] <;> rfl) | (simp [*, errW_none, errW_some] <;> rfl), by first | exact Kd.R_nil _ _ _ _ _ | exact Kd.N_nil _ _ _ _ _ | exact Kd.V_nil _ _ _ _ _ | exact Kd.Q_nil _ _ _ _ _ | exact Kd.S_nil _ _ _ _ _, by repeat (first | (with_reducible first | exact HB.out | apply below_alloc | apply pw_below_drewN | apply below_drew1) | exact HB.out)⟩
                                      · replace c41 := Bool.eq_false_iff.mpr c41
                                        subst c41
                                        have H1 : (if 0 ≤ (rd l1 x68_3) then (if (rd l1 x68_3) < (x11_3.length : Int) then (if 0 ≤ (rd x11_3 (rd l1 x68_3)) then (if (rd x11_3 (rd l1 x68_3)) < (l2.length : Int) then (if (rd l2 (rd x11_3 (rd l1 x68_3))) < 0 then (braid_Draws.j4 kj34 l0 l2 x10_3 x11_3 x13_3 (rd l1 x68_3) (rd l2 (rd x11_3 (rd l1 x68_3))) l1 (l1.length : Int) x68_3 true) else (if (rd l1 x68_3) < (x10_3.length : Int) then (braid_Draws.j4 kj34 l0 l2 x10_3 x11_3 x13_3 (rd l1 x68_3) (rd l2 (rd x11_3 (rd l1 x68_3))) l1 (l1.length : Int) x68_3 (decide ((rd l2 (rd x11_3 (rd l1 x68_3))) ≥ (rd x10_3 (rd l1 x68_3))))) else (none))) else (none)) else (none)) else (none)) else (none)) = some (r1, r2) := by rw [if_neg (show ¬ (false = true) by decide)] at H; exact H
                                        clear H
                                        have H := H1
                                        clear H1
                                        by_cases c42 : 0 ≤ (rd l1 x68_3)
                                        · rw [if_pos c42] at H
                                          have c42b0 : decide (0 ≤ (rd l1 x68_3)) = true := decide_eq_true c42
                                          clear c42
                                          by_cases c43 : (rd l1 x68_3) < (x11_3.length : Int)
                                          · rw [if_pos c43] at H
                                            have c43b0 : decide ((rd l1 x68_3) < (x11_3.length : Int)) = true := decide_eq_true c43
                                            clear c43
                                            by_cases c44 : 0 ≤ (rd x11_3 (rd l1 x68_3))
                                            · rw [if_pos c44] at H
                                              have c44b0 : decide (0 ≤ (rd x11_3 (rd l1 x68_3))) = true := decide_eq_true c44
                                              clear c44
                                              by_cases c45 : (rd x11_3 (rd l1 x68_3)) < (l2.length : Int)
                                              · rw [if_pos c45] at H
                                                have c45b0 : decide ((rd x11_3 (rd l1 x68_3)) < (l2.length : Int)) = true := decide_eq_true c45
                                                clear c45
                                                have HC46 := Aside0.mk H
                                                clear H
                                                obtain ⟨Ao47, co47, eo47⟩ := Kd.R_slice HO_11.out
                                                subst eo47
                                                have p307 : 0 ≤ ((rd l1 x68_3) : Int) := of_decide_eq_true (by first | (with_reducible assumption) | assumption)
                                                have q307 : (rd l1 x68_3) < (x11_3.length : Int) := of_decide_eq_true (by first | (with_reducible assumption) | assumption)
                                                obtain ⟨ad307, e307, hx307_0⟩ := Kd.at_int (Kd.R_reads' HO_11.out).2.2 (rd l1 x68_3) p307 q307
                                                cases e307
                                                replace p307 := eq_true p307
                                                replace q307 := eq_true q307
                                                have p308 : 0 ≤ ((rd x11_3 (rd l1 x68_3)) : Int) := of_decide_eq_true (by first | (with_reducible assumption) | assumption)
                                                have q308 : (rd x11_3 (rd l1 x68_3)) < (l2.length : Int) := of_decide_eq_true (by first | (with_reducible assumption) | assumption)
                                                obtain ⟨ad308, e308, hx308_0⟩ := Kd.at_int HR2.out (rd x11_3 (rd l1 x68_3)) p308 q308
                                                cases e308
                                                (try (replace hx308_0 := (HB.out.cell (World.block_lt_of_cell? w _ hx308_0)).trans hx308_0))
                                                replace p308 := eq_true p308
                                                replace q308 := eq_true q308
                                                go_upto_region 17 with (fail)
                                                go_cut [103] (fun v103 wc => ∃ (kq : Nat) (x103_45 : Bool), v103 = .bool x103_45 ∧ Aside0 (braid_Draws.j4 kq l0 l2 x10_3 x11_3 x13_3 (rd l1 x68_3) (rd l2 (rd x11_3 (rd l1 x68_3))) l1 (l1.length : Int) x68_3 x103_45 = some (r1, r2)) ∧ Aside0 (kq ≤ kj34) ∧ Aside0 (Kd.R (Kd.int .i64) 3 wc w.heap.size (fun k_ => some k_ ≠ ((.slice (some ad307) x11_3.length co47) : Value).ownBlock ∧ some k_ ≠ (u13 : Value).ownBlock) v294 x10_3) ∧ Aside0 (Kd.R (Kd.int .i64) 3 wc w.heap.size (fun k_ => some k_ ≠ (v294 : Value).ownBlock ∧ some k_ ≠ (u13 : Value).ownBlock) (.slice (some ad307) x11_3.length co47) x11_3) ∧ Aside0 (Kd.R (Kd.int .i64) 3 wc w.heap.size (fun k_ => some k_ ≠ (v294 : Value).ownBlock ∧ some k_ ≠ ((.slice (some ad307) x11_3.length co47) : Value).ownBlock) u13 x13_3) ∧ Aside0 (Below w.heap.size w wc))
                                                case first =>
                                                  have H := HC46.out
                                                  clear HC46
                                                  by_cases c48 : (rd l2 (rd x11_3 (rd l1 x68_3))) < 0
                                                  · rw [if_pos c48] at H
                                                    have c48b0 : decide ((rd l2 (rd x11_3 (rd l1 x68_3))) < 0) = true := decide_eq_true c48
                                                    clear c48
                                                    (first | rw [c48b0] | (simp only [i64_w, i32_w]; rw [c48b0]) | skip)
                                                    have H' := Aside0.mk H
                                                    clear H
                                                    go_wp2
                                                    go_meet
                                                    case rel => exact ⟨_, (true), (by first | rfl | (simp; done) | (simp [*]; done)), H', ⟨by have := HJ4.out; have := HK2.out; have := HK3.out; have := HJ34.out; first | omega | exact Nat.le_refl _⟩, ⟨by (with_reducible repeat (first | apply Kd.R_alloc | apply Kd.R_drewN | apply Kd.R_drew)); exact HO_10.out⟩, ⟨by (with_reducible repeat (first | apply Kd.R_alloc | apply Kd.R_drewN | apply Kd.R_drew)); exact HO_11.out⟩, ⟨by (with_reducible repeat (first | apply Kd.R_alloc | apply Kd.R_drewN | apply Kd.R_drew)); exact HO_13.out⟩, ⟨by repeat (first | (with_reducible first | exact HB.out | apply below_alloc | apply pw_below_drewN | apply below_drew1) | exact HB.out)⟩⟩
                                                  · rw [if_neg c48] at H
                                                    have c48b0 : decide ((rd l2 (rd x11_3 (rd l1 x68_3))) < 0) = false := decide_eq_false c48
                                                    clear c48
                                                    (first | rw [c48b0] | (simp only [i64_w, i32_w]; rw [c48b0]) | skip)
                                                    by_cases c49 : (rd l1 x68_3) < (x10_3.length : Int)
                                                    · rw [if_pos c49] at H
                                                      have c49b0 : decide ((rd l1 x68_3) < (x10_3.length : Int)) = true := decide_eq_true c49
                                                      clear c49
                                                      have H' := Aside0.mk H
                                                      clear H
                                                      obtain ⟨Ao50, co50, eo50⟩ := Kd.R_slice HO_10.out
                                                      subst eo50
                                                      have p309 : 0 ≤ ((rd l1 x68_3) : Int) := of_decide_eq_true (by first | (with_reducible assumption) | assumption)
                                                      have q309 : (rd l1 x68_3) < (x10_3.length : Int) := of_decide_eq_true (by first | (with_reducible assumption) | assumption)
                                                      obtain ⟨ad309, e309, hx309_0⟩ := Kd.at_int (Kd.R_reads' HO_10.out).2.2 (rd l1 x68_3) p309 q309
                                                      cases e309
                                                      replace p309 := eq_true p309
                                                      replace q309 := eq_true q309
                                                      go_wp2
                                                      go_meet
                                                      case rel => exact ⟨_, (decide ((rd l2 (rd x11_3 (rd l1 x68_3))) ≥ (rd x10_3 (rd l1 x68_3)))), (by first | rfl | (simp; done) | (simp [*]; done)), H', ⟨by have := HJ4.out; have := HK2.out; have := HK3.out; have := HJ34.out; first | omega | exact Nat.le_refl _⟩, ⟨by (with_reducible repeat (first | apply Kd.R_alloc | apply Kd.R_drewN | apply Kd.R_drew)); exact HO_10.out⟩, ⟨by (with_reducible repeat (first | apply Kd.R_alloc | apply Kd.R_drewN | apply Kd.R_drew)); exact HO_11.out⟩, ⟨by (with_reducible repeat (first | apply Kd.R_alloc | apply Kd.R_drewN | apply Kd.R_drew)); exact HO_13.out⟩, ⟨by repeat (first | (with_reducible first | exact HB.out | apply below_alloc | apply pw_below_drewN | apply below_drew1) | exact HB.out)⟩⟩
                                                    · rw [if_neg c49] at H
                                                      exact absurd H (by simp)
                                                case rest =>
                                                  clear HC46
                                                  try clear c1
                                                  try clear c2
                                                  try clear p2
                                                  try clear q2
                                                  try clear hx2
                                                  try clear c3
                                                  try clear p3
                                                  try clear q3
                                                  try clear hx3
                                                  try clear c4
                                                  try clear c6
                                                  try clear p6
                                                  try clear c7
                                                  try clear c7b0
                                                  try clear c7b1
                                                  try clear c8
                                                  try clear c9
                                                  try clear c10
                                                  try clear c10b0
                                                  try clear c10b1
                                                  try clear c11
                                                  try clear c11b0
                                                  try clear c11b1
                                                  try clear c17
                                                  try clear c17b0
                                                  try clear c19
                                                  try clear c19b0
                                                  try clear c20
                                                  try clear c20b0
                                                  try clear c21
                                                  try clear c21b0
                                                  try clear c22
                                                  try clear c22b0
                                                  try clear c23
                                                  try clear c23b0
                                                  try clear p24
                                                  try clear q24
                                                  try clear hx24
                                                  try clear hf24
                                                  try clear c26
                                                  try clear c28
                                                  try clear c28b0
                                                  try clear c28b1
                                                  try clear c29
                                                  try clear c29b0
                                                  try clear c29b1
                                                  try clear p29
                                                  try clear q29
                                                  try clear hx29
                                                  try clear c30
                                                  try clear p30
                                                  try clear q30
                                                  try clear hx30
                                                  try clear c32
                                                  try clear c32b0
                                                  try clear c33
                                                  try clear c33b0
                                                  try clear c34
                                                  try clear c34b0
                                                  try clear c36
                                                  try clear c36b0
                                                  try clear c37
                                                  try clear c37b0
                                                  try clear c38
                                                  try clear c38b0
                                                  try clear c39
                                                  try clear c39b0
                                                  try clear c41
                                                  try clear c42
                                                  try clear c42b0
                                                  try clear c43
                                                  try clear c43b0
                                                  try clear c44
                                                  try clear c44b0
                                                  try clear c45
                                                  try clear c45b0
                                                  try clear c48
                                                  try clear c48b0
                                                  try clear c49
                                                  try clear c49b0
                                                  try clear hx24_0
                                                  try clear hx299_0
                                                  try clear hx300_0
                                                  try clear hx305_0
                                                  try clear hx306_0
                                                  try clear hx307_0
                                                  try clear hx308_0
                                                  try clear hx309_0
                                                  try clear p2
                                                  try clear p24
                                                  try clear p29
                                                  try clear p299
                                                  try clear p3
                                                  try clear p30
                                                  try clear p300
                                                  try clear p305
                                                  try clear p306
                                                  try clear p307
                                                  try clear p308
                                                  try clear p309
                                                  try clear p6
                                                  try clear q2
                                                  try clear q24
                                                  try clear q29
                                                  try clear q299
                                                  try clear q3
                                                  try clear q30
                                                  try clear q300
                                                  try clear q305
                                                  try clear q306
                                                  try clear q307
                                                  try clear q308
                                                  try clear q309
                                                  obtain ⟨kq, x103_45, rfl, HA, HJ45, HO_10, HO_11, HO_13, HB⟩ := hcut
                                                  cases kq with
                                                  | zero => exact absurd HA.out (by simp [braid_Draws.j4])
                                                  | succ kj45 =>
                                                    have H := HA.out
                                                    clear HA
                                                    simp only [braid_Draws.j4] at H
                                                    by_cases c51 : x103_45 = true
                                                    · subst c51
                                                      have H1 : (some (([] : List Int), 2)) = some (r1, r2) := by rw [if_pos rfl] at H; exact H
                                                      clear H
                                                      have H := H1
                                                      clear H1
                                                      simp only [Option.some.injEq, Prod.mk.injEq] at H
                                                      obtain ⟨rfl, rfl⟩ := H
                                                      go_wp2
                                                      go_ret2
                                                      exact ⟨_, by first | rfl | (simp [errW_none, errW_some] <;> rfl) | (simp [*, errW_none, errW_some] <;> rfl), by first | exact Kd.R_nil _ _ _ _ _ | exact Kd.N_nil _ _ _ _ _ | exact Kd.V_nil _ _ _ _ _ | exact Kd.Q_nil _ _ _ _ _ | exact Kd.S_nil _ _ _ _ _, by repeat (first | (with_reducible first | exact HB.out | apply below_alloc | apply pw_below_drewN | apply below_drew1) | exact HB.out)⟩
                                                    · replace c51 := Bool.eq_false_iff.mpr c51
                                                      subst c51
                                                      have H1 : (if 0 ≤ (rd l1 x68_3) then (if (rd l1 x68_3) ≤ (x10_3.length : Int) then ((some (x10_3.take ((rd l1 x68_3) : Int).toNat : List Int)).bind fun y310 => (braid_Draws.l2 kj45 l0 l2 x10_3 x11_3 x13_3 (rd l1 x68_3) (rd l2 (rd x11_3 (rd l1 x68_3))) l1 (l1.length : Int) x68_3 y310 (y310.length : Int) 0)) else (none)) else (none)) = some (r1, r2) := by rw [if_neg (show ¬ (false = true) by decide)] at H; exact H
                                                      clear H
                                                      have H := H1
                                                      clear H1
                                                      by_cases c52 : 0 ≤ (rd l1 x68_3)
                                                      · rw [if_pos c52] at H
                                                        have c52b0 := eq_true c52
                                                        have c52b1 : decide (0 ≤ (rd l1 x68_3)) = true := decide_eq_true c52
                                                        clear c52
                                                        by_cases c53 : (rd l1 x68_3) ≤ (x10_3.length : Int)
                                                        · rw [if_pos c53] at H
                                                          have c53b0 := eq_true c53
                                                          have c53b1 : decide ((rd l1 x68_3) ≤ (x10_3.length : Int)) = true := decide_eq_true c53
                                                          clear c53
                                                          obtain ⟨y310, hy310⟩ : ∃ y_ : List Int, y_ = (x10_3.take ((rd l1 x68_3) : Int).toNat) := ⟨_, rfl⟩
                                                          replace H : (braid_Draws.l2 kj45 l0 l2 x10_3 x11_3 x13_3 (rd l1 x68_3) (rd l2 (rd x11_3 (rd l1 x68_3))) l1 (l1.length : Int) x68_3 y310 (y310.length : Int) 0) = some (r1, r2) := by first | (rw [hy310]; with_reducible exact H) | (have H2_ := (Option.bind_some _ _).symm.trans H; rw [hy310]; with_reducible exact H2_) | (have H2_ := (Option.bind_some _ _).symm.trans H; with_reducible exact H2_) | with_reducible exact H | (rw [hy310]; exact H) | exact H
                                                          have Ny310 := Aside0.mk hy310
                                                          clear hy310
                                                          have H' := Aside0.mk H
                                                          clear H
                                                          obtain ⟨Ao55, co55, eo55⟩ := Kd.R_slice HO_10.out
                                                          subst eo55
                                                          have q54 : ((rd l1 x68_3) : Int) ≤ ((x10_3.length : Int) : Int) := of_decide_eq_true (by first | (with_reducible assumption) | assumption)
                                                          obtain ⟨i054, hi054, _, hsz54, _⟩ := info_parts info3
                                                          have hroom54 : x10_3.length ≤ co55 := (Kd.R_reads' HO_10.out).2.1
                                                          have hC54 : Kd.C (Kd.int .i64) _ Ao55 x10_3.length x10_3 := (Kd.R_reads' HO_10.out).2.2
                                                          have hcut54 := cut_to (P := Try.prog) 22 3 .i64 Try.underlying22 hi054 Ao55 x10_3.length co55 (rd l1 x68_3) (of_decide_eq_true (by first | (with_reducible assumption) | assumption)) q54 hroom54
                                                          have hr54 := Kd.C_take (m := ((rd l1 x68_3) : Int).toNat) hC54 (by omega)
                                                          have hy54 : y310.length = ((rd l1 x68_3) : Int).toNat := (by rw [Ny310.out, List.length_take]; omega)
                                                          rw [← Ny310.out] at hr54
                                                          rw [← hy54] at hcut54
                                                          have HR313 := Aside0.mk hr54
                                                          have HC313 := Aside0.mk (show y310.length ≤ co55 from by omega)
                                                          clear hr54 hC54 hroom54 hi054 hsz54
                                                          have KY54 := Aside0.mk hy54
                                                          clear hy54
                                                          have KL54 := Aside0.mk (show ((rd l1 x68_3) : Int).toNat ≤ x10_3.length from by omega)
                                                          replace q54 := eq_true q54
                                                          go_wp2
                                                          go_loopg [16, 108] kj45 (fun kq v16 v108 w' => ∃ (x16_6 : Int) (x108_6 : Int), v16 = .int .i64 x16_6 ∧ v108 = .int .i64 x108_6 ∧ Aside0 (braid_Draws.l2 kq l0 l2 x10_3 x11_3 x13_3 (rd l1 x68_3) x16_6 l1 (l1.length : Int) x68_3 y310 (y310.length : Int) x108_6 = some (r1, r2)) ∧ Aside0 (kq ≤ kj45) ∧ Aside0 (Kd.R (Kd.int .i64) 3 w' w.heap.size (fun k_ => some k_ ≠ ((.slice (some ad307) x11_3.length co47) : Value).ownBlock ∧ some k_ ≠ (u13 : Value).ownBlock) (.slice Ao55 x10_3.length co55) x10_3) ∧ Aside0 (Kd.R (Kd.int .i64) 3 w' w.heap.size (fun k_ => some k_ ≠ ((.slice Ao55 x10_3.length co55) : Value).ownBlock ∧ some k_ ≠ (u13 : Value).ownBlock) (.slice (some ad307) x11_3.length co47) x11_3) ∧ Aside0 (Kd.R (Kd.int .i64) 3 w' w.heap.size (fun k_ => some k_ ≠ ((.slice Ao55 x10_3.length co55) : Value).ownBlock ∧ some k_ ≠ ((.slice (some ad307) x11_3.length co47) : Value).ownBlock) u13 x13_3) ∧ Aside0 (Kd.C (Kd.int .i64) w' Ao55 y310.length y310) ∧ Aside0 (Below w.heap.size w w'))
                                                          case atStart => exact ⟨((rd l2 (rd x11_3 (rd l1 x68_3)))), (0), (by first | rfl | (simp; done) | (simp [*]; done)), (by first | rfl | (simp; done) | (simp [*]; done)), H', ⟨Nat.le_refl _⟩, ⟨by (with_reducible repeat (first | apply Kd.R_alloc | apply Kd.R_drewN | apply Kd.R_drew)); exact HO_10.out⟩, ⟨by (with_reducible repeat (first | apply Kd.R_alloc | apply Kd.R_drewN | apply Kd.R_drew)); exact HO_11.out⟩, ⟨by (with_reducible repeat (first | apply Kd.R_alloc | apply Kd.R_drewN | apply Kd.R_drew)); exact HO_13.out⟩, ⟨by repeat (first | (with_reducible exact HR313.out) | (with_reducible refine Kd.C_alloc ?_ _) | (with_reducible refine Kd.C_drewN ?_ _) | (with_reducible refine Kd.C_drew ?_) | exact HR313.out)⟩, ⟨by repeat (first | (with_reducible first | exact HB.out | apply below_alloc | apply pw_below_drewN | apply below_drew1) | exact HB.out)⟩⟩
                                                          case round =>
                                                            clear H'
                                                            try clear c1
                                                            try clear c2
                                                            try clear p2
                                                            try clear q2
                                                            try clear hx2
                                                            try clear c3
                                                            try clear p3
                                                            try clear q3
                                                            try clear hx3
                                                            try clear c4
                                                            try clear c5
                                                            try clear q5
                                                            try clear c6
                                                            try clear p6
                                                            try clear c7
                                                            try clear c7b0
                                                            try clear c7b1
                                                            try clear c8
                                                            try clear c9
                                                            try clear c10
                                                            try clear c10b0
                                                            try clear c10b1
                                                            try clear c11
                                                            try clear c11b0
                                                            try clear c11b1
                                                            try clear c17
                                                            try clear c17b0
                                                            try clear c19
                                                            try clear c19b0
                                                            try clear c20
                                                            try clear c20b0
                                                            try clear c21
                                                            try clear c21b0
                                                            try clear c22
                                                            try clear c22b0
                                                            try clear c23
                                                            try clear c23b0
                                                            try clear p24
                                                            try clear q24
                                                            try clear hx24
                                                            try clear hf24
                                                            try clear c26
                                                            try clear c28
                                                            try clear c28b0
                                                            try clear c28b1
                                                            try clear c29
                                                            try clear c29b0
                                                            try clear c29b1
                                                            try clear p29
                                                            try clear q29
                                                            try clear hx29
                                                            try clear c30
                                                            try clear p30
                                                            try clear q30
                                                            try clear hx30
                                                            try clear c32
                                                            try clear c32b0
                                                            try clear c33
                                                            try clear c33b0
                                                            try clear c34
                                                            try clear c34b0
                                                            try clear c36
                                                            try clear c36b0
                                                            try clear c37
                                                            try clear c37b0
                                                            try clear c38
                                                            try clear c38b0
                                                            try clear c39
                                                            try clear c39b0
                                                            try clear c41
                                                            try clear c42
                                                            try clear c42b0
                                                            try clear c43
                                                            try clear c43b0
                                                            try clear c44
                                                            try clear c44b0
                                                            try clear c45
                                                            try clear c45b0
                                                            try clear c48
                                                            try clear c48b0
                                                            try clear c49
                                                            try clear c49b0
                                                            try clear c51
                                                            try clear c52
                                                            try clear c52b0
                                                            try clear c52b1
                                                            try clear c53
                                                            try clear c53b0
                                                            try clear c53b1
                                                            try clear q54
                                                            try clear hx24_0
                                                            try clear hx299_0
                                                            try clear hx300_0
                                                            try clear hx305_0
                                                            try clear hx306_0
                                                            try clear hx307_0
                                                            try clear hx308_0
                                                            try clear hx309_0
                                                            try clear p2
                                                            try clear p24
                                                            try clear p29
                                                            try clear p299
                                                            try clear p3
                                                            try clear p30
                                                            try clear p300
                                                            try clear p305
                                                            try clear p306
                                                            try clear p307
                                                            try clear p308
                                                            try clear p309
                                                            try clear p6
                                                            try clear q2
                                                            try clear q24
                                                            try clear q29
                                                            try clear q299
                                                            try clear q3
                                                            try clear q30
                                                            try clear q300
                                                            try clear q305
                                                            try clear q306
                                                            try clear q307
                                                            try clear q308
                                                            try clear q309
                                                            try clear q54
                                                            obtain ⟨x16_6, x108_6, rfl, rfl, HA, HK6, HO_10, HO_11, HO_13, HR313, HB⟩ := hrel
                                                            cases gk with
                                                            | zero => exact absurd HA.out (by simp [braid_Draws.l2])
                                                            | succ k6 =>
                                                              have H := HA.out
                                                              clear HA
                                                              simp only [braid_Draws.l2] at H
                                                              by_cases c56 : x108_6 < (y310.length : Int)
                                                              · rw [if_pos c56] at H
                                                                have c56b0 : decide (x108_6 < (y310.length : Int)) = true := decide_eq_true c56
                                                                clear c56
                                                                by_cases c57 : 0 ≤ x108_6
                                                                · rw [if_pos c57] at H
                                                                  have c57b0 : decide (0 ≤ x108_6) = true := decide_eq_true c57
                                                                  clear c57
                                                                  by_cases c58 : x108_6 < (y310.length : Int)
                                                                  · rw [if_pos c58] at H
                                                                    have c58b0 : decide (x108_6 < (y310.length : Int)) = true := decide_eq_true c58
                                                                    clear c58
                                                                    have H' := Aside0.mk H
                                                                    clear H
                                                                    have p314 : 0 ≤ (x108_6 : Int) := of_decide_eq_true (by first | (with_reducible assumption) | assumption)
                                                                    have q314 : x108_6 < (y310.length : Int) := of_decide_eq_true (by first | (with_reducible assumption) | assumption)
                                                                    obtain ⟨ad314, e314, hx314_0⟩ := Kd.at_int HR313.out x108_6 p314 q314
                                                                    cases e314
                                                                    (try (replace hx314_0 := (HB.out.cell (World.block_lt_of_cell? w _ hx314_0)).trans hx314_0))
                                                                    replace p314 := eq_true p314
                                                                    replace q314 := eq_true q314
                                                                    go_wp2
                                                                    go_roundg k6
                                                                    case measure => have := HJ4.out; have := HK2.out; have := HK3.out; have := HJ34.out; have := HJ45.out; have := HK6.out; omega
                                                                    case rel => exact ⟨(wrap64 (x16_6 + (rd y310 x108_6))), (wrap64 (x108_6 + 1)), (by first | rfl | (simp; done) | (simp [*]; done)), (by first | rfl | (simp; done) | (simp [*]; done)), H', ⟨by have := HJ4.out; have := HK2.out; have := HK3.out; have := HJ34.out; have := HJ45.out; have := HK6.out; omega⟩, ⟨by (with_reducible repeat (first | apply Kd.R_alloc | apply Kd.R_drewN | apply Kd.R_drew)); exact HO_10.out⟩, ⟨by (with_reducible repeat (first | apply Kd.R_alloc | apply Kd.R_drewN | apply Kd.R_drew)); exact HO_11.out⟩, ⟨by (with_reducible repeat (first | apply Kd.R_alloc | apply Kd.R_drewN | apply Kd.R_drew)); exact HO_13.out⟩, ⟨by repeat (first | (with_reducible exact HR313.out) | (with_reducible refine Kd.C_alloc ?_ _) | (with_reducible refine Kd.C_drewN ?_ _) | (with_reducible refine Kd.C_drew ?_) | exact HR313.out)⟩, ⟨by repeat (first | (with_reducible first | exact HB.out | apply below_alloc | apply pw_below_drewN | apply below_drew1) | exact HB.out)⟩⟩
                                                                  · rw [if_neg c58] at H
                                                                    exact absurd H (by simp)
                                                                · rw [if_neg c57] at H
                                                                  exact absurd H (by simp)
                                                              · rw [if_neg c56] at H
                                                                have c56b0 : decide (x108_6 < (y310.length : Int)) = false := decide_eq_false c56
                                                                clear c56
                                                                by_cases c59 : x13_3.length < 17592186044416
                                                                · rw [if_pos c59] at H
                                                                  have LMc59 := Aside0.mk c59
                                                                  clear c59
                                                                  obtain ⟨y315, hy315⟩ : ∃ y_ : List Int, y_ = (x13_3 ++ [x16_6]) := ⟨_, rfl⟩
                                                                  replace H : (if 0 ≤ (rd l1 x68_3) then (if (rd l1 x68_3) < (x10_3.length : Int) then (if (rd l1 x68_3) < (x11_3.length : Int) then (braid_Draws.l1 k6 l0 l2 (x10_3.set ((rd l1 x68_3) : Int).toNat (wrap64 ((rd x10_3 (rd l1 x68_3)) - 1))) (x11_3.set ((rd l1 x68_3) : Int).toNat (wrap64 ((rd x11_3 (rd l1 x68_3)) + 1))) y315 l1 (l1.length : Int) (wrap64 (x68_3 + 1))) else (none)) else (none)) else (none)) = some (r1, r2) := by first | (rw [hy315]; with_reducible exact H) | (have H2_ := (Option.bind_some _ _).symm.trans H; rw [hy315]; with_reducible exact H2_) | (have H2_ := (Option.bind_some _ _).symm.trans H; with_reducible exact H2_) | with_reducible exact H | (rw [hy315]; exact H) | exact H
                                                                  have Ny315 := Aside0.mk hy315
                                                                  clear hy315
                                                                  by_cases c60 : 0 ≤ (rd l1 x68_3)
                                                                  · rw [if_pos c60] at H
                                                                    have c60b0 : decide (0 ≤ (rd l1 x68_3)) = true := decide_eq_true c60
                                                                    clear c60
                                                                    by_cases c61 : (rd l1 x68_3) < (x10_3.length : Int)
                                                                    · rw [if_pos c61] at H
                                                                      have c61b0 : decide ((rd l1 x68_3) < (x10_3.length : Int)) = true := decide_eq_true c61
                                                                      clear c61
                                                                      obtain ⟨y319, hy319⟩ : ∃ y_ : List Int, y_ = (x10_3.set ((rd l1 x68_3) : Int).toNat (wrap64 ((rd x10_3 (rd l1 x68_3)) - 1))) := ⟨_, rfl⟩
                                                                      replace H : (if (rd l1 x68_3) < (x11_3.length : Int) then (braid_Draws.l1 k6 l0 l2 y319 (x11_3.set ((rd l1 x68_3) : Int).toNat (wrap64 ((rd x11_3 (rd l1 x68_3)) + 1))) y315 l1 (l1.length : Int) (wrap64 (x68_3 + 1))) else (none)) = some (r1, r2) := by first | (rw [hy319]; with_reducible exact H) | (have H2_ := (Option.bind_some _ _).symm.trans H; rw [hy319]; with_reducible exact H2_) | (have H2_ := (Option.bind_some _ _).symm.trans H; with_reducible exact H2_) | with_reducible exact H | (rw [hy319]; exact H) | exact H
                                                                      have Ny319 := Aside0.mk hy319
                                                                      clear hy319
                                                                      by_cases c63 : (rd l1 x68_3) < (x11_3.length : Int)
                                                                      · rw [if_pos c63] at H
                                                                        have c63b0 : decide ((rd l1 x68_3) < (x11_3.length : Int)) = true := decide_eq_true c63
                                                                        clear c63
                                                                        obtain ⟨y321, hy321⟩ : ∃ y_ : List Int, y_ = (x11_3.set ((rd l1 x68_3) : Int).toNat (wrap64 ((rd x11_3 (rd l1 x68_3)) + 1))) := ⟨_, rfl⟩
                                                                        replace H : (braid_Draws.l1 k6 l0 l2 y319 y321 y315 l1 (l1.length : Int) (wrap64 (x68_3 + 1))) = some (r1, r2) := by first | (rw [hy321]; with_reducible exact H) | (have H2_ := (Option.bind_some _ _).symm.trans H; rw [hy321]; with_reducible exact H2_) | (have H2_ := (Option.bind_some _ _).symm.trans H; with_reducible exact H2_) | with_reducible exact H | (rw [hy321]; exact H) | exact H
                                                                        have Ny321 := Aside0.mk hy321
                                                                        clear hy321
                                                                        have H' := Aside0.mk H
                                                                        clear H
                                                                        go_wp2_with (first | ((with_reducible refine gate_builtin (b := .append) (xs := #[.tmp 116, .tmp 118]) rfl ?_); (try (refine gate_guard (by rfl) ?_; dsimp only)); at_builtin; refine Kd.R_append (Kd.int .i64) (w0 := w) w.heap.size rfl (.tmp 116) (.tmp 118) 22 3 (.int .i64 0) 8 rfl Try.underlying22 info3 rfl (by decide) (by omega) u13 x13_3 x16_6 [.int .i64 x16_6] (fun k_ => some k_ ≠ (.slice Ao55 x10_3.length co55 : Value).ownBlock ∧ some k_ ≠ (.slice (some ad307) x11_3.length co47 : Value).ownBlock) (fun _ => False) rfl rfl ?aP (fun _ hk => hk.elim) ?aF ?aO ?aB ?aS ?aL ?_; (case aP => exact rfl); (case aB => exact (by repeat (first | (with_reducible first | exact HB.out | apply below_alloc | apply pw_below_drewN | apply below_drew1) | exact HB.out))); (case aF => exact (fun k_ hk => ⟨Kd.fresh' (Kd.R_lt (by (with_reducible repeat (first | apply Kd.R_alloc | apply Kd.R_drewN | apply Kd.R_drew)); exact HO_10.out)) k_ hk, Kd.fresh' (Kd.R_lt (by (with_reducible repeat (first | apply Kd.R_alloc | apply Kd.R_drewN | apply Kd.R_drew)); exact HO_11.out)) k_ hk⟩)); (case aO => exact (by (with_reducible repeat (first | apply Kd.R_alloc | apply Kd.R_drewN | apply Kd.R_drew)); exact HO_13.out)); (case aS => exact (below_size (by repeat (first | (with_reducible first | exact HB.out | apply below_alloc | apply pw_below_drewN | apply below_drew1) | exact HB.out)))); (case aL => have := LMc59.out; omega); intro v316 w65 ho hb hg hat; rw [← Ny315.out] at ho; have n0_ := Aside0.mk (Kd.R_after (ok := (fun k_ => some k_ ≠ (.slice (some ad307) x11_3.length co47 : Value).ownBlock)) (by (with_reducible repeat (first | apply Kd.R_alloc | apply Kd.R_drewN | apply Kd.R_drew)); exact HO_10.out) hg hat); have n1_ := Aside0.mk (Kd.R_after (ok := (fun k_ => some k_ ≠ (.slice Ao55 x10_3.length co55 : Value).ownBlock)) (by (with_reducible repeat (first | apply Kd.R_alloc | apply Kd.R_drewN | apply Kd.R_drew)); exact HO_11.out) hg hat); have n2_ := Aside0.mk (hb); have n3_ := Aside0.mk ((show Kd.C (Kd.int .i64) w65 Ao55 y310.length y310 from by rw [Ny310.out]; exact Kd.C_take (m := ((rd l1 x68_3) : Int).toNat) ((Kd.R_reads' (Kd.R_after (ok := (fun k_ => some k_ ≠ (.slice (some ad307) x11_3.length co47 : Value).ownBlock)) (by (with_reducible repeat (first | apply Kd.R_alloc | apply Kd.R_drewN | apply Kd.R_drew)); exact HO_10.out) hg hat)).2.2) KL54.out)); have n4_ := Aside0.mk (ho); clear HO_10; clear HO_11; clear HB; clear HR313; clear HO_13; have HO_10 := n0_; have HO_11 := n1_; have HB := n2_; have HR313 := n3_; have HO317 := n4_; clear n0_ n1_ n2_ n3_ n4_; clear ho hb hg hat; have p318 : 0 ≤ ((rd l1 x68_3) : Int) := of_decide_eq_true (by first | (with_reducible assumption) | assumption); have q318 : (rd l1 x68_3) < (x10_3.length : Int) := of_decide_eq_true (by first | (with_reducible assumption) | assumption); obtain ⟨ad318, e318, hx318_0⟩ := Kd.at_int (Kd.R_reads' HO_10.out).2.2 (rd l1 x68_3) p318 q318; cases e318; replace p318 := eq_true p318; replace q318 := eq_true q318; have p62 : 0 ≤ ((rd l1 x68_3) : Int) := of_decide_eq_true (by first | (with_reducible assumption) | assumption); have q62 : ((rd l1 x68_3) : Int) < ((x10_3.length : Int) : Int) := of_decide_eq_true (by first | (with_reducible assumption) | assumption); obtain ⟨go62, co62, eo62, gb62, gl62, cl62, HG62⟩ := Kd.R_form HO_10.out (by omega); (first | cases eo62 | (injection eo62 with ea_ en_ ec_; (first | subst ea_ | (injection ea_ with ea_; subst ea_)); subst ec_; clear en_)); have GB62 := Aside0.mk gb62; have GG62 := Aside0.mk HG62; clear gb62 gl62 HG62; (first | simp only [add_plain] at hx318_0 | skip); obtain ⟨hx62_0, hf62_0⟩ := Kd.R_celln 0 HO_10.out ((rd l1 x68_3) : Int) p62 q62; replace p62 := eq_true p62; replace q62 := eq_true q62; obtain ⟨hy66_, hz66_⟩ := Kd.R_celln 0 HO_10.out ((rd l1 x68_3) : Int) (of_decide_eq_true (by first | (with_reducible assumption) | assumption)) (of_decide_eq_true (by first | (with_reducible assumption) | assumption)); have HP66 := Kd.R_putg HO_10.out ((rd l1 x68_3) : Int) (wrap64 ((rd x10_3 (rd l1 x68_3)) - 1))) | ((with_reducible refine gate_store (t := 3) (p := 125) rfl ?_); refine store_event (t := 3) (p := 125) (v := ?vo_w67) (w1 := (w65.setCell ⟨go62, ((rd l1 x68_3) : Int).toNat, none⟩ (.int .i64 (wrap64 ((rd x10_3 (rd l1 x68_3)) - 1))))) ?hg ?ho ?hn ?hr ?_; (case ho => rfl); (case hg => rfl); (case hn => rfl); (case hr => first | (go_simp; done) | (go_simp; rfl)); intro w67 hw; have hg : w65.grownBy w67 (some go62) := (by rw [hw]; exact HP66.2); have hp_ : Kd.R (Kd.int .i64) 3 w67 w.heap.size (fun k_ => some k_ ≠ (.slice (some ad307) x11_3.length co47 : Value).ownBlock ∧ some k_ ≠ (v316 : Value).ownBlock) (.slice (some ⟨go62, 0, none⟩) x10_3.length co55) y319 := (by rw [hw, Ny319.out]; exact HP66.1); clear HP66; have n0_ := Aside0.mk (hp_); have n1_ := Aside0.mk (Kd.R_after (v := (.slice (some ⟨go62, 0, none⟩) x10_3.length co55)) (v1 := (.slice (some ⟨go62, 0, none⟩) x10_3.length co55)) (ok := (fun k_ => some k_ ≠ (v316 : Value).ownBlock)) (by (with_reducible repeat (first | apply Kd.R_alloc | apply Kd.R_drewN | apply Kd.R_drew)); exact Kd.R_mono HO_11.out (fun _ hk => ⟨hk.2, hk.1⟩)) hg (.inl rfl)); have n2_ := Aside0.mk (Kd.R_after (v := (.slice (some ⟨go62, 0, none⟩) x10_3.length co55)) (v1 := (.slice (some ⟨go62, 0, none⟩) x10_3.length co55)) (ok := (fun k_ => some k_ ≠ (.slice (some ad307) x11_3.length co47 : Value).ownBlock)) (by (with_reducible repeat (first | apply Kd.R_alloc | apply Kd.R_drewN | apply Kd.R_drew)); exact Kd.R_mono HO317.out (fun _ hk => ⟨hk.2, hk.1⟩)) hg (.inl rfl)); have n3_ := Aside0.mk ((by rw [hw]; exact below_set (HB.out) GB62.out : Below w.heap.size w w67)); clear HO_10; clear HO_11; clear HO317; clear HB; have HO_10 := n0_; have HO_11 := n1_; have HO317 := n2_; have HB := n3_; clear n0_ n1_ n2_ n3_; clear hg hw hp_; have p320 : 0 ≤ ((rd l1 x68_3) : Int) := of_decide_eq_true (by first | (with_reducible assumption) | assumption); have q320 : (rd l1 x68_3) < (x11_3.length : Int) := of_decide_eq_true (by first | (with_reducible assumption) | assumption); obtain ⟨ad320, e320, hx320_0⟩ := Kd.at_int (Kd.R_reads' HO_11.out).2.2 (rd l1 x68_3) p320 q320; obtain rfl : ad307 = ad320 := (by injection e320); replace p320 := eq_true p320; replace q320 := eq_true q320; have p64 : 0 ≤ ((rd l1 x68_3) : Int) := of_decide_eq_true (by first | (with_reducible assumption) | assumption); have q64 : ((rd l1 x68_3) : Int) < ((x11_3.length : Int) : Int) := of_decide_eq_true (by first | (with_reducible assumption) | assumption); obtain ⟨go64, co64, eo64, gb64, gl64, cl64, HG64⟩ := Kd.R_form HO_11.out (by omega); (first | cases eo64 | (injection eo64 with ea_ en_ ec_; (first | subst ea_ | (injection ea_ with ea_; subst ea_)); subst ec_; clear en_)); have GB64 := Aside0.mk gb64; have GG64 := Aside0.mk HG64; clear gb64 gl64 HG64; (first | simp only [add_plain] at hx307_0 | skip); (first | simp only [add_plain] at hx320_0 | skip); obtain ⟨hx64_0, hf64_0⟩ := Kd.R_celln 0 HO_11.out ((rd l1 x68_3) : Int) p64 q64; replace p64 := eq_true p64; replace q64 := eq_true q64; obtain ⟨hy68_, hz68_⟩ := Kd.R_celln 0 HO_11.out ((rd l1 x68_3) : Int) (of_decide_eq_true (by first | (with_reducible assumption) | assumption)) (of_decide_eq_true (by first | (with_reducible assumption) | assumption)); have HP68 := Kd.R_putg HO_11.out ((rd l1 x68_3) : Int) (wrap64 ((rd x11_3 (rd l1 x68_3)) + 1))) | ((with_reducible refine gate_store (t := 3) (p := 131) rfl ?_); refine store_event (t := 3) (p := 131) (v := ?vo_w69) (w1 := (w67.setCell ⟨go64, ((rd l1 x68_3) : Int).toNat, none⟩ (.int .i64 (wrap64 ((rd x11_3 (rd l1 x68_3)) + 1))))) ?hg ?ho ?hn ?hr ?_; (case ho => rfl); (case hg => rfl); (case hn => rfl); (case hr => first | (go_simp; done) | (go_simp; rfl)); intro w69 hw; have hg : w67.grownBy w69 (some go64) := (by rw [hw]; exact HP68.2); have hp_ : Kd.R (Kd.int .i64) 3 w69 w.heap.size (fun k_ => some k_ ≠ (v316 : Value).ownBlock ∧ some k_ ≠ (.slice (some ⟨go62, 0, none⟩) x10_3.length co55 : Value).ownBlock) (.slice (some ⟨go64, 0, none⟩) x11_3.length co47) y321 := (by rw [hw, Ny321.out]; exact HP68.1); clear HP68; have n0_ := Aside0.mk (Kd.R_after (v := (.slice (some ⟨go64, 0, none⟩) x11_3.length co47)) (v1 := (.slice (some ⟨go64, 0, none⟩) x11_3.length co47)) (ok := (fun k_ => some k_ ≠ (v316 : Value).ownBlock)) (by (with_reducible repeat (first | apply Kd.R_alloc | apply Kd.R_drewN | apply Kd.R_drew)); exact Kd.R_mono HO_10.out (fun _ hk => ⟨hk.2, hk.1⟩)) hg (.inl rfl)); have n1_ := Aside0.mk (hp_); have n2_ := Aside0.mk (Kd.R_after (v := (.slice (some ⟨go64, 0, none⟩) x11_3.length co47)) (v1 := (.slice (some ⟨go64, 0, none⟩) x11_3.length co47)) (ok := (fun k_ => some k_ ≠ (.slice (some ⟨go62, 0, none⟩) x10_3.length co55 : Value).ownBlock)) (by (with_reducible repeat (first | apply Kd.R_alloc | apply Kd.R_drewN | apply Kd.R_drew)); exact Kd.R_mono HO317.out (fun _ hk => ⟨hk.2, hk.1⟩)) hg (.inl rfl)); have n3_ := Aside0.mk ((by rw [hw]; exact below_set (HB.out) GB64.out : Below w.heap.size w w69)); clear HO_10; clear HO_11; clear HO317; clear HB; have HO_10 := n0_; have HO_11 := n1_; have HO317 := n2_; have HB := n3_; clear n0_ n1_ n2_ n3_; clear hg hw hp_))
                                                                        go_roundg k6
                                                                        case measure => have := HJ4.out; have := HK2.out; have := HK3.out; have := HJ34.out; have := HJ45.out; have := HK6.out; omega
                                                                        case rel => exact ⟨(y319), (y321), (y315), (wrap64 (x68_3 + 1)), (by first | rfl | (simp; done) | (simp [*]; done)), H', ⟨by have := HJ4.out; have := HK2.out; have := HK3.out; have := HJ34.out; have := HJ45.out; have := HK6.out; omega⟩, ⟨by (with_reducible repeat (first | apply Kd.R_alloc | apply Kd.R_drewN | apply Kd.R_drew)); exact Kd.R_mono HO_10.out (fun _ hk => ⟨hk.2, hk.1⟩)⟩, ⟨by (with_reducible repeat (first | apply Kd.R_alloc | apply Kd.R_drewN | apply Kd.R_drew)); exact Kd.R_mono HO_11.out (fun _ hk => ⟨hk.2, hk.1⟩)⟩, ⟨by (with_reducible repeat (first | apply Kd.R_alloc | apply Kd.R_drewN | apply Kd.R_drew)); exact HO317.out⟩, ⟨by repeat (first | (with_reducible first | exact HB.out | apply below_alloc | apply pw_below_drewN | apply below_drew1) | exact HB.out)⟩⟩
                                                                      · rw [if_neg c63] at H
                                                                        exact absurd H (by simp)
                                                                    · rw [if_neg c61] at H
                                                                      exact absurd H (by simp)
                                                                  · rw [if_neg c60] at H
                                                                    exact absurd H (by simp)
                                                                · rw [if_neg c59] at H
                                                                  exact absurd H (by simp)
                                                        · rw [if_neg c53] at H
                                                          exact absurd H (by simp)
                                                      · rw [if_neg c52] at H
                                                        exact absurd H (by simp)
                                              · rw [if_neg c45] at H
                                                exact absurd H (by simp)
                                            · rw [if_neg c44] at H
                                              exact absurd H (by simp)
                                          · rw [if_neg c43] at H
                                            exact absurd H (by simp)
                                        · rw [if_neg c42] at H
                                          exact absurd H (by simp)
                                · rw [if_neg c34] at H
                                  exact absurd H (by simp)
                              · rw [if_neg c33] at H
                                exact absurd H (by simp)
                            · rw [if_neg c32] at H
                              have c32b0 : decide (x68_3 < (l1.length : Int)) = false := decide_eq_false c32
                              clear c32
                              simp only [Option.some.injEq, Prod.mk.injEq] at H
                              obtain ⟨rfl, rfl⟩ := H
                              go_wp2
                              go_ret2
                              exact ⟨_, by first | rfl | (simp [errW_none, errW_some] <;> rfl) | (simp [*, errW_none, errW_some] <;> rfl), by (with_reducible repeat (first | apply Kd.R_alloc | apply Kd.R_drewN | apply Kd.R_drew)); exact Kd.R_mono HO_13.out (fun _ hk => trivial), by repeat (first | (with_reducible first | exact HB.out | apply below_alloc | apply pw_below_drewN | apply below_drew1) | exact HB.out)⟩
                      · rw [if_neg c29] at H
                        exact absurd H (by simp)
                    · rw [if_neg c28] at H
                      exact absurd H (by simp)
            · rw [if_neg c11] at H
              exact absurd H (by simp)
          · rw [if_neg c10] at H
            exact absurd H (by simp)
        · rw [if_neg c9] at H
          exact absurd H (by simp)

end Go.Proofs.Ytiefmocfgneldaa.Q
