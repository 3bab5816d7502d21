/- Functions of the program as plain Lean functions, each with a proof that its call comes to just these answers, or the row that joins them to the given statement; no condition beside the statement's own. Written for this claim by pf.py, this session's program over the kit's print. -/
import Derived.Test.YthkcadmjfkcbgaaQx0
import Derived.Test.YthkcadmjfkcbgaaQx5
import Derived.Test.YthkcadmjfkcbgaaQx9
import Derived.Test.YthkcadmjfkcbgaaQx10
import Derived.Test.YthkcadmjfkcbgaaQx11
import Derived.Test.YthkcadmjfkcbgaaQx14
import Derived.Test.YthkcadmjfkcbgaaQx15
import Derived.Test.YthkcadmjfkcbgaaQx17
namespace Go.Proofs.Ythkcadmjfkcbgaa.Q
open Go.RowKit Go.Proofs.YthkcadmjfkcbgaaW.PrintWords Go.Proofs.YthkcadmjfkcbgaaW.PrintLast Go.Proofs.YthkcadmjfkcbgaaW.PrintMore
attribute [local go_sem] max2_int min2_int max_two min_two max_three min_three max_four min_four   -- for this text's walks alone
set_option linter.unusedVariables false
set_option linter.unusedSimpArgs false

/-! ### churnlaw06_FramePacks: function 3 -/
mutual
def churnlaw06_FramePacks.j0 : Nat → List Int → List Int → List Int → Bool → Int → Int → Int → List (List Int) → Option (Bool)
  | 0, _, _, _, _, _, _, _, _ => none
  | k + 1, x4, x6, x8, x67, x242000, x242001, x242002, x242003 => if x67 = true then (some false) else (churnlaw06_FramePacks.l0 k x4 x6 x8 (x6.length : Int) 0 x242000 x242001 x242002 x242003)
def churnlaw06_FramePacks.l0 : Nat → List Int → List Int → List Int → Int → Int → Int → Int → Int → List (List Int) → Option (Bool)
  | 0, _, _, _, _, _, _, _, _, _ => none
  | k + 1, x4, x6, x8, x69, x70, x242000, x242001, x242002, x242003 => if x70 < x69 then (if 0 ≤ x70 then (if x70 < (x6.length : Int) then (churnlaw06_FramePacks.l0 k x4 (x6.set (x70 : Int).toNat 85) x8 x69 (wrap64 (x70 + 1)) x242000 x242001 x242002 x242003) else (none)) else (none)) else ((some (([85, 85, 85, 85] : List Int) : List Int)).bind fun y258 => (if x6.length + y258.length < 140737488355328 then (churnlaw06_FramePacks.l1 k x4 (x6 ++ y258) x8 (x242003.length : Int) 0 x242000 x242001 x242002 x242003) else (none)))
def churnlaw06_FramePacks.l1 : Nat → List Int → List Int → List Int → Int → Int → Int → Int → Int → List (List Int) → Option (Bool)
  | 0, _, _, _, _, _, _, _, _, _ => none
  | k + 1, x4, x6, x8, x82, x83, x242000, x242001, x242002, x242003 => if x83 < x82 then (if 0 ≤ x83 then (if x83 < (x242003.length : Int) then (churnlaw06_FramePacks.l2 k x4 x6 x8 x83 x82 x83 ((rd_L1 x242003 x83).length : Int) 0 x242000 x242001 x242002 x242003) else (none)) else (none)) else ((churnref06_Pack.f k x242000 x242001 x242002 x242003).bind fun bt270 => ((frame_Pack.f k x242000 x242001 x242002 x242003).bind fun bt274 => ((churnlaw06_same.f x8 x4).bind fun t278 => (if t278 = true then (if bt274.2 = bt270.2 then ((churnlaw06_same.f bt274.1 bt270.1).bind fun t279 => (if t279 = true then (some (decide ((x6.length : Int) ≥ 4))) else (some false))) else (some false)) else (some false)))))
def churnlaw06_FramePacks.l2 : Nat → List Int → List Int → List Int → Int → Int → Int → Int → Int → Int → Int → Int → List (List Int) → Option (Bool)
  | 0, _, _, _, _, _, _, _, _, _, _, _, _ => none
  | k + 1, x4, x6, x8, x11, x82, x83, x91, x92, x242000, x242001, x242002, x242003 => if x92 < x91 then (if 0 ≤ x11 then (if x11 < (x242003.length : Int) then (if 0 ≤ x92 then (if x92 < ((rd_L1 x242003 x11).length : Int) then (churnlaw06_FramePacks.l2 k x4 x6 x8 x11 x82 x83 x91 (wrap64 (x92 + 1)) x242000 x242001 x242002 (x242003.set (x11 : Int).toNat ((rd_L1 x242003 x11).set (x92 : Int).toNat (Go.bits .xor .u8 (rd (rd_L1 x242003 x11) x92) 170)))) else (none)) else (none)) else (none)) else (none)) else (churnlaw06_FramePacks.l1 k x4 x6 x8 x82 (wrap64 (x83 + 1)) x242000 x242001 x242002 x242003)
end
def churnlaw06_FramePacks.f (k : Nat) (a0_0 : Int) (a0_1 : Int) (a0_2 : Int) (l0_3 : List (List Int)) : Option (Bool) := (churnlaw06_awake.f k).bind fun t236 => (if t236 = true then ((churnlaw06_great.f k l0_3).bind fun t237 => (if t237 = true then (some true) else ((churnlaw06_copied.f k l0_3).bind fun t238 => ((churnref06_Pack.f k a0_0 a0_1 a0_2 l0_3).bind fun bt242 => ((frame_Pack.f k a0_0 a0_1 a0_2 t238).bind fun bt246 => ((frame_Pack.f k a0_0 a0_1 a0_2 t238).bind fun bt250 => (if bt246.2 = bt242.2 then (if bt250.2 = bt242.2 then ((churnlaw06_same.f bt246.1 bt242.1).bind fun t254 => (if t254 = true then ((churnlaw06_same.f bt250.1 bt242.1).bind fun t255 => (if t255 = true then ((churnlaw06_alike.f k a0_0 a0_1 a0_2 t238 a0_0 a0_1 a0_2 l0_3).bind fun t256 => (churnlaw06_FramePacks.j0 k bt242.1 bt246.1 bt250.1 (!t256) a0_0 a0_1 a0_2 t238)) else (churnlaw06_FramePacks.j0 k bt242.1 bt246.1 bt250.1 true a0_0 a0_1 a0_2 t238))) else (churnlaw06_FramePacks.j0 k bt242.1 bt246.1 bt250.1 true a0_0 a0_1 a0_2 t238))) else (churnlaw06_FramePacks.j0 k bt242.1 bt246.1 bt250.1 true a0_0 a0_1 a0_2 t238)) else (churnlaw06_FramePacks.j0 k bt242.1 bt246.1 bt250.1 true a0_0 a0_1 a0_2 t238)))))))) else (some false))
theorem churnlaw06_FramePacks.mono_l : ∀ k, (∀ y0 y1 y2 y3 y4 y5 y6 y7, LeO (churnlaw06_FramePacks.j0 k y0 y1 y2 y3 y4 y5 y6 y7) (churnlaw06_FramePacks.j0 (k + 1) y0 y1 y2 y3 y4 y5 y6 y7)) ∧ (∀ y0 y1 y2 y3 y4 y5 y6 y7 y8, LeO (churnlaw06_FramePacks.l0 k y0 y1 y2 y3 y4 y5 y6 y7 y8) (churnlaw06_FramePacks.l0 (k + 1) y0 y1 y2 y3 y4 y5 y6 y7 y8)) ∧ (∀ y0 y1 y2 y3 y4 y5 y6 y7 y8, LeO (churnlaw06_FramePacks.l1 k y0 y1 y2 y3 y4 y5 y6 y7 y8) (churnlaw06_FramePacks.l1 (k + 1) y0 y1 y2 y3 y4 y5 y6 y7 y8)) ∧ (∀ y0 y1 y2 y3 y4 y5 y6 y7 y8 y9 y10 y11, LeO (churnlaw06_FramePacks.l2 k y0 y1 y2 y3 y4 y5 y6 y7 y8 y9 y10 y11) (churnlaw06_FramePacks.l2 (k + 1) y0 y1 y2 y3 y4 y5 y6 y7 y8 y9 y10 y11))
  | 0 => ⟨fun _ _ _ _ _ _ _ _ r h => by simp [churnlaw06_FramePacks.j0] at h, fun _ _ _ _ _ _ _ _ _ r h => by simp [churnlaw06_FramePacks.l0] at h, fun _ _ _ _ _ _ _ _ _ r h => by simp [churnlaw06_FramePacks.l1] at h, fun _ _ _ _ _ _ _ _ _ _ _ _ r h => by simp [churnlaw06_FramePacks.l2] at h⟩
  | k + 1 => by
    obtain ⟨ih0, ih1, ih2, ih3⟩ := churnlaw06_FramePacks.mono_l k
    refine ⟨?_, ?_, ?_, ?_⟩
    · intro y0 y1 y2 y3 y4 y5 y6 y7
      unfold churnlaw06_FramePacks.j0
      repeat' first
      | (with_reducible exact ih0 _ _ _ _ _ _ _ _)
      | (with_reducible exact ih1 _ _ _ _ _ _ _ _ _)
      | (with_reducible exact ih2 _ _ _ _ _ _ _ _ _)
      | (with_reducible exact ih3 _ _ _ _ _ _ _ _ _ _ _ _)
      | (with_reducible exact churnlaw06_alike.mono _ _ _ _ _ _ _ _ _)
      | (with_reducible exact churnlaw06_awake.mono _)
      | (with_reducible exact churnlaw06_copied.mono _ _)
      | (with_reducible exact churnlaw06_great.mono _ _)
      | (with_reducible exact churnref06_Pack.mono _ _ _ _ _)
      | (with_reducible exact frame_Pack.mono _ _ _ _ _)
      | (with_reducible exact LeO.refl _)
      | (with_reducible exact LeO.none _)
      | (with_reducible refine LeO.ite ?_ ?_)
      | (with_reducible refine LeO.bind ?_ (fun _ => ?_))
      | exact ih0 _ _ _ _ _ _ _ _
      | exact ih1 _ _ _ _ _ _ _ _ _
      | exact ih2 _ _ _ _ _ _ _ _ _
      | exact ih3 _ _ _ _ _ _ _ _ _ _ _ _
      | exact churnlaw06_alike.mono _ _ _ _ _ _ _ _ _
      | exact churnlaw06_awake.mono _
      | exact churnlaw06_copied.mono _ _
      | exact churnlaw06_great.mono _ _
      | exact churnref06_Pack.mono _ _ _ _ _
      | exact frame_Pack.mono _ _ _ _ _
      | exact LeO.none _
      | refine LeO.ite ?_ ?_
      | refine LeO.bind ?_ (fun _ => ?_)
    · intro y0 y1 y2 y3 y4 y5 y6 y7 y8
      unfold churnlaw06_FramePacks.l0
      repeat' first
      | (with_reducible exact ih0 _ _ _ _ _ _ _ _)
      | (with_reducible exact ih1 _ _ _ _ _ _ _ _ _)
      | (with_reducible exact ih2 _ _ _ _ _ _ _ _ _)
      | (with_reducible exact ih3 _ _ _ _ _ _ _ _ _ _ _ _)
      | (with_reducible exact churnlaw06_alike.mono _ _ _ _ _ _ _ _ _)
      | (with_reducible exact churnlaw06_awake.mono _)
      | (with_reducible exact churnlaw06_copied.mono _ _)
      | (with_reducible exact churnlaw06_great.mono _ _)
      | (with_reducible exact churnref06_Pack.mono _ _ _ _ _)
      | (with_reducible exact frame_Pack.mono _ _ _ _ _)
      | (with_reducible exact LeO.refl _)
      | (with_reducible exact LeO.none _)
      | (with_reducible refine LeO.ite ?_ ?_)
      | (with_reducible refine LeO.bind ?_ (fun _ => ?_))
      | exact ih0 _ _ _ _ _ _ _ _
      | exact ih1 _ _ _ _ _ _ _ _ _
      | exact ih2 _ _ _ _ _ _ _ _ _
      | exact ih3 _ _ _ _ _ _ _ _ _ _ _ _
      | exact churnlaw06_alike.mono _ _ _ _ _ _ _ _ _
      | exact churnlaw06_awake.mono _
      | exact churnlaw06_copied.mono _ _
      | exact churnlaw06_great.mono _ _
      | exact churnref06_Pack.mono _ _ _ _ _
      | exact frame_Pack.mono _ _ _ _ _
      | exact LeO.none _
      | refine LeO.ite ?_ ?_
      | refine LeO.bind ?_ (fun _ => ?_)
    · intro y0 y1 y2 y3 y4 y5 y6 y7 y8
      unfold churnlaw06_FramePacks.l1
      repeat' first
      | (with_reducible exact ih0 _ _ _ _ _ _ _ _)
      | (with_reducible exact ih1 _ _ _ _ _ _ _ _ _)
      | (with_reducible exact ih2 _ _ _ _ _ _ _ _ _)
      | (with_reducible exact ih3 _ _ _ _ _ _ _ _ _ _ _ _)
      | (with_reducible exact churnlaw06_alike.mono _ _ _ _ _ _ _ _ _)
      | (with_reducible exact churnlaw06_awake.mono _)
      | (with_reducible exact churnlaw06_copied.mono _ _)
      | (with_reducible exact churnlaw06_great.mono _ _)
      | (with_reducible exact churnref06_Pack.mono _ _ _ _ _)
      | (with_reducible exact frame_Pack.mono _ _ _ _ _)
      | (with_reducible exact LeO.refl _)
      | (with_reducible exact LeO.none _)
      | (with_reducible refine LeO.ite ?_ ?_)
      | (with_reducible refine LeO.bind ?_ (fun _ => ?_))
      | exact ih0 _ _ _ _ _ _ _ _
      | exact ih1 _ _ _ _ _ _ _ _ _
      | exact ih2 _ _ _ _ _ _ _ _ _
      | exact ih3 _ _ _ _ _ _ _ _ _ _ _ _
      | exact churnlaw06_alike.mono _ _ _ _ _ _ _ _ _
      | exact churnlaw06_awake.mono _
      | exact churnlaw06_copied.mono _ _
      | exact churnlaw06_great.mono _ _
      | exact churnref06_Pack.mono _ _ _ _ _
      | exact frame_Pack.mono _ _ _ _ _
      | exact LeO.none _
      | refine LeO.ite ?_ ?_
      | refine LeO.bind ?_ (fun _ => ?_)
    · intro y0 y1 y2 y3 y4 y5 y6 y7 y8 y9 y10 y11
      unfold churnlaw06_FramePacks.l2
      repeat' first
      | (with_reducible exact ih0 _ _ _ _ _ _ _ _)
      | (with_reducible exact ih1 _ _ _ _ _ _ _ _ _)
      | (with_reducible exact ih2 _ _ _ _ _ _ _ _ _)
      | (with_reducible exact ih3 _ _ _ _ _ _ _ _ _ _ _ _)
      | (with_reducible exact churnlaw06_alike.mono _ _ _ _ _ _ _ _ _)
      | (with_reducible exact churnlaw06_awake.mono _)
      | (with_reducible exact churnlaw06_copied.mono _ _)
      | (with_reducible exact churnlaw06_great.mono _ _)
      | (with_reducible exact churnref06_Pack.mono _ _ _ _ _)
      | (with_reducible exact frame_Pack.mono _ _ _ _ _)
      | (with_reducible exact LeO.refl _)
      | (with_reducible exact LeO.none _)
      | (with_reducible refine LeO.ite ?_ ?_)
      | (with_reducible refine LeO.bind ?_ (fun _ => ?_))
      | exact ih0 _ _ _ _ _ _ _ _
      | exact ih1 _ _ _ _ _ _ _ _ _
      | exact ih2 _ _ _ _ _ _ _ _ _
      | exact ih3 _ _ _ _ _ _ _ _ _ _ _ _
      | exact churnlaw06_alike.mono _ _ _ _ _ _ _ _ _
      | exact churnlaw06_awake.mono _
      | exact churnlaw06_copied.mono _ _
      | exact churnlaw06_great.mono _ _
      | exact churnref06_Pack.mono _ _ _ _ _
      | exact frame_Pack.mono _ _ _ _ _
      | exact LeO.none _
      | refine LeO.ite ?_ ?_
      | refine LeO.bind ?_ (fun _ => ?_)
theorem churnlaw06_FramePacks.mono : ∀ a0 a1 a2 a3 k, LeO (churnlaw06_FramePacks.f k a0 a1 a2 a3) (churnlaw06_FramePacks.f (k + 1) a0 a1 a2 a3) := by
  intro a0 a1 a2 a3 k
  obtain ⟨ih0, ih1, ih2, ih3⟩ := churnlaw06_FramePacks.mono_l k
  unfold churnlaw06_FramePacks.f
  repeat' first
      | (with_reducible exact ih0 _ _ _ _ _ _ _ _)
      | (with_reducible exact ih1 _ _ _ _ _ _ _ _ _)
      | (with_reducible exact ih2 _ _ _ _ _ _ _ _ _)
      | (with_reducible exact ih3 _ _ _ _ _ _ _ _ _ _ _ _)
      | (with_reducible exact churnlaw06_alike.mono _ _ _ _ _ _ _ _ _)
      | (with_reducible exact churnlaw06_awake.mono _)
      | (with_reducible exact churnlaw06_copied.mono _ _)
      | (with_reducible exact churnlaw06_great.mono _ _)
      | (with_reducible exact churnref06_Pack.mono _ _ _ _ _)
      | (with_reducible exact frame_Pack.mono _ _ _ _ _)
      | (with_reducible exact LeO.refl _)
      | (with_reducible exact LeO.none _)
      | (with_reducible refine LeO.ite ?_ ?_)
      | (with_reducible refine LeO.bind ?_ (fun _ => ?_))
      | exact ih0 _ _ _ _ _ _ _ _
      | exact ih1 _ _ _ _ _ _ _ _ _
      | exact ih2 _ _ _ _ _ _ _ _ _
      | exact ih3 _ _ _ _ _ _ _ _ _ _ _ _
      | exact churnlaw06_alike.mono _ _ _ _ _ _ _ _ _
      | exact churnlaw06_awake.mono _
      | exact churnlaw06_copied.mono _ _
      | exact churnlaw06_great.mono _ _
      | exact churnref06_Pack.mono _ _ _ _ _
      | exact frame_Pack.mono _ _ _ _ _
      | exact LeO.none _
      | refine LeO.ite ?_ ?_
      | refine LeO.bind ?_ (fun _ => ?_)
def churnlaw06_FramePacks.T5 : Bool × List (List Nat × List Nat) := (true, [([], []), ([0], [0]), ([], []), ([2], [2]), ([3], [3]), ([1, 4], [1, 4]), ([], []), ([6, 5, 4, 0, 1, 2, 3, 4, 5, 6], [5, 6])])
def churnlaw06_FramePacks.B5 : List Nat := [0, 1, 0, 4, 12, 31, 0, 127]
theorem churnlaw06_FramePacks.tab5 : rtab .any (opsOf Try.f3 5) = churnlaw06_FramePacks.T5 := by kernel_rfl
theorem churnlaw06_FramePacks.bits5 : waitsOk churnlaw06_FramePacks.T5.2 churnlaw06_FramePacks.B5 = true := by kernel_rfl
set_option maxHeartbeats 8000000 in
set_option maxRecDepth 100000 in
theorem churnlaw06_FramePacks.calls (k : Nat) (a0_0 : Int) (a0_1 : Int) (a0_2 : Int) (A0_3 : Option Addr) (c0_3 : Nat) (l0_3 : List (List Int)) (r : Bool) (w : World) (hr0_3 : Kd.C (Kd.slice 5 (Kd.int .u8)) w A0_3 l0_3.length l0_3) (hc0_3 : l0_3.length ≤ c0_3) (hr_ : r = true) (h : churnlaw06_FramePacks.f k a0_0 a0_1 a0_2 l0_3 = some r) :
    Calls Try.prog 3 #[.agg #[.int .i64 a0_0, .int .i64 a0_1, .int .i64 a0_2, .slice A0_3 l0_3.length c0_3]] w fun e w' => e = .returned (.bool r) ∧ Below w.heap.size w w' := by
  have HR_ := Aside0.mk hr_
  clear hr_
  have hu26 := Try.underlying26
  have hu23 := Try.underlying23
  have HR0_3 := Aside0.mk hr0_3
  have HC0_3 := Aside0.mk hc0_3
  clear hr0_3 hc0_3
  have HB := Aside0.mk (Below.refl w.heap.size w)
  have H : ((churnlaw06_awake.f k).bind fun t236 => (if t236 = true then ((churnlaw06_great.f k l0_3).bind fun t237 => (if t237 = true then (some true) else ((churnlaw06_copied.f k l0_3).bind fun t238 => ((churnref06_Pack.f k a0_0 a0_1 a0_2 l0_3).bind fun bt242 => ((frame_Pack.f k a0_0 a0_1 a0_2 t238).bind fun bt246 => ((frame_Pack.f k a0_0 a0_1 a0_2 t238).bind fun bt250 => (if bt246.2 = bt242.2 then (if bt250.2 = bt242.2 then ((churnlaw06_same.f bt246.1 bt242.1).bind fun t254 => (if t254 = true then ((churnlaw06_same.f bt250.1 bt242.1).bind fun t255 => (if t255 = true then ((churnlaw06_alike.f k a0_0 a0_1 a0_2 t238 a0_0 a0_1 a0_2 l0_3).bind fun t256 => (churnlaw06_FramePacks.j0 k bt242.1 bt246.1 bt250.1 (!t256) a0_0 a0_1 a0_2 t238)) else (churnlaw06_FramePacks.j0 k bt242.1 bt246.1 bt250.1 true a0_0 a0_1 a0_2 t238))) else (churnlaw06_FramePacks.j0 k bt242.1 bt246.1 bt250.1 true a0_0 a0_1 a0_2 t238))) else (churnlaw06_FramePacks.j0 k bt242.1 bt246.1 bt250.1 true a0_0 a0_1 a0_2 t238)) else (churnlaw06_FramePacks.j0 k bt242.1 bt246.1 bt250.1 true a0_0 a0_1 a0_2 t238)))))))) else (some false))) = some r := h
  clear h
  replace H := Option.bind_eq_some_iff.mp H
  obtain ⟨t236, A20, H⟩ := H
  replace H : (if t236 = true then ((churnlaw06_great.f k l0_3).bind fun t237 => (if t237 = true then (some true) else ((churnlaw06_copied.f k l0_3).bind fun t238 => ((churnref06_Pack.f k a0_0 a0_1 a0_2 l0_3).bind fun bt242 => ((frame_Pack.f k a0_0 a0_1 a0_2 t238).bind fun bt246 => ((frame_Pack.f k a0_0 a0_1 a0_2 t238).bind fun bt250 => (if bt246.2 = bt242.2 then (if bt250.2 = bt242.2 then ((churnlaw06_same.f bt246.1 bt242.1).bind fun t254 => (if t254 = true then ((churnlaw06_same.f bt250.1 bt242.1).bind fun t255 => (if t255 = true then ((churnlaw06_alike.f k a0_0 a0_1 a0_2 t238 a0_0 a0_1 a0_2 l0_3).bind fun t256 => (churnlaw06_FramePacks.j0 k bt242.1 bt246.1 bt250.1 (!t256) a0_0 a0_1 a0_2 t238)) else (churnlaw06_FramePacks.j0 k bt242.1 bt246.1 bt250.1 true a0_0 a0_1 a0_2 t238))) else (churnlaw06_FramePacks.j0 k bt242.1 bt246.1 bt250.1 true a0_0 a0_1 a0_2 t238))) else (churnlaw06_FramePacks.j0 k bt242.1 bt246.1 bt250.1 true a0_0 a0_1 a0_2 t238)) else (churnlaw06_FramePacks.j0 k bt242.1 bt246.1 bt250.1 true a0_0 a0_1 a0_2 t238)))))))) else (some false)) = some r := H
  have A2 := Aside0.mk A20
  clear A20
  by_cases c3 : t236 = true
  · subst c3
    have H1 : ((churnlaw06_great.f k l0_3).bind fun t237 => (if t237 = true then (some true) else ((churnlaw06_copied.f k l0_3).bind fun t238 => ((churnref06_Pack.f k a0_0 a0_1 a0_2 l0_3).bind fun bt242 => ((frame_Pack.f k a0_0 a0_1 a0_2 t238).bind fun bt246 => ((frame_Pack.f k a0_0 a0_1 a0_2 t238).bind fun bt250 => (if bt246.2 = bt242.2 then (if bt250.2 = bt242.2 then ((churnlaw06_same.f bt246.1 bt242.1).bind fun t254 => (if t254 = true then ((churnlaw06_same.f bt250.1 bt242.1).bind fun t255 => (if t255 = true then ((churnlaw06_alike.f k a0_0 a0_1 a0_2 t238 a0_0 a0_1 a0_2 l0_3).bind fun t256 => (churnlaw06_FramePacks.j0 k bt242.1 bt246.1 bt250.1 (!t256) a0_0 a0_1 a0_2 t238)) else (churnlaw06_FramePacks.j0 k bt242.1 bt246.1 bt250.1 true a0_0 a0_1 a0_2 t238))) else (churnlaw06_FramePacks.j0 k bt242.1 bt246.1 bt250.1 true a0_0 a0_1 a0_2 t238))) else (churnlaw06_FramePacks.j0 k bt242.1 bt246.1 bt250.1 true a0_0 a0_1 a0_2 t238)) else (churnlaw06_FramePacks.j0 k bt242.1 bt246.1 bt250.1 true a0_0 a0_1 a0_2 t238)))))))) = some r := by rw [if_pos rfl] at H; exact H
    clear H
    have H := H1
    clear H1
    replace H := Option.bind_eq_some_iff.mp H
    obtain ⟨t237, A40, H⟩ := H
    replace H : (if t237 = true then (some true) else ((churnlaw06_copied.f k l0_3).bind fun t238 => ((churnref06_Pack.f k a0_0 a0_1 a0_2 l0_3).bind fun bt242 => ((frame_Pack.f k a0_0 a0_1 a0_2 t238).bind fun bt246 => ((frame_Pack.f k a0_0 a0_1 a0_2 t238).bind fun bt250 => (if bt246.2 = bt242.2 then (if bt250.2 = bt242.2 then ((churnlaw06_same.f bt246.1 bt242.1).bind fun t254 => (if t254 = true then ((churnlaw06_same.f bt250.1 bt242.1).bind fun t255 => (if t255 = true then ((churnlaw06_alike.f k a0_0 a0_1 a0_2 t238 a0_0 a0_1 a0_2 l0_3).bind fun t256 => (churnlaw06_FramePacks.j0 k bt242.1 bt246.1 bt250.1 (!t256) a0_0 a0_1 a0_2 t238)) else (churnlaw06_FramePacks.j0 k bt242.1 bt246.1 bt250.1 true a0_0 a0_1 a0_2 t238))) else (churnlaw06_FramePacks.j0 k bt242.1 bt246.1 bt250.1 true a0_0 a0_1 a0_2 t238))) else (churnlaw06_FramePacks.j0 k bt242.1 bt246.1 bt250.1 true a0_0 a0_1 a0_2 t238)) else (churnlaw06_FramePacks.j0 k bt242.1 bt246.1 bt250.1 true a0_0 a0_1 a0_2 t238))))))) = some r := H
    have A4 := Aside0.mk A40
    clear A40
    by_cases c5 : t237 = true
    · subst c5
      have H1 : (some true) = some r := by rw [if_pos rfl] at H; exact H
      clear H
      have H := H1
      clear H1
      obtain rfl := Option.some.inj H
      simp only [Option.some.injEq, Prod.mk.injEq] at H
      obtain ⟨rfl⟩ := H
      go_enter Try.func3, Try.ntmps3
      go_wp2_with (first | ((with_reducible refine gate_dst (N := 1) rfl ?_); (try (refine gate_guard (by rfl) ?_; dsimp only)); refine box_event ?hg (N := 1) ?hd (cs := #[.int .i64 a0_0, .int .i64 a0_1, .int .i64 a0_2, .slice A0_3 l0_3.length c0_3]) (t := 26) ?hr ?_; (case hd => rfl); (case hg => rfl); (case hr => first | (go_simp; done) | (go_simp; rfl)); intro gb235 hg w6 hbox hb; have n0_ := Aside0.mk (below_step (by repeat (first | (with_reducible first | exact HB.out | apply below_alloc | apply pw_below_drewN | apply below_drew1) | exact HB.out)) hb); have n1_ := Aside0.mk (hbox); have n2_ := Aside0.mk ((by rw [hg]; exact (below_size (by repeat (first | (with_reducible first | exact HB.out | apply below_alloc | apply pw_below_drewN | apply below_drew1) | exact HB.out))) : w.heap.size ≤ gb235)); have n3_ := Aside0.mk ((by rw [hg]; exact (below_size (by repeat (first | (with_reducible first | exact HB.out | apply below_alloc | apply pw_below_drewN | apply below_drew1) | exact HB.out))) : w.heap.size ≤ gb235)); clear HB; have HB := n0_; have BK235 := n1_; have GW235 := n2_; have GE235 := n3_; clear n0_ n1_ n2_ n3_; clear hb hbox hg) | ((with_reducible refine gate_callee (f := 10) rfl ?_); refine goesL_ (some 16) rfl rfl Try.func10 (by kernel_rfl) rfl #[] rfl (by (try simp only [List.map_toArray, List.map_cons, List.map_nil]); first | done | rfl | (simp only [List.length_drop, List.length_take]; rfl)) ?_; (with_reducible refine (churnlaw06_awake.calls k  true _ rfl A2.out).mono ?_); rintro e w7 ⟨rfl, hb⟩; refine ⟨_, rfl, ?_⟩; have n0_ := Aside0.mk (blk_below (g := gb235) (o := .cells #[.int .i64 a0_0, .int .i64 a0_1, .int .i64 a0_2, .slice A0_3 l0_3.length c0_3] 26 (0, 0)) (by (with_reducible repeat (first | refine blk_drewN ?_ _ | refine blk_drew ?_ | refine blk_alloc ?_ _)); exact BK235.out) hb); have n1_ := Aside0.mk (below_step (by repeat (first | (with_reducible first | exact HB.out | apply below_alloc | apply pw_below_drewN | apply below_drew1 | refine below_set ?_ GE235.out) | exact HB.out)) hb); clear BK235; clear HB; have BK235 := n0_; have HB := n1_; clear n0_ n1_; (try clear hb); (try clear hb2); (try clear hk); (try clear hi); have hcz8_0 : w7.cell? ⟨gb235, 0, none⟩ = some (.int .i64 a0_0) := (blk_cell BK235.out 0).trans rfl; have hcz8_1 : w7.cell? ⟨gb235, 1, none⟩ = some (.int .i64 a0_1) := (blk_cell BK235.out 1).trans rfl; have hcz8_2 : w7.cell? ⟨gb235, 2, none⟩ = some (.int .i64 a0_2) := (blk_cell BK235.out 2).trans rfl; have hcz8_3 : w7.cell? ⟨gb235, 3, none⟩ = some (.slice A0_3 l0_3.length c0_3) := (blk_cell BK235.out 3).trans rfl; have hfz8_0 := blk_frozen BK235.out 0; have hfz8_1 := blk_frozen BK235.out 1; have hfz8_2 := blk_frozen BK235.out 2; have hfz8_3 := blk_frozen BK235.out 3) | ((with_reducible refine gate_callee (f := 11) rfl ?_); refine goesL_ (some 20) rfl rfl Try.func11 (by kernel_rfl) rfl #[.slice A0_3 l0_3.length c0_3] rfl (by (try simp only [List.map_toArray, List.map_cons, List.map_nil]); first | done | rfl | (simp only [List.length_drop, List.length_take]; rfl)) ?_; (with_reducible refine (churnlaw06_great.calls k _ _ l0_3 true _ ?side1 ?side2 A4.out).mono ?_); (case side1 => repeat (first | exact (Kd.C_below HR0_3.out HB.out) | (with_reducible refine Kd.C_alloc ?_ _) | (with_reducible refine Kd.C_drewN ?_ _) | (with_reducible refine Kd.C_drew ?_))); (case side2 => exact HC0_3.out); rintro e w' ⟨rfl, ⟨nd, rfl⟩⟩; refine ⟨_, rfl, ?_⟩))
      go_ret
      exact ⟨by first | rfl | (simp [errW_none, errW_some] <;> rfl) | (simp [*, errW_none, errW_some] <;> rfl), by repeat (first | (with_reducible first | exact HB.out | apply below_alloc | apply pw_below_drewN | apply below_drew1 | refine below_set ?_ GE235.out) | exact HB.out)⟩
    · replace c5 := Bool.eq_false_iff.mpr c5
      subst c5
      have H1 : ((churnlaw06_copied.f k l0_3).bind fun t238 => ((churnref06_Pack.f k a0_0 a0_1 a0_2 l0_3).bind fun bt242 => ((frame_Pack.f k a0_0 a0_1 a0_2 t238).bind fun bt246 => ((frame_Pack.f k a0_0 a0_1 a0_2 t238).bind fun bt250 => (if bt246.2 = bt242.2 then (if bt250.2 = bt242.2 then ((churnlaw06_same.f bt246.1 bt242.1).bind fun t254 => (if t254 = true then ((churnlaw06_same.f bt250.1 bt242.1).bind fun t255 => (if t255 = true then ((churnlaw06_alike.f k a0_0 a0_1 a0_2 t238 a0_0 a0_1 a0_2 l0_3).bind fun t256 => (churnlaw06_FramePacks.j0 k bt242.1 bt246.1 bt250.1 (!t256) a0_0 a0_1 a0_2 t238)) else (churnlaw06_FramePacks.j0 k bt242.1 bt246.1 bt250.1 true a0_0 a0_1 a0_2 t238))) else (churnlaw06_FramePacks.j0 k bt242.1 bt246.1 bt250.1 true a0_0 a0_1 a0_2 t238))) else (churnlaw06_FramePacks.j0 k bt242.1 bt246.1 bt250.1 true a0_0 a0_1 a0_2 t238)) else (churnlaw06_FramePacks.j0 k bt242.1 bt246.1 bt250.1 true a0_0 a0_1 a0_2 t238)))))) = some r := by rw [if_neg (show ¬ (false = true) by decide)] at H; exact H
      clear H
      have H := H1
      clear H1
      replace H := Option.bind_eq_some_iff.mp H
      obtain ⟨t238, A90, H⟩ := H
      replace H : ((churnref06_Pack.f k a0_0 a0_1 a0_2 l0_3).bind fun bt242 => ((frame_Pack.f k a0_0 a0_1 a0_2 t238).bind fun bt246 => ((frame_Pack.f k a0_0 a0_1 a0_2 t238).bind fun bt250 => (if bt246.2 = bt242.2 then (if bt250.2 = bt242.2 then ((churnlaw06_same.f bt246.1 bt242.1).bind fun t254 => (if t254 = true then ((churnlaw06_same.f bt250.1 bt242.1).bind fun t255 => (if t255 = true then ((churnlaw06_alike.f k a0_0 a0_1 a0_2 t238 a0_0 a0_1 a0_2 l0_3).bind fun t256 => (churnlaw06_FramePacks.j0 k bt242.1 bt246.1 bt250.1 (!t256) a0_0 a0_1 a0_2 t238)) else (churnlaw06_FramePacks.j0 k bt242.1 bt246.1 bt250.1 true a0_0 a0_1 a0_2 t238))) else (churnlaw06_FramePacks.j0 k bt242.1 bt246.1 bt250.1 true a0_0 a0_1 a0_2 t238))) else (churnlaw06_FramePacks.j0 k bt242.1 bt246.1 bt250.1 true a0_0 a0_1 a0_2 t238)) else (churnlaw06_FramePacks.j0 k bt242.1 bt246.1 bt250.1 true a0_0 a0_1 a0_2 t238))))) = some r := H
      have A9 := Aside0.mk A90
      clear A90
      replace H := Option.bind_eq_some_iff.mp H
      obtain ⟨⟨t242, t245⟩, A100, H⟩ := H
      replace H : ((frame_Pack.f k a0_0 a0_1 a0_2 t238).bind fun bt246 => ((frame_Pack.f k a0_0 a0_1 a0_2 t238).bind fun bt250 => (if bt246.2 = t245 then (if bt250.2 = t245 then ((churnlaw06_same.f bt246.1 t242).bind fun t254 => (if t254 = true then ((churnlaw06_same.f bt250.1 t242).bind fun t255 => (if t255 = true then ((churnlaw06_alike.f k a0_0 a0_1 a0_2 t238 a0_0 a0_1 a0_2 l0_3).bind fun t256 => (churnlaw06_FramePacks.j0 k t242 bt246.1 bt250.1 (!t256) a0_0 a0_1 a0_2 t238)) else (churnlaw06_FramePacks.j0 k t242 bt246.1 bt250.1 true a0_0 a0_1 a0_2 t238))) else (churnlaw06_FramePacks.j0 k t242 bt246.1 bt250.1 true a0_0 a0_1 a0_2 t238))) else (churnlaw06_FramePacks.j0 k t242 bt246.1 bt250.1 true a0_0 a0_1 a0_2 t238)) else (churnlaw06_FramePacks.j0 k t242 bt246.1 bt250.1 true a0_0 a0_1 a0_2 t238)))) = some r := H
      have A10 := Aside0.mk A100
      clear A100
      replace H := Option.bind_eq_some_iff.mp H
      obtain ⟨⟨t246, t249⟩, A110, H⟩ := H
      replace H : ((frame_Pack.f k a0_0 a0_1 a0_2 t238).bind fun bt250 => (if t249 = t245 then (if bt250.2 = t245 then ((churnlaw06_same.f t246 t242).bind fun t254 => (if t254 = true then ((churnlaw06_same.f bt250.1 t242).bind fun t255 => (if t255 = true then ((churnlaw06_alike.f k a0_0 a0_1 a0_2 t238 a0_0 a0_1 a0_2 l0_3).bind fun t256 => (churnlaw06_FramePacks.j0 k t242 t246 bt250.1 (!t256) a0_0 a0_1 a0_2 t238)) else (churnlaw06_FramePacks.j0 k t242 t246 bt250.1 true a0_0 a0_1 a0_2 t238))) else (churnlaw06_FramePacks.j0 k t242 t246 bt250.1 true a0_0 a0_1 a0_2 t238))) else (churnlaw06_FramePacks.j0 k t242 t246 bt250.1 true a0_0 a0_1 a0_2 t238)) else (churnlaw06_FramePacks.j0 k t242 t246 bt250.1 true a0_0 a0_1 a0_2 t238))) = some r := H
      have A11 := Aside0.mk A110
      clear A110
      replace H := Option.bind_eq_some_iff.mp H
      obtain ⟨⟨t250, t253⟩, A120, H⟩ := H
      replace H : (if t249 = t245 then (if t253 = t245 then ((churnlaw06_same.f t246 t242).bind fun t254 => (if t254 = true then ((churnlaw06_same.f t250 t242).bind fun t255 => (if t255 = true then ((churnlaw06_alike.f k a0_0 a0_1 a0_2 t238 a0_0 a0_1 a0_2 l0_3).bind fun t256 => (churnlaw06_FramePacks.j0 k t242 t246 t250 (!t256) a0_0 a0_1 a0_2 t238)) else (churnlaw06_FramePacks.j0 k t242 t246 t250 true a0_0 a0_1 a0_2 t238))) else (churnlaw06_FramePacks.j0 k t242 t246 t250 true a0_0 a0_1 a0_2 t238))) else (churnlaw06_FramePacks.j0 k t242 t246 t250 true a0_0 a0_1 a0_2 t238)) else (churnlaw06_FramePacks.j0 k t242 t246 t250 true a0_0 a0_1 a0_2 t238)) = some r := H
      have A12 := Aside0.mk A120
      clear A120
      have HC13 := Aside0.mk H
      clear H
      go_enter Try.func3, Try.ntmps3
      try go_wp2_with (first | ((with_reducible refine gate_dst (N := 1) rfl ?_); (try (refine gate_guard (by rfl) ?_; dsimp only)); refine box_event ?hg (N := 1) ?hd (cs := #[.int .i64 a0_0, .int .i64 a0_1, .int .i64 a0_2, .slice A0_3 l0_3.length c0_3]) (t := 26) ?hr ?_; (case hd => rfl); (case hg => rfl); (case hr => first | (go_simp; done) | (go_simp; rfl)); intro gb235 hg w14 hbox hb; have n0_ := Aside0.mk (below_step (by repeat (first | (with_reducible first | exact HB.out | apply below_alloc | apply pw_below_drewN | apply below_drew1) | exact HB.out)) hb); have n1_ := Aside0.mk (hbox); have n2_ := Aside0.mk ((by rw [hg]; exact (below_size (by repeat (first | (with_reducible first | exact HB.out | apply below_alloc | apply pw_below_drewN | apply below_drew1) | exact HB.out))) : w.heap.size ≤ gb235)); have n3_ := Aside0.mk ((by rw [hg]; exact (below_size (by repeat (first | (with_reducible first | exact HB.out | apply below_alloc | apply pw_below_drewN | apply below_drew1) | exact HB.out))) : w.heap.size ≤ gb235)); clear HB; have HB := n0_; have BK235 := n1_; have GW235 := n2_; have GE235 := n3_; clear n0_ n1_ n2_ n3_; clear hb hbox hg) | ((with_reducible refine gate_callee (f := 10) rfl ?_); refine goesL_ (some 16) rfl rfl Try.func10 (by kernel_rfl) rfl #[] rfl (by (try simp only [List.map_toArray, List.map_cons, List.map_nil]); first | done | rfl | (simp only [List.length_drop, List.length_take]; rfl)) ?_; (with_reducible refine (churnlaw06_awake.calls k  true _ rfl A2.out).mono ?_); rintro e w15 ⟨rfl, hb⟩; refine ⟨_, rfl, ?_⟩; have n0_ := Aside0.mk (blk_below (g := gb235) (o := .cells #[.int .i64 a0_0, .int .i64 a0_1, .int .i64 a0_2, .slice A0_3 l0_3.length c0_3] 26 (0, 0)) (by (with_reducible repeat (first | refine blk_drewN ?_ _ | refine blk_drew ?_ | refine blk_alloc ?_ _)); exact BK235.out) hb); have n1_ := Aside0.mk (below_step (by repeat (first | (with_reducible first | exact HB.out | apply below_alloc | apply pw_below_drewN | apply below_drew1 | refine below_set ?_ GE235.out) | exact HB.out)) hb); clear BK235; clear HB; have BK235 := n0_; have HB := n1_; clear n0_ n1_; (try clear hb); (try clear hb2); (try clear hk); (try clear hi); have hcz16_0 : w15.cell? ⟨gb235, 0, none⟩ = some (.int .i64 a0_0) := (blk_cell BK235.out 0).trans rfl; have hcz16_1 : w15.cell? ⟨gb235, 1, none⟩ = some (.int .i64 a0_1) := (blk_cell BK235.out 1).trans rfl; have hcz16_2 : w15.cell? ⟨gb235, 2, none⟩ = some (.int .i64 a0_2) := (blk_cell BK235.out 2).trans rfl; have hcz16_3 : w15.cell? ⟨gb235, 3, none⟩ = some (.slice A0_3 l0_3.length c0_3) := (blk_cell BK235.out 3).trans rfl; have hfz16_0 := blk_frozen BK235.out 0; have hfz16_1 := blk_frozen BK235.out 1; have hfz16_2 := blk_frozen BK235.out 2; have hfz16_3 := blk_frozen BK235.out 3) | ((with_reducible refine gate_callee (f := 11) rfl ?_); refine goesL_ (some 20) rfl rfl Try.func11 (by kernel_rfl) rfl #[.slice A0_3 l0_3.length c0_3] rfl (by (try simp only [List.map_toArray, List.map_cons, List.map_nil]); first | done | rfl | (simp only [List.length_drop, List.length_take]; rfl)) ?_; (with_reducible refine (churnlaw06_great.calls k _ _ l0_3 false _ ?side1 ?side2 A4.out).mono ?_); (case side1 => repeat (first | exact (Kd.C_below HR0_3.out HB.out) | (with_reducible refine Kd.C_alloc ?_ _) | (with_reducible refine Kd.C_drewN ?_ _) | (with_reducible refine Kd.C_drew ?_))); (case side2 => exact HC0_3.out); rintro e w' ⟨rfl, ⟨nd, rfl⟩⟩; refine ⟨_, rfl, ?_⟩; (try (rw [drewN_self w15]; generalize hq_ : World.drewN w15 _ = w15; have n0_ : Aside0 (w15.heap[gb235]? = some (.cells #[.int .i64 a0_0, .int .i64 a0_1, .int .i64 a0_2, .slice A0_3 l0_3.length c0_3] 26 (0, 0))) := ⟨by rw [← hq_]; exact (by (with_reducible repeat (first | refine blk_drewN ?_ _ | refine blk_drew ?_ | refine blk_alloc ?_ _)); exact BK235.out)⟩; have n1_ : Aside0 (Below w.heap.size w w15) := ⟨by rw [← hq_]; exact (by repeat (first | (with_reducible first | exact HB.out | apply below_alloc | apply pw_below_drewN | apply below_drew1 | refine below_set ?_ GE235.out) | exact HB.out))⟩; clear BK235 HB hq_; have BK235 := n0_; have HB := n1_; clear n0_ n1_))))
      have n0_ := Aside0.mk (blk_drew BK235.out)
      have n1_ := Aside0.mk (below_drew1 HB.out)
      clear BK235
      clear HB
      have BK235 := n0_
      have HB := n1_
      clear n0_ n1_
      refine start_ (n := 8) (S := fun w' => w'.cell? ⟨gb235, 0, none⟩ = some (.int .i64 a0_0) ∧ w'.cell? ⟨gb235, 1, none⟩ = some (.int .i64 a0_1) ∧ w'.cell? ⟨gb235, 2, none⟩ = some (.int .i64 a0_2) ∧ w'.cell? ⟨gb235, 3, none⟩ = some (.slice A0_3 l0_3.length c0_3)) (ds := []) #[false, false, false, false, false, false, false, false] (by kernel_rfl) rfl rfl ⟨(blk_cell BK235.out 0).trans rfl, (blk_cell BK235.out 1).trans rfl, (blk_cell BK235.out 2).trans rfl, (blk_cell BK235.out 3).trans rfl⟩ (fun hHeld => ?_); refine with_tabW churnlaw06_FramePacks.tab5 churnlaw06_FramePacks.bits5 (fun HT_ HW_ => ?_)
      generalize w15.drew = w17 at BK235 HB hHeld ⊢
      refine pure_ (i := 0) (N := some 21) (v := ?_) (a' := ?_) #[true, false, false, false, false, false, false, false] rfl rfl (any_of HT_.out (by kernel_rfl)) (fun _ _ _ h => h) (Or.inl ⟨by rfl, ?_⟩) ?_ ?_
      rotate_left
      · intro w'
        go_simp
        with_reducible rfl
      rotate_left
      · simp only [Act.put, List.setIfInBounds_toArray, List.set_cons_zero, List.set_cons_succ, i64_w, i32_w]
        rfl
      refine pure_ (i := 2) (N := some 23) (v := ?_) (a' := ?_) #[true, false, true, false, false, false, false, false] rfl rfl (any_of HT_.out (by kernel_rfl)) (fun _ _ _ h => h) (Or.inl ⟨by rfl, ?_⟩) ?_ ?_
      rotate_left
      · intro w'
        go_simp
        with_reducible rfl
      rotate_left
      · simp only [Act.put, List.setIfInBounds_toArray, List.set_cons_zero, List.set_cons_succ, i64_w, i32_w]
        rfl
      refine take_ (i := 1) (N := some 22) (v := ?_) (a' := ?_) #[true, true, true, false, false, false, false, false] rfl rfl (take_ofW HT_.out HW_.out (by kernel_rfl)) (fun _ _ _ h => h) (Or.inl ⟨by rfl, ?_⟩) hHeld ?_ ?_
      rotate_left
      · rintro w' ⟨s0, s1, s2, s3⟩
        go_simp
        with_reducible rfl
      rotate_left
      · simp only [Act.put, List.setIfInBounds_toArray, List.set_cons_zero, List.set_cons_succ, i64_w, i32_w]
        rfl
      refine take_ (i := 3) (N := some 24) (v := ?_) (a' := ?_) #[true, true, true, true, false, false, false, false] rfl rfl (take_ofW HT_.out HW_.out (by kernel_rfl)) (fun _ _ _ h => h) (Or.inl ⟨by rfl, ?_⟩) hHeld ?_ ?_
      rotate_left
      · rintro w' ⟨s0, s1, s2, s3⟩
        go_simp
        with_reducible rfl
      rotate_left
      · simp only [Act.put, List.setIfInBounds_toArray, List.set_cons_zero, List.set_cons_succ, i64_w, i32_w]
        rfl
      refine join_ (σ := Value × Nat) 1 #[true, true, true, true, true, true, true, false] (fun s_ => [(25, s_.1), (3, .pointer (some ⟨s_.2, 0, none⟩)), (26, .agg #[.int .i64 a0_0, .int .i64 a0_1, .int .i64 a0_2, s_.1])]) (fun s_ w' => (w'.cell? ⟨gb235, 0, none⟩ = some (.int .i64 a0_0) ∧ w'.cell? ⟨gb235, 1, none⟩ = some (.int .i64 a0_1) ∧ w'.cell? ⟨gb235, 2, none⟩ = some (.int .i64 a0_2) ∧ w'.cell? ⟨gb235, 3, none⟩ = some (.slice A0_3 l0_3.length c0_3)) ∧ (Kd.S (Kd.slice 5 (Kd.int .u8)) 30 w' w.heap.size (fun _ => True) s_.1 t238) ∧ (w'.heap[gb235]? = some (.cells #[.int .i64 a0_0, .int .i64 a0_1, .int .i64 a0_2, .slice A0_3 l0_3.length c0_3] 26 (0, 0))) ∧ (w'.heap[s_.2]? = some (.cells #[.int .i64 0, .int .i64 0, .int .i64 0, .slice none 0 0] 26 (0, 0))) ∧ (w.heap.size ≤ s_.2) ∧ (w.heap.size ≤ s_.2) ∧ (gb235 ≠ s_.2) ∧ (s_.2 ≠ gb235) ∧ (Below w.heap.size w w')) ?_ ?_
      rotate_left
      · intro hCont
        refine two_ (i := 4) (j := 6) (Ni := some 25) (Nj := some 3) #[true, true, true, true, true, false, false, false] #[true, true, true, true, false, false, true, false] rfl rfl rfl rfl (two_of HT_.out (by kernel_rfl)) (by decide) (by decide) (fun K hK => ?_) (fun K hK => ?_)
        · skip
          refine goes_ Try.func12 (by kernel_rfl) rfl #[.slice A0_3 l0_3.length c0_3] (by rfl) rfl rfl (by (try simp only [List.map_toArray, List.map_cons, List.map_nil]); first | done | rfl | (simp only [List.length_drop, List.length_take]; rfl)) ?_
          with_reducible refine (churnlaw06_copied.calls k _ _ l0_3 t238 _ ?side1 ?side2 A9.out).mono ?_
          (case side1 => repeat (first | exact (Kd.C_below HR0_3.out HB.out) | (with_reducible refine Kd.C_alloc ?_ _) | (with_reducible refine Kd.C_drewN ?_ _) | (with_reducible refine Kd.C_drew ?_)))
          (case side2 => exact HC0_3.out)
          rintro e w18 ⟨v239, rfl, ho0, hb⟩
          refine ⟨_, rfl, ?_⟩
          have n0_ := Aside0.mk (Kd.S_lower ho0 (below_size (by repeat (first | (with_reducible first | exact HB.out | apply below_alloc | apply pw_below_drewN | apply below_drew1 | refine below_set ?_ GE235.out) | exact HB.out))))
          have n1_ := Aside0.mk (blk_below (g := gb235) (o := .cells #[.int .i64 a0_0, .int .i64 a0_1, .int .i64 a0_2, .slice A0_3 l0_3.length c0_3] 26 (0, 0)) (by (with_reducible repeat (first | refine blk_drewN ?_ _ | refine blk_drew ?_ | refine blk_alloc ?_ _)); exact BK235.out) hb)
          have n2_ := Aside0.mk (below_step (by repeat (first | (with_reducible first | exact HB.out | apply below_alloc | apply pw_below_drewN | apply below_drew1 | refine below_set ?_ GE235.out) | exact HB.out)) hb)
          clear BK235
          clear HB
          have HO240 := n0_
          have BK235 := n1_
          have HB := n2_
          clear n0_ n1_ n2_
          (try clear hb)
          (try clear hb2)
          (try clear hk)
          (try clear hi)
          (try clear ho0)
          obtain ⟨Ao19, co19, eo19⟩ := Kd.S_slice HO240.out
          (first | subst eo19 | (injection eo19 with f1_ f2_ f3_; have f4_ := f1_.symm; have f5_ := f3_.symm; clear f1_ f2_ f3_; subst f4_; subst f5_))
          refine hK.out _ _ ⟨(blk_cell BK235.out 0).trans rfl, (blk_cell BK235.out 1).trans rfl, (blk_cell BK235.out 2).trans rfl, (blk_cell BK235.out 3).trans rfl⟩ (fun hHeld => ?_)
          clear hK K
          refine norm_ (a' := ?_) ?_ ?_
          rotate_left
          · show Act.put _ (some 25) _ = _
            simp only [Act.put, List.setIfInBounds_toArray, List.set_cons_zero, List.set_cons_succ, i64_w, i32_w]
            rfl
          refine pure_ (i := 5) (N := some 26) (v := ?_) (a' := ?_) #[true, true, true, true, true, true, false, false] rfl rfl (any_of HT_.out (by kernel_rfl)) (fun _ _ _ h => h) (Or.inl ⟨by rfl, ?_⟩) ?_ ?_
          rotate_left
          · intro w'
            go_simp
            with_reducible rfl
          rotate_left
          · simp only [Act.put, List.setIfInBounds_toArray, List.set_cons_zero, List.set_cons_succ, i64_w, i32_w]
            rfl
          refine one_ (i := 6) (N := some 3) #[true, true, true, true, true, true, true, false] rfl rfl (one_of HT_.out (by kernel_rfl)) (by decide) (fun K hK => ?_)
          refine box_step ?hg (N := 3) ?hd (cs := #[.int .i64 0, .int .i64 0, .int .i64 0, .slice none 0 0]) (t := 26) ?hr ?_; (case hd => rfl); (case hg => rfl); (case hr => first | (go_simp; done) | (go_simp; rfl))
          intro gb241 hg w20 hbox hb
          have n0_ := Aside0.mk (Kd.S_below (by (with_reducible repeat (first | apply Kd.S_alloc | apply Kd.S_drewN | apply Kd.S_drew)); exact HO240.out) hb)
          have n1_ := Aside0.mk (blk_below (g := gb235) (o := .cells #[.int .i64 a0_0, .int .i64 a0_1, .int .i64 a0_2, .slice A0_3 l0_3.length c0_3] 26 (0, 0)) (by (with_reducible repeat (first | refine blk_drewN ?_ _ | refine blk_drew ?_ | refine blk_alloc ?_ _)); exact BK235.out) hb)
          have n2_ := Aside0.mk (below_step (by repeat (first | (with_reducible first | exact HB.out | apply below_alloc | apply pw_below_drewN | apply below_drew1 | refine below_set ?_ GE235.out) | exact HB.out)) hb)
          have n3_ := Aside0.mk (hbox)
          have n4_ := Aside0.mk ((by rw [hg]; exact (below_size (by repeat (first | (with_reducible first | exact HB.out | apply below_alloc | apply pw_below_drewN | apply below_drew1 | refine below_set ?_ GE235.out) | exact HB.out))) : w.heap.size ≤ gb241))
          have n5_ := Aside0.mk ((by rw [hg]; exact (below_size (by repeat (first | (with_reducible first | exact HB.out | apply below_alloc | apply pw_below_drewN | apply below_drew1 | refine below_set ?_ GE235.out) | exact HB.out))) : w.heap.size ≤ gb241))
          have n6_ := Aside0.mk ((by rw [hg]; exact Nat.ne_of_lt (blk_lt (g := gb235) (o := .cells #[.int .i64 a0_0, .int .i64 a0_1, .int .i64 a0_2, .slice A0_3 l0_3.length c0_3] 26 (0, 0)) (by (with_reducible repeat (first | refine blk_drewN ?_ _ | refine blk_drew ?_ | refine blk_alloc ?_ _)); exact BK235.out)) : gb235 ≠ gb241))
          have n7_ := Aside0.mk ((by rw [hg]; exact Nat.ne_of_gt (blk_lt (g := gb235) (o := .cells #[.int .i64 a0_0, .int .i64 a0_1, .int .i64 a0_2, .slice A0_3 l0_3.length c0_3] 26 (0, 0)) (by (with_reducible repeat (first | refine blk_drewN ?_ _ | refine blk_drew ?_ | refine blk_alloc ?_ _)); exact BK235.out)) : gb241 ≠ gb235))
          clear HO240
          clear BK235
          clear HB
          have HO240 := n0_
          have BK235 := n1_
          have HB := n2_
          have BK241 := n3_
          have GW241 := n4_
          have GE241 := n5_
          have NB235_241 := n6_
          have NB241_235 := n7_
          clear n0_ n1_ n2_ n3_ n4_ n5_ n6_ n7_
          clear hb hbox hg
          refine hK.out _ _ ⟨(blk_cell BK235.out 0).trans rfl, (blk_cell BK235.out 1).trans rfl, (blk_cell BK235.out 2).trans rfl, (blk_cell BK235.out 3).trans rfl⟩ (fun hHeld => ?_)
          clear hK K
          refine norm_ (a' := ?_) ?_ ?_
          rotate_left
          · show Act.put _ (some 3) _ = _
            simp only [Act.put, List.setIfInBounds_toArray, List.set_cons_zero, List.set_cons_succ, i64_w, i32_w]
            rfl
          exact norm_ (by simp only [putAll, Act.put, List.setIfInBounds_toArray, List.set_cons_zero, List.set_cons_succ]) (hCont (.slice Ao19 t238.length co19, gb241) _ ⟨hHeld, (by (with_reducible repeat (first | apply Kd.S_alloc | apply Kd.S_drewN | apply Kd.S_drew)); exact HO240.out), (by (with_reducible repeat (first | refine blk_drewN ?_ _ | refine blk_drew ?_ | refine blk_alloc ?_ _)); exact BK235.out), (by (with_reducible repeat (first | refine blk_drewN ?_ _ | refine blk_drew ?_ | refine blk_alloc ?_ _)); exact BK241.out), GW241.out, GE241.out, NB235_241.out, NB241_235.out, (by repeat (first | (with_reducible first | exact HB.out | apply below_alloc | apply pw_below_drewN | apply below_drew1 | refine below_set ?_ GE235.out | refine below_set ?_ GE241.out) | exact HB.out))⟩)
        · skip
          refine box_step ?hg (N := 3) ?hd (cs := #[.int .i64 0, .int .i64 0, .int .i64 0, .slice none 0 0]) (t := 26) ?hr ?_; (case hd => rfl); (case hg => rfl); (case hr => first | (go_simp; done) | (go_simp; rfl))
          intro gb241 hg w18 hbox hb
          have n0_ := Aside0.mk (blk_below (g := gb235) (o := .cells #[.int .i64 a0_0, .int .i64 a0_1, .int .i64 a0_2, .slice A0_3 l0_3.length c0_3] 26 (0, 0)) (by (with_reducible repeat (first | refine blk_drewN ?_ _ | refine blk_drew ?_ | refine blk_alloc ?_ _)); exact BK235.out) hb)
          have n1_ := Aside0.mk (below_step (by repeat (first | (with_reducible first | exact HB.out | apply below_alloc | apply pw_below_drewN | apply below_drew1 | refine below_set ?_ GE235.out) | exact HB.out)) hb)
          have n2_ := Aside0.mk (hbox)
          have n3_ := Aside0.mk ((by rw [hg]; exact (below_size (by repeat (first | (with_reducible first | exact HB.out | apply below_alloc | apply pw_below_drewN | apply below_drew1 | refine below_set ?_ GE235.out) | exact HB.out))) : w.heap.size ≤ gb241))
          have n4_ := Aside0.mk ((by rw [hg]; exact (below_size (by repeat (first | (with_reducible first | exact HB.out | apply below_alloc | apply pw_below_drewN | apply below_drew1 | refine below_set ?_ GE235.out) | exact HB.out))) : w.heap.size ≤ gb241))
          have n5_ := Aside0.mk ((by rw [hg]; exact Nat.ne_of_lt (blk_lt (g := gb235) (o := .cells #[.int .i64 a0_0, .int .i64 a0_1, .int .i64 a0_2, .slice A0_3 l0_3.length c0_3] 26 (0, 0)) (by (with_reducible repeat (first | refine blk_drewN ?_ _ | refine blk_drew ?_ | refine blk_alloc ?_ _)); exact BK235.out)) : gb235 ≠ gb241))
          have n6_ := Aside0.mk ((by rw [hg]; exact Nat.ne_of_gt (blk_lt (g := gb235) (o := .cells #[.int .i64 a0_0, .int .i64 a0_1, .int .i64 a0_2, .slice A0_3 l0_3.length c0_3] 26 (0, 0)) (by (with_reducible repeat (first | refine blk_drewN ?_ _ | refine blk_drew ?_ | refine blk_alloc ?_ _)); exact BK235.out)) : gb241 ≠ gb235))
          clear BK235
          clear HB
          have BK235 := n0_
          have HB := n1_
          have BK241 := n2_
          have GW241 := n3_
          have GE241 := n4_
          have NB235_241 := n5_
          have NB241_235 := n6_
          clear n0_ n1_ n2_ n3_ n4_ n5_ n6_
          clear hb hbox hg
          refine hK.out _ _ ⟨(blk_cell BK235.out 0).trans rfl, (blk_cell BK235.out 1).trans rfl, (blk_cell BK235.out 2).trans rfl, (blk_cell BK235.out 3).trans rfl⟩ (fun hHeld => ?_)
          clear hK K
          refine norm_ (a' := ?_) ?_ ?_
          rotate_left
          · show Act.put _ (some 3) _ = _
            simp only [Act.put, List.setIfInBounds_toArray, List.set_cons_zero, List.set_cons_succ, i64_w, i32_w]
            rfl
          refine one_ (i := 4) (N := some 25) #[true, true, true, true, true, false, true, false] rfl rfl (one_of HT_.out (by kernel_rfl)) (by decide) (fun K hK => ?_)
          refine goes_ Try.func12 (by kernel_rfl) rfl #[.slice A0_3 l0_3.length c0_3] (by rfl) rfl rfl (by (try simp only [List.map_toArray, List.map_cons, List.map_nil]); first | done | rfl | (simp only [List.length_drop, List.length_take]; rfl)) ?_
          with_reducible refine (churnlaw06_copied.calls k _ _ l0_3 t238 _ ?side1 ?side2 A9.out).mono ?_
          (case side1 => repeat (first | exact (Kd.C_below HR0_3.out HB.out) | (with_reducible refine Kd.C_alloc ?_ _) | (with_reducible refine Kd.C_drewN ?_ _) | (with_reducible refine Kd.C_drew ?_)))
          (case side2 => exact HC0_3.out)
          rintro e w19 ⟨v239, rfl, ho0, hb⟩
          refine ⟨_, rfl, ?_⟩
          have n0_ := Aside0.mk (Kd.S_lower ho0 (below_size (by repeat (first | (with_reducible first | exact HB.out | apply below_alloc | apply pw_below_drewN | apply below_drew1 | refine below_set ?_ GE235.out | refine below_set ?_ GE241.out) | exact HB.out))))
          have n1_ := Aside0.mk (blk_below (g := gb235) (o := .cells #[.int .i64 a0_0, .int .i64 a0_1, .int .i64 a0_2, .slice A0_3 l0_3.length c0_3] 26 (0, 0)) (by (with_reducible repeat (first | refine blk_drewN ?_ _ | refine blk_drew ?_ | refine blk_alloc ?_ _)); exact BK235.out) hb)
          have n2_ := Aside0.mk (blk_below (g := gb241) (o := .cells #[.int .i64 0, .int .i64 0, .int .i64 0, .slice none 0 0] 26 (0, 0)) (by (with_reducible repeat (first | refine blk_drewN ?_ _ | refine blk_drew ?_ | refine blk_alloc ?_ _)); exact BK241.out) hb)
          have n3_ := Aside0.mk (below_step (by repeat (first | (with_reducible first | exact HB.out | apply below_alloc | apply pw_below_drewN | apply below_drew1 | refine below_set ?_ GE235.out | refine below_set ?_ GE241.out) | exact HB.out)) hb)
          clear BK235
          clear BK241
          clear HB
          have HO240 := n0_
          have BK235 := n1_
          have BK241 := n2_
          have HB := n3_
          clear n0_ n1_ n2_ n3_
          (try clear hb)
          (try clear hb2)
          (try clear hk)
          (try clear hi)
          (try clear ho0)
          obtain ⟨Ao20, co20, eo20⟩ := Kd.S_slice HO240.out
          (first | subst eo20 | (injection eo20 with f1_ f2_ f3_; have f4_ := f1_.symm; have f5_ := f3_.symm; clear f1_ f2_ f3_; subst f4_; subst f5_))
          refine hK.out _ _ ⟨(blk_cell BK235.out 0).trans rfl, (blk_cell BK235.out 1).trans rfl, (blk_cell BK235.out 2).trans rfl, (blk_cell BK235.out 3).trans rfl⟩ (fun hHeld => ?_)
          clear hK K
          refine norm_ (a' := ?_) ?_ ?_
          rotate_left
          · show Act.put _ (some 25) _ = _
            simp only [Act.put, List.setIfInBounds_toArray, List.set_cons_zero, List.set_cons_succ, i64_w, i32_w]
            rfl
          refine pure_ (i := 5) (N := some 26) (v := ?_) (a' := ?_) #[true, true, true, true, true, true, true, false] rfl rfl (any_of HT_.out (by kernel_rfl)) (fun _ _ _ h => h) (Or.inl ⟨by rfl, ?_⟩) ?_ ?_
          rotate_left
          · intro w'
            go_simp
            with_reducible rfl
          rotate_left
          · simp only [Act.put, List.setIfInBounds_toArray, List.set_cons_zero, List.set_cons_succ, i64_w, i32_w]
            rfl
          exact norm_ (by simp only [putAll, Act.put, List.setIfInBounds_toArray, List.set_cons_zero, List.set_cons_succ]) (hCont (.slice Ao20 t238.length co20, gb241) _ ⟨hHeld, (by (with_reducible repeat (first | apply Kd.S_alloc | apply Kd.S_drewN | apply Kd.S_drew)); exact HO240.out), (by (with_reducible repeat (first | refine blk_drewN ?_ _ | refine blk_drew ?_ | refine blk_alloc ?_ _)); exact BK235.out), (by (with_reducible repeat (first | refine blk_drewN ?_ _ | refine blk_drew ?_ | refine blk_alloc ?_ _)); exact BK241.out), GW241.out, GE241.out, NB235_241.out, NB241_235.out, (by repeat (first | (with_reducible first | exact HB.out | apply below_alloc | apply pw_below_drewN | apply below_drew1 | refine below_set ?_ GE235.out | refine below_set ?_ GE241.out) | exact HB.out))⟩)
      rintro ⟨v239, gb241⟩ w21 ⟨hS_, h0_, h1_, h2_, h3_, h4_, h5_, h6_, h7_⟩
      have n0_ : Aside0 (Kd.S (Kd.slice 5 (Kd.int .u8)) 30 w21 w.heap.size (fun _ => True) v239 t238) := ⟨h0_⟩
      have n1_ : Aside0 (w21.heap[gb235]? = some (.cells #[.int .i64 a0_0, .int .i64 a0_1, .int .i64 a0_2, .slice A0_3 l0_3.length c0_3] 26 (0, 0))) := ⟨h1_⟩
      have n2_ : Aside0 (w21.heap[gb241]? = some (.cells #[.int .i64 0, .int .i64 0, .int .i64 0, .slice none 0 0] 26 (0, 0))) := ⟨h2_⟩
      have n3_ : Aside0 (w.heap.size ≤ gb241) := ⟨h3_⟩
      have n4_ : Aside0 (w.heap.size ≤ gb241) := ⟨h4_⟩
      have n5_ : Aside0 (gb235 ≠ gb241) := ⟨h5_⟩
      have n6_ : Aside0 (gb241 ≠ gb235) := ⟨h6_⟩
      have n7_ : Aside0 (Below w.heap.size w w21) := ⟨h7_⟩
      clear BK235
      clear HB
      clear h0_ h1_ h2_ h3_ h4_ h5_ h6_ h7_
      have HO240 := n0_
      have BK235 := n1_
      have BK241 := n2_
      have GW241 := n3_
      have GE241 := n4_
      have NB235_241 := n5_
      have NB241_235 := n6_
      have HB := n7_
      clear n0_ n1_ n2_ n3_ n4_ n5_ n6_ n7_
      have hHeld : w21.cell? ⟨gb235, 0, none⟩ = some (.int .i64 a0_0) ∧ w21.cell? ⟨gb235, 1, none⟩ = some (.int .i64 a0_1) ∧ w21.cell? ⟨gb235, 2, none⟩ = some (.int .i64 a0_2) ∧ w21.cell? ⟨gb235, 3, none⟩ = some (.slice A0_3 l0_3.length c0_3) := hS_
      obtain ⟨Ao22, co22, eo22⟩ := Kd.S_slice HO240.out
      (first | subst eo22 | (injection eo22 with f1_ f2_ f3_; have f4_ := f1_.symm; have f5_ := f3_.symm; clear f1_ f2_ f3_; subst f4_; subst f5_))
      refine norm_ (a' := ?_) ?_ ?_
      rotate_left
      · simp only [putAll, Act.put, List.setIfInBounds_toArray, List.set_cons_zero, List.set_cons_succ]
        rfl
      refine one_ (i := 7) (N := none) #[true, true, true, true, true, true, true, true] rfl rfl (one_of HT_.out (by kernel_rfl)) (by decide) (fun K hK => ?_)
      have hs23 : w21.cell? ⟨gb241, 0, none⟩ = some (.int .i64 0) := (blk_cell BK241.out 0).trans rfl
      have hfs23 := blk_frozen BK241.out 0
      have hns23_0 := NB235_241.out
      have hms23_0 := NB241_235.out
      have hs24 : w21.cell? ⟨gb241, 1, none⟩ = some (.int .i64 0) := (blk_cell BK241.out 1).trans rfl
      have hfs24 := blk_frozen BK241.out 1
      have hns24_0 := NB235_241.out
      have hms24_0 := NB241_235.out
      have hs25 : w21.cell? ⟨gb241, 2, none⟩ = some (.int .i64 0) := (blk_cell BK241.out 2).trans rfl
      have hfs25 := blk_frozen BK241.out 2
      have hns25_0 := NB235_241.out
      have hms25_0 := NB241_235.out
      have hs26 : w21.cell? ⟨gb241, 3, none⟩ = some (.slice none 0 0) := (blk_cell BK241.out 3).trans rfl
      have hfs26 := blk_frozen BK241.out 3
      have hns26_0 := NB235_241.out
      have hms26_0 := NB241_235.out
      refine skip_ (w1 := ?_) (by rfl) rfl ?_ ?_
      rotate_left
      · go_simp
        rfl
      refine hK.out _ _ ⟨((cell_far (p := ⟨gb241, _, none⟩) NB235_241.out _).trans (((cell_far (p := ⟨gb241, _, none⟩) NB235_241.out _).trans (((cell_far (p := ⟨gb241, _, none⟩) NB235_241.out _).trans (((cell_far (p := ⟨gb241, _, none⟩) NB235_241.out _).trans (hHeld.1)))))))), ((cell_far (p := ⟨gb241, _, none⟩) NB235_241.out _).trans (((cell_far (p := ⟨gb241, _, none⟩) NB235_241.out _).trans (((cell_far (p := ⟨gb241, _, none⟩) NB235_241.out _).trans (((cell_far (p := ⟨gb241, _, none⟩) NB235_241.out _).trans (hHeld.2.1)))))))), ((cell_far (p := ⟨gb241, _, none⟩) NB235_241.out _).trans (((cell_far (p := ⟨gb241, _, none⟩) NB235_241.out _).trans (((cell_far (p := ⟨gb241, _, none⟩) NB235_241.out _).trans (((cell_far (p := ⟨gb241, _, none⟩) NB235_241.out _).trans (hHeld.2.2.1)))))))), ((cell_far (p := ⟨gb241, _, none⟩) NB235_241.out _).trans (((cell_far (p := ⟨gb241, _, none⟩) NB235_241.out _).trans (((cell_far (p := ⟨gb241, _, none⟩) NB235_241.out _).trans (((cell_far (p := ⟨gb241, _, none⟩) NB235_241.out _).trans (hHeld.2.2.2))))))))⟩ (fun hHeld => ?_)
      clear hK K
      refine done_ (done_of HT_.out (by kernel_rfl)) ?_
      have hnb27 := NB235_241.out
      have hnc27 := NB241_235.out
      have hcz28_0 : w21.cell? ⟨gb235, 0, none⟩ = some (.int .i64 a0_0) := (blk_cell BK235.out 0).trans rfl
      have hcz28_1 : w21.cell? ⟨gb235, 1, none⟩ = some (.int .i64 a0_1) := (blk_cell BK235.out 1).trans rfl
      have hcz28_2 : w21.cell? ⟨gb235, 2, none⟩ = some (.int .i64 a0_2) := (blk_cell BK235.out 2).trans rfl
      have hcz28_3 : w21.cell? ⟨gb235, 3, none⟩ = some (.slice A0_3 l0_3.length c0_3) := (blk_cell BK235.out 3).trans rfl
      have hfz28_0 := blk_frozen BK235.out 0
      have hfz28_1 := blk_frozen BK235.out 1
      have hfz28_2 := blk_frozen BK235.out 2
      have hfz28_3 := blk_frozen BK235.out 3
      go_upto_region 9 with (first | ((with_reducible refine gate_callee (f := 13) rfl ?_); refine goesL_ (some 29) rfl rfl Try.func13 (by kernel_rfl) rfl #[.agg #[.int .i64 a0_0, .int .i64 a0_1, .int .i64 a0_2, .slice A0_3 l0_3.length c0_3]] rfl (by (try simp only [List.map_toArray, List.map_cons, List.map_nil]); first | done | rfl | (simp only [List.length_drop, List.length_take]; rfl)) ?_; (with_reducible refine (churnref06_Pack.calls k a0_0 a0_1 a0_2 _ _ l0_3 t242 t245 _ ?side1 ?side2 A10.out).mono ?_); (case side1 => exact Kd.C_below HR0_3.out (by repeat (first | (with_reducible first | exact HB.out | apply below_alloc | apply pw_below_drewN | apply below_drew1 | refine below_set ?_ GE235.out | refine below_set ?_ GE241.out) | exact HB.out))); (case side2 => exact HC0_3.out); rintro e w29 ⟨v243, rfl, ho0, hb⟩; refine ⟨_, rfl, ?_⟩; have n0_ := Aside0.mk (Kd.S_elder' (by (with_reducible repeat (first | apply Kd.S_alloc | apply Kd.S_drewN | apply Kd.S_drew)); exact (Kd.S_mono (Kd.S_far (p := ⟨gb241, 3, none⟩) (Kd.S_far (p := ⟨gb241, 2, none⟩) (Kd.S_far (p := ⟨gb241, 1, none⟩) (Kd.S_far (p := ⟨gb241, 0, none⟩) (Kd.S_types HO240.out BK241.out (by decide)) (fun _ hk => hk.2) (.int .i64 a0_0)) (fun _ hk => hk.2) (.int .i64 a0_1)) (fun _ hk => hk.2) (.int .i64 a0_2)) (fun _ hk => hk.2) (.slice Ao22 t238.length co22)) (fun _ h_ => h_.1))) (Kd.R_base ho0) hb); have n1_ := Aside0.mk (Kd.R_lower ho0 (below_size (by repeat (first | (with_reducible first | exact HB.out | apply below_alloc | apply pw_below_drewN | apply below_drew1 | refine below_set ?_ GE235.out | refine below_set ?_ GE241.out) | exact HB.out)))); have n2_ := Aside0.mk (blk_below (g := gb235) (o := .cells #[.int .i64 a0_0, .int .i64 a0_1, .int .i64 a0_2, .slice A0_3 l0_3.length c0_3] 26 (0, 0)) (by (with_reducible repeat (first | refine blk_drewN ?_ _ | refine blk_drew ?_ | refine blk_alloc ?_ _)); refine blk_far ?_ NB235_241.out _; (with_reducible repeat (first | refine blk_drewN ?_ _ | refine blk_drew ?_ | refine blk_alloc ?_ _)); refine blk_far ?_ NB235_241.out _; (with_reducible repeat (first | refine blk_drewN ?_ _ | refine blk_drew ?_ | refine blk_alloc ?_ _)); refine blk_far ?_ NB235_241.out _; (with_reducible repeat (first | refine blk_drewN ?_ _ | refine blk_drew ?_ | refine blk_alloc ?_ _)); refine blk_far ?_ NB235_241.out _; (with_reducible repeat (first | refine blk_drewN ?_ _ | refine blk_drew ?_ | refine blk_alloc ?_ _)); exact BK235.out) hb); have n3_ := Aside0.mk (blk_below (g := gb241) (o := .cells #[.int .i64 a0_0, .int .i64 a0_1, .int .i64 a0_2, .slice Ao22 t238.length co22] 26 (0, 0)) (by (with_reducible repeat (first | refine blk_drewN ?_ _ | refine blk_drew ?_ | refine blk_alloc ?_ _)); refine blk_put (cs := #[.int .i64 a0_0, .int .i64 a0_1, .int .i64 a0_2, .slice none 0 0]) ?_ 3 _ rfl; (with_reducible repeat (first | refine blk_drewN ?_ _ | refine blk_drew ?_ | refine blk_alloc ?_ _)); refine blk_put (cs := #[.int .i64 a0_0, .int .i64 a0_1, .int .i64 0, .slice none 0 0]) ?_ 2 _ rfl; (with_reducible repeat (first | refine blk_drewN ?_ _ | refine blk_drew ?_ | refine blk_alloc ?_ _)); refine blk_put (cs := #[.int .i64 a0_0, .int .i64 0, .int .i64 0, .slice none 0 0]) ?_ 1 _ rfl; (with_reducible repeat (first | refine blk_drewN ?_ _ | refine blk_drew ?_ | refine blk_alloc ?_ _)); refine blk_put (cs := #[.int .i64 0, .int .i64 0, .int .i64 0, .slice none 0 0]) ?_ 0 _ rfl; (with_reducible repeat (first | refine blk_drewN ?_ _ | refine blk_drew ?_ | refine blk_alloc ?_ _)); exact BK241.out) hb); have n4_ := Aside0.mk (below_step (by repeat (first | (with_reducible first | exact HB.out | apply below_alloc | apply pw_below_drewN | apply below_drew1 | refine below_set ?_ GE235.out | refine below_set ?_ GE241.out) | exact HB.out)) hb); clear HO240; clear BK235; clear BK241; clear HB; have HO240 := n0_; have HO244 := n1_; have BK235 := n2_; have BK241 := n3_; have HB := n4_; clear n0_ n1_ n2_ n3_ n4_; (try clear hb); (try clear hb2); (try clear hk); (try clear hi); (try clear ho0); have hcz30_0 : w29.cell? ⟨gb241, 0, none⟩ = some (.int .i64 a0_0) := (blk_cell BK241.out 0).trans rfl; have hcz30_1 : w29.cell? ⟨gb241, 1, none⟩ = some (.int .i64 a0_1) := (blk_cell BK241.out 1).trans rfl; have hcz30_2 : w29.cell? ⟨gb241, 2, none⟩ = some (.int .i64 a0_2) := (blk_cell BK241.out 2).trans rfl; have hcz30_3 : w29.cell? ⟨gb241, 3, none⟩ = some (.slice Ao22 t238.length co22) := (blk_cell BK241.out 3).trans rfl; have hfz30_0 := blk_frozen BK241.out 0; have hfz30_1 := blk_frozen BK241.out 1; have hfz30_2 := blk_frozen BK241.out 2; have hfz30_3 := blk_frozen BK241.out 3) | ((with_reducible refine gate_callee (f := 14) rfl ?_); refine goesL_ (some 34) rfl rfl Try.func14 (by kernel_rfl) rfl #[.agg #[.int .i64 a0_0, .int .i64 a0_1, .int .i64 a0_2, .slice Ao22 t238.length co22]] rfl (by (try simp only [List.map_toArray, List.map_cons, List.map_nil]); first | done | rfl | (simp only [List.length_drop, List.length_take]; rfl)) ?_; (with_reducible refine (frame_Pack.calls k a0_0 a0_1 a0_2 _ _ t238 t246 t249 _ ?side1 ?side2 A11.out).mono ?_); (case side1 => repeat (first | exact (Kd.S_reads' HO240.out).2.2 | (with_reducible refine Kd.C_alloc ?_ _) | (with_reducible refine Kd.C_drewN ?_ _) | (with_reducible refine Kd.C_drew ?_))); (case side2 => exact (Kd.S_reads' HO240.out).2.1); rintro e w31 ⟨v247, rfl, ho0, hb⟩; refine ⟨_, rfl, ?_⟩; have n0_ := Aside0.mk (Kd.S_elder' (by (with_reducible repeat (first | apply Kd.S_alloc | apply Kd.S_drewN | apply Kd.S_drew)); exact HO240.out) (Kd.R_base ho0) hb); have n1_ := Aside0.mk (Kd.R_elder' (by (with_reducible repeat (first | apply Kd.R_alloc | apply Kd.R_drewN | apply Kd.R_drew)); exact HO244.out) (Kd.R_base ho0) hb); have n2_ := Aside0.mk (Kd.R_lower (Kd.R_new' ho0 (Kd.R_lt (by (with_reducible repeat (first | apply Kd.R_alloc | apply Kd.R_drewN | apply Kd.R_drew)); exact HO244.out))) (below_size (by repeat (first | (with_reducible first | exact HB.out | apply below_alloc | apply pw_below_drewN | apply below_drew1 | refine below_set ?_ GE235.out | refine below_set ?_ GE241.out) | exact HB.out)))); have n3_ := Aside0.mk (blk_below (g := gb235) (o := .cells #[.int .i64 a0_0, .int .i64 a0_1, .int .i64 a0_2, .slice A0_3 l0_3.length c0_3] 26 (0, 0)) (by (with_reducible repeat (first | refine blk_drewN ?_ _ | refine blk_drew ?_ | refine blk_alloc ?_ _)); exact BK235.out) hb); have n4_ := Aside0.mk (blk_below (g := gb241) (o := .cells #[.int .i64 a0_0, .int .i64 a0_1, .int .i64 a0_2, .slice Ao22 t238.length co22] 26 (0, 0)) (by (with_reducible repeat (first | refine blk_drewN ?_ _ | refine blk_drew ?_ | refine blk_alloc ?_ _)); exact BK241.out) hb); have n5_ := Aside0.mk (below_step (by repeat (first | (with_reducible first | exact HB.out | apply below_alloc | apply pw_below_drewN | apply below_drew1 | refine below_set ?_ GE235.out | refine below_set ?_ GE241.out) | exact HB.out)) hb); clear HO240; clear HO244; clear BK235; clear BK241; clear HB; have HO240 := n0_; have HO244 := n1_; have HO248 := n2_; have BK235 := n3_; have BK241 := n4_; have HB := n5_; clear n0_ n1_ n2_ n3_ n4_ n5_; (try clear hb); (try clear hb2); (try clear hk); (try clear hi); (try clear ho0); have hcz32_0 : w31.cell? ⟨gb241, 0, none⟩ = some (.int .i64 a0_0) := (blk_cell BK241.out 0).trans rfl; have hcz32_1 : w31.cell? ⟨gb241, 1, none⟩ = some (.int .i64 a0_1) := (blk_cell BK241.out 1).trans rfl; have hcz32_2 : w31.cell? ⟨gb241, 2, none⟩ = some (.int .i64 a0_2) := (blk_cell BK241.out 2).trans rfl; have hcz32_3 : w31.cell? ⟨gb241, 3, none⟩ = some (.slice Ao22 t238.length co22) := (blk_cell BK241.out 3).trans rfl; have hfz32_0 := blk_frozen BK241.out 0; have hfz32_1 := blk_frozen BK241.out 1; have hfz32_2 := blk_frozen BK241.out 2; have hfz32_3 := blk_frozen BK241.out 3) | ((with_reducible refine gate_callee (f := 14) rfl ?_); refine goesL_ (some 39) rfl rfl Try.func14 (by kernel_rfl) rfl #[.agg #[.int .i64 a0_0, .int .i64 a0_1, .int .i64 a0_2, .slice Ao22 t238.length co22]] rfl (by (try simp only [List.map_toArray, List.map_cons, List.map_nil]); first | done | rfl | (simp only [List.length_drop, List.length_take]; rfl)) ?_; (with_reducible refine (frame_Pack.calls k a0_0 a0_1 a0_2 _ _ t238 t250 t253 _ ?side1 ?side2 A12.out).mono ?_); (case side1 => repeat (first | exact (Kd.S_reads' HO240.out).2.2 | (with_reducible refine Kd.C_alloc ?_ _) | (with_reducible refine Kd.C_drewN ?_ _) | (with_reducible refine Kd.C_drew ?_))); (case side2 => exact (Kd.S_reads' HO240.out).2.1); rintro e w33 ⟨v251, rfl, ho0, hb⟩; refine ⟨_, rfl, ?_⟩; have n0_ := Aside0.mk (Kd.S_elder' (by (with_reducible repeat (first | apply Kd.S_alloc | apply Kd.S_drewN | apply Kd.S_drew)); exact HO240.out) (Kd.R_base ho0) hb); have n1_ := Aside0.mk (Kd.R_elder' (by (with_reducible repeat (first | apply Kd.R_alloc | apply Kd.R_drewN | apply Kd.R_drew)); exact HO244.out) (Kd.R_base ho0) hb); have n2_ := Aside0.mk (Kd.R_elder' (by (with_reducible repeat (first | apply Kd.R_alloc | apply Kd.R_drewN | apply Kd.R_drew)); exact HO248.out) (Kd.R_base ho0) hb); have n3_ := Aside0.mk (Kd.R_lower (Kd.R_new' (Kd.R_new' ho0 (Kd.R_lt (by (with_reducible repeat (first | apply Kd.R_alloc | apply Kd.R_drewN | apply Kd.R_drew)); exact HO244.out))) (Kd.R_lt (by (with_reducible repeat (first | apply Kd.R_alloc | apply Kd.R_drewN | apply Kd.R_drew)); exact HO248.out))) (below_size (by repeat (first | (with_reducible first | exact HB.out | apply below_alloc | apply pw_below_drewN | apply below_drew1 | refine below_set ?_ GE235.out | refine below_set ?_ GE241.out) | exact HB.out)))); have n4_ := Aside0.mk (blk_below (g := gb235) (o := .cells #[.int .i64 a0_0, .int .i64 a0_1, .int .i64 a0_2, .slice A0_3 l0_3.length c0_3] 26 (0, 0)) (by (with_reducible repeat (first | refine blk_drewN ?_ _ | refine blk_drew ?_ | refine blk_alloc ?_ _)); exact BK235.out) hb); have n5_ := Aside0.mk (blk_below (g := gb241) (o := .cells #[.int .i64 a0_0, .int .i64 a0_1, .int .i64 a0_2, .slice Ao22 t238.length co22] 26 (0, 0)) (by (with_reducible repeat (first | refine blk_drewN ?_ _ | refine blk_drew ?_ | refine blk_alloc ?_ _)); exact BK241.out) hb); have n6_ := Aside0.mk (below_step (by repeat (first | (with_reducible first | exact HB.out | apply below_alloc | apply pw_below_drewN | apply below_drew1 | refine below_set ?_ GE235.out | refine below_set ?_ GE241.out) | exact HB.out)) hb); clear HO240; clear HO244; clear HO248; clear BK235; clear BK241; clear HB; have HO240 := n0_; have HO244 := n1_; have HO248 := n2_; have HO252 := n3_; have BK235 := n4_; have BK241 := n5_; have HB := n6_; clear n0_ n1_ n2_ n3_ n4_ n5_ n6_; (try clear hb); (try clear hb2); (try clear hk); (try clear hi); (try clear ho0)))
      (try simp only [Act.put, List.setIfInBounds_toArray, List.set_cons_zero, List.set_cons_succ])
      go_cut [67] (fun v67 wc => ∃ (kq : Nat) (x67_12 : Bool), v67 = .bool x67_12 ∧ Aside0 (churnlaw06_FramePacks.j0 kq t242 t246 t250 x67_12 a0_0 a0_1 a0_2 t238 = some r) ∧ Aside0 (kq ≤ k) ∧ Aside0 (Kd.R (Kd.int .u8) 5 wc w.heap.size (fun k_ => some k_ ≠ (v247 : Value).ownBlock ∧ some k_ ≠ (v251 : Value).ownBlock) v243 t242) ∧ Aside0 (Kd.R (Kd.int .u8) 5 wc w.heap.size (fun k_ => some k_ ≠ (v243 : Value).ownBlock ∧ some k_ ≠ (v251 : Value).ownBlock) v247 t246) ∧ Aside0 (Kd.R (Kd.int .u8) 5 wc w.heap.size (fun k_ => some k_ ≠ (v243 : Value).ownBlock ∧ some k_ ≠ (v247 : Value).ownBlock) v251 t250) ∧ Aside0 (Kd.S (Kd.slice 5 (Kd.int .u8)) 30 wc w.heap.size (fun k_ => some k_ ≠ (v243 : Value).ownBlock ∧ some k_ ≠ (v247 : Value).ownBlock ∧ some k_ ≠ (v251 : Value).ownBlock) (.slice Ao22 t238.length co22) t238) ∧ Aside0 (wc.heap[gb235]? = some (.cells #[.int .i64 a0_0, .int .i64 a0_1, .int .i64 a0_2, (.slice A0_3 l0_3.length c0_3)] 26 (0, 0))) ∧ Aside0 (wc.heap[gb241]? = some (.cells #[.int .i64 a0_0, .int .i64 a0_1, .int .i64 a0_2, (.slice Ao22 t238.length co22)] 26 (0, 0))) ∧ Aside0 (Below w.heap.size w wc))
      case first =>
        have H := HC13.out
        clear HC13
        by_cases c34 : t249 = t245
        · rw [if_pos c34] at H
          have c34b0 : (t249 == t245) = true := beq_iff_eq.mpr c34
          have c34b1 : (t249 != t245) = false := bne_eq_false_iff_eq.mpr c34
          clear c34
          (first | rw [c34b0] | (simp only [i64_w, i32_w]; rw [c34b0]) | skip)
          by_cases c35 : t253 = t245
          · rw [if_pos c35] at H
            have c35b0 : (t253 == t245) = true := beq_iff_eq.mpr c35
            have c35b1 : (t253 != t245) = false := bne_eq_false_iff_eq.mpr c35
            clear c35
            replace H := Option.bind_eq_some_iff.mp H
            obtain ⟨t254, A360, H⟩ := H
            replace H : (if t254 = true then ((churnlaw06_same.f t250 t242).bind fun t255 => (if t255 = true then ((churnlaw06_alike.f k a0_0 a0_1 a0_2 t238 a0_0 a0_1 a0_2 l0_3).bind fun t256 => (churnlaw06_FramePacks.j0 k t242 t246 t250 (!t256) a0_0 a0_1 a0_2 t238)) else (churnlaw06_FramePacks.j0 k t242 t246 t250 true a0_0 a0_1 a0_2 t238))) else (churnlaw06_FramePacks.j0 k t242 t246 t250 true a0_0 a0_1 a0_2 t238)) = some r := H
            have A36 := Aside0.mk A360
            clear A360
            by_cases c37 : t254 = true
            · subst c37
              have H1 : ((churnlaw06_same.f t250 t242).bind fun t255 => (if t255 = true then ((churnlaw06_alike.f k a0_0 a0_1 a0_2 t238 a0_0 a0_1 a0_2 l0_3).bind fun t256 => (churnlaw06_FramePacks.j0 k t242 t246 t250 (!t256) a0_0 a0_1 a0_2 t238)) else (churnlaw06_FramePacks.j0 k t242 t246 t250 true a0_0 a0_1 a0_2 t238))) = some r := by rw [if_pos rfl] at H; exact H
              clear H
              have H := H1
              clear H1
              replace H := Option.bind_eq_some_iff.mp H
              obtain ⟨t255, A380, H⟩ := H
              replace H : (if t255 = true then ((churnlaw06_alike.f k a0_0 a0_1 a0_2 t238 a0_0 a0_1 a0_2 l0_3).bind fun t256 => (churnlaw06_FramePacks.j0 k t242 t246 t250 (!t256) a0_0 a0_1 a0_2 t238)) else (churnlaw06_FramePacks.j0 k t242 t246 t250 true a0_0 a0_1 a0_2 t238)) = some r := H
              have A38 := Aside0.mk A380
              clear A380
              by_cases c39 : t255 = true
              · subst c39
                have H1 : ((churnlaw06_alike.f k a0_0 a0_1 a0_2 t238 a0_0 a0_1 a0_2 l0_3).bind fun t256 => (churnlaw06_FramePacks.j0 k t242 t246 t250 (!t256) a0_0 a0_1 a0_2 t238)) = some r := by rw [if_pos rfl] at H; exact H
                clear H
                have H := H1
                clear H1
                replace H := Option.bind_eq_some_iff.mp H
                obtain ⟨t256, A400, H⟩ := H
                replace H : (churnlaw06_FramePacks.j0 k t242 t246 t250 (!t256) a0_0 a0_1 a0_2 t238) = some r := H
                have A40 := Aside0.mk A400
                clear A400
                have H' := Aside0.mk H
                clear H
                obtain ⟨Ao41, co41, eo41⟩ := Kd.R_slice HO248.out
                subst eo41
                obtain ⟨Ao42, co42, eo42⟩ := Kd.R_slice HO244.out
                subst eo42
                go_wp2_with (first | (go_at_call 15; (with_reducible refine (churnlaw06_same.calls _ _ t246 _ _ t242 true _ ?side1 ?side2 ?side3 ?side4 A36.out).mono ?_); (case side1 => repeat (first | exact (Kd.R_reads' HO248.out).2.2 | (with_reducible refine Kd.C_alloc ?_ _) | (with_reducible refine Kd.C_drewN ?_ _) | (with_reducible refine Kd.C_drew ?_))); (case side2 => exact (Kd.R_reads' HO248.out).2.1); (case side3 => repeat (first | exact (Kd.R_reads' HO244.out).2.2 | (with_reducible refine Kd.C_alloc ?_ _) | (with_reducible refine Kd.C_drewN ?_ _) | (with_reducible refine Kd.C_drew ?_))); (case side4 => exact (Kd.R_reads' HO244.out).2.1); rintro e w' ⟨rfl, ⟨nd, rfl⟩⟩; obtain ⟨Ao43, co43, eo43⟩ := Kd.R_slice HO252.out; subst eo43) | (go_at_call 15; (with_reducible refine (churnlaw06_same.calls _ _ t250 _ _ t242 true _ ?side1 ?side2 ?side3 ?side4 A38.out).mono ?_); (case side1 => repeat (first | exact (Kd.R_reads' HO252.out).2.2 | (with_reducible refine Kd.C_alloc ?_ _) | (with_reducible refine Kd.C_drewN ?_ _) | (with_reducible refine Kd.C_drew ?_))); (case side2 => exact (Kd.R_reads' HO252.out).2.1); (case side3 => repeat (first | exact (Kd.R_reads' HO244.out).2.2 | (with_reducible refine Kd.C_alloc ?_ _) | (with_reducible refine Kd.C_drewN ?_ _) | (with_reducible refine Kd.C_drew ?_))); (case side4 => exact (Kd.R_reads' HO244.out).2.1); rintro e w' ⟨rfl, ⟨nd, rfl⟩⟩; have hnb44 := NB241_235.out; have hnc44 := NB235_241.out; have hcz45_0 : w33.cell? ⟨gb241, 0, none⟩ = some (.int .i64 a0_0) := (blk_cell BK241.out 0).trans rfl; have hcz45_1 : w33.cell? ⟨gb241, 1, none⟩ = some (.int .i64 a0_1) := (blk_cell BK241.out 1).trans rfl; have hcz45_2 : w33.cell? ⟨gb241, 2, none⟩ = some (.int .i64 a0_2) := (blk_cell BK241.out 2).trans rfl; have hcz45_3 : w33.cell? ⟨gb241, 3, none⟩ = some (.slice Ao22 t238.length co22) := (blk_cell BK241.out 3).trans rfl; have hfz45_0 := blk_frozen BK241.out 0; have hfz45_1 := blk_frozen BK241.out 1; have hfz45_2 := blk_frozen BK241.out 2; have hfz45_3 := blk_frozen BK241.out 3; have hcz46_0 : w33.cell? ⟨gb235, 0, none⟩ = some (.int .i64 a0_0) := (blk_cell BK235.out 0).trans rfl; have hcz46_1 : w33.cell? ⟨gb235, 1, none⟩ = some (.int .i64 a0_1) := (blk_cell BK235.out 1).trans rfl; have hcz46_2 : w33.cell? ⟨gb235, 2, none⟩ = some (.int .i64 a0_2) := (blk_cell BK235.out 2).trans rfl; have hcz46_3 : w33.cell? ⟨gb235, 3, none⟩ = some (.slice A0_3 l0_3.length c0_3) := (blk_cell BK235.out 3).trans rfl; have hfz46_0 := blk_frozen BK235.out 0; have hfz46_1 := blk_frozen BK235.out 1; have hfz46_2 := blk_frozen BK235.out 2; have hfz46_3 := blk_frozen BK235.out 3) | (go_at_call 16; (with_reducible refine (churnlaw06_alike.calls k a0_0 a0_1 a0_2 _ _ t238 a0_0 a0_1 a0_2 _ _ l0_3 t256 _ ?side1 ?side2 ?side3 ?side4 A40.out).mono ?_); (case side1 => repeat (first | exact (Kd.S_reads' HO240.out).2.2 | (with_reducible refine Kd.C_alloc ?_ _) | (with_reducible refine Kd.C_drewN ?_ _) | (with_reducible refine Kd.C_drew ?_))); (case side2 => exact (Kd.S_reads' HO240.out).2.1); (case side3 => repeat (first | exact (Kd.C_below HR0_3.out (by repeat (first | (with_reducible first | exact HB.out | apply below_alloc | apply pw_below_drewN | apply below_drew1 | refine below_set ?_ GE235.out | refine below_set ?_ GE241.out) | exact HB.out))) | (with_reducible refine Kd.C_alloc ?_ _) | (with_reducible refine Kd.C_drewN ?_ _) | (with_reducible refine Kd.C_drew ?_))); (case side4 => exact HC0_3.out); rintro e w47 ⟨rfl, hb⟩; have n0_ := Aside0.mk (Kd.S_below (by (with_reducible repeat (first | apply Kd.S_alloc | apply Kd.S_drewN | apply Kd.S_drew)); exact HO240.out) hb); have n1_ := Aside0.mk (Kd.R_below (by (with_reducible repeat (first | apply Kd.R_alloc | apply Kd.R_drewN | apply Kd.R_drew)); exact HO244.out) hb); have n2_ := Aside0.mk (Kd.R_below (by (with_reducible repeat (first | apply Kd.R_alloc | apply Kd.R_drewN | apply Kd.R_drew)); exact HO248.out) hb); have n3_ := Aside0.mk (Kd.R_below (by (with_reducible repeat (first | apply Kd.R_alloc | apply Kd.R_drewN | apply Kd.R_drew)); exact HO252.out) hb); have n4_ := Aside0.mk (blk_below (g := gb235) (o := .cells #[.int .i64 a0_0, .int .i64 a0_1, .int .i64 a0_2, .slice A0_3 l0_3.length c0_3] 26 (0, 0)) (by (with_reducible repeat (first | refine blk_drewN ?_ _ | refine blk_drew ?_ | refine blk_alloc ?_ _)); exact BK235.out) hb); have n5_ := Aside0.mk (blk_below (g := gb241) (o := .cells #[.int .i64 a0_0, .int .i64 a0_1, .int .i64 a0_2, .slice Ao22 t238.length co22] 26 (0, 0)) (by (with_reducible repeat (first | refine blk_drewN ?_ _ | refine blk_drew ?_ | refine blk_alloc ?_ _)); exact BK241.out) hb); have n6_ := Aside0.mk (below_step (by repeat (first | (with_reducible first | exact HB.out | apply below_alloc | apply pw_below_drewN | apply below_drew1 | refine below_set ?_ GE235.out | refine below_set ?_ GE241.out) | exact HB.out)) hb); clear HO240; clear HO244; clear HO248; clear HO252; clear BK235; clear BK241; clear HB; have HO240 := n0_; have HO244 := n1_; have HO248 := n2_; have HO252 := n3_; have BK235 := n4_; have BK241 := n5_; have HB := n6_; clear n0_ n1_ n2_ n3_ n4_ n5_ n6_; (try clear hb); (try clear hb2); (try clear hk); (try clear hi)))
                go_meet
                case rel => exact ⟨_, (!t256), (by first | rfl | (simp; done) | (simp [*]; done)), H', ⟨by first | omega | exact Nat.le_refl _⟩, ⟨by (with_reducible repeat (first | apply Kd.R_alloc | apply Kd.R_drewN | apply Kd.R_drew)); exact Kd.R_mono HO244.out (fun _ hk => ⟨hk.1.2, hk.2⟩)⟩, ⟨by (with_reducible repeat (first | apply Kd.R_alloc | apply Kd.R_drewN | apply Kd.R_drew)); exact Kd.R_mono HO248.out (fun _ hk => ⟨hk.1.2, hk.2⟩)⟩, ⟨by (with_reducible repeat (first | apply Kd.R_alloc | apply Kd.R_drewN | apply Kd.R_drew)); exact Kd.R_mono HO252.out (fun _ hk => ⟨hk.1.2, hk.2⟩)⟩, ⟨by (with_reducible repeat (first | apply Kd.S_alloc | apply Kd.S_drewN | apply Kd.S_drew)); exact Kd.S_mono HO240.out (fun _ hk => ⟨hk.1.1.2, ⟨hk.1.2, hk.2⟩⟩)⟩, ⟨by (with_reducible repeat (first | refine blk_drewN ?_ _ | refine blk_drew ?_ | refine blk_alloc ?_ _)); exact BK235.out⟩, ⟨by (with_reducible repeat (first | refine blk_drewN ?_ _ | refine blk_drew ?_ | refine blk_alloc ?_ _)); exact BK241.out⟩, ⟨by repeat (first | (with_reducible first | exact HB.out | apply below_alloc | apply pw_below_drewN | apply below_drew1 | refine below_set ?_ GE235.out | refine below_set ?_ GE241.out) | exact HB.out)⟩⟩
              · replace c39 := Bool.eq_false_iff.mpr c39
                subst c39
                have H1 : (churnlaw06_FramePacks.j0 k t242 t246 t250 true a0_0 a0_1 a0_2 t238) = some r := by rw [if_neg (show ¬ (false = true) by decide)] at H; exact H
                clear H
                have H := H1
                clear H1
                have H' := Aside0.mk H
                clear H
                obtain ⟨Ao48, co48, eo48⟩ := Kd.R_slice HO248.out
                subst eo48
                obtain ⟨Ao49, co49, eo49⟩ := Kd.R_slice HO244.out
                subst eo49
                go_wp2_with (first | (go_at_call 15; (with_reducible refine (churnlaw06_same.calls _ _ t246 _ _ t242 true _ ?side1 ?side2 ?side3 ?side4 A36.out).mono ?_); (case side1 => repeat (first | exact (Kd.R_reads' HO248.out).2.2 | (with_reducible refine Kd.C_alloc ?_ _) | (with_reducible refine Kd.C_drewN ?_ _) | (with_reducible refine Kd.C_drew ?_))); (case side2 => exact (Kd.R_reads' HO248.out).2.1); (case side3 => repeat (first | exact (Kd.R_reads' HO244.out).2.2 | (with_reducible refine Kd.C_alloc ?_ _) | (with_reducible refine Kd.C_drewN ?_ _) | (with_reducible refine Kd.C_drew ?_))); (case side4 => exact (Kd.R_reads' HO244.out).2.1); rintro e w' ⟨rfl, ⟨nd, rfl⟩⟩; obtain ⟨Ao50, co50, eo50⟩ := Kd.R_slice HO252.out; subst eo50) | (go_at_call 15; (with_reducible refine (churnlaw06_same.calls _ _ t250 _ _ t242 false _ ?side1 ?side2 ?side3 ?side4 A38.out).mono ?_); (case side1 => repeat (first | exact (Kd.R_reads' HO252.out).2.2 | (with_reducible refine Kd.C_alloc ?_ _) | (with_reducible refine Kd.C_drewN ?_ _) | (with_reducible refine Kd.C_drew ?_))); (case side2 => exact (Kd.R_reads' HO252.out).2.1); (case side3 => repeat (first | exact (Kd.R_reads' HO244.out).2.2 | (with_reducible refine Kd.C_alloc ?_ _) | (with_reducible refine Kd.C_drewN ?_ _) | (with_reducible refine Kd.C_drew ?_))); (case side4 => exact (Kd.R_reads' HO244.out).2.1); rintro e w' ⟨rfl, ⟨nd, rfl⟩⟩))
                go_meet
                case rel => exact ⟨_, (true), (by first | rfl | (simp; done) | (simp [*]; done)), H', ⟨by first | omega | exact Nat.le_refl _⟩, ⟨by (with_reducible repeat (first | apply Kd.R_alloc | apply Kd.R_drewN | apply Kd.R_drew)); exact Kd.R_mono HO244.out (fun _ hk => ⟨hk.1.2, hk.2⟩)⟩, ⟨by (with_reducible repeat (first | apply Kd.R_alloc | apply Kd.R_drewN | apply Kd.R_drew)); exact Kd.R_mono HO248.out (fun _ hk => ⟨hk.1.2, hk.2⟩)⟩, ⟨by (with_reducible repeat (first | apply Kd.R_alloc | apply Kd.R_drewN | apply Kd.R_drew)); exact Kd.R_mono HO252.out (fun _ hk => ⟨hk.1.2, hk.2⟩)⟩, ⟨by (with_reducible repeat (first | apply Kd.S_alloc | apply Kd.S_drewN | apply Kd.S_drew)); exact Kd.S_mono HO240.out (fun _ hk => ⟨hk.1.1.2, ⟨hk.1.2, hk.2⟩⟩)⟩, ⟨by (with_reducible repeat (first | refine blk_drewN ?_ _ | refine blk_drew ?_ | refine blk_alloc ?_ _)); exact BK235.out⟩, ⟨by (with_reducible repeat (first | refine blk_drewN ?_ _ | refine blk_drew ?_ | refine blk_alloc ?_ _)); exact BK241.out⟩, ⟨by repeat (first | (with_reducible first | exact HB.out | apply below_alloc | apply pw_below_drewN | apply below_drew1 | refine below_set ?_ GE235.out | refine below_set ?_ GE241.out) | exact HB.out)⟩⟩
            · replace c37 := Bool.eq_false_iff.mpr c37
              subst c37
              have H1 : (churnlaw06_FramePacks.j0 k t242 t246 t250 true a0_0 a0_1 a0_2 t238) = some r := by rw [if_neg (show ¬ (false = true) by decide)] at H; exact H
              clear H
              have H := H1
              clear H1
              have H' := Aside0.mk H
              clear H
              obtain ⟨Ao51, co51, eo51⟩ := Kd.R_slice HO248.out
              subst eo51
              obtain ⟨Ao52, co52, eo52⟩ := Kd.R_slice HO244.out
              subst eo52
              go_wp2_with (first | (go_at_call 15; (with_reducible refine (churnlaw06_same.calls _ _ t246 _ _ t242 false _ ?side1 ?side2 ?side3 ?side4 A36.out).mono ?_); (case side1 => repeat (first | exact (Kd.R_reads' HO248.out).2.2 | (with_reducible refine Kd.C_alloc ?_ _) | (with_reducible refine Kd.C_drewN ?_ _) | (with_reducible refine Kd.C_drew ?_))); (case side2 => exact (Kd.R_reads' HO248.out).2.1); (case side3 => repeat (first | exact (Kd.R_reads' HO244.out).2.2 | (with_reducible refine Kd.C_alloc ?_ _) | (with_reducible refine Kd.C_drewN ?_ _) | (with_reducible refine Kd.C_drew ?_))); (case side4 => exact (Kd.R_reads' HO244.out).2.1); rintro e w' ⟨rfl, ⟨nd, rfl⟩⟩))
              go_meet
              case rel => exact ⟨_, (true), (by first | rfl | (simp; done) | (simp [*]; done)), H', ⟨by first | omega | exact Nat.le_refl _⟩, ⟨by (with_reducible repeat (first | apply Kd.R_alloc | apply Kd.R_drewN | apply Kd.R_drew)); exact Kd.R_mono HO244.out (fun _ hk => ⟨hk.1.2, hk.2⟩)⟩, ⟨by (with_reducible repeat (first | apply Kd.R_alloc | apply Kd.R_drewN | apply Kd.R_drew)); exact Kd.R_mono HO248.out (fun _ hk => ⟨hk.1.2, hk.2⟩)⟩, ⟨by (with_reducible repeat (first | apply Kd.R_alloc | apply Kd.R_drewN | apply Kd.R_drew)); exact Kd.R_mono HO252.out (fun _ hk => ⟨hk.1.2, hk.2⟩)⟩, ⟨by (with_reducible repeat (first | apply Kd.S_alloc | apply Kd.S_drewN | apply Kd.S_drew)); exact Kd.S_mono HO240.out (fun _ hk => ⟨hk.1.1.2, ⟨hk.1.2, hk.2⟩⟩)⟩, ⟨by (with_reducible repeat (first | refine blk_drewN ?_ _ | refine blk_drew ?_ | refine blk_alloc ?_ _)); exact BK235.out⟩, ⟨by (with_reducible repeat (first | refine blk_drewN ?_ _ | refine blk_drew ?_ | refine blk_alloc ?_ _)); exact BK241.out⟩, ⟨by repeat (first | (with_reducible first | exact HB.out | apply below_alloc | apply pw_below_drewN | apply below_drew1 | refine below_set ?_ GE235.out | refine below_set ?_ GE241.out) | exact HB.out)⟩⟩
          · rw [if_neg c35] at H
            have c35b0 : (t253 == t245) = false := beq_eq_false_iff_ne.mpr c35
            have c35b1 : (t253 != t245) = true := bne_iff_ne.mpr c35
            have H' := Aside0.mk H
            clear H
            go_wp2
            go_meet
            case rel => exact ⟨_, (true), (by first | rfl | (simp; done) | (simp [*]; done)), H', ⟨by first | omega | exact Nat.le_refl _⟩, ⟨by (with_reducible repeat (first | apply Kd.R_alloc | apply Kd.R_drewN | apply Kd.R_drew)); exact Kd.R_mono HO244.out (fun _ hk => ⟨hk.1.2, hk.2⟩)⟩, ⟨by (with_reducible repeat (first | apply Kd.R_alloc | apply Kd.R_drewN | apply Kd.R_drew)); exact Kd.R_mono HO248.out (fun _ hk => ⟨hk.1.2, hk.2⟩)⟩, ⟨by (with_reducible repeat (first | apply Kd.R_alloc | apply Kd.R_drewN | apply Kd.R_drew)); exact Kd.R_mono HO252.out (fun _ hk => ⟨hk.1.2, hk.2⟩)⟩, ⟨by (with_reducible repeat (first | apply Kd.S_alloc | apply Kd.S_drewN | apply Kd.S_drew)); exact Kd.S_mono HO240.out (fun _ hk => ⟨hk.1.1.2, ⟨hk.1.2, hk.2⟩⟩)⟩, ⟨by (with_reducible repeat (first | refine blk_drewN ?_ _ | refine blk_drew ?_ | refine blk_alloc ?_ _)); exact BK235.out⟩, ⟨by (with_reducible repeat (first | refine blk_drewN ?_ _ | refine blk_drew ?_ | refine blk_alloc ?_ _)); exact BK241.out⟩, ⟨by repeat (first | (with_reducible first | exact HB.out | apply below_alloc | apply pw_below_drewN | apply below_drew1 | refine below_set ?_ GE235.out | refine below_set ?_ GE241.out) | exact HB.out)⟩⟩
        · rw [if_neg c34] at H
          have c34b0 : (t249 == t245) = false := beq_eq_false_iff_ne.mpr c34
          have c34b1 : (t249 != t245) = true := bne_iff_ne.mpr c34
          (first | rw [c34b0] | (simp only [i64_w, i32_w]; rw [c34b0]) | skip)
          have H' := Aside0.mk H
          clear H
          go_wp2
          go_meet
          case rel => exact ⟨_, (true), (by first | rfl | (simp; done) | (simp [*]; done)), H', ⟨by first | omega | exact Nat.le_refl _⟩, ⟨by (with_reducible repeat (first | apply Kd.R_alloc | apply Kd.R_drewN | apply Kd.R_drew)); exact Kd.R_mono HO244.out (fun _ hk => ⟨hk.1.2, hk.2⟩)⟩, ⟨by (with_reducible repeat (first | apply Kd.R_alloc | apply Kd.R_drewN | apply Kd.R_drew)); exact Kd.R_mono HO248.out (fun _ hk => ⟨hk.1.2, hk.2⟩)⟩, ⟨by (with_reducible repeat (first | apply Kd.R_alloc | apply Kd.R_drewN | apply Kd.R_drew)); exact Kd.R_mono HO252.out (fun _ hk => ⟨hk.1.2, hk.2⟩)⟩, ⟨by (with_reducible repeat (first | apply Kd.S_alloc | apply Kd.S_drewN | apply Kd.S_drew)); exact Kd.S_mono HO240.out (fun _ hk => ⟨hk.1.1.2, ⟨hk.1.2, hk.2⟩⟩)⟩, ⟨by (with_reducible repeat (first | refine blk_drewN ?_ _ | refine blk_drew ?_ | refine blk_alloc ?_ _)); exact BK235.out⟩, ⟨by (with_reducible repeat (first | refine blk_drewN ?_ _ | refine blk_drew ?_ | refine blk_alloc ?_ _)); exact BK241.out⟩, ⟨by repeat (first | (with_reducible first | exact HB.out | apply below_alloc | apply pw_below_drewN | apply below_drew1 | refine below_set ?_ GE235.out | refine below_set ?_ GE241.out) | exact HB.out)⟩⟩
      case rest =>
        clear HC13
        try clear c1
        try clear c2
        try clear p2
        try clear c3
        try clear c4
        try clear c5
        try clear c10
        try clear c11
        try clear c12
        try clear c13
        try clear c14
        try clear c27
        try clear c34
        try clear c34b0
        try clear c34b1
        try clear c35
        try clear c35b0
        try clear c35b1
        try clear c37
        try clear c39
        try clear c44
        try clear hcz16_0
        try clear hcz16_1
        try clear hcz16_2
        try clear hcz16_3
        try clear hcz28_0
        try clear hcz28_1
        try clear hcz28_2
        try clear hcz28_3
        try clear hcz30_0
        try clear hcz30_1
        try clear hcz30_2
        try clear hcz30_3
        try clear hcz32_0
        try clear hcz32_1
        try clear hcz32_2
        try clear hcz32_3
        try clear hcz45_0
        try clear hcz45_1
        try clear hcz45_2
        try clear hcz45_3
        try clear hcz46_0
        try clear hcz46_1
        try clear hcz46_2
        try clear hcz46_3
        try clear hcz8_0
        try clear hcz8_1
        try clear hcz8_2
        try clear hcz8_3
        try clear hfz16_0
        try clear hfz16_1
        try clear hfz16_2
        try clear hfz16_3
        try clear hfz28_0
        try clear hfz28_1
        try clear hfz28_2
        try clear hfz28_3
        try clear hfz30_0
        try clear hfz30_1
        try clear hfz30_2
        try clear hfz30_3
        try clear hfz32_0
        try clear hfz32_1
        try clear hfz32_2
        try clear hfz32_3
        try clear hfz45_0
        try clear hfz45_1
        try clear hfz45_2
        try clear hfz45_3
        try clear hfz46_0
        try clear hfz46_1
        try clear hfz46_2
        try clear hfz46_3
        try clear hfz8_0
        try clear hfz8_1
        try clear hfz8_2
        try clear hfz8_3
        obtain ⟨kq, x67_12, rfl, HA, HJ12, HO_4, HO_6, HO_8, HO_242003, BK235, BK241, HB⟩ := hcut
        cases kq with
        | zero => exact absurd HA.out (by simp [churnlaw06_FramePacks.j0])
        | succ kj12 =>
          have H := HA.out
          clear HA
          simp only [churnlaw06_FramePacks.j0] at H
          by_cases c53 : x67_12 = true
          · subst c53
            have H1 : (some false) = some r := by rw [if_pos rfl] at H; exact H
            clear H
            have H := H1
            clear H1
            obtain rfl := Option.some.inj H
            exact absurd HR_.out (by decide)
          · replace c53 := Bool.eq_false_iff.mpr c53
            subst c53
            have H1 : (churnlaw06_FramePacks.l0 kj12 t242 t246 t250 (t246.length : Int) 0 a0_0 a0_1 a0_2 t238) = some r := by rw [if_neg (show ¬ (false = true) by decide)] at H; exact H
            clear H
            have H := H1
            clear H1
            have H' := Aside0.mk H
            clear H
            obtain ⟨Ao54, co54, eo54⟩ := Kd.R_slice HO_6.out
            subst eo54
            go_wp2
            go_loopg [70] kj12 (fun kq v70 w' => ∃ (x6_2 : List Int) (x70_2 : Int), v70 = .int .i64 x70_2 ∧ Aside0 (churnlaw06_FramePacks.l0 kq t242 x6_2 t250 (t246.length : Int) x70_2 a0_0 a0_1 a0_2 t238 = some r) ∧ Aside0 (kq ≤ kj12) ∧ Aside0 (Kd.R (Kd.int .u8) 5 w' w.heap.size (fun k_ => some k_ ≠ ((.slice Ao54 t246.length co54) : Value).ownBlock ∧ some k_ ≠ (v251 : Value).ownBlock) v243 t242) ∧ Aside0 (Kd.R (Kd.int .u8) 5 w' w.heap.size (fun k_ => some k_ ≠ (v243 : Value).ownBlock ∧ some k_ ≠ (v251 : Value).ownBlock) (.slice Ao54 t246.length co54) x6_2) ∧ Aside0 (Kd.R (Kd.int .u8) 5 w' w.heap.size (fun k_ => some k_ ≠ (v243 : Value).ownBlock ∧ some k_ ≠ ((.slice Ao54 t246.length co54) : Value).ownBlock) v251 t250) ∧ Aside0 (Kd.S (Kd.slice 5 (Kd.int .u8)) 30 w' w.heap.size (fun k_ => some k_ ≠ (v243 : Value).ownBlock ∧ some k_ ≠ ((.slice Ao54 t246.length co54) : Value).ownBlock ∧ some k_ ≠ (v251 : Value).ownBlock) (.slice Ao22 t238.length co22) t238) ∧ Aside0 (w'.heap[gb235]? = some (.cells #[.int .i64 a0_0, .int .i64 a0_1, .int .i64 a0_2, (.slice A0_3 l0_3.length c0_3)] 26 (0, 0))) ∧ Aside0 (w'.heap[gb241]? = some (.cells #[.int .i64 a0_0, .int .i64 a0_1, .int .i64 a0_2, (.slice Ao22 t238.length co22)] 26 (0, 0))) ∧ Aside0 (Below w.heap.size w w'))
            case atStart => exact ⟨(t246), (0), (by first | rfl | (simp; done) | (simp [*]; done)), H', ⟨Nat.le_refl _⟩, ⟨by (with_reducible repeat (first | apply Kd.R_alloc | apply Kd.R_drewN | apply Kd.R_drew)); exact HO_4.out⟩, ⟨by (with_reducible repeat (first | apply Kd.R_alloc | apply Kd.R_drewN | apply Kd.R_drew)); exact HO_6.out⟩, ⟨by (with_reducible repeat (first | apply Kd.R_alloc | apply Kd.R_drewN | apply Kd.R_drew)); exact HO_8.out⟩, ⟨by (with_reducible repeat (first | apply Kd.S_alloc | apply Kd.S_drewN | apply Kd.S_drew)); exact HO_242003.out⟩, ⟨by (with_reducible repeat (first | refine blk_drewN ?_ _ | refine blk_drew ?_ | refine blk_alloc ?_ _)); exact BK235.out⟩, ⟨by (with_reducible repeat (first | refine blk_drewN ?_ _ | refine blk_drew ?_ | refine blk_alloc ?_ _)); exact BK241.out⟩, ⟨by repeat (first | (with_reducible first | exact HB.out | apply below_alloc | apply pw_below_drewN | apply below_drew1 | refine below_set ?_ GE235.out | refine below_set ?_ GE241.out) | exact HB.out)⟩⟩
            case round =>
              clear H'
              try clear c1
              try clear c2
              try clear p2
              try clear c3
              try clear c4
              try clear c5
              try clear c10
              try clear c11
              try clear c12
              try clear c13
              try clear c14
              try clear c27
              try clear c34
              try clear c34b0
              try clear c34b1
              try clear c35
              try clear c35b0
              try clear c35b1
              try clear c37
              try clear c39
              try clear c44
              try clear c53
              try clear hcz16_0
              try clear hcz16_1
              try clear hcz16_2
              try clear hcz16_3
              try clear hcz28_0
              try clear hcz28_1
              try clear hcz28_2
              try clear hcz28_3
              try clear hcz30_0
              try clear hcz30_1
              try clear hcz30_2
              try clear hcz30_3
              try clear hcz32_0
              try clear hcz32_1
              try clear hcz32_2
              try clear hcz32_3
              try clear hcz45_0
              try clear hcz45_1
              try clear hcz45_2
              try clear hcz45_3
              try clear hcz46_0
              try clear hcz46_1
              try clear hcz46_2
              try clear hcz46_3
              try clear hcz8_0
              try clear hcz8_1
              try clear hcz8_2
              try clear hcz8_3
              try clear hfz16_0
              try clear hfz16_1
              try clear hfz16_2
              try clear hfz16_3
              try clear hfz28_0
              try clear hfz28_1
              try clear hfz28_2
              try clear hfz28_3
              try clear hfz30_0
              try clear hfz30_1
              try clear hfz30_2
              try clear hfz30_3
              try clear hfz32_0
              try clear hfz32_1
              try clear hfz32_2
              try clear hfz32_3
              try clear hfz45_0
              try clear hfz45_1
              try clear hfz45_2
              try clear hfz45_3
              try clear hfz46_0
              try clear hfz46_1
              try clear hfz46_2
              try clear hfz46_3
              try clear hfz8_0
              try clear hfz8_1
              try clear hfz8_2
              try clear hfz8_3
              try clear p2
              (try clear BK235)
              (try clear BK241)
              obtain ⟨x6_2, x70_2, rfl, HA, HK2, HO_4, HO_6, HO_8, HO_242003, BK235, BK241, HB⟩ := hrel
              have hl6_2 := (Kd.R_reads' HO_6.out).1
              rw [hl6_2] at HO_6
              (try simp only [hl6_2])
              (try simp only [hl6_2] at BK235)
              (try simp only [hl6_2] at BK241)
              (try simp only [hl6_2] at HO_4)
              (try simp only [hl6_2] at HO_8)
              (try simp only [hl6_2] at HO_242003)
              cases gk with
              | zero => exact absurd HA.out (by simp [churnlaw06_FramePacks.l0])
              | succ k2 =>
                have H := HA.out
                clear HA
                simp only [churnlaw06_FramePacks.l0] at H
                by_cases c55 : x70_2 < (t246.length : Int)
                · rw [if_pos c55] at H
                  have c55b0 : decide (x70_2 < (t246.length : Int)) = true := decide_eq_true c55
                  (try (have c55b0_ := c55b0; simp only [hl6_2] at c55b0_))
                  clear c55
                  by_cases c56 : 0 ≤ x70_2
                  · rw [if_pos c56] at H
                    have c56b0 : decide (0 ≤ x70_2) = true := decide_eq_true c56
                    (try (have c56b0_ := c56b0; simp only [hl6_2] at c56b0_))
                    clear c56
                    by_cases c57 : x70_2 < (x6_2.length : Int)
                    · rw [if_pos c57] at H
                      have c57b0 : decide (x70_2 < (x6_2.length : Int)) = true := decide_eq_true c57
                      (try (have c57b0_ := c57b0; simp only [hl6_2] at c57b0_))
                      clear c57
                      obtain ⟨y257, hy257⟩ : ∃ y_ : List Int, y_ = (x6_2.set (x70_2 : Int).toNat 85) := ⟨_, rfl⟩
                      replace H : (churnlaw06_FramePacks.l0 k2 t242 y257 t250 (t246.length : Int) (wrap64 (x70_2 + 1)) a0_0 a0_1 a0_2 t238) = some r := by first | (rw [hy257]; with_reducible exact H) | (have H2_ := (Option.bind_some _ _).symm.trans H; rw [hy257]; with_reducible exact H2_) | (have H2_ := (Option.bind_some _ _).symm.trans H; with_reducible exact H2_) | with_reducible exact H | (rw [hy257]; exact H) | exact H
                      have Ny257 := Aside0.mk hy257
                      clear hy257
                      have H' := Aside0.mk H
                      clear H
                      have p58 : 0 ≤ (x70_2 : Int) := of_decide_eq_true (by first | (with_reducible assumption) | assumption)
                      have q58 : (x70_2 : Int) < ((x6_2.length : Int) : Int) := of_decide_eq_true (by first | (with_reducible assumption) | assumption)
                      obtain ⟨go58, co58, eo58, gb58, gl58, cl58, HG58⟩ := Kd.R_form HO_6.out (by omega)
                      (first | cases eo58 | (injection eo58 with ea_ en_ ec_; (first | subst ea_ | (injection ea_ with ea_; subst ea_)); subst ec_; clear en_))
                      have GB58 := Aside0.mk gb58
                      have GG58 := Aside0.mk HG58
                      clear gb58 gl58 HG58
                      obtain ⟨hx58_0, hf58_0⟩ := Kd.R_celln 0 HO_6.out (x70_2 : Int) p58 q58
                      replace p58 := eq_true p58
                      replace q58 := eq_true q58
                      have HP59 := Kd.R_putg HO_6.out (x70_2 : Int) 85
                      go_wp2_with (first | ((with_reducible refine gate_store (t := 5) (p := 75) rfl ?_); refine store_event (t := 5) (p := 75) (v := ?vo_w60) (w1 := (wr.setCell ⟨go58, (x70_2 : Int).toNat, none⟩ (.int .u8 85))) ?hg ?ho ?hn ?hr ?_; (case ho => rfl); (case hg => rfl); (case hn => rfl); (case hr => first | (go_simp; done) | (go_simp; rfl)); intro w60 hw; have hg : wr.grownBy w60 (some go58) := (by rw [hw]; exact HP59.2); have hp_ : Kd.R (Kd.int .u8) 5 w60 w.heap.size (fun k_ => some k_ ≠ (v243 : Value).ownBlock ∧ some k_ ≠ (v251 : Value).ownBlock) (.slice (some ⟨go58, 0, none⟩) x6_2.length co54) y257 := (by rw [hw, Ny257.out]; exact HP59.1); clear HP59; have n0_ := Aside0.mk (Kd.R_after (v := (.slice (some ⟨go58, 0, none⟩) x6_2.length co54)) (v1 := (.slice (some ⟨go58, 0, none⟩) x6_2.length co54)) (ok := (fun k_ => some k_ ≠ (v251 : Value).ownBlock)) (by (with_reducible repeat (first | apply Kd.R_alloc | apply Kd.R_drewN | apply Kd.R_drew)); exact Kd.R_mono HO_4.out (fun _ hk => ⟨hk.2, hk.1⟩)) hg (.inl rfl)); have n1_ := Aside0.mk (hp_); have n2_ := Aside0.mk (Kd.R_after (v := (.slice (some ⟨go58, 0, none⟩) x6_2.length co54)) (v1 := (.slice (some ⟨go58, 0, none⟩) x6_2.length co54)) (ok := (fun k_ => some k_ ≠ (v243 : Value).ownBlock)) (by (with_reducible repeat (first | apply Kd.R_alloc | apply Kd.R_drewN | apply Kd.R_drew)); exact HO_8.out) hg (.inl rfl)); have n3_ := Aside0.mk (Kd.S_after (v := (.slice (some ⟨go58, 0, none⟩) x6_2.length co54)) (v1 := (.slice (some ⟨go58, 0, none⟩) x6_2.length co54)) (ok := (fun k_ => some k_ ≠ (v243 : Value).ownBlock ∧ some k_ ≠ (v251 : Value).ownBlock)) (by (with_reducible repeat (first | apply Kd.S_alloc | apply Kd.S_drewN | apply Kd.S_drew)); exact Kd.S_mono HO_242003.out (fun _ hk => ⟨⟨hk.1, hk.2.2⟩, hk.2.1⟩)) hg (.inl rfl)); have n4_ := Aside0.mk (blk_grown (g := gb235) (o := .cells #[.int .i64 a0_0, .int .i64 a0_1, .int .i64 a0_2, .slice A0_3 l0_3.length c0_3] 26 (0, 0)) (by (with_reducible repeat (first | refine blk_drewN ?_ _ | refine blk_drew ?_ | refine blk_alloc ?_ _)); exact BK235.out) hg (Kd.R_ne HO_6.out BK235.out (by decide))); have n5_ := Aside0.mk (blk_grown (g := gb241) (o := .cells #[.int .i64 a0_0, .int .i64 a0_1, .int .i64 a0_2, .slice Ao22 t238.length co22] 26 (0, 0)) (by (with_reducible repeat (first | refine blk_drewN ?_ _ | refine blk_drew ?_ | refine blk_alloc ?_ _)); exact BK241.out) hg (Kd.R_ne HO_6.out BK241.out (by decide))); have n6_ := Aside0.mk ((by rw [hw]; exact below_set (HB.out) GB58.out : Below w.heap.size w w60)); clear HO_4; clear HO_6; clear HO_8; clear HO_242003; clear BK235; clear BK241; clear HB; have HO_4 := n0_; have HO_6 := n1_; have HO_8 := n2_; have HO_242003 := n3_; have BK235 := n4_; have BK241 := n5_; have HB := n6_; clear n0_ n1_ n2_ n3_ n4_ n5_ n6_; clear hg hw hp_))
                      (try simp only [← hl6_2])
                      go_roundg k2
                      case measure => have := HJ12.out; have := HK2.out; omega
                      case rel => exact ⟨(y257), (wrap64 (x70_2 + 1)), (by first | rfl | (simp; done) | (simp [*]; done)), H', ⟨by have := HJ12.out; have := HK2.out; omega⟩, ⟨by (try simp only [hl6_2]); (with_reducible repeat (first | apply Kd.R_alloc | apply Kd.R_drewN | apply Kd.R_drew)); exact Kd.R_mono HO_4.out (fun _ hk => ⟨hk.2, hk.1⟩)⟩, ⟨by (try simp only [hl6_2]); (with_reducible repeat (first | apply Kd.R_alloc | apply Kd.R_drewN | apply Kd.R_drew)); exact HO_6.out⟩, ⟨by (try simp only [hl6_2]); (with_reducible repeat (first | apply Kd.R_alloc | apply Kd.R_drewN | apply Kd.R_drew)); exact HO_8.out⟩, ⟨by (try simp only [hl6_2]); (with_reducible repeat (first | apply Kd.S_alloc | apply Kd.S_drewN | apply Kd.S_drew)); exact Kd.S_mono HO_242003.out (fun _ hk => ⟨hk.1.1, ⟨hk.2, hk.1.2⟩⟩)⟩, ⟨by (try simp only [hl6_2]); (with_reducible repeat (first | refine blk_drewN ?_ _ | refine blk_drew ?_ | refine blk_alloc ?_ _)); exact BK235.out⟩, ⟨by (try simp only [hl6_2]); (with_reducible repeat (first | refine blk_drewN ?_ _ | refine blk_drew ?_ | refine blk_alloc ?_ _)); exact BK241.out⟩, ⟨by repeat (first | (with_reducible first | exact HB.out | apply below_alloc | apply pw_below_drewN | apply below_drew1 | refine below_set ?_ GE235.out | refine below_set ?_ GE241.out) | exact HB.out)⟩⟩
                    · rw [if_neg c57] at H
                      exact absurd H (by simp)
                  · rw [if_neg c56] at H
                    exact absurd H (by simp)
                · rw [if_neg c55] at H
                  have c55b0 : decide (x70_2 < (t246.length : Int)) = false := decide_eq_false c55
                  (try (have c55b0_ := c55b0; simp only [hl6_2] at c55b0_))
                  clear c55
                  obtain ⟨y258, hy258⟩ : ∃ y_ : List Int, y_ = (([85, 85, 85, 85] : List Int)) := ⟨_, rfl⟩
                  replace H : (if x6_2.length + y258.length < 140737488355328 then (churnlaw06_FramePacks.l1 k2 t242 (x6_2 ++ y258) t250 (t238.length : Int) 0 a0_0 a0_1 a0_2 t238) else (none)) = some r := by first | (rw [hy258]; with_reducible exact H) | (have H2_ := (Option.bind_some _ _).symm.trans H; rw [hy258]; with_reducible exact H2_) | (have H2_ := (Option.bind_some _ _).symm.trans H; with_reducible exact H2_) | with_reducible exact H | (rw [hy258]; exact H) | exact H
                  have Ny258 := Aside0.mk hy258
                  clear hy258
                  by_cases c61 : x6_2.length + y258.length < 140737488355328
                  · rw [if_pos c61] at H
                    have LMc61 := Aside0.mk c61
                    clear c61
                    obtain ⟨y261, hy261⟩ : ∃ y_ : List Int, y_ = (x6_2 ++ y258) := ⟨_, rfl⟩
                    replace H : (churnlaw06_FramePacks.l1 k2 t242 y261 t250 (t238.length : Int) 0 a0_0 a0_1 a0_2 t238) = some r := by first | (rw [hy261]; with_reducible exact H) | (have H2_ := (Option.bind_some _ _).symm.trans H; rw [hy261]; with_reducible exact H2_) | (have H2_ := (Option.bind_some _ _).symm.trans H; with_reducible exact H2_) | with_reducible exact H | (rw [hy261]; exact H) | exact H
                    have Ny261 := Aside0.mk hy261
                    clear hy261
                    have H' := Aside0.mk H
                    clear H
                    go_wp2_with (first | ((with_reducible refine gate_dst (N := 78) rfl ?_); (try (refine gate_guard (by rfl) ?_; dsimp only)); refine Kd.R_lit (Kd.int .u8) _ 5 ?hg (N := 78) ?hd (xs := ([85, 85, 85, 85] : List Int)) (inner := [.int .u8 85, .int .u8 85, .int .u8 85, .int .u8 85]) (ok := fun _ => True) (okp := fun _ => True) ?hr ?hp (fun _ hk => hk) trivial (Below.refl _ _) (Nat.le_refl _) (by simp) ?_; (case hd => rfl); (case hg => rfl); (case hr => first | (go_simp; done) | (go_simp; rfl)); (case hp => exact (Reps.one (show Kd.M (Kd.int .u8) _ _ _ 85 [.int .u8 85] from rfl) (Reps.one (show Kd.M (Kd.int .u8) _ _ _ 85 [.int .u8 85] from rfl) (Reps.one (show Kd.M (Kd.int .u8) _ _ _ 85 [.int .u8 85] from rfl) (Reps.one (show Kd.M (Kd.int .u8) _ _ _ 85 [.int .u8 85] from rfl) (Reps.none _ _)))))); intro v259 w62 ho63 hb hg_ hnew_; clear hg_ hnew_; (first | rw [← Ny258.out] at ho63 | (simp only [Int.reduceToNat] at ho63; rw [← Ny258.out] at ho63)); have n0_ := Aside0.mk (Kd.R_elder' (by (with_reducible repeat (first | apply Kd.R_alloc | apply Kd.R_drewN | apply Kd.R_drew)); exact HO_4.out) (Kd.R_base ho63) hb); have n1_ := Aside0.mk (Kd.R_elder' (by (with_reducible repeat (first | apply Kd.R_alloc | apply Kd.R_drewN | apply Kd.R_drew)); exact HO_6.out) (Kd.R_base ho63) hb); have n2_ := Aside0.mk (Kd.R_elder' (by (with_reducible repeat (first | apply Kd.R_alloc | apply Kd.R_drewN | apply Kd.R_drew)); exact HO_8.out) (Kd.R_base ho63) hb); have n3_ := Aside0.mk (Kd.S_elder' (by (with_reducible repeat (first | apply Kd.S_alloc | apply Kd.S_drewN | apply Kd.S_drew)); exact HO_242003.out) (Kd.R_base ho63) hb); have n4_ := Aside0.mk (Kd.R_lower (Kd.R_new' (Kd.R_new' (Kd.R_new' ho63 (Kd.R_lt (by (with_reducible repeat (first | apply Kd.R_alloc | apply Kd.R_drewN | apply Kd.R_drew)); exact HO_4.out))) (Kd.R_lt (by (with_reducible repeat (first | apply Kd.R_alloc | apply Kd.R_drewN | apply Kd.R_drew)); exact HO_6.out))) (Kd.R_lt (by (with_reducible repeat (first | apply Kd.R_alloc | apply Kd.R_drewN | apply Kd.R_drew)); exact HO_8.out))) (below_size (by repeat (first | (with_reducible first | exact HB.out | apply below_alloc | apply pw_below_drewN | apply below_drew1 | refine below_set ?_ GE235.out | refine below_set ?_ GE241.out) | exact HB.out)))); have n5_ := Aside0.mk (blk_below (g := gb235) (o := .cells #[.int .i64 a0_0, .int .i64 a0_1, .int .i64 a0_2, .slice A0_3 l0_3.length c0_3] 26 (0, 0)) (by (with_reducible repeat (first | refine blk_drewN ?_ _ | refine blk_drew ?_ | refine blk_alloc ?_ _)); exact BK235.out) hb); have n6_ := Aside0.mk (blk_below (g := gb241) (o := .cells #[.int .i64 a0_0, .int .i64 a0_1, .int .i64 a0_2, .slice Ao22 t238.length co22] 26 (0, 0)) (by (with_reducible repeat (first | refine blk_drewN ?_ _ | refine blk_drew ?_ | refine blk_alloc ?_ _)); exact BK241.out) hb); have n7_ := Aside0.mk (below_step (by repeat (first | (with_reducible first | exact HB.out | apply below_alloc | apply pw_below_drewN | apply below_drew1 | refine below_set ?_ GE235.out | refine below_set ?_ GE241.out) | exact HB.out)) hb); clear HO_4; clear HO_6; clear HO_8; clear HO_242003; clear BK235; clear BK241; clear HB; have HO_4 := n0_; have HO_6 := n1_; have HO_8 := n2_; have HO_242003 := n3_; have HO260 := n4_; have BK235 := n5_; have BK241 := n6_; have HB := n7_; clear n0_ n1_ n2_ n3_ n4_ n5_ n6_ n7_; clear hb ho63; obtain ⟨Ao65, co65, eo65⟩ := Kd.R_slice HO260.out; subst eo65) | ((with_reducible refine gate_builtin (b := .append) (xs := #[.tmp 77, .tmp 78]) rfl ?_); (try (refine gate_guard (by rfl) ?_; dsimp only)); at_builtin; refine Kd.R_append_rows (Kd.int .u8) (w0 := w) w.heap.size rfl (.tmp 77) (.tmp 78) 30 5 (.int .u8 0) 1 rfl Try.underlying30 info5 rfl (by decide) (by omega) (.slice Ao54 x6_2.length co54) x6_2 y258 _ _ _ (fun k_ => some k_ ≠ (v243 : Value).ownBlock ∧ some k_ ≠ (v251 : Value).ownBlock ∧ some k_ ≠ (.slice Ao65 y258.length co65 : Value).ownBlock) (fun _ => False) rfl rfl ?aO ?aR (fun _ _ h => h) (fun _ h => h.elim) ?aF ?aB ?aS ?aL ?_; (case aR => repeat (first | exact (Kd.R_reads' HO260.out).2.2 | (with_reducible refine Kd.C_alloc ?_ _) | (with_reducible refine Kd.C_drewN ?_ _) | (with_reducible refine Kd.C_drew ?_))); (case aB => exact (by repeat (first | (with_reducible first | exact HB.out | apply below_alloc | apply pw_below_drewN | apply below_drew1 | refine below_set ?_ GE235.out | refine below_set ?_ GE241.out) | exact HB.out))); (case aF => exact (fun k_ hk => ⟨Kd.fresh' (Kd.R_lt (by (with_reducible repeat (first | apply Kd.R_alloc | apply Kd.R_drewN | apply Kd.R_drew)); exact HO_4.out)) k_ hk, Kd.fresh' (Kd.R_lt (by (with_reducible repeat (first | apply Kd.R_alloc | apply Kd.R_drewN | apply Kd.R_drew)); exact HO_8.out)) k_ hk, Kd.fresh' (Kd.R_lt (by (with_reducible repeat (first | apply Kd.R_alloc | apply Kd.R_drewN | apply Kd.R_drew)); exact HO260.out)) k_ hk⟩)); (case aO => exact (by (with_reducible repeat (first | apply Kd.R_alloc | apply Kd.R_drewN | apply Kd.R_drew)); exact Kd.R_mono HO_6.out (fun _ hk => ⟨hk.1.1, ⟨hk.1.2, hk.2⟩⟩))); (case aS => exact (below_size (by repeat (first | (with_reducible first | exact HB.out | apply below_alloc | apply pw_below_drewN | apply below_drew1 | refine below_set ?_ GE235.out | refine below_set ?_ GE241.out) | exact HB.out)))); (case aL => have := LMc61.out; omega); intro v262 w64 ho hb hg hat; rw [← Ny261.out] at ho; have n0_ := Aside0.mk (Kd.R_after (ok := (fun k_ => some k_ ≠ (v251 : Value).ownBlock ∧ some k_ ≠ (.slice Ao65 y258.length co65 : Value).ownBlock)) (by (with_reducible repeat (first | apply Kd.R_alloc | apply Kd.R_drewN | apply Kd.R_drew)); exact Kd.R_mono HO_4.out (fun _ hk => ⟨⟨hk.1.2, hk.2⟩, hk.1.1⟩)) hg hat); have n1_ := Aside0.mk (Kd.R_after (ok := (fun k_ => some k_ ≠ (v243 : Value).ownBlock ∧ some k_ ≠ (.slice Ao65 y258.length co65 : Value).ownBlock)) (by (with_reducible repeat (first | apply Kd.R_alloc | apply Kd.R_drewN | apply Kd.R_drew)); exact Kd.R_mono HO_8.out (fun _ hk => ⟨⟨hk.1.1, hk.2⟩, hk.1.2⟩)) hg hat); have n2_ := Aside0.mk (Kd.S_after (ok := (fun k_ => some k_ ≠ (v243 : Value).ownBlock ∧ some k_ ≠ (v251 : Value).ownBlock ∧ some k_ ≠ (.slice Ao65 y258.length co65 : Value).ownBlock)) (by (with_reducible repeat (first | apply Kd.S_alloc | apply Kd.S_drewN | apply Kd.S_drew)); exact Kd.S_mono HO_242003.out (fun _ hk => ⟨⟨hk.1.1, ⟨hk.1.2.2, hk.2⟩⟩, hk.1.2.1⟩)) hg hat); have n3_ := Aside0.mk (blk_grown (g := gb235) (o := .cells #[.int .i64 a0_0, .int .i64 a0_1, .int .i64 a0_2, .slice A0_3 l0_3.length c0_3] 26 (0, 0)) (by (with_reducible repeat (first | refine blk_drewN ?_ _ | refine blk_drew ?_ | refine blk_alloc ?_ _)); exact BK235.out) hg (Kd.R_ne HO_6.out BK235.out (by decide))); have n4_ := Aside0.mk (blk_grown (g := gb241) (o := .cells #[.int .i64 a0_0, .int .i64 a0_1, .int .i64 a0_2, .slice Ao22 t238.length co22] 26 (0, 0)) (by (with_reducible repeat (first | refine blk_drewN ?_ _ | refine blk_drew ?_ | refine blk_alloc ?_ _)); exact BK241.out) hg (Kd.R_ne HO_6.out BK241.out (by decide))); have n5_ := Aside0.mk (Kd.R_after (ok := (fun k_ => some k_ ≠ (v243 : Value).ownBlock ∧ some k_ ≠ (v251 : Value).ownBlock)) (by (with_reducible repeat (first | apply Kd.R_alloc | apply Kd.R_drewN | apply Kd.R_drew)); exact Kd.R_mono HO260.out (fun _ hk => ⟨⟨hk.1.1.2, hk.2⟩, hk.1.2⟩)) hg hat); have n6_ := Aside0.mk (hb); have n7_ := Aside0.mk (ho); clear HO_4; clear HO_8; clear HO_242003; clear BK235; clear BK241; clear HO260; clear HB; clear HO_6; have HO_4 := n0_; have HO_8 := n1_; have HO_242003 := n2_; have BK235 := n3_; have BK241 := n4_; have HO260 := n5_; have HB := n6_; have HO263 := n7_; clear n0_ n1_ n2_ n3_ n4_ n5_ n6_ n7_; clear ho hb hg hat; have hnb66 := NB241_235.out; have hnc66 := NB235_241.out; have hcz67_0 : w64.cell? ⟨gb241, 0, none⟩ = some (.int .i64 a0_0) := (blk_cell BK241.out 0).trans rfl; have hcz67_1 : w64.cell? ⟨gb241, 1, none⟩ = some (.int .i64 a0_1) := (blk_cell BK241.out 1).trans rfl; have hcz67_2 : w64.cell? ⟨gb241, 2, none⟩ = some (.int .i64 a0_2) := (blk_cell BK241.out 2).trans rfl; have hcz67_3 : w64.cell? ⟨gb241, 3, none⟩ = some (.slice Ao22 t238.length co22) := (blk_cell BK241.out 3).trans rfl; have hfz67_0 := blk_frozen BK241.out 0; have hfz67_1 := blk_frozen BK241.out 1; have hfz67_2 := blk_frozen BK241.out 2; have hfz67_3 := blk_frozen BK241.out 3))
                    go_loopg [83] k2 (fun kq v83 w' => ∃ (x4_3 : List Int) (x6_3 : List Int) (x8_3 : List Int) (x83_3 : Int) (x242003_3 : List (List Int)) (u242003 : Value), v83 = .int .i64 x83_3 ∧ Aside0 (churnlaw06_FramePacks.l1 kq x4_3 x6_3 x8_3 (t238.length : Int) x83_3 a0_0 a0_1 a0_2 x242003_3 = some r) ∧ Aside0 (kq ≤ k2) ∧ Aside0 (Kd.R (Kd.int .u8) 5 w' w.heap.size (fun k_ => some k_ ≠ (v262 : Value).ownBlock ∧ some k_ ≠ (v251 : Value).ownBlock) v243 x4_3) ∧ Aside0 (Kd.R (Kd.int .u8) 5 w' w.heap.size (fun k_ => some k_ ≠ (v243 : Value).ownBlock ∧ some k_ ≠ (v251 : Value).ownBlock) v262 x6_3) ∧ Aside0 (Kd.R (Kd.int .u8) 5 w' w.heap.size (fun k_ => some k_ ≠ (v243 : Value).ownBlock ∧ some k_ ≠ (v262 : Value).ownBlock) v251 x8_3) ∧ Aside0 (Kd.S (Kd.slice 5 (Kd.int .u8)) 30 w' w.heap.size (fun k_ => some k_ ≠ (v243 : Value).ownBlock ∧ some k_ ≠ (v262 : Value).ownBlock ∧ some k_ ≠ (v251 : Value).ownBlock) u242003 x242003_3) ∧ Aside0 (w'.heap[gb235]? = some (.cells #[.int .i64 a0_0, .int .i64 a0_1, .int .i64 a0_2, (.slice A0_3 l0_3.length c0_3)] 26 (0, 0))) ∧ Aside0 (w'.heap[gb241]? = some (.cells #[.int .i64 a0_0, .int .i64 a0_1, .int .i64 a0_2, u242003] 26 (0, 0))) ∧ Aside0 (Below w.heap.size w w'))
                    case atStart => exact ⟨(t242), (y261), (t250), (0), (t238), (.slice Ao22 t238.length co22), (by first | rfl | (simp; done) | (simp [*]; done)), H', ⟨Nat.le_refl _⟩, ⟨by (try simp only [hl6_2]); (with_reducible repeat (first | apply Kd.R_alloc | apply Kd.R_drewN | apply Kd.R_drew)); exact Kd.R_mono HO_4.out (fun _ hk => ⟨hk.2, hk.1.1⟩)⟩, ⟨by (try simp only [hl6_2]); (with_reducible repeat (first | apply Kd.R_alloc | apply Kd.R_drewN | apply Kd.R_drew)); exact Kd.R_mono HO263.out (fun _ hk => ⟨hk.1, hk.2.1⟩)⟩, ⟨by (try simp only [hl6_2]); (with_reducible repeat (first | apply Kd.R_alloc | apply Kd.R_drewN | apply Kd.R_drew)); exact Kd.R_mono HO_8.out (fun _ hk => ⟨hk.1.1, hk.2⟩)⟩, ⟨by (try simp only [hl6_2]); (with_reducible repeat (first | apply Kd.S_alloc | apply Kd.S_drewN | apply Kd.S_drew)); exact Kd.S_mono HO_242003.out (fun _ hk => ⟨hk.1.1, ⟨hk.2, hk.1.2.1⟩⟩)⟩, ⟨by (try simp only [hl6_2]); (with_reducible repeat (first | refine blk_drewN ?_ _ | refine blk_drew ?_ | refine blk_alloc ?_ _)); exact BK235.out⟩, ⟨by (try simp only [hl6_2]); (with_reducible repeat (first | refine blk_drewN ?_ _ | refine blk_drew ?_ | refine blk_alloc ?_ _)); exact BK241.out⟩, ⟨by repeat (first | (with_reducible first | exact HB.out | apply below_alloc | apply pw_below_drewN | apply below_drew1 | refine below_set ?_ GE235.out | refine below_set ?_ GE241.out) | exact HB.out)⟩⟩
                    case round =>
                      clear H'
                      try clear c1
                      try clear c2
                      try clear p2
                      try clear c3
                      try clear c4
                      try clear c5
                      try clear p5
                      try clear q5
                      try clear hx5
                      try clear hf5
                      try clear c6
                      try clear p6
                      try clear c10
                      try clear c11
                      try clear c12
                      try clear c13
                      try clear c14
                      try clear c27
                      try clear c34
                      try clear c34b0
                      try clear c34b1
                      try clear c35
                      try clear c35b0
                      try clear c35b1
                      try clear c37
                      try clear c39
                      try clear c44
                      try clear c53
                      try clear c55
                      try clear c55b0
                      try clear c56
                      try clear c56b0
                      try clear c57
                      try clear c57b0
                      try clear p58
                      try clear q58
                      try clear hx58
                      try clear hf58
                      try clear c61
                      try clear p64
                      try clear c66
                      try clear hcz16_0
                      try clear hcz16_1
                      try clear hcz16_2
                      try clear hcz16_3
                      try clear hcz28_0
                      try clear hcz28_1
                      try clear hcz28_2
                      try clear hcz28_3
                      try clear hcz30_0
                      try clear hcz30_1
                      try clear hcz30_2
                      try clear hcz30_3
                      try clear hcz32_0
                      try clear hcz32_1
                      try clear hcz32_2
                      try clear hcz32_3
                      try clear hcz45_0
                      try clear hcz45_1
                      try clear hcz45_2
                      try clear hcz45_3
                      try clear hcz46_0
                      try clear hcz46_1
                      try clear hcz46_2
                      try clear hcz46_3
                      try clear hcz67_0
                      try clear hcz67_1
                      try clear hcz67_2
                      try clear hcz67_3
                      try clear hcz8_0
                      try clear hcz8_1
                      try clear hcz8_2
                      try clear hcz8_3
                      try clear hfz16_0
                      try clear hfz16_1
                      try clear hfz16_2
                      try clear hfz16_3
                      try clear hfz28_0
                      try clear hfz28_1
                      try clear hfz28_2
                      try clear hfz28_3
                      try clear hfz30_0
                      try clear hfz30_1
                      try clear hfz30_2
                      try clear hfz30_3
                      try clear hfz32_0
                      try clear hfz32_1
                      try clear hfz32_2
                      try clear hfz32_3
                      try clear hfz45_0
                      try clear hfz45_1
                      try clear hfz45_2
                      try clear hfz45_3
                      try clear hfz46_0
                      try clear hfz46_1
                      try clear hfz46_2
                      try clear hfz46_3
                      try clear hfz67_0
                      try clear hfz67_1
                      try clear hfz67_2
                      try clear hfz67_3
                      try clear hfz8_0
                      try clear hfz8_1
                      try clear hfz8_2
                      try clear hfz8_3
                      try clear hx58_0
                      try clear p2
                      try clear p58
                      try clear q58
                      (try clear BK235)
                      (try clear BK241)
                      obtain ⟨x4_3, x6_3, x8_3, x83_3, x242003_3, u242003, rfl, HA, HK3, HO_4, HO_6, HO_8, HO_242003, BK235, BK241, HB⟩ := hrel
                      cases gk with
                      | zero => exact absurd HA.out (by simp [churnlaw06_FramePacks.l1])
                      | succ k3 =>
                        have H := HA.out
                        clear HA
                        simp only [churnlaw06_FramePacks.l1] at H
                        by_cases c68 : x83_3 < (t238.length : Int)
                        · rw [if_pos c68] at H
                          have c68b0 : decide (x83_3 < (t238.length : Int)) = true := decide_eq_true c68
                          (try (have c68b0_ := c68b0; simp only [hl6_2] at c68b0_))
                          clear c68
                          by_cases c69 : 0 ≤ x83_3
                          · rw [if_pos c69] at H
                            have c69b0 : decide (0 ≤ x83_3) = true := decide_eq_true c69
                            (try (have c69b0_ := c69b0; simp only [hl6_2] at c69b0_))
                            clear c69
                            by_cases c70 : x83_3 < (x242003_3.length : Int)
                            · rw [if_pos c70] at H
                              have c70b0 : decide (x83_3 < (x242003_3.length : Int)) = true := decide_eq_true c70
                              (try (have c70b0_ := c70b0; simp only [hl6_2] at c70b0_))
                              clear c70
                              have H' := Aside0.mk H
                              clear H
                              have hnb71 := NB241_235.out
                              have hnc71 := NB235_241.out
                              have hcz72_0 : wr.cell? ⟨gb241, 0, none⟩ = some (.int .i64 a0_0) := (blk_cell BK241.out 0).trans rfl
                              have hcz72_1 : wr.cell? ⟨gb241, 1, none⟩ = some (.int .i64 a0_1) := (blk_cell BK241.out 1).trans rfl
                              have hcz72_2 : wr.cell? ⟨gb241, 2, none⟩ = some (.int .i64 a0_2) := (blk_cell BK241.out 2).trans rfl
                              have hcz72_3 : wr.cell? ⟨gb241, 3, none⟩ = some (u242003) := (blk_cell BK241.out 3).trans rfl
                              have hfz72_0 := blk_frozen BK241.out 0
                              have hfz72_1 := blk_frozen BK241.out 1
                              have hfz72_2 := blk_frozen BK241.out 2
                              have hfz72_3 := blk_frozen BK241.out 3
                              obtain ⟨Ao73, co73, eo73⟩ := Kd.S_slice HO_242003.out
                              subst eo73
                              have p264 : 0 ≤ (x83_3 : Int) := of_decide_eq_true (by first | (with_reducible assumption) | assumption)
                              have q264 : x83_3 < (x242003_3.length : Int) := of_decide_eq_true (by first | (with_reducible assumption) | assumption)
                              obtain ⟨ad264, A264_0, c264_0, e264, hx264_0, hl264_0, hi264_0⟩ := at_L1 (Kd.S_reads' HO_242003.out).2.2 x83_3 p264 q264
                              cases e264
                              obtain ⟨ce264, hce264, hMe264, hcc264⟩ := Kd.S_get HO_242003.out [] x83_3 p264 (by first | exact q264 | exact of_decide_eq_true (by first | (with_reducible assumption) | assumption) | (have e_ := (Kd.S_reads' HO_242003.out).1; omega))
                              obtain ⟨ve264_0, rfl, ge264_0⟩ := hMe264
                              have hv264_0 := hcc264 0 _ rfl
                              rw [Nat.add_zero, show ((Kd.slice 5 (Kd.int .u8))).sz = 1 from rfl, Nat.mul_one] at hv264_0
                              replace hv264_0 := Option.some.inj (hv264_0.symm.trans hx264_0)
                              rw [hv264_0] at ge264_0
                              have HL264_0 := Aside0.mk (show Kd.R (Kd.int .u8) 5 _ _ _ _ (rd_L1 x242003_3 x83_3) from ge264_0)
                              clear hv264_0 ge264_0
                              have HX264_0 := Aside0.mk hx264_0
                              clear hcc264 hce264
                              have HR264_0 := Aside0.mk hi264_0
                              have HC264_0 := Aside0.mk hl264_0
                              clear hi264_0 hl264_0
                              replace p264 := eq_true p264
                              replace q264 := eq_true q264
                              go_wp2
                              go_loopg [92] k3 (fun kq v92 w' => ∃ (x4_4 : List Int) (x6_4 : List Int) (x8_4 : List Int) (x92_4 : Int) (x242003_4 : List (List Int)) (u242003 : Value), v92 = .int .i64 x92_4 ∧ Aside0 (churnlaw06_FramePacks.l2 kq x4_4 x6_4 x8_4 x83_3 (t238.length : Int) x83_3 ((rd_L1 x242003_3 x83_3).length : Int) x92_4 a0_0 a0_1 a0_2 x242003_4 = some r) ∧ Aside0 (kq ≤ k3) ∧ Aside0 (Kd.R (Kd.int .u8) 5 w' w.heap.size (fun k_ => some k_ ≠ (v262 : Value).ownBlock ∧ some k_ ≠ (v251 : Value).ownBlock) v243 x4_4) ∧ Aside0 (Kd.R (Kd.int .u8) 5 w' w.heap.size (fun k_ => some k_ ≠ (v243 : Value).ownBlock ∧ some k_ ≠ (v251 : Value).ownBlock) v262 x6_4) ∧ Aside0 (Kd.R (Kd.int .u8) 5 w' w.heap.size (fun k_ => some k_ ≠ (v243 : Value).ownBlock ∧ some k_ ≠ (v262 : Value).ownBlock) v251 x8_4) ∧ Aside0 (Kd.S (Kd.slice 5 (Kd.int .u8)) 30 w' w.heap.size (fun k_ => some k_ ≠ (v243 : Value).ownBlock ∧ some k_ ≠ (v262 : Value).ownBlock ∧ some k_ ≠ (v251 : Value).ownBlock) u242003 x242003_4) ∧ Aside0 (w'.heap[gb235]? = some (.cells #[.int .i64 a0_0, .int .i64 a0_1, .int .i64 a0_2, (.slice A0_3 l0_3.length c0_3)] 26 (0, 0))) ∧ Aside0 (w'.heap[gb241]? = some (.cells #[.int .i64 a0_0, .int .i64 a0_1, .int .i64 a0_2, u242003] 26 (0, 0))) ∧ Aside0 (Below w.heap.size w w'))
                              case atStart => exact ⟨(x4_3), (x6_3), (x8_3), (0), (x242003_3), (.slice (some ad264) x242003_3.length co73), (by first | rfl | (simp; done) | (simp [*]; done)), H', ⟨Nat.le_refl _⟩, ⟨by (try simp only [hl6_2]); (with_reducible repeat (first | apply Kd.R_alloc | apply Kd.R_drewN | apply Kd.R_drew)); exact HO_4.out⟩, ⟨by (try simp only [hl6_2]); (with_reducible repeat (first | apply Kd.R_alloc | apply Kd.R_drewN | apply Kd.R_drew)); exact HO_6.out⟩, ⟨by (try simp only [hl6_2]); (with_reducible repeat (first | apply Kd.R_alloc | apply Kd.R_drewN | apply Kd.R_drew)); exact HO_8.out⟩, ⟨by (try simp only [hl6_2]); (with_reducible repeat (first | apply Kd.S_alloc | apply Kd.S_drewN | apply Kd.S_drew)); exact HO_242003.out⟩, ⟨by (try simp only [hl6_2]); (with_reducible repeat (first | refine blk_drewN ?_ _ | refine blk_drew ?_ | refine blk_alloc ?_ _)); exact BK235.out⟩, ⟨by (try simp only [hl6_2]); (with_reducible repeat (first | refine blk_drewN ?_ _ | refine blk_drew ?_ | refine blk_alloc ?_ _)); exact BK241.out⟩, ⟨by repeat (first | (with_reducible first | exact HB.out | apply below_alloc | apply pw_below_drewN | apply below_drew1 | refine below_set ?_ GE235.out | refine below_set ?_ GE241.out) | exact HB.out)⟩⟩
                              case round =>
                                clear H'
                                try clear c1
                                try clear c2
                                try clear p2
                                try clear q2
                                try clear hx2
                                try clear c3
                                try clear c4
                                try clear c5
                                try clear p5
                                try clear q5
                                try clear hx5
                                try clear hf5
                                try clear c6
                                try clear p6
                                try clear c7
                                try clear c10
                                try clear c11
                                try clear c12
                                try clear c13
                                try clear c14
                                try clear c26
                                try clear p26
                                try clear q26
                                try clear hx26
                                try clear c27
                                try clear c34
                                try clear c34b0
                                try clear c34b1
                                try clear c35
                                try clear c35b0
                                try clear c35b1
                                try clear c37
                                try clear c39
                                try clear c44
                                try clear c53
                                try clear c55
                                try clear c55b0
                                try clear c56
                                try clear c56b0
                                try clear c57
                                try clear c57b0
                                try clear p58
                                try clear q58
                                try clear hx58
                                try clear hf58
                                try clear c61
                                try clear p64
                                try clear c66
                                try clear c68
                                try clear c68b0
                                try clear c69
                                try clear c69b0
                                try clear c70
                                try clear c70b0
                                try clear c71
                                try clear hcz16_0
                                try clear hcz16_1
                                try clear hcz16_2
                                try clear hcz16_3
                                try clear hcz28_0
                                try clear hcz28_1
                                try clear hcz28_2
                                try clear hcz28_3
                                try clear hcz30_0
                                try clear hcz30_1
                                try clear hcz30_2
                                try clear hcz30_3
                                try clear hcz32_0
                                try clear hcz32_1
                                try clear hcz32_2
                                try clear hcz32_3
                                try clear hcz45_0
                                try clear hcz45_1
                                try clear hcz45_2
                                try clear hcz45_3
                                try clear hcz46_0
                                try clear hcz46_1
                                try clear hcz46_2
                                try clear hcz46_3
                                try clear hcz67_0
                                try clear hcz67_1
                                try clear hcz67_2
                                try clear hcz67_3
                                try clear hcz72_0
                                try clear hcz72_1
                                try clear hcz72_2
                                try clear hcz72_3
                                try clear hcz8_0
                                try clear hcz8_1
                                try clear hcz8_2
                                try clear hcz8_3
                                try clear hfz16_0
                                try clear hfz16_1
                                try clear hfz16_2
                                try clear hfz16_3
                                try clear hfz28_0
                                try clear hfz28_1
                                try clear hfz28_2
                                try clear hfz28_3
                                try clear hfz30_0
                                try clear hfz30_1
                                try clear hfz30_2
                                try clear hfz30_3
                                try clear hfz32_0
                                try clear hfz32_1
                                try clear hfz32_2
                                try clear hfz32_3
                                try clear hfz45_0
                                try clear hfz45_1
                                try clear hfz45_2
                                try clear hfz45_3
                                try clear hfz46_0
                                try clear hfz46_1
                                try clear hfz46_2
                                try clear hfz46_3
                                try clear hfz67_0
                                try clear hfz67_1
                                try clear hfz67_2
                                try clear hfz67_3
                                try clear hfz72_0
                                try clear hfz72_1
                                try clear hfz72_2
                                try clear hfz72_3
                                try clear hfz8_0
                                try clear hfz8_1
                                try clear hfz8_2
                                try clear hfz8_3
                                try clear hx264_0
                                try clear hx58_0
                                try clear p2
                                try clear p264
                                try clear p5
                                try clear p58
                                try clear p6
                                try clear p64
                                try clear q264
                                try clear q5
                                try clear q58
                                (try clear BK235)
                                (try clear BK241)
                                obtain ⟨x4_4, x6_4, x8_4, x92_4, x242003_4, u242003, rfl, HA, HK4, HO_4, HO_6, HO_8, HO_242003, BK235, BK241, HB⟩ := hrel
                                cases gk with
                                | zero => exact absurd HA.out (by simp [churnlaw06_FramePacks.l2])
                                | succ k4 =>
                                  have H := HA.out
                                  clear HA
                                  simp only [churnlaw06_FramePacks.l2] at H
                                  by_cases c74 : x92_4 < ((rd_L1 x242003_3 x83_3).length : Int)
                                  · rw [if_pos c74] at H
                                    have c74b0 : decide (x92_4 < ((rd_L1 x242003_3 x83_3).length : Int)) = true := decide_eq_true c74
                                    (try (have c74b0_ := c74b0; simp only [hl6_2] at c74b0_))
                                    clear c74
                                    by_cases c75 : 0 ≤ x83_3
                                    · rw [if_pos c75] at H
                                      have c75b0 : decide (0 ≤ x83_3) = true := decide_eq_true c75
                                      (try (have c75b0_ := c75b0; simp only [hl6_2] at c75b0_))
                                      clear c75
                                      by_cases c76 : x83_3 < (x242003_4.length : Int)
                                      · rw [if_pos c76] at H
                                        have c76b0 : decide (x83_3 < (x242003_4.length : Int)) = true := decide_eq_true c76
                                        (try (have c76b0_ := c76b0; simp only [hl6_2] at c76b0_))
                                        clear c76
                                        by_cases c77 : 0 ≤ x92_4
                                        · rw [if_pos c77] at H
                                          have c77b0 : decide (0 ≤ x92_4) = true := decide_eq_true c77
                                          (try (have c77b0_ := c77b0; simp only [hl6_2] at c77b0_))
                                          clear c77
                                          by_cases c78 : x92_4 < ((rd_L1 x242003_4 x83_3).length : Int)
                                          · rw [if_pos c78] at H
                                            have c78b0 : decide (x92_4 < ((rd_L1 x242003_4 x83_3).length : Int)) = true := decide_eq_true c78
                                            (try (have c78b0_ := c78b0; simp only [hl6_2] at c78b0_))
                                            clear c78
                                            obtain ⟨y267, hy267⟩ : ∃ y_ : List Int, y_ = ((rd_L1 x242003_4 x83_3).set (x92_4 : Int).toNat (Go.bits .xor .u8 (rd (rd_L1 x242003_4 x83_3) x92_4) 170)) := ⟨_, rfl⟩
                                            replace H : (churnlaw06_FramePacks.l2 k4 x4_4 x6_4 x8_4 x83_3 (t238.length : Int) x83_3 ((rd_L1 x242003_3 x83_3).length : Int) (wrap64 (x92_4 + 1)) a0_0 a0_1 a0_2 (x242003_4.set (x83_3 : Int).toNat y267)) = some r := by first | (rw [hy267]; with_reducible exact H) | (have H2_ := (Option.bind_some _ _).symm.trans H; rw [hy267]; with_reducible exact H2_) | (have H2_ := (Option.bind_some _ _).symm.trans H; with_reducible exact H2_) | with_reducible exact H | (rw [hy267]; exact H) | exact H
                                            have Ny267 := Aside0.mk hy267
                                            clear hy267
                                            obtain ⟨y269, hy269⟩ : ∃ y_ : List (List Int), y_ = (x242003_4.set (x83_3 : Int).toNat y267) := ⟨_, rfl⟩
                                            replace H : (churnlaw06_FramePacks.l2 k4 x4_4 x6_4 x8_4 x83_3 (t238.length : Int) x83_3 ((rd_L1 x242003_3 x83_3).length : Int) (wrap64 (x92_4 + 1)) a0_0 a0_1 a0_2 y269) = some r := by first | (rw [hy269]; with_reducible exact H) | (have H2_ := (Option.bind_some _ _).symm.trans H; rw [hy269]; with_reducible exact H2_) | (have H2_ := (Option.bind_some _ _).symm.trans H; with_reducible exact H2_) | with_reducible exact H | (rw [hy269]; exact H) | exact H
                                            have Ny269 := Aside0.mk hy269
                                            clear hy269
                                            have H' := Aside0.mk H
                                            clear H
                                            have hnb80 := NB241_235.out
                                            have hnc80 := NB235_241.out
                                            have hcz81_0 : wr.cell? ⟨gb241, 0, none⟩ = some (.int .i64 a0_0) := (blk_cell BK241.out 0).trans rfl
                                            have hcz81_1 : wr.cell? ⟨gb241, 1, none⟩ = some (.int .i64 a0_1) := (blk_cell BK241.out 1).trans rfl
                                            have hcz81_2 : wr.cell? ⟨gb241, 2, none⟩ = some (.int .i64 a0_2) := (blk_cell BK241.out 2).trans rfl
                                            have hcz81_3 : wr.cell? ⟨gb241, 3, none⟩ = some (u242003) := (blk_cell BK241.out 3).trans rfl
                                            have hfz81_0 := blk_frozen BK241.out 0
                                            have hfz81_1 := blk_frozen BK241.out 1
                                            have hfz81_2 := blk_frozen BK241.out 2
                                            have hfz81_3 := blk_frozen BK241.out 3
                                            obtain ⟨Ao82, co82, eo82⟩ := Kd.S_slice HO_242003.out
                                            subst eo82
                                            have p265 : 0 ≤ (x83_3 : Int) := of_decide_eq_true (by first | (with_reducible assumption) | assumption)
                                            have q265 : x83_3 < (x242003_4.length : Int) := of_decide_eq_true (by first | (with_reducible assumption) | assumption)
                                            obtain ⟨ad265, A265_0, c265_0, e265, hx265_0, hl265_0, hi265_0⟩ := at_L1 (Kd.S_reads' HO_242003.out).2.2 x83_3 p265 q265
                                            cases e265
                                            obtain ⟨ce265, hce265, hMe265, hcc265⟩ := Kd.S_get HO_242003.out [] x83_3 p265 (by first | exact q265 | exact of_decide_eq_true (by first | (with_reducible assumption) | assumption) | (have e_ := (Kd.S_reads' HO_242003.out).1; omega))
                                            obtain ⟨ve265_0, rfl, ge265_0⟩ := hMe265
                                            have hv265_0 := hcc265 0 _ rfl
                                            rw [Nat.add_zero, show ((Kd.slice 5 (Kd.int .u8))).sz = 1 from rfl, Nat.mul_one] at hv265_0
                                            replace hv265_0 := Option.some.inj (hv265_0.symm.trans hx265_0)
                                            rw [hv265_0] at ge265_0
                                            have HL265_0 := Aside0.mk (show Kd.R (Kd.int .u8) 5 _ _ _ _ (rd_L1 x242003_4 x83_3) from ge265_0)
                                            clear hv265_0 ge265_0
                                            have HX265_0 := Aside0.mk hx265_0
                                            clear hcc265 hce265
                                            have HR265_0 := Aside0.mk hi265_0
                                            have HC265_0 := Aside0.mk hl265_0
                                            clear hi265_0 hl265_0
                                            replace p265 := eq_true p265
                                            replace q265 := eq_true q265
                                            have p266 : 0 ≤ (x92_4 : Int) := of_decide_eq_true (by first | (with_reducible assumption) | assumption)
                                            have q266 : x92_4 < ((rd_L1 x242003_4 x83_3).length : Int) := of_decide_eq_true (by first | (with_reducible assumption) | assumption)
                                            obtain ⟨ad266, e266, hx266_0⟩ := Kd.at_int (by repeat (first | (with_reducible exact HR265_0.out) | (with_reducible refine Kd.C_alloc ?_ _) | (with_reducible refine Kd.C_drewN ?_ _) | (with_reducible refine Kd.C_drew ?_) | exact HR265_0.out)) x92_4 p266 q266
                                            cases e266
                                            replace p266 := eq_true p266
                                            replace q266 := eq_true q266
                                            have p79 : 0 ≤ (x92_4 : Int) := of_decide_eq_true (by first | (with_reducible assumption) | assumption)
                                            have q79 : (x92_4 : Int) < (((rd_L1 x242003_4 x83_3).length : Int) : Int) := of_decide_eq_true (by first | (with_reducible assumption) | assumption)
                                            obtain ⟨go79, co79, eo79, gb79, gl79, cl79, HG79⟩ := Kd.R_form HL265_0.out (by omega)
                                            (first | cases eo79 | (injection eo79 with ea_ en_ ec_; (first | subst ea_ | (injection ea_ with ea_; subst ea_)); subst ec_; clear en_))
                                            have GB79 := Aside0.mk gb79
                                            have GG79 := Aside0.mk HG79
                                            clear gb79 gl79 HG79
                                            (first | simp only [add_plain] at hx266_0 | skip)
                                            obtain ⟨hx79_0, hf79_0⟩ := Kd.R_celln 0 HL265_0.out (x92_4 : Int) p79 q79
                                            replace p79 := eq_true p79
                                            replace q79 := eq_true q79
                                            have hq83 : (x83_3 : Int) < (x242003_4.length : Int) := (by have h_ : (x83_3 : Int) < ((x242003_4.length : Int) : Int) := of_decide_eq_true (by first | (with_reducible assumption) | assumption); first | exact h_ | (have e_ := (Kd.S_reads' HO_242003.out).1; omega) | simpa only [List.length_set, List.length_set] using h_)
                                            obtain ⟨oki83, ce83, hcl83, hM83, hcc83, hok83, hbk83⟩ := Kd.S_borrow HO_242003.out [] (x83_3 : Int) (of_decide_eq_true (by first | (with_reducible assumption) | assumption)) hq83
                                            obtain ⟨ve83_0, rfl, ge83_0⟩ := hM83
                                            have hv83 := hcc83 0 _ rfl
                                            rw [Nat.add_zero, show ((Kd.slice 5 (Kd.int .u8))).sz = 1 from rfl, Nat.mul_one] at hv83
                                            replace hv83 := Option.some.inj (hv83.symm.trans HX265_0.out)
                                            subst hv83
                                            clear hcc83 hcl83
                                            replace ge83_0 := (show Kd.R (Kd.int .u8) 5 _ _ _ _ (rd_L1 x242003_4 x83_3) from ge83_0)
                                            have HP83 := Kd.R_putg ge83_0 (x92_4 : Int) (Go.bits .xor .u8 (rd (rd_L1 x242003_4 x83_3) x92_4) 170)
                                            go_wp2_with (first | ((with_reducible refine gate_store (t := 5) (p := 104) rfl ?_); refine store_event (t := 5) (p := 104) (v := ?vo_w84) (w1 := (wr.setCell ⟨go79, (x92_4 : Int).toNat, none⟩ (.int .u8 (Go.bits .xor .u8 (rd (rd_L1 x242003_4 x83_3) x92_4) 170)))) ?hg ?ho ?hn ?hr ?_; (case ho => rfl); (case hg => rfl); (case hn => rfl); (case hr => first | (go_simp; done) | (go_simp; rfl)); intro w84 hw; have hg : wr.grownBy w84 (some go79) := (by rw [hw]; exact HP83.2); have hz_ : Kd.R (Kd.int .u8) 5 w84 w.heap.size oki83 (.slice (some ⟨go79, 0, none⟩) (rd_L1 x242003_4 x83_3).length c265_0) y267 := (by rw [hw, Ny267.out]; exact HP83.1); have hp_ : Kd.S (Kd.slice 5 (Kd.int .u8)) 30 w84 w.heap.size (fun k_ => some k_ ≠ (v243 : Value).ownBlock ∧ some k_ ≠ (v262 : Value).ownBlock ∧ some k_ ≠ (v251 : Value).ownBlock) (.slice (some ad265) x242003_4.length co82) y269 := (by rw [Ny269.out]; exact hbk83 hg (fun k_ e_ => by injection e_ with e_; subst e_; exact ge83_0.1 _ rfl) (Kd.M_row hz_)); have hm_ := Kd.R_mono hz_ hok83; clear HP83 hbk83; have n0_ := Aside0.mk (Kd.R_grown1 (by (with_reducible repeat (first | apply Kd.R_alloc | apply Kd.R_drewN | apply Kd.R_drew)); exact HO_4.out) rfl hg ((HL265_0.out.1 _ rfl).1.1)); have n1_ := Aside0.mk (Kd.R_grown1 (by (with_reducible repeat (first | apply Kd.R_alloc | apply Kd.R_drewN | apply Kd.R_drew)); exact HO_6.out) rfl hg ((HL265_0.out.1 _ rfl).1.2.1)); have n2_ := Aside0.mk (Kd.R_grown1 (by (with_reducible repeat (first | apply Kd.R_alloc | apply Kd.R_drewN | apply Kd.R_drew)); exact HO_8.out) rfl hg ((HL265_0.out.1 _ rfl).1.2.2)); have n3_ := Aside0.mk (hp_); have n4_ := Aside0.mk (blk_grown (g := gb235) (o := .cells #[.int .i64 a0_0, .int .i64 a0_1, .int .i64 a0_2, .slice A0_3 l0_3.length c0_3] 26 (0, 0)) (by (with_reducible repeat (first | refine blk_drewN ?_ _ | refine blk_drew ?_ | refine blk_alloc ?_ _)); exact BK235.out) hg (Kd.R_ne HL265_0.out BK235.out (by decide))); have n5_ := Aside0.mk (blk_grown (g := gb241) (o := .cells #[.int .i64 a0_0, .int .i64 a0_1, .int .i64 a0_2, .slice (some ad265) x242003_4.length co82] 26 (0, 0)) (by (with_reducible repeat (first | refine blk_drewN ?_ _ | refine blk_drew ?_ | refine blk_alloc ?_ _)); exact BK241.out) hg (Kd.R_ne HL265_0.out BK241.out (by decide))); have n6_ := Aside0.mk ((by rw [hw]; exact below_set (HB.out) GB79.out : Below w.heap.size w w84)); have n7_ := Aside0.mk (hm_); have n8_ := Aside0.mk ((Kd.R_reads' hm_).2.1); clear HO_4; clear HO_6; clear HO_8; clear HO_242003; clear BK235; clear BK241; clear HB; clear HL265_0; have HO_4 := n0_; have HO_6 := n1_; have HO_8 := n2_; have HO_242003 := n3_; have BK235 := n4_; have BK241 := n5_; have HB := n6_; have HL280 := n7_; have HC268 := n8_; clear n0_ n1_ n2_ n3_ n4_ n5_ n6_ n7_ n8_; clear hg hw hp_ hz_ hm_ hok83))
                                            go_roundg k4
                                            case measure => have := HJ12.out; have := HK2.out; have := HK3.out; have := HK4.out; omega
                                            case rel => exact ⟨(x4_4), (x6_4), (x8_4), (wrap64 (x92_4 + 1)), (y269), (.slice (some ad265) x242003_4.length co82), (by first | rfl | (simp; done) | (simp [*]; done)), H', ⟨by have := HJ12.out; have := HK2.out; have := HK3.out; have := HK4.out; omega⟩, ⟨by (try simp only [hl6_2]); (with_reducible repeat (first | apply Kd.R_alloc | apply Kd.R_drewN | apply Kd.R_drew)); exact HO_4.out⟩, ⟨by (try simp only [hl6_2]); (with_reducible repeat (first | apply Kd.R_alloc | apply Kd.R_drewN | apply Kd.R_drew)); exact HO_6.out⟩, ⟨by (try simp only [hl6_2]); (with_reducible repeat (first | apply Kd.R_alloc | apply Kd.R_drewN | apply Kd.R_drew)); exact HO_8.out⟩, ⟨by (try simp only [hl6_2]); (with_reducible repeat (first | apply Kd.S_alloc | apply Kd.S_drewN | apply Kd.S_drew)); exact HO_242003.out⟩, ⟨by (try simp only [hl6_2]); (with_reducible repeat (first | refine blk_drewN ?_ _ | refine blk_drew ?_ | refine blk_alloc ?_ _)); exact BK235.out⟩, ⟨by (try simp only [hl6_2]); (with_reducible repeat (first | refine blk_drewN ?_ _ | refine blk_drew ?_ | refine blk_alloc ?_ _)); exact BK241.out⟩, ⟨by repeat (first | (with_reducible first | exact HB.out | apply below_alloc | apply pw_below_drewN | apply below_drew1 | refine below_set ?_ GE235.out | refine below_set ?_ GE241.out) | exact HB.out)⟩⟩
                                          · rw [if_neg c78] at H
                                            exact absurd H (by simp)
                                        · rw [if_neg c77] at H
                                          exact absurd H (by simp)
                                      · rw [if_neg c76] at H
                                        exact absurd H (by simp)
                                    · rw [if_neg c75] at H
                                      exact absurd H (by simp)
                                  · rw [if_neg c74] at H
                                    have c74b0 : decide (x92_4 < ((rd_L1 x242003_3 x83_3).length : Int)) = false := decide_eq_false c74
                                    (try (have c74b0_ := c74b0; simp only [hl6_2] at c74b0_))
                                    clear c74
                                    have H' := Aside0.mk H
                                    clear H
                                    go_wp2
                                    go_roundg k4
                                    case measure => have := HJ12.out; have := HK2.out; have := HK3.out; have := HK4.out; omega
                                    case rel => exact ⟨(x4_4), (x6_4), (x8_4), (wrap64 (x83_3 + 1)), (x242003_4), (u242003), (by first | rfl | (simp; done) | (simp [*]; done)), H', ⟨by have := HJ12.out; have := HK2.out; have := HK3.out; have := HK4.out; omega⟩, ⟨by (try simp only [hl6_2]); (with_reducible repeat (first | apply Kd.R_alloc | apply Kd.R_drewN | apply Kd.R_drew)); exact HO_4.out⟩, ⟨by (try simp only [hl6_2]); (with_reducible repeat (first | apply Kd.R_alloc | apply Kd.R_drewN | apply Kd.R_drew)); exact HO_6.out⟩, ⟨by (try simp only [hl6_2]); (with_reducible repeat (first | apply Kd.R_alloc | apply Kd.R_drewN | apply Kd.R_drew)); exact HO_8.out⟩, ⟨by (try simp only [hl6_2]); (with_reducible repeat (first | apply Kd.S_alloc | apply Kd.S_drewN | apply Kd.S_drew)); exact HO_242003.out⟩, ⟨by (try simp only [hl6_2]); (with_reducible repeat (first | refine blk_drewN ?_ _ | refine blk_drew ?_ | refine blk_alloc ?_ _)); exact BK235.out⟩, ⟨by (try simp only [hl6_2]); (with_reducible repeat (first | refine blk_drewN ?_ _ | refine blk_drew ?_ | refine blk_alloc ?_ _)); exact BK241.out⟩, ⟨by repeat (first | (with_reducible first | exact HB.out | apply below_alloc | apply pw_below_drewN | apply below_drew1 | refine below_set ?_ GE235.out | refine below_set ?_ GE241.out) | exact HB.out)⟩⟩
                            · rw [if_neg c70] at H
                              exact absurd H (by simp)
                          · rw [if_neg c69] at H
                            exact absurd H (by simp)
                        · rw [if_neg c68] at H
                          have c68b0 : decide (x83_3 < (t238.length : Int)) = false := decide_eq_false c68
                          (try (have c68b0_ := c68b0; simp only [hl6_2] at c68b0_))
                          clear c68
                          replace H := Option.bind_eq_some_iff.mp H
                          obtain ⟨⟨t270, t273⟩, A850, H⟩ := H
                          replace H : ((frame_Pack.f k3 a0_0 a0_1 a0_2 x242003_3).bind fun bt274 => ((churnlaw06_same.f x8_3 x4_3).bind fun t278 => (if t278 = true then (if bt274.2 = t273 then ((churnlaw06_same.f bt274.1 t270).bind fun t279 => (if t279 = true then (some (decide ((x6_3.length : Int) ≥ 4))) else (some false))) else (some false)) else (some false)))) = some r := H
                          have A85 := Aside0.mk A850
                          clear A850
                          replace H := Option.bind_eq_some_iff.mp H
                          obtain ⟨⟨t274, t277⟩, A860, H⟩ := H
                          replace H : ((churnlaw06_same.f x8_3 x4_3).bind fun t278 => (if t278 = true then (if t277 = t273 then ((churnlaw06_same.f t274 t270).bind fun t279 => (if t279 = true then (some (decide ((x6_3.length : Int) ≥ 4))) else (some false))) else (some false)) else (some false))) = some r := H
                          have A86 := Aside0.mk A860
                          clear A860
                          replace H := Option.bind_eq_some_iff.mp H
                          obtain ⟨t278, A870, H⟩ := H
                          replace H : (if t278 = true then (if t277 = t273 then ((churnlaw06_same.f t274 t270).bind fun t279 => (if t279 = true then (some (decide ((x6_3.length : Int) ≥ 4))) else (some false))) else (some false)) else (some false)) = some r := H
                          have A87 := Aside0.mk A870
                          clear A870
                          by_cases c88 : t278 = true
                          · subst c88
                            have H1 : (if t277 = t273 then ((churnlaw06_same.f t274 t270).bind fun t279 => (if t279 = true then (some (decide ((x6_3.length : Int) ≥ 4))) else (some false))) else (some false)) = some r := by rw [if_pos rfl] at H; exact H
                            clear H
                            have H := H1
                            clear H1
                            by_cases c89 : t277 = t273
                            · rw [if_pos c89] at H
                              have c89b0 : (t277 == t273) = true := beq_iff_eq.mpr c89
                              have c89b1 : (t277 != t273) = false := bne_eq_false_iff_eq.mpr c89
                              clear c89
                              replace H := Option.bind_eq_some_iff.mp H
                              obtain ⟨t279, A900, H⟩ := H
                              replace H : (if t279 = true then (some (decide ((x6_3.length : Int) ≥ 4))) else (some false)) = some r := H
                              have A90 := Aside0.mk A900
                              clear A900
                              by_cases c91 : t279 = true
                              · subst c91
                                have H1 : (some (decide ((x6_3.length : Int) ≥ 4))) = some r := by rw [if_pos rfl] at H; exact H
                                clear H
                                have H := H1
                                clear H1
                                obtain rfl := Option.some.inj H
                                simp only [Option.some.injEq, Prod.mk.injEq] at H
                                obtain ⟨rfl⟩ := H
                                have hnb92 := NB241_235.out
                                have hnc92 := NB235_241.out
                                have hcz93_0 : wr.cell? ⟨gb241, 0, none⟩ = some (.int .i64 a0_0) := (blk_cell BK241.out 0).trans rfl
                                have hcz93_1 : wr.cell? ⟨gb241, 1, none⟩ = some (.int .i64 a0_1) := (blk_cell BK241.out 1).trans rfl
                                have hcz93_2 : wr.cell? ⟨gb241, 2, none⟩ = some (.int .i64 a0_2) := (blk_cell BK241.out 2).trans rfl
                                have hcz93_3 : wr.cell? ⟨gb241, 3, none⟩ = some (u242003) := (blk_cell BK241.out 3).trans rfl
                                have hfz93_0 := blk_frozen BK241.out 0
                                have hfz93_1 := blk_frozen BK241.out 1
                                have hfz93_2 := blk_frozen BK241.out 2
                                have hfz93_3 := blk_frozen BK241.out 3
                                obtain ⟨Ao94, co94, eo94⟩ := Kd.S_slice HO_242003.out
                                subst eo94
                                go_wp2_with (first | ((with_reducible refine gate_callee (f := 13) rfl ?_); refine goesL_ (some 109) rfl rfl Try.func13 (by kernel_rfl) rfl #[.agg #[.int .i64 a0_0, .int .i64 a0_1, .int .i64 a0_2, .slice Ao94 x242003_3.length co94]] rfl (by (try simp only [List.map_toArray, List.map_cons, List.map_nil]); first | done | rfl | (simp only [List.length_drop, List.length_take]; rfl)) ?_; (with_reducible refine (churnref06_Pack.calls k3 a0_0 a0_1 a0_2 _ _ x242003_3 t270 t273 _ ?side1 ?side2 A85.out).mono ?_); (case side1 => repeat (first | exact (Kd.S_reads' HO_242003.out).2.2 | (with_reducible refine Kd.C_alloc ?_ _) | (with_reducible refine Kd.C_drewN ?_ _) | (with_reducible refine Kd.C_drew ?_))); (case side2 => exact (Kd.S_reads' HO_242003.out).2.1); rintro e w95 ⟨v271, rfl, ho0, hb⟩; refine ⟨_, rfl, ?_⟩; have n0_ := Aside0.mk (Kd.R_elder' (by (with_reducible repeat (first | apply Kd.R_alloc | apply Kd.R_drewN | apply Kd.R_drew)); exact HO_4.out) (Kd.R_base ho0) hb); have n1_ := Aside0.mk (Kd.R_elder' (by (with_reducible repeat (first | apply Kd.R_alloc | apply Kd.R_drewN | apply Kd.R_drew)); exact HO_6.out) (Kd.R_base ho0) hb); have n2_ := Aside0.mk (Kd.R_elder' (by (with_reducible repeat (first | apply Kd.R_alloc | apply Kd.R_drewN | apply Kd.R_drew)); exact HO_8.out) (Kd.R_base ho0) hb); have n3_ := Aside0.mk (Kd.S_elder' (by (with_reducible repeat (first | apply Kd.S_alloc | apply Kd.S_drewN | apply Kd.S_drew)); exact HO_242003.out) (Kd.R_base ho0) hb); have n4_ := Aside0.mk (Kd.R_lower (Kd.R_new' (Kd.R_new' (Kd.R_new' ho0 (Kd.R_lt (by (with_reducible repeat (first | apply Kd.R_alloc | apply Kd.R_drewN | apply Kd.R_drew)); exact HO_4.out))) (Kd.R_lt (by (with_reducible repeat (first | apply Kd.R_alloc | apply Kd.R_drewN | apply Kd.R_drew)); exact HO_6.out))) (Kd.R_lt (by (with_reducible repeat (first | apply Kd.R_alloc | apply Kd.R_drewN | apply Kd.R_drew)); exact HO_8.out))) (below_size (by repeat (first | (with_reducible first | exact HB.out | apply below_alloc | apply pw_below_drewN | apply below_drew1 | refine below_set ?_ GE235.out | refine below_set ?_ GE241.out) | exact HB.out)))); have n5_ := Aside0.mk (blk_below (g := gb235) (o := .cells #[.int .i64 a0_0, .int .i64 a0_1, .int .i64 a0_2, .slice A0_3 l0_3.length c0_3] 26 (0, 0)) (by (with_reducible repeat (first | refine blk_drewN ?_ _ | refine blk_drew ?_ | refine blk_alloc ?_ _)); exact BK235.out) hb); have n6_ := Aside0.mk (blk_below (g := gb241) (o := .cells #[.int .i64 a0_0, .int .i64 a0_1, .int .i64 a0_2, .slice Ao94 x242003_3.length co94] 26 (0, 0)) (by (with_reducible repeat (first | refine blk_drewN ?_ _ | refine blk_drew ?_ | refine blk_alloc ?_ _)); exact BK241.out) hb); have n7_ := Aside0.mk (below_step (by repeat (first | (with_reducible first | exact HB.out | apply below_alloc | apply pw_below_drewN | apply below_drew1 | refine below_set ?_ GE235.out | refine below_set ?_ GE241.out) | exact HB.out)) hb); clear HO_4; clear HO_6; clear HO_8; clear HO_242003; clear BK235; clear BK241; clear HB; have HO_4 := n0_; have HO_6 := n1_; have HO_8 := n2_; have HO_242003 := n3_; have HO272 := n4_; have BK235 := n5_; have BK241 := n6_; have HB := n7_; clear n0_ n1_ n2_ n3_ n4_ n5_ n6_ n7_; (try clear hb); (try clear hb2); (try clear hk); (try clear hi); (try clear ho0); have hcz96_0 : w95.cell? ⟨gb241, 0, none⟩ = some (.int .i64 a0_0) := (blk_cell BK241.out 0).trans rfl; have hcz96_1 : w95.cell? ⟨gb241, 1, none⟩ = some (.int .i64 a0_1) := (blk_cell BK241.out 1).trans rfl; have hcz96_2 : w95.cell? ⟨gb241, 2, none⟩ = some (.int .i64 a0_2) := (blk_cell BK241.out 2).trans rfl; have hcz96_3 : w95.cell? ⟨gb241, 3, none⟩ = some (.slice Ao94 x242003_3.length co94) := (blk_cell BK241.out 3).trans rfl; have hfz96_0 := blk_frozen BK241.out 0; have hfz96_1 := blk_frozen BK241.out 1; have hfz96_2 := blk_frozen BK241.out 2; have hfz96_3 := blk_frozen BK241.out 3) | ((with_reducible refine gate_callee (f := 14) rfl ?_); refine goesL_ (some 114) rfl rfl Try.func14 (by kernel_rfl) rfl #[.agg #[.int .i64 a0_0, .int .i64 a0_1, .int .i64 a0_2, .slice Ao94 x242003_3.length co94]] rfl (by (try simp only [List.map_toArray, List.map_cons, List.map_nil]); first | done | rfl | (simp only [List.length_drop, List.length_take]; rfl)) ?_; (with_reducible refine (frame_Pack.calls k3 a0_0 a0_1 a0_2 _ _ x242003_3 t274 t277 _ ?side1 ?side2 A86.out).mono ?_); (case side1 => repeat (first | exact (Kd.S_reads' HO_242003.out).2.2 | (with_reducible refine Kd.C_alloc ?_ _) | (with_reducible refine Kd.C_drewN ?_ _) | (with_reducible refine Kd.C_drew ?_))); (case side2 => exact (Kd.S_reads' HO_242003.out).2.1); rintro e w97 ⟨v275, rfl, ho0, hb⟩; refine ⟨_, rfl, ?_⟩; have n0_ := Aside0.mk (Kd.R_elder' (by (with_reducible repeat (first | apply Kd.R_alloc | apply Kd.R_drewN | apply Kd.R_drew)); exact HO_4.out) (Kd.R_base ho0) hb); have n1_ := Aside0.mk (Kd.R_elder' (by (with_reducible repeat (first | apply Kd.R_alloc | apply Kd.R_drewN | apply Kd.R_drew)); exact HO_6.out) (Kd.R_base ho0) hb); have n2_ := Aside0.mk (Kd.R_elder' (by (with_reducible repeat (first | apply Kd.R_alloc | apply Kd.R_drewN | apply Kd.R_drew)); exact HO_8.out) (Kd.R_base ho0) hb); have n3_ := Aside0.mk (Kd.S_elder' (by (with_reducible repeat (first | apply Kd.S_alloc | apply Kd.S_drewN | apply Kd.S_drew)); exact HO_242003.out) (Kd.R_base ho0) hb); have n4_ := Aside0.mk (Kd.R_elder' (by (with_reducible repeat (first | apply Kd.R_alloc | apply Kd.R_drewN | apply Kd.R_drew)); exact HO272.out) (Kd.R_base ho0) hb); have n5_ := Aside0.mk (Kd.R_lower (Kd.R_new' (Kd.R_new' (Kd.R_new' (Kd.R_new' ho0 (Kd.R_lt (by (with_reducible repeat (first | apply Kd.R_alloc | apply Kd.R_drewN | apply Kd.R_drew)); exact HO_4.out))) (Kd.R_lt (by (with_reducible repeat (first | apply Kd.R_alloc | apply Kd.R_drewN | apply Kd.R_drew)); exact HO_6.out))) (Kd.R_lt (by (with_reducible repeat (first | apply Kd.R_alloc | apply Kd.R_drewN | apply Kd.R_drew)); exact HO_8.out))) (Kd.R_lt (by (with_reducible repeat (first | apply Kd.R_alloc | apply Kd.R_drewN | apply Kd.R_drew)); exact HO272.out))) (below_size (by repeat (first | (with_reducible first | exact HB.out | apply below_alloc | apply pw_below_drewN | apply below_drew1 | refine below_set ?_ GE235.out | refine below_set ?_ GE241.out) | exact HB.out)))); have n6_ := Aside0.mk (blk_below (g := gb235) (o := .cells #[.int .i64 a0_0, .int .i64 a0_1, .int .i64 a0_2, .slice A0_3 l0_3.length c0_3] 26 (0, 0)) (by (with_reducible repeat (first | refine blk_drewN ?_ _ | refine blk_drew ?_ | refine blk_alloc ?_ _)); exact BK235.out) hb); have n7_ := Aside0.mk (blk_below (g := gb241) (o := .cells #[.int .i64 a0_0, .int .i64 a0_1, .int .i64 a0_2, .slice Ao94 x242003_3.length co94] 26 (0, 0)) (by (with_reducible repeat (first | refine blk_drewN ?_ _ | refine blk_drew ?_ | refine blk_alloc ?_ _)); exact BK241.out) hb); have n8_ := Aside0.mk (below_step (by repeat (first | (with_reducible first | exact HB.out | apply below_alloc | apply pw_below_drewN | apply below_drew1 | refine below_set ?_ GE235.out | refine below_set ?_ GE241.out) | exact HB.out)) hb); clear HO_4; clear HO_6; clear HO_8; clear HO_242003; clear HO272; clear BK235; clear BK241; clear HB; have HO_4 := n0_; have HO_6 := n1_; have HO_8 := n2_; have HO_242003 := n3_; have HO272 := n4_; have HO276 := n5_; have BK235 := n6_; have BK241 := n7_; have HB := n8_; clear n0_ n1_ n2_ n3_ n4_ n5_ n6_ n7_ n8_; (try clear hb); (try clear hb2); (try clear hk); (try clear hi); (try clear ho0); obtain ⟨Ao98, co98, eo98⟩ := Kd.R_slice HO_8.out; subst eo98; obtain ⟨Ao99, co99, eo99⟩ := Kd.R_slice HO_4.out; subst eo99) | ((with_reducible refine gate_callee (f := 15) rfl ?_); refine goesL_ (some 119) rfl rfl Try.func15 (by kernel_rfl) rfl #[.slice Ao98 x8_3.length co98, .slice Ao99 x4_3.length co99] rfl (by (try simp only [List.map_toArray, List.map_cons, List.map_nil]); first | done | rfl | (simp only [List.length_drop, List.length_take]; rfl)) ?_; (with_reducible refine (churnlaw06_same.calls _ _ x8_3 _ _ x4_3 true _ ?side1 ?side2 ?side3 ?side4 A87.out).mono ?_); (case side1 => repeat (first | exact (Kd.R_reads' HO_8.out).2.2 | (with_reducible refine Kd.C_alloc ?_ _) | (with_reducible refine Kd.C_drewN ?_ _) | (with_reducible refine Kd.C_drew ?_))); (case side2 => exact (Kd.R_reads' HO_8.out).2.1); (case side3 => repeat (first | exact (Kd.R_reads' HO_4.out).2.2 | (with_reducible refine Kd.C_alloc ?_ _) | (with_reducible refine Kd.C_drewN ?_ _) | (with_reducible refine Kd.C_drew ?_))); (case side4 => exact (Kd.R_reads' HO_4.out).2.1); rintro e w' ⟨rfl, ⟨nd, rfl⟩⟩; refine ⟨_, rfl, ?_⟩; obtain ⟨Ao100, co100, eo100⟩ := Kd.R_slice HO276.out; subst eo100; obtain ⟨Ao101, co101, eo101⟩ := Kd.R_slice HO272.out; subst eo101) | (go_at_call 15; (with_reducible refine (churnlaw06_same.calls _ _ t274 _ _ t270 true _ ?side1 ?side2 ?side3 ?side4 A90.out).mono ?_); (case side1 => repeat (first | exact (Kd.R_reads' HO276.out).2.2 | (with_reducible refine Kd.C_alloc ?_ _) | (with_reducible refine Kd.C_drewN ?_ _) | (with_reducible refine Kd.C_drew ?_))); (case side2 => exact (Kd.R_reads' HO276.out).2.1); (case side3 => repeat (first | exact (Kd.R_reads' HO272.out).2.2 | (with_reducible refine Kd.C_alloc ?_ _) | (with_reducible refine Kd.C_drewN ?_ _) | (with_reducible refine Kd.C_drew ?_))); (case side4 => exact (Kd.R_reads' HO272.out).2.1); rintro e w' ⟨rfl, ⟨nd, rfl⟩⟩; obtain ⟨Ao102, co102, eo102⟩ := Kd.R_slice HO_6.out; subst eo102))
                                go_ret
                                exact ⟨by first | rfl | (simp [errW_none, errW_some] <;> rfl) | (simp [*, errW_none, errW_some] <;> rfl), by repeat (first | (with_reducible first | exact HB.out | apply below_alloc | apply pw_below_drewN | apply below_drew1 | refine below_set ?_ GE235.out | refine below_set ?_ GE241.out) | exact HB.out)⟩
                              · replace c91 := Bool.eq_false_iff.mpr c91
                                subst c91
                                have H1 : (some false) = some r := by rw [if_neg (show ¬ (false = true) by decide)] at H; exact H
                                clear H
                                have H := H1
                                clear H1
                                obtain rfl := Option.some.inj H
                                exact absurd HR_.out (by decide)
                            · rw [if_neg c89] at H
                              have c89b0 : (t277 == t273) = false := beq_eq_false_iff_ne.mpr c89
                              have c89b1 : (t277 != t273) = true := bne_iff_ne.mpr c89
                              obtain rfl := Option.some.inj H
                              exact absurd HR_.out (by decide)
                          · replace c88 := Bool.eq_false_iff.mpr c88
                            subst c88
                            have H1 : (some false) = some r := by rw [if_neg (show ¬ (false = true) by decide)] at H; exact H
                            clear H
                            have H := H1
                            clear H1
                            obtain rfl := Option.some.inj H
                            exact absurd HR_.out (by decide)
                  · rw [if_neg c61] at H
                    exact absurd H (by simp)
  · replace c3 := Bool.eq_false_iff.mpr c3
    subst c3
    have H1 : (some false) = some r := by rw [if_neg (show ¬ (false = true) by decide)] at H; exact H
    clear H
    have H := H1
    clear H1
    obtain rfl := Option.some.inj H
    exact absurd HR_.out (by decide)

end Go.Proofs.Ythkcadmjfkcbgaa.Q
