/- Functions of the program as plain Lean functions, each with a proof that its call comes to just these answers, or the row that joins them to the given statement; no condition beside the statement's own. Written for this claim by pf.py, this session's program over the kit's print. -/
import Derived.Test.YtiefmocfgneldaaQx0
import Derived.Test.YtiefmocfgneldaaQx2
import Derived.Test.YtiefmocfgneldaaQx4
import Derived.Test.YtiefmocfgneldaaQx5
import Derived.Test.YtiefmocfgneldaaQx10
namespace Go.Proofs.Ytiefmocfgneldaa.Q
open Go.RowKit Go.Proofs.YtiefmocfgneldaaW.PrintWords Go.Proofs.YtiefmocfgneldaaW.PrintLast Go.Proofs.YtiefmocfgneldaaW.PrintMore
attribute [local go_sem] max2_int min2_int max_two min_two max_three min_three max_four min_four   -- for this text's walks alone
set_option linter.unusedVariables false
set_option linter.unusedSimpArgs false

/-! ### churnlaw12_BraidBack: function 6 -/
mutual
def churnlaw12_BraidBack.j3 : Nat → List Int → List Int → Int → List Int → List Int → List Int → List Int → Option (Bool)
  | 0, _, _, _, _, _, _, _ => none
  | k + 1, x3, x4, x5, x352000, x352001, x352002, x352003 => (braid_Draws.f k x352000 x352002 x352003).bind fun bt367 => (if bt367.2 = 0 then (churnlaw12_BraidBack.l2 k bt367.1 bt367.1 (bt367.1.length : Int) 0 x352000 x352001 x352002 x352003) else (if bt367.2 = 2 then (if (bt367.1.length : Int) = 0 then (if x5 = 0 then (some true) else (if x5 = 2 then (some ((wrap64 ((x3.length : Int) + (x4.length : Int))) == 0)) else (some false))) else (some false)) else (some false)))
def churnlaw12_BraidBack.l2 : Nat → List Int → List Int → Int → Int → List Int → List Int → List Int → List Int → Option (Bool)
  | 0, _, _, _, _, _, _, _, _ => none
  | k + 1, x12, x112, x113, x114, x352000, x352001, x352002, x352003 => if x114 < x113 then (if 0 ≤ x114 then (if x114 < (x112.length : Int) then (if (rd x112 x114) < 0 then (some false) else (if (rd x112 x114) ≥ (wrap64 ((x12.length : Int) - x114)) then (some false) else (churnlaw12_BraidBack.l2 k x12 x112 x113 (wrap64 (x114 + 1)) x352000 x352001 x352002 x352003))) else (none)) else (none)) else ((braid_Pattern.f k x352000 x12).bind fun bt372 => (if bt372.2.2 = 0 then ((churnlaw12_same.f k bt372.1 x352002).bind fun t379 => (if t379 = true then ((churnlaw12_same.f k bt372.2.1 x352003).bind fun t380 => (some t380)) else (some false))) else (some false)))
def churnlaw12_BraidBack.j0 : Nat → List Int → List Int → Int → Bool → List Int → List Int → List Int → List Int → Option (Bool)
  | 0, _, _, _, _, _, _, _, _ => none
  | k + 1, x3, x4, x5, x53, x352000, x352001, x352002, x352003 => if x53 = true then (some false) else (churnlaw12_BraidBack.l0 k x3 x4 x5 x352000 (x352000.length : Int) 0 x352000 x352001 x352002 x352003)
def churnlaw12_BraidBack.l0 : Nat → List Int → List Int → Int → List Int → Int → Int → List Int → List Int → List Int → List Int → Option (Bool)
  | 0, _, _, _, _, _, _, _, _, _, _ => none
  | k + 1, x3, x4, x5, x55, x56, x57, x352000, x352001, x352002, x352003 => if x57 < x56 then (if 0 ≤ x57 then (if x57 < (x55.length : Int) then (churnlaw12_BraidBack.l1 k x3 x4 x5 x57 (rd x55 x57) x55 x56 x57 x3 (x3.length : Int) 0 x352000 x352001 x352002 x352003) else (none)) else (none)) else (churnlaw12_BraidBack.j3 k x3 x4 x5 x352000 x352001 x352002 x352003)
def churnlaw12_BraidBack.l1 : Nat → List Int → List Int → Int → Int → Int → List Int → Int → Int → List Int → Int → Int → List Int → List Int → List Int → List Int → Option (Bool)
  | 0, _, _, _, _, _, _, _, _, _, _, _, _, _, _, _ => none
  | k + 1, x3, x4, x5, x8, x9, x55, x56, x57, x62, x63, x64, x352000, x352001, x352002, x352003 => if x64 < x63 then (if 0 ≤ x64 then (if x64 < (x62.length : Int) then (if (rd x62 x64) = x8 then (churnlaw12_BraidBack.l1 k x3 x4 x5 x8 (wrap64 (x9 - 1)) x55 x56 x57 x62 x63 (wrap64 (x64 + 1)) x352000 x352001 x352002 x352003) else (churnlaw12_BraidBack.l1 k x3 x4 x5 x8 x9 x55 x56 x57 x62 x63 (wrap64 (x64 + 1)) x352000 x352001 x352002 x352003)) else (none)) else (none)) else (if x9 = 0 then (churnlaw12_BraidBack.l0 k x3 x4 x5 x55 x56 (wrap64 (x57 + 1)) x352000 x352001 x352002 x352003) else (some false))
end
def churnlaw12_BraidBack.f (k : Nat) (l0_0 : List Int) (l0_1 : List Int) (l0_2 : List Int) (l0_3 : List Int) : Option (Bool) := (churnlaw12_awake.f k).bind fun t352 => (if t352 = true then ((braid_Pattern.f k l0_0 l0_1).bind fun bt353 => (if bt353.2.2 = 0 then ((braid_Draws.f k l0_0 bt353.1 bt353.2.1).bind fun bt360 => (if bt360.2 = 0 then ((churnlaw12_same.f k bt360.1 l0_1).bind fun t364 => (if t364 = true then (churnlaw12_BraidBack.j0 k bt353.1 bt353.2.1 bt353.2.2 ((bt353.1.length : Int) != (l0_1.length : Int)) l0_0 l0_1 l0_2 l0_3) else (churnlaw12_BraidBack.j0 k bt353.1 bt353.2.1 bt353.2.2 true l0_0 l0_1 l0_2 l0_3))) else (churnlaw12_BraidBack.j0 k bt353.1 bt353.2.1 bt353.2.2 true l0_0 l0_1 l0_2 l0_3))) else (churnlaw12_BraidBack.j3 k bt353.1 bt353.2.1 bt353.2.2 l0_0 l0_1 l0_2 l0_3))) else (some false))
theorem churnlaw12_BraidBack.mono_l : ∀ k, (∀ y0 y1 y2 y3 y4 y5 y6, LeO (churnlaw12_BraidBack.j3 k y0 y1 y2 y3 y4 y5 y6) (churnlaw12_BraidBack.j3 (k + 1) y0 y1 y2 y3 y4 y5 y6)) ∧ (∀ y0 y1 y2 y3 y4 y5 y6 y7, LeO (churnlaw12_BraidBack.l2 k y0 y1 y2 y3 y4 y5 y6 y7) (churnlaw12_BraidBack.l2 (k + 1) y0 y1 y2 y3 y4 y5 y6 y7)) ∧ (∀ y0 y1 y2 y3 y4 y5 y6 y7, LeO (churnlaw12_BraidBack.j0 k y0 y1 y2 y3 y4 y5 y6 y7) (churnlaw12_BraidBack.j0 (k + 1) y0 y1 y2 y3 y4 y5 y6 y7)) ∧ (∀ y0 y1 y2 y3 y4 y5 y6 y7 y8 y9, LeO (churnlaw12_BraidBack.l0 k y0 y1 y2 y3 y4 y5 y6 y7 y8 y9) (churnlaw12_BraidBack.l0 (k + 1) y0 y1 y2 y3 y4 y5 y6 y7 y8 y9)) ∧ (∀ y0 y1 y2 y3 y4 y5 y6 y7 y8 y9 y10 y11 y12 y13 y14, LeO (churnlaw12_BraidBack.l1 k y0 y1 y2 y3 y4 y5 y6 y7 y8 y9 y10 y11 y12 y13 y14) (churnlaw12_BraidBack.l1 (k + 1) y0 y1 y2 y3 y4 y5 y6 y7 y8 y9 y10 y11 y12 y13 y14))
  | 0 => ⟨fun _ _ _ _ _ _ _ r h => by simp [churnlaw12_BraidBack.j3] at h, fun _ _ _ _ _ _ _ _ r h => by simp [churnlaw12_BraidBack.l2] at h, fun _ _ _ _ _ _ _ _ r h => by simp [churnlaw12_BraidBack.j0] at h, fun _ _ _ _ _ _ _ _ _ _ r h => by simp [churnlaw12_BraidBack.l0] at h, fun _ _ _ _ _ _ _ _ _ _ _ _ _ _ _ r h => by simp [churnlaw12_BraidBack.l1] at h⟩
  | k + 1 => by
    obtain ⟨ih0, ih1, ih2, ih3, ih4⟩ := churnlaw12_BraidBack.mono_l k
    refine ⟨?_, ?_, ?_, ?_, ?_⟩
    · intro y0 y1 y2 y3 y4 y5 y6
      unfold churnlaw12_BraidBack.j3
      repeat' first
      | (with_reducible exact ih0 _ _ _ _ _ _ _)
      | (with_reducible exact ih1 _ _ _ _ _ _ _ _)
      | (with_reducible exact ih2 _ _ _ _ _ _ _ _)
      | (with_reducible exact ih3 _ _ _ _ _ _ _ _ _ _)
      | (with_reducible exact ih4 _ _ _ _ _ _ _ _ _ _ _ _ _ _ _)
      | (with_reducible exact braid_Draws.mono _ _ _ _)
      | (with_reducible exact braid_Pattern.mono _ _ _)
      | (with_reducible exact churnlaw12_awake.mono _)
      | (with_reducible exact churnlaw12_same.mono _ _ _)
      | (with_reducible exact LeO.refl _)
      | (with_reducible exact LeO.none _)
      | (with_reducible refine LeO.ite ?_ ?_)
      | (with_reducible refine LeO.bind ?_ (fun _ => ?_))
      | exact ih0 _ _ _ _ _ _ _
      | exact ih1 _ _ _ _ _ _ _ _
      | exact ih2 _ _ _ _ _ _ _ _
      | exact ih3 _ _ _ _ _ _ _ _ _ _
      | exact ih4 _ _ _ _ _ _ _ _ _ _ _ _ _ _ _
      | exact braid_Draws.mono _ _ _ _
      | exact braid_Pattern.mono _ _ _
      | exact churnlaw12_awake.mono _
      | exact churnlaw12_same.mono _ _ _
      | exact LeO.none _
      | refine LeO.ite ?_ ?_
      | refine LeO.bind ?_ (fun _ => ?_)
    · intro y0 y1 y2 y3 y4 y5 y6 y7
      unfold churnlaw12_BraidBack.l2
      repeat' first
      | (with_reducible exact ih0 _ _ _ _ _ _ _)
      | (with_reducible exact ih1 _ _ _ _ _ _ _ _)
      | (with_reducible exact ih2 _ _ _ _ _ _ _ _)
      | (with_reducible exact ih3 _ _ _ _ _ _ _ _ _ _)
      | (with_reducible exact ih4 _ _ _ _ _ _ _ _ _ _ _ _ _ _ _)
      | (with_reducible exact braid_Draws.mono _ _ _ _)
      | (with_reducible exact braid_Pattern.mono _ _ _)
      | (with_reducible exact churnlaw12_awake.mono _)
      | (with_reducible exact churnlaw12_same.mono _ _ _)
      | (with_reducible exact LeO.refl _)
      | (with_reducible exact LeO.none _)
      | (with_reducible refine LeO.ite ?_ ?_)
      | (with_reducible refine LeO.bind ?_ (fun _ => ?_))
      | exact ih0 _ _ _ _ _ _ _
      | exact ih1 _ _ _ _ _ _ _ _
      | exact ih2 _ _ _ _ _ _ _ _
      | exact ih3 _ _ _ _ _ _ _ _ _ _
      | exact ih4 _ _ _ _ _ _ _ _ _ _ _ _ _ _ _
      | exact braid_Draws.mono _ _ _ _
      | exact braid_Pattern.mono _ _ _
      | exact churnlaw12_awake.mono _
      | exact churnlaw12_same.mono _ _ _
      | exact LeO.none _
      | refine LeO.ite ?_ ?_
      | refine LeO.bind ?_ (fun _ => ?_)
    · intro y0 y1 y2 y3 y4 y5 y6 y7
      unfold churnlaw12_BraidBack.j0
      repeat' first
      | (with_reducible exact ih0 _ _ _ _ _ _ _)
      | (with_reducible exact ih1 _ _ _ _ _ _ _ _)
      | (with_reducible exact ih2 _ _ _ _ _ _ _ _)
      | (with_reducible exact ih3 _ _ _ _ _ _ _ _ _ _)
      | (with_reducible exact ih4 _ _ _ _ _ _ _ _ _ _ _ _ _ _ _)
      | (with_reducible exact braid_Draws.mono _ _ _ _)
      | (with_reducible exact braid_Pattern.mono _ _ _)
      | (with_reducible exact churnlaw12_awake.mono _)
      | (with_reducible exact churnlaw12_same.mono _ _ _)
      | (with_reducible exact LeO.refl _)
      | (with_reducible exact LeO.none _)
      | (with_reducible refine LeO.ite ?_ ?_)
      | (with_reducible refine LeO.bind ?_ (fun _ => ?_))
      | exact ih0 _ _ _ _ _ _ _
      | exact ih1 _ _ _ _ _ _ _ _
      | exact ih2 _ _ _ _ _ _ _ _
      | exact ih3 _ _ _ _ _ _ _ _ _ _
      | exact ih4 _ _ _ _ _ _ _ _ _ _ _ _ _ _ _
      | exact braid_Draws.mono _ _ _ _
      | exact braid_Pattern.mono _ _ _
      | exact churnlaw12_awake.mono _
      | exact churnlaw12_same.mono _ _ _
      | exact LeO.none _
      | refine LeO.ite ?_ ?_
      | refine LeO.bind ?_ (fun _ => ?_)
    · intro y0 y1 y2 y3 y4 y5 y6 y7 y8 y9
      unfold churnlaw12_BraidBack.l0
      repeat' first
      | (with_reducible exact ih0 _ _ _ _ _ _ _)
      | (with_reducible exact ih1 _ _ _ _ _ _ _ _)
      | (with_reducible exact ih2 _ _ _ _ _ _ _ _)
      | (with_reducible exact ih3 _ _ _ _ _ _ _ _ _ _)
      | (with_reducible exact ih4 _ _ _ _ _ _ _ _ _ _ _ _ _ _ _)
      | (with_reducible exact braid_Draws.mono _ _ _ _)
      | (with_reducible exact braid_Pattern.mono _ _ _)
      | (with_reducible exact churnlaw12_awake.mono _)
      | (with_reducible exact churnlaw12_same.mono _ _ _)
      | (with_reducible exact LeO.refl _)
      | (with_reducible exact LeO.none _)
      | (with_reducible refine LeO.ite ?_ ?_)
      | (with_reducible refine LeO.bind ?_ (fun _ => ?_))
      | exact ih0 _ _ _ _ _ _ _
      | exact ih1 _ _ _ _ _ _ _ _
      | exact ih2 _ _ _ _ _ _ _ _
      | exact ih3 _ _ _ _ _ _ _ _ _ _
      | exact ih4 _ _ _ _ _ _ _ _ _ _ _ _ _ _ _
      | exact braid_Draws.mono _ _ _ _
      | exact braid_Pattern.mono _ _ _
      | exact churnlaw12_awake.mono _
      | exact churnlaw12_same.mono _ _ _
      | exact LeO.none _
      | refine LeO.ite ?_ ?_
      | refine LeO.bind ?_ (fun _ => ?_)
    · intro y0 y1 y2 y3 y4 y5 y6 y7 y8 y9 y10 y11 y12 y13 y14
      unfold churnlaw12_BraidBack.l1
      repeat' first
      | (with_reducible exact ih0 _ _ _ _ _ _ _)
      | (with_reducible exact ih1 _ _ _ _ _ _ _ _)
      | (with_reducible exact ih2 _ _ _ _ _ _ _ _)
      | (with_reducible exact ih3 _ _ _ _ _ _ _ _ _ _)
      | (with_reducible exact ih4 _ _ _ _ _ _ _ _ _ _ _ _ _ _ _)
      | (with_reducible exact braid_Draws.mono _ _ _ _)
      | (with_reducible exact braid_Pattern.mono _ _ _)
      | (with_reducible exact churnlaw12_awake.mono _)
      | (with_reducible exact churnlaw12_same.mono _ _ _)
      | (with_reducible exact LeO.refl _)
      | (with_reducible exact LeO.none _)
      | (with_reducible refine LeO.ite ?_ ?_)
      | (with_reducible refine LeO.bind ?_ (fun _ => ?_))
      | exact ih0 _ _ _ _ _ _ _
      | exact ih1 _ _ _ _ _ _ _ _
      | exact ih2 _ _ _ _ _ _ _ _
      | exact ih3 _ _ _ _ _ _ _ _ _ _
      | exact ih4 _ _ _ _ _ _ _ _ _ _ _ _ _ _ _
      | exact braid_Draws.mono _ _ _ _
      | exact braid_Pattern.mono _ _ _
      | exact churnlaw12_awake.mono _
      | exact churnlaw12_same.mono _ _ _
      | exact LeO.none _
      | refine LeO.ite ?_ ?_
      | refine LeO.bind ?_ (fun _ => ?_)
theorem churnlaw12_BraidBack.mono : ∀ a0 a1 a2 a3 k, LeO (churnlaw12_BraidBack.f k a0 a1 a2 a3) (churnlaw12_BraidBack.f (k + 1) a0 a1 a2 a3) := by
  intro a0 a1 a2 a3 k
  obtain ⟨ih0, ih1, ih2, ih3, ih4⟩ := churnlaw12_BraidBack.mono_l k
  unfold churnlaw12_BraidBack.f
  repeat' first
      | (with_reducible exact ih0 _ _ _ _ _ _ _)
      | (with_reducible exact ih1 _ _ _ _ _ _ _ _)
      | (with_reducible exact ih2 _ _ _ _ _ _ _ _)
      | (with_reducible exact ih3 _ _ _ _ _ _ _ _ _ _)
      | (with_reducible exact ih4 _ _ _ _ _ _ _ _ _ _ _ _ _ _ _)
      | (with_reducible exact braid_Draws.mono _ _ _ _)
      | (with_reducible exact braid_Pattern.mono _ _ _)
      | (with_reducible exact churnlaw12_awake.mono _)
      | (with_reducible exact churnlaw12_same.mono _ _ _)
      | (with_reducible exact LeO.refl _)
      | (with_reducible exact LeO.none _)
      | (with_reducible refine LeO.ite ?_ ?_)
      | (with_reducible refine LeO.bind ?_ (fun _ => ?_))
      | exact ih0 _ _ _ _ _ _ _
      | exact ih1 _ _ _ _ _ _ _ _
      | exact ih2 _ _ _ _ _ _ _ _
      | exact ih3 _ _ _ _ _ _ _ _ _ _
      | exact ih4 _ _ _ _ _ _ _ _ _ _ _ _ _ _ _
      | exact braid_Draws.mono _ _ _ _
      | exact braid_Pattern.mono _ _ _
      | exact churnlaw12_awake.mono _
      | exact churnlaw12_same.mono _ _ _
      | exact LeO.none _
      | refine LeO.ite ?_ ?_
      | refine LeO.bind ?_ (fun _ => ?_)
set_option maxHeartbeats 8000000 in
set_option maxRecDepth 100000 in
theorem churnlaw12_BraidBack.calls (k : Nat) (A0_0 : Option Addr) (c0_0 : Nat) (l0_0 : List Int) (A0_1 : Option Addr) (c0_1 : Nat) (l0_1 : List Int) (A0_2 : Option Addr) (c0_2 : Nat) (l0_2 : List Int) (A0_3 : Option Addr) (c0_3 : Nat) (l0_3 : List Int) (r : Bool) (w : World) (hr0_0 : Kd.C (Kd.int .i64) w A0_0 l0_0.length l0_0) (hc0_0 : l0_0.length ≤ c0_0) (hr0_1 : Kd.C (Kd.int .i64) w A0_1 l0_1.length l0_1) (hc0_1 : l0_1.length ≤ c0_1) (hr0_2 : Kd.C (Kd.int .i64) w A0_2 l0_2.length l0_2) (hc0_2 : l0_2.length ≤ c0_2) (hr0_3 : Kd.C (Kd.int .i64) w A0_3 l0_3.length l0_3) (hc0_3 : l0_3.length ≤ c0_3) (h : churnlaw12_BraidBack.f k l0_0 l0_1 l0_2 l0_3 = some r) :
    Calls Try.prog 6 #[.agg #[.slice A0_0 l0_0.length c0_0, .slice A0_1 l0_1.length c0_1, .slice A0_2 l0_2.length c0_2, .slice A0_3 l0_3.length c0_3]] w fun e w' => e = .returned (.bool r) ∧ Below w.heap.size w w' := by
  have hu52 := Try.underlying52
  have HR0_0 := Aside0.mk hr0_0
  have HC0_0 := Aside0.mk hc0_0
  clear hr0_0 hc0_0
  have HR0_1 := Aside0.mk hr0_1
  have HC0_1 := Aside0.mk hc0_1
  clear hr0_1 hc0_1
  have HR0_2 := Aside0.mk hr0_2
  have HC0_2 := Aside0.mk hc0_2
  clear hr0_2 hc0_2
  have HR0_3 := Aside0.mk hr0_3
  have HC0_3 := Aside0.mk hc0_3
  clear hr0_3 hc0_3
  have HB := Aside0.mk (Below.refl w.heap.size w)
  have H : ((churnlaw12_awake.f k).bind fun t352 => (if t352 = true then ((braid_Pattern.f k l0_0 l0_1).bind fun bt353 => (if bt353.2.2 = 0 then ((braid_Draws.f k l0_0 bt353.1 bt353.2.1).bind fun bt360 => (if bt360.2 = 0 then ((churnlaw12_same.f k bt360.1 l0_1).bind fun t364 => (if t364 = true then (churnlaw12_BraidBack.j0 k bt353.1 bt353.2.1 bt353.2.2 ((bt353.1.length : Int) != (l0_1.length : Int)) l0_0 l0_1 l0_2 l0_3) else (churnlaw12_BraidBack.j0 k bt353.1 bt353.2.1 bt353.2.2 true l0_0 l0_1 l0_2 l0_3))) else (churnlaw12_BraidBack.j0 k bt353.1 bt353.2.1 bt353.2.2 true l0_0 l0_1 l0_2 l0_3))) else (churnlaw12_BraidBack.j3 k bt353.1 bt353.2.1 bt353.2.2 l0_0 l0_1 l0_2 l0_3))) else (some false))) = some r := h
  clear h
  replace H := Option.bind_eq_some_iff.mp H
  obtain ⟨t352, A20, H⟩ := H
  replace H : (if t352 = true then ((braid_Pattern.f k l0_0 l0_1).bind fun bt353 => (if bt353.2.2 = 0 then ((braid_Draws.f k l0_0 bt353.1 bt353.2.1).bind fun bt360 => (if bt360.2 = 0 then ((churnlaw12_same.f k bt360.1 l0_1).bind fun t364 => (if t364 = true then (churnlaw12_BraidBack.j0 k bt353.1 bt353.2.1 bt353.2.2 ((bt353.1.length : Int) != (l0_1.length : Int)) l0_0 l0_1 l0_2 l0_3) else (churnlaw12_BraidBack.j0 k bt353.1 bt353.2.1 bt353.2.2 true l0_0 l0_1 l0_2 l0_3))) else (churnlaw12_BraidBack.j0 k bt353.1 bt353.2.1 bt353.2.2 true l0_0 l0_1 l0_2 l0_3))) else (churnlaw12_BraidBack.j3 k bt353.1 bt353.2.1 bt353.2.2 l0_0 l0_1 l0_2 l0_3))) else (some false)) = some r := H
  have A2 := Aside0.mk A20
  clear A20
  by_cases c3 : t352 = true
  · subst c3
    have H1 : ((braid_Pattern.f k l0_0 l0_1).bind fun bt353 => (if bt353.2.2 = 0 then ((braid_Draws.f k l0_0 bt353.1 bt353.2.1).bind fun bt360 => (if bt360.2 = 0 then ((churnlaw12_same.f k bt360.1 l0_1).bind fun t364 => (if t364 = true then (churnlaw12_BraidBack.j0 k bt353.1 bt353.2.1 bt353.2.2 ((bt353.1.length : Int) != (l0_1.length : Int)) l0_0 l0_1 l0_2 l0_3) else (churnlaw12_BraidBack.j0 k bt353.1 bt353.2.1 bt353.2.2 true l0_0 l0_1 l0_2 l0_3))) else (churnlaw12_BraidBack.j0 k bt353.1 bt353.2.1 bt353.2.2 true l0_0 l0_1 l0_2 l0_3))) else (churnlaw12_BraidBack.j3 k bt353.1 bt353.2.1 bt353.2.2 l0_0 l0_1 l0_2 l0_3))) = some r := by rw [if_pos rfl] at H; exact H
    clear H
    have H := H1
    clear H1
    replace H := Option.bind_eq_some_iff.mp H
    obtain ⟨⟨t353, t354, t355⟩, A40, H⟩ := H
    replace H : (if t355 = 0 then ((braid_Draws.f k l0_0 t353 t354).bind fun bt360 => (if bt360.2 = 0 then ((churnlaw12_same.f k bt360.1 l0_1).bind fun t364 => (if t364 = true then (churnlaw12_BraidBack.j0 k t353 t354 t355 ((t353.length : Int) != (l0_1.length : Int)) l0_0 l0_1 l0_2 l0_3) else (churnlaw12_BraidBack.j0 k t353 t354 t355 true l0_0 l0_1 l0_2 l0_3))) else (churnlaw12_BraidBack.j0 k t353 t354 t355 true l0_0 l0_1 l0_2 l0_3))) else (churnlaw12_BraidBack.j3 k t353 t354 t355 l0_0 l0_1 l0_2 l0_3)) = some r := H
    have A4 := Aside0.mk A40
    clear A40
    have HC5 := Aside0.mk H
    clear H
    go_enter Try.func6, Try.ntmps6
    go_upto_if 28 with (first | ((with_reducible refine gate_dst (N := 1) rfl ?_); (try (refine gate_guard (by rfl) ?_; dsimp only)); refine box_event ?hg (N := 1) ?hd (cs := #[.slice A0_0 l0_0.length c0_0, .slice A0_1 l0_1.length c0_1, .slice A0_2 l0_2.length c0_2, .slice A0_3 l0_3.length c0_3]) (t := 52) ?hr ?_; (case hd => rfl); (case hg => rfl); (case hr => first | (go_simp; done) | (go_simp; rfl)); intro gb351 hg w6 hbox hb; have n0_ := Aside0.mk (below_step (by repeat (first | (with_reducible first | exact HB.out | apply below_alloc | apply pw_below_drewN | apply below_drew1) | exact HB.out)) hb); have n1_ := Aside0.mk (hbox); have n2_ := Aside0.mk ((by rw [hg]; exact (below_size (by repeat (first | (with_reducible first | exact HB.out | apply below_alloc | apply pw_below_drewN | apply below_drew1) | exact HB.out))) : w.heap.size ≤ gb351)); have n3_ := Aside0.mk ((by rw [hg]; exact (below_size (by repeat (first | (with_reducible first | exact HB.out | apply below_alloc | apply pw_below_drewN | apply below_drew1) | exact HB.out))) : w.heap.size ≤ gb351)); clear HB; have HB := n0_; have BK351 := n1_; have GW351 := n2_; have GE351 := n3_; clear n0_ n1_ n2_ n3_; clear hb hbox hg) | ((with_reducible refine gate_callee (f := 16) rfl ?_); refine goesL_ (some 16) rfl rfl Try.func16 (by kernel_rfl) rfl #[] rfl (by (try simp only [List.map_toArray, List.map_cons, List.map_nil]); first | done | rfl | (simp only [List.length_drop, List.length_take]; rfl)) ?_; (with_reducible refine (churnlaw12_awake.calls k  true _ A2.out).mono ?_); rintro e w7 ⟨rfl, hb⟩; refine ⟨_, rfl, ?_⟩; have n0_ := Aside0.mk (blk_below (g := gb351) (o := .cells #[.slice A0_0 l0_0.length c0_0, .slice A0_1 l0_1.length c0_1, .slice A0_2 l0_2.length c0_2, .slice A0_3 l0_3.length c0_3] 52 (0, 0)) (by (with_reducible repeat (first | refine blk_drewN ?_ _ | refine blk_drew ?_ | refine blk_alloc ?_ _)); exact BK351.out) hb); have n1_ := Aside0.mk (below_step (by repeat (first | (with_reducible first | exact HB.out | apply below_alloc | apply pw_below_drewN | apply below_drew1 | refine below_set ?_ GE351.out) | exact HB.out)) hb); clear BK351; clear HB; have BK351 := n0_; have HB := n1_; clear n0_ n1_; (try clear hb); (try clear hb2); (try clear hk); (try clear hi); have hcz8_0 : w7.cell? ⟨gb351, 0, none⟩ = some (.slice A0_0 l0_0.length c0_0) := (blk_cell BK351.out 0).trans rfl; have hcz8_1 : w7.cell? ⟨gb351, 1, none⟩ = some (.slice A0_1 l0_1.length c0_1) := (blk_cell BK351.out 1).trans rfl; have hcz8_2 : w7.cell? ⟨gb351, 2, none⟩ = some (.slice A0_2 l0_2.length c0_2) := (blk_cell BK351.out 2).trans rfl; have hcz8_3 : w7.cell? ⟨gb351, 3, none⟩ = some (.slice A0_3 l0_3.length c0_3) := (blk_cell BK351.out 3).trans rfl; have hfz8_0 := blk_frozen BK351.out 0; have hfz8_1 := blk_frozen BK351.out 1; have hfz8_2 := blk_frozen BK351.out 2; have hfz8_3 := blk_frozen BK351.out 3) | ((with_reducible refine gate_callee (f := 25) rfl ?_); refine goesL_ (some 23) rfl rfl Try.func25 (by kernel_rfl) rfl #[.slice A0_0 l0_0.length c0_0, .slice A0_1 l0_1.length c0_1] rfl (by (try simp only [List.map_toArray, List.map_cons, List.map_nil]); first | done | rfl | (simp only [List.length_drop, List.length_take]; rfl)) ?_; (with_reducible refine (braid_Pattern.calls k _ _ l0_0 _ _ l0_1 t353 t354 t355 _ ?side1 ?side2 ?side3 ?side4 A4.out).mono ?_); (case side1 => repeat (first | exact (Kd.C_below HR0_0.out HB.out) | (with_reducible refine Kd.C_alloc ?_ _) | (with_reducible refine Kd.C_drewN ?_ _) | (with_reducible refine Kd.C_drew ?_))); (case side2 => exact HC0_0.out); (case side3 => repeat (first | exact (Kd.C_below HR0_1.out HB.out) | (with_reducible refine Kd.C_alloc ?_ _) | (with_reducible refine Kd.C_drewN ?_ _) | (with_reducible refine Kd.C_drew ?_))); (case side4 => exact HC0_1.out); rintro e w9 ⟨v356, v358, rfl, ho0, ho1, hb⟩; refine ⟨_, rfl, ?_⟩; have n0_ := Aside0.mk (Kd.R_lower ho0 (below_size (by repeat (first | (with_reducible first | exact HB.out | apply below_alloc | apply pw_below_drewN | apply below_drew1 | refine below_set ?_ GE351.out) | exact HB.out)))); have n1_ := Aside0.mk (Kd.R_lower ho1 (below_size (by repeat (first | (with_reducible first | exact HB.out | apply below_alloc | apply pw_below_drewN | apply below_drew1 | refine below_set ?_ GE351.out) | exact HB.out)))); have n2_ := Aside0.mk (blk_below (g := gb351) (o := .cells #[.slice A0_0 l0_0.length c0_0, .slice A0_1 l0_1.length c0_1, .slice A0_2 l0_2.length c0_2, .slice A0_3 l0_3.length c0_3] 52 (0, 0)) (by (with_reducible repeat (first | refine blk_drewN ?_ _ | refine blk_drew ?_ | refine blk_alloc ?_ _)); exact BK351.out) hb); have n3_ := Aside0.mk (below_step (by repeat (first | (with_reducible first | exact HB.out | apply below_alloc | apply pw_below_drewN | apply below_drew1 | refine below_set ?_ GE351.out) | exact HB.out)) hb); clear BK351; clear HB; have HO357 := n0_; have HO359 := n1_; have BK351 := n2_; have HB := n3_; clear n0_ n1_ n2_ n3_; (try clear hb); (try clear hb2); (try clear hk); (try clear hi); (try clear ho0); (try clear ho1)))
    (try simp only [Act.put, List.setIfInBounds_toArray, List.set_cons_zero, List.set_cons_succ])
    go_cut [] (fun wc => ∃ (kq : Nat), Aside0 (churnlaw12_BraidBack.j3 kq t353 t354 t355 l0_0 l0_1 l0_2 l0_3 = some r) ∧ Aside0 (kq ≤ k) ∧ Aside0 (Kd.R (Kd.int .i64) 3 wc w.heap.size (fun k_ => some k_ ≠ (v358 : Value).ownBlock) v356 t353) ∧ Aside0 (Kd.R (Kd.int .i64) 3 wc w.heap.size (fun k_ => some k_ ≠ (v356 : Value).ownBlock) v358 t354) ∧ Aside0 (wc.heap[gb351]? = some (.cells #[(.slice A0_0 l0_0.length c0_0), (.slice A0_1 l0_1.length c0_1), (.slice A0_2 l0_2.length c0_2), (.slice A0_3 l0_3.length c0_3)] 52 (0, 0))) ∧ Aside0 (Below w.heap.size w wc))
    case first =>
      have H := HC5.out
      clear HC5
      by_cases c10 : t355 = 0
      · rw [if_pos c10] at H
        have c10b0 : (t355 == 0) = true := beq_iff_eq.mpr c10
        have c10b1 : (t355 != 0) = false := bne_eq_false_iff_eq.mpr c10
        clear c10
        (first | rw [c10b0] | (simp only [i64_w, i32_w]; rw [c10b0]) | skip)
        replace H := Option.bind_eq_some_iff.mp H
        obtain ⟨⟨t360, t361⟩, A110, H⟩ := H
        replace H : (if t361 = 0 then ((churnlaw12_same.f k t360 l0_1).bind fun t364 => (if t364 = true then (churnlaw12_BraidBack.j0 k t353 t354 t355 ((t353.length : Int) != (l0_1.length : Int)) l0_0 l0_1 l0_2 l0_3) else (churnlaw12_BraidBack.j0 k t353 t354 t355 true l0_0 l0_1 l0_2 l0_3))) else (churnlaw12_BraidBack.j0 k t353 t354 t355 true l0_0 l0_1 l0_2 l0_3)) = some r := H
        have A11 := Aside0.mk A110
        clear A110
        have HC12 := Aside0.mk H
        clear H
        have hcz13_0 : w9.cell? ⟨gb351, 0, none⟩ = some (.slice A0_0 l0_0.length c0_0) := (blk_cell BK351.out 0).trans rfl
        have hcz13_1 : w9.cell? ⟨gb351, 1, none⟩ = some (.slice A0_1 l0_1.length c0_1) := (blk_cell BK351.out 1).trans rfl
        have hcz13_2 : w9.cell? ⟨gb351, 2, none⟩ = some (.slice A0_2 l0_2.length c0_2) := (blk_cell BK351.out 2).trans rfl
        have hcz13_3 : w9.cell? ⟨gb351, 3, none⟩ = some (.slice A0_3 l0_3.length c0_3) := (blk_cell BK351.out 3).trans rfl
        have hfz13_0 := blk_frozen BK351.out 0
        have hfz13_1 := blk_frozen BK351.out 1
        have hfz13_2 := blk_frozen BK351.out 2
        have hfz13_3 := blk_frozen BK351.out 3
        obtain ⟨Ao14, co14, eo14⟩ := Kd.R_slice HO357.out
        subst eo14
        obtain ⟨Ao15, co15, eo15⟩ := Kd.R_slice HO359.out
        subst eo15
        go_upto_region 6 with (first | ((with_reducible refine gate_callee (f := 26) rfl ?_); refine goesL_ (some 34) rfl rfl Try.func26 (by kernel_rfl) rfl #[.slice A0_0 l0_0.length c0_0, .slice Ao14 t353.length co14, .slice Ao15 t354.length co15] rfl (by (try simp only [List.map_toArray, List.map_cons, List.map_nil]); first | done | rfl | (simp only [List.length_drop, List.length_take]; rfl)) ?_; (with_reducible refine (braid_Draws.calls k _ _ l0_0 _ _ t353 _ _ t354 t360 t361 _ ?side1 ?side2 ?side3 ?side4 ?side5 ?side6 A11.out).mono ?_); (case side1 => repeat (first | exact (Kd.C_below HR0_0.out HB.out) | (with_reducible refine Kd.C_alloc ?_ _) | (with_reducible refine Kd.C_drewN ?_ _) | (with_reducible refine Kd.C_drew ?_))); (case side2 => exact HC0_0.out); (case side3 => repeat (first | exact (Kd.R_reads' HO357.out).2.2 | (with_reducible refine Kd.C_alloc ?_ _) | (with_reducible refine Kd.C_drewN ?_ _) | (with_reducible refine Kd.C_drew ?_))); (case side4 => exact (Kd.R_reads' HO357.out).2.1); (case side5 => repeat (first | exact (Kd.R_reads' HO359.out).2.2 | (with_reducible refine Kd.C_alloc ?_ _) | (with_reducible refine Kd.C_drewN ?_ _) | (with_reducible refine Kd.C_drew ?_))); (case side6 => exact (Kd.R_reads' HO359.out).2.1); rintro e w16 ⟨v362, rfl, ho0, hb⟩; refine ⟨_, rfl, ?_⟩; have n0_ := Aside0.mk (Kd.R_elder' (by (with_reducible repeat (first | apply Kd.R_alloc | apply Kd.R_drewN | apply Kd.R_drew)); exact HO357.out) (Kd.R_base ho0) hb); have n1_ := Aside0.mk (Kd.R_elder' (by (with_reducible repeat (first | apply Kd.R_alloc | apply Kd.R_drewN | apply Kd.R_drew)); exact HO359.out) (Kd.R_base ho0) hb); have n2_ := Aside0.mk (Kd.R_lower (Kd.R_new' (Kd.R_new' ho0 (Kd.R_lt (by (with_reducible repeat (first | apply Kd.R_alloc | apply Kd.R_drewN | apply Kd.R_drew)); exact HO357.out))) (Kd.R_lt (by (with_reducible repeat (first | apply Kd.R_alloc | apply Kd.R_drewN | apply Kd.R_drew)); exact HO359.out))) (below_size (by repeat (first | (with_reducible first | exact HB.out | apply below_alloc | apply pw_below_drewN | apply below_drew1 | refine below_set ?_ GE351.out) | exact HB.out)))); have n3_ := Aside0.mk (blk_below (g := gb351) (o := .cells #[.slice A0_0 l0_0.length c0_0, .slice A0_1 l0_1.length c0_1, .slice A0_2 l0_2.length c0_2, .slice A0_3 l0_3.length c0_3] 52 (0, 0)) (by (with_reducible repeat (first | refine blk_drewN ?_ _ | refine blk_drew ?_ | refine blk_alloc ?_ _)); exact BK351.out) hb); have n4_ := Aside0.mk (below_step (by repeat (first | (with_reducible first | exact HB.out | apply below_alloc | apply pw_below_drewN | apply below_drew1 | refine below_set ?_ GE351.out) | exact HB.out)) hb); clear HO357; clear HO359; clear BK351; clear HB; have HO357 := n0_; have HO359 := n1_; have HO363 := n2_; have BK351 := n3_; have HB := n4_; clear n0_ n1_ n2_ n3_ n4_; (try clear hb); (try clear hb2); (try clear hk); (try clear hi); (try clear ho0)))
        (try simp only [Act.put, List.setIfInBounds_toArray, List.set_cons_zero, List.set_cons_succ])
        go_cut [53] (fun v53 wc => ∃ (kq : Nat) (x53_11 : Bool), v53 = .bool x53_11 ∧ Aside0 (churnlaw12_BraidBack.j0 kq t353 t354 t355 x53_11 l0_0 l0_1 l0_2 l0_3 = some r) ∧ Aside0 (kq ≤ k) ∧ Aside0 (Kd.R (Kd.int .i64) 3 wc w.heap.size (fun k_ => some k_ ≠ ((.slice Ao15 t354.length co15) : Value).ownBlock) (.slice Ao14 t353.length co14) t353) ∧ Aside0 (Kd.R (Kd.int .i64) 3 wc w.heap.size (fun k_ => some k_ ≠ ((.slice Ao14 t353.length co14) : Value).ownBlock) (.slice Ao15 t354.length co15) t354) ∧ Aside0 (wc.heap[gb351]? = some (.cells #[(.slice A0_0 l0_0.length c0_0), (.slice A0_1 l0_1.length c0_1), (.slice A0_2 l0_2.length c0_2), (.slice A0_3 l0_3.length c0_3)] 52 (0, 0))) ∧ Aside0 (Below w.heap.size w wc))
        case first =>
          have H := HC12.out
          clear HC12
          by_cases c17 : t361 = 0
          · rw [if_pos c17] at H
            have c17b0 : (t361 == 0) = true := beq_iff_eq.mpr c17
            have c17b1 : (t361 != 0) = false := bne_eq_false_iff_eq.mpr c17
            clear c17
            (first | rw [c17b0] | (simp only [i64_w, i32_w]; rw [c17b0]) | skip)
            replace H := Option.bind_eq_some_iff.mp H
            obtain ⟨t364, A180, H⟩ := H
            replace H : (if t364 = true then (churnlaw12_BraidBack.j0 k t353 t354 t355 ((t353.length : Int) != (l0_1.length : Int)) l0_0 l0_1 l0_2 l0_3) else (churnlaw12_BraidBack.j0 k t353 t354 t355 true l0_0 l0_1 l0_2 l0_3)) = some r := H
            have A18 := Aside0.mk A180
            clear A180
            by_cases c19 : t364 = true
            · subst c19
              have H1 : (churnlaw12_BraidBack.j0 k t353 t354 t355 ((t353.length : Int) != (l0_1.length : Int)) l0_0 l0_1 l0_2 l0_3) = some r := by rw [if_pos rfl] at H; exact H
              clear H
              have H := H1
              clear H1
              have H' := Aside0.mk H
              clear H
              have hcz20_0 : w16.cell? ⟨gb351, 0, none⟩ = some (.slice A0_0 l0_0.length c0_0) := (blk_cell BK351.out 0).trans rfl
              have hcz20_1 : w16.cell? ⟨gb351, 1, none⟩ = some (.slice A0_1 l0_1.length c0_1) := (blk_cell BK351.out 1).trans rfl
              have hcz20_2 : w16.cell? ⟨gb351, 2, none⟩ = some (.slice A0_2 l0_2.length c0_2) := (blk_cell BK351.out 2).trans rfl
              have hcz20_3 : w16.cell? ⟨gb351, 3, none⟩ = some (.slice A0_3 l0_3.length c0_3) := (blk_cell BK351.out 3).trans rfl
              have hfz20_0 := blk_frozen BK351.out 0
              have hfz20_1 := blk_frozen BK351.out 1
              have hfz20_2 := blk_frozen BK351.out 2
              have hfz20_3 := blk_frozen BK351.out 3
              obtain ⟨Ao21, co21, eo21⟩ := Kd.R_slice HO363.out
              subst eo21
              go_wp2_with (first | (go_at_call 21; (with_reducible refine (churnlaw12_same.calls k _ _ t360 _ _ l0_1 true _ ?side1 ?side2 ?side3 ?side4 A18.out).mono ?_); (case side1 => repeat (first | exact (Kd.R_reads' HO363.out).2.2 | (with_reducible refine Kd.C_alloc ?_ _) | (with_reducible refine Kd.C_drewN ?_ _) | (with_reducible refine Kd.C_drew ?_))); (case side2 => exact (Kd.R_reads' HO363.out).2.1); (case side3 => repeat (first | exact (Kd.C_below HR0_1.out HB.out) | (with_reducible refine Kd.C_alloc ?_ _) | (with_reducible refine Kd.C_drewN ?_ _) | (with_reducible refine Kd.C_drew ?_))); (case side4 => exact HC0_1.out); rintro e w' ⟨rfl, ⟨nd, rfl⟩⟩))
              go_meet
              case rel => exact ⟨_, (((t353.length : Int) != (l0_1.length : Int))), (by first | rfl | (simp; done) | (simp [*]; done)), H', ⟨by first | omega | exact Nat.le_refl _⟩, ⟨by (with_reducible repeat (first | apply Kd.R_alloc | apply Kd.R_drewN | apply Kd.R_drew)); exact Kd.R_mono HO357.out (fun _ hk => hk.1)⟩, ⟨by (with_reducible repeat (first | apply Kd.R_alloc | apply Kd.R_drewN | apply Kd.R_drew)); exact Kd.R_mono HO359.out (fun _ hk => hk.1)⟩, ⟨by (with_reducible repeat (first | refine blk_drewN ?_ _ | refine blk_drew ?_ | refine blk_alloc ?_ _)); exact BK351.out⟩, ⟨by repeat (first | (with_reducible first | exact HB.out | apply below_alloc | apply pw_below_drewN | apply below_drew1 | refine below_set ?_ GE351.out) | exact HB.out)⟩⟩
            · replace c19 := Bool.eq_false_iff.mpr c19
              subst c19
              have H1 : (churnlaw12_BraidBack.j0 k t353 t354 t355 true l0_0 l0_1 l0_2 l0_3) = some r := by rw [if_neg (show ¬ (false = true) by decide)] at H; exact H
              clear H
              have H := H1
              clear H1
              have H' := Aside0.mk H
              clear H
              have hcz22_0 : w16.cell? ⟨gb351, 0, none⟩ = some (.slice A0_0 l0_0.length c0_0) := (blk_cell BK351.out 0).trans rfl
              have hcz22_1 : w16.cell? ⟨gb351, 1, none⟩ = some (.slice A0_1 l0_1.length c0_1) := (blk_cell BK351.out 1).trans rfl
              have hcz22_2 : w16.cell? ⟨gb351, 2, none⟩ = some (.slice A0_2 l0_2.length c0_2) := (blk_cell BK351.out 2).trans rfl
              have hcz22_3 : w16.cell? ⟨gb351, 3, none⟩ = some (.slice A0_3 l0_3.length c0_3) := (blk_cell BK351.out 3).trans rfl
              have hfz22_0 := blk_frozen BK351.out 0
              have hfz22_1 := blk_frozen BK351.out 1
              have hfz22_2 := blk_frozen BK351.out 2
              have hfz22_3 := blk_frozen BK351.out 3
              obtain ⟨Ao23, co23, eo23⟩ := Kd.R_slice HO363.out
              subst eo23
              go_wp2_with (first | (go_at_call 21; (with_reducible refine (churnlaw12_same.calls k _ _ t360 _ _ l0_1 false _ ?side1 ?side2 ?side3 ?side4 A18.out).mono ?_); (case side1 => repeat (first | exact (Kd.R_reads' HO363.out).2.2 | (with_reducible refine Kd.C_alloc ?_ _) | (with_reducible refine Kd.C_drewN ?_ _) | (with_reducible refine Kd.C_drew ?_))); (case side2 => exact (Kd.R_reads' HO363.out).2.1); (case side3 => repeat (first | exact (Kd.C_below HR0_1.out HB.out) | (with_reducible refine Kd.C_alloc ?_ _) | (with_reducible refine Kd.C_drewN ?_ _) | (with_reducible refine Kd.C_drew ?_))); (case side4 => exact HC0_1.out); rintro e w' ⟨rfl, ⟨nd, rfl⟩⟩))
              go_meet
              case rel => exact ⟨_, (true), (by first | rfl | (simp; done) | (simp [*]; done)), H', ⟨by first | omega | exact Nat.le_refl _⟩, ⟨by (with_reducible repeat (first | apply Kd.R_alloc | apply Kd.R_drewN | apply Kd.R_drew)); exact Kd.R_mono HO357.out (fun _ hk => hk.1)⟩, ⟨by (with_reducible repeat (first | apply Kd.R_alloc | apply Kd.R_drewN | apply Kd.R_drew)); exact Kd.R_mono HO359.out (fun _ hk => hk.1)⟩, ⟨by (with_reducible repeat (first | refine blk_drewN ?_ _ | refine blk_drew ?_ | refine blk_alloc ?_ _)); exact BK351.out⟩, ⟨by repeat (first | (with_reducible first | exact HB.out | apply below_alloc | apply pw_below_drewN | apply below_drew1 | refine below_set ?_ GE351.out) | exact HB.out)⟩⟩
          · rw [if_neg c17] at H
            have c17b0 : (t361 == 0) = false := beq_eq_false_iff_ne.mpr c17
            have c17b1 : (t361 != 0) = true := bne_iff_ne.mpr c17
            (first | rw [c17b0] | (simp only [i64_w, i32_w]; rw [c17b0]) | skip)
            have H' := Aside0.mk H
            clear H
            go_wp2
            go_meet
            case rel => exact ⟨_, (true), (by first | rfl | (simp; done) | (simp [*]; done)), H', ⟨by first | omega | exact Nat.le_refl _⟩, ⟨by (with_reducible repeat (first | apply Kd.R_alloc | apply Kd.R_drewN | apply Kd.R_drew)); exact Kd.R_mono HO357.out (fun _ hk => hk.1)⟩, ⟨by (with_reducible repeat (first | apply Kd.R_alloc | apply Kd.R_drewN | apply Kd.R_drew)); exact Kd.R_mono HO359.out (fun _ hk => hk.1)⟩, ⟨by (with_reducible repeat (first | refine blk_drewN ?_ _ | refine blk_drew ?_ | refine blk_alloc ?_ _)); exact BK351.out⟩, ⟨by repeat (first | (with_reducible first | exact HB.out | apply below_alloc | apply pw_below_drewN | apply below_drew1 | refine below_set ?_ GE351.out) | exact HB.out)⟩⟩
        case rest =>
          clear HC12
          try clear c1
          try clear c2
          try clear p2
          try clear c3
          try clear c6
          try clear c10
          try clear c10b0
          try clear c10b1
          try clear c16
          try clear c17
          try clear c17b0
          try clear c17b1
          try clear c19
          try clear hcz13_0
          try clear hcz13_1
          try clear hcz13_2
          try clear hcz13_3
          try clear hcz20_0
          try clear hcz20_1
          try clear hcz20_2
          try clear hcz20_3
          try clear hcz22_0
          try clear hcz22_1
          try clear hcz22_2
          try clear hcz22_3
          try clear hcz8_0
          try clear hcz8_1
          try clear hcz8_2
          try clear hcz8_3
          try clear hfz13_0
          try clear hfz13_1
          try clear hfz13_2
          try clear hfz13_3
          try clear hfz20_0
          try clear hfz20_1
          try clear hfz20_2
          try clear hfz20_3
          try clear hfz22_0
          try clear hfz22_1
          try clear hfz22_2
          try clear hfz22_3
          try clear hfz8_0
          try clear hfz8_1
          try clear hfz8_2
          try clear hfz8_3
          obtain ⟨kq, x53_11, rfl, HA, HJ11, HO_3, HO_4, BK351, HB⟩ := hcut
          cases kq with
          | zero => exact absurd HA.out (by simp [churnlaw12_BraidBack.j0])
          | succ kj11 =>
            have H := HA.out
            clear HA
            simp only [churnlaw12_BraidBack.j0] at H
            by_cases c24 : x53_11 = true
            · subst c24
              have H1 : (some false) = some r := by rw [if_pos rfl] at H; exact H
              clear H
              have H := H1
              clear H1
              obtain rfl := Option.some.inj H
              go_wp2
              go_ret
              exact ⟨by first | rfl | (simp [errW_none, errW_some] <;> rfl) | (simp [*, errW_none, errW_some] <;> rfl), by repeat (first | (with_reducible first | exact HB.out | apply below_alloc | apply pw_below_drewN | apply below_drew1 | refine below_set ?_ GE351.out) | exact HB.out)⟩
            · replace c24 := Bool.eq_false_iff.mpr c24
              subst c24
              have H1 : (churnlaw12_BraidBack.l0 kj11 t353 t354 t355 l0_0 (l0_0.length : Int) 0 l0_0 l0_1 l0_2 l0_3) = some r := by rw [if_neg (show ¬ (false = true) by decide)] at H; exact H
              clear H
              have H := H1
              clear H1
              have H' := Aside0.mk H
              clear H
              have hcz25_0 : wc.cell? ⟨gb351, 0, none⟩ = some (.slice A0_0 l0_0.length c0_0) := (blk_cell BK351.out 0).trans rfl
              have hcz25_1 : wc.cell? ⟨gb351, 1, none⟩ = some (.slice A0_1 l0_1.length c0_1) := (blk_cell BK351.out 1).trans rfl
              have hcz25_2 : wc.cell? ⟨gb351, 2, none⟩ = some (.slice A0_2 l0_2.length c0_2) := (blk_cell BK351.out 2).trans rfl
              have hcz25_3 : wc.cell? ⟨gb351, 3, none⟩ = some (.slice A0_3 l0_3.length c0_3) := (blk_cell BK351.out 3).trans rfl
              have hfz25_0 := blk_frozen BK351.out 0
              have hfz25_1 := blk_frozen BK351.out 1
              have hfz25_2 := blk_frozen BK351.out 2
              have hfz25_3 := blk_frozen BK351.out 3
              go_wp2
              go_loopg [57] kj11 (fun kq v57 w' => ∃ (x57_2 : Int), v57 = .int .i64 x57_2 ∧ Aside0 (churnlaw12_BraidBack.l0 kq t353 t354 t355 l0_0 (l0_0.length : Int) x57_2 l0_0 l0_1 l0_2 l0_3 = some r) ∧ Aside0 (kq ≤ kj11) ∧ Aside0 (Kd.R (Kd.int .i64) 3 w' w.heap.size (fun k_ => some k_ ≠ ((.slice Ao15 t354.length co15) : Value).ownBlock) (.slice Ao14 t353.length co14) t353) ∧ Aside0 (Kd.R (Kd.int .i64) 3 w' w.heap.size (fun k_ => some k_ ≠ ((.slice Ao14 t353.length co14) : Value).ownBlock) (.slice Ao15 t354.length co15) t354) ∧ Aside0 (w'.heap[gb351]? = some (.cells #[(.slice A0_0 l0_0.length c0_0), (.slice A0_1 l0_1.length c0_1), (.slice A0_2 l0_2.length c0_2), (.slice A0_3 l0_3.length c0_3)] 52 (0, 0))) ∧ Aside0 (Below w.heap.size w w'))
              case atStart => exact ⟨(0), (by first | rfl | (simp; done) | (simp [*]; done)), H', ⟨Nat.le_refl _⟩, ⟨by (with_reducible repeat (first | apply Kd.R_alloc | apply Kd.R_drewN | apply Kd.R_drew)); exact HO_3.out⟩, ⟨by (with_reducible repeat (first | apply Kd.R_alloc | apply Kd.R_drewN | apply Kd.R_drew)); exact HO_4.out⟩, ⟨by (with_reducible repeat (first | refine blk_drewN ?_ _ | refine blk_drew ?_ | refine blk_alloc ?_ _)); exact BK351.out⟩, ⟨by repeat (first | (with_reducible first | exact HB.out | apply below_alloc | apply pw_below_drewN | apply below_drew1 | refine below_set ?_ GE351.out) | exact HB.out)⟩⟩
              case round =>
                clear H'
                try clear c1
                try clear c2
                try clear p2
                try clear c3
                try clear c6
                try clear c10
                try clear c10b0
                try clear c10b1
                try clear c16
                try clear c17
                try clear c17b0
                try clear c17b1
                try clear c19
                try clear c24
                try clear c25
                try clear hcz13_0
                try clear hcz13_1
                try clear hcz13_2
                try clear hcz13_3
                try clear hcz20_0
                try clear hcz20_1
                try clear hcz20_2
                try clear hcz20_3
                try clear hcz22_0
                try clear hcz22_1
                try clear hcz22_2
                try clear hcz22_3
                try clear hcz25_0
                try clear hcz25_1
                try clear hcz25_2
                try clear hcz25_3
                try clear hcz8_0
                try clear hcz8_1
                try clear hcz8_2
                try clear hcz8_3
                try clear hfz13_0
                try clear hfz13_1
                try clear hfz13_2
                try clear hfz13_3
                try clear hfz20_0
                try clear hfz20_1
                try clear hfz20_2
                try clear hfz20_3
                try clear hfz22_0
                try clear hfz22_1
                try clear hfz22_2
                try clear hfz22_3
                try clear hfz25_0
                try clear hfz25_1
                try clear hfz25_2
                try clear hfz25_3
                try clear hfz8_0
                try clear hfz8_1
                try clear hfz8_2
                try clear hfz8_3
                try clear p2
                obtain ⟨x57_2, rfl, HA, HK2, HO_3, HO_4, BK351, HB⟩ := hrel
                cases gk with
                | zero => exact absurd HA.out (by simp [churnlaw12_BraidBack.l0])
                | succ k2 =>
                  have H := HA.out
                  clear HA
                  simp only [churnlaw12_BraidBack.l0] at H
                  by_cases c26 : x57_2 < (l0_0.length : Int)
                  · rw [if_pos c26] at H
                    have c26b0 : decide (x57_2 < (l0_0.length : Int)) = true := decide_eq_true c26
                    clear c26
                    by_cases c27 : 0 ≤ x57_2
                    · rw [if_pos c27] at H
                      have c27b0 : decide (0 ≤ x57_2) = true := decide_eq_true c27
                      clear c27
                      by_cases c28 : x57_2 < (l0_0.length : Int)
                      · rw [if_pos c28] at H
                        have c28b0 : decide (x57_2 < (l0_0.length : Int)) = true := decide_eq_true c28
                        clear c28
                        have H' := Aside0.mk H
                        clear H
                        have p365 : 0 ≤ (x57_2 : Int) := of_decide_eq_true (by first | (with_reducible assumption) | assumption)
                        have q365 : x57_2 < (l0_0.length : Int) := of_decide_eq_true (by first | (with_reducible assumption) | assumption)
                        obtain ⟨ad365, e365, hx365_0⟩ := Kd.at_int HR0_0.out x57_2 p365 q365
                        cases e365
                        (try (replace hx365_0 := (HB.out.cell (World.block_lt_of_cell? w _ hx365_0)).trans hx365_0))
                        replace p365 := eq_true p365
                        replace q365 := eq_true q365
                        go_wp2
                        go_loopg [9, 64] k2 (fun kq v9 v64 w' => ∃ (x9_3 : Int) (x64_3 : Int), v9 = .int .i64 x9_3 ∧ v64 = .int .i64 x64_3 ∧ Aside0 (churnlaw12_BraidBack.l1 kq t353 t354 t355 x57_2 x9_3 l0_0 (l0_0.length : Int) x57_2 t353 (t353.length : Int) x64_3 l0_0 l0_1 l0_2 l0_3 = some r) ∧ Aside0 (kq ≤ k2) ∧ Aside0 (Kd.R (Kd.int .i64) 3 w' w.heap.size (fun k_ => some k_ ≠ ((.slice Ao15 t354.length co15) : Value).ownBlock) (.slice Ao14 t353.length co14) t353) ∧ Aside0 (Kd.R (Kd.int .i64) 3 w' w.heap.size (fun k_ => some k_ ≠ ((.slice Ao14 t353.length co14) : Value).ownBlock ∧ some k_ ≠ ((.slice Ao14 t353.length co14) : Value).ownBlock) (.slice Ao15 t354.length co15) t354) ∧ Aside0 (Kd.R (Kd.int .i64) 3 w' w.heap.size (fun k_ => some k_ ≠ ((.slice Ao15 t354.length co15) : Value).ownBlock) (.slice Ao14 t353.length co14) t353) ∧ Aside0 (w'.heap[gb351]? = some (.cells #[(.slice (some ad365) l0_0.length c0_0), (.slice A0_1 l0_1.length c0_1), (.slice A0_2 l0_2.length c0_2), (.slice A0_3 l0_3.length c0_3)] 52 (0, 0))) ∧ Aside0 (Below w.heap.size w w'))
                        case atStart => exact ⟨(rd l0_0 x57_2), (0), (by first | rfl | (simp; done) | (simp [*]; done)), (by first | rfl | (simp; done) | (simp [*]; done)), H', ⟨Nat.le_refl _⟩, ⟨by (with_reducible repeat (first | apply Kd.R_alloc | apply Kd.R_drewN | apply Kd.R_drew)); exact HO_3.out⟩, ⟨by (with_reducible repeat (first | apply Kd.R_alloc | apply Kd.R_drewN | apply Kd.R_drew)); exact Kd.R_mono HO_4.out (fun _ hk => ⟨hk, hk⟩)⟩, ⟨by (with_reducible repeat (first | apply Kd.R_alloc | apply Kd.R_drewN | apply Kd.R_drew)); exact HO_3.out⟩, ⟨by (with_reducible repeat (first | refine blk_drewN ?_ _ | refine blk_drew ?_ | refine blk_alloc ?_ _)); exact BK351.out⟩, ⟨by repeat (first | (with_reducible first | exact HB.out | apply below_alloc | apply pw_below_drewN | apply below_drew1 | refine below_set ?_ GE351.out) | exact HB.out)⟩⟩
                        case round =>
                          clear H'
                          try clear c1
                          try clear c2
                          try clear p2
                          try clear c3
                          try clear p3
                          try clear q3
                          try clear hx3
                          try clear c6
                          try clear c10
                          try clear c10b0
                          try clear c10b1
                          try clear c16
                          try clear c17
                          try clear c17b0
                          try clear c17b1
                          try clear c19
                          try clear c24
                          try clear c25
                          try clear c26
                          try clear c26b0
                          try clear c27
                          try clear c27b0
                          try clear c28
                          try clear c28b0
                          try clear hcz13_0
                          try clear hcz13_1
                          try clear hcz13_2
                          try clear hcz13_3
                          try clear hcz20_0
                          try clear hcz20_1
                          try clear hcz20_2
                          try clear hcz20_3
                          try clear hcz22_0
                          try clear hcz22_1
                          try clear hcz22_2
                          try clear hcz22_3
                          try clear hcz25_0
                          try clear hcz25_1
                          try clear hcz25_2
                          try clear hcz25_3
                          try clear hcz8_0
                          try clear hcz8_1
                          try clear hcz8_2
                          try clear hcz8_3
                          try clear hfz13_0
                          try clear hfz13_1
                          try clear hfz13_2
                          try clear hfz13_3
                          try clear hfz20_0
                          try clear hfz20_1
                          try clear hfz20_2
                          try clear hfz20_3
                          try clear hfz22_0
                          try clear hfz22_1
                          try clear hfz22_2
                          try clear hfz22_3
                          try clear hfz25_0
                          try clear hfz25_1
                          try clear hfz25_2
                          try clear hfz25_3
                          try clear hfz8_0
                          try clear hfz8_1
                          try clear hfz8_2
                          try clear hfz8_3
                          try clear hx365_0
                          try clear p2
                          try clear p365
                          try clear q365
                          obtain ⟨x9_3, x64_3, rfl, rfl, HA, HK3, HO_3, HO_4, HO_62, BK351, HB⟩ := hrel
                          cases gk with
                          | zero => exact absurd HA.out (by simp [churnlaw12_BraidBack.l1])
                          | succ k3 =>
                            have H := HA.out
                            clear HA
                            simp only [churnlaw12_BraidBack.l1] at H
                            by_cases c29 : x64_3 < (t353.length : Int)
                            · rw [if_pos c29] at H
                              have c29b0 : decide (x64_3 < (t353.length : Int)) = true := decide_eq_true c29
                              clear c29
                              by_cases c30 : 0 ≤ x64_3
                              · rw [if_pos c30] at H
                                have c30b0 : decide (0 ≤ x64_3) = true := decide_eq_true c30
                                clear c30
                                by_cases c31 : x64_3 < (t353.length : Int)
                                · rw [if_pos c31] at H
                                  have c31b0 : decide (x64_3 < (t353.length : Int)) = true := decide_eq_true c31
                                  clear c31
                                  by_cases c32 : (rd t353 x64_3) = x57_2
                                  · rw [if_pos c32] at H
                                    have c32b0 : ((rd t353 x64_3) == x57_2) = true := beq_iff_eq.mpr c32
                                    have c32b1 : ((rd t353 x64_3) != x57_2) = false := bne_eq_false_iff_eq.mpr c32
                                    clear c32
                                    have H' := Aside0.mk H
                                    clear H
                                    have p366 : 0 ≤ (x64_3 : Int) := of_decide_eq_true (by first | (with_reducible assumption) | assumption)
                                    have q366 : x64_3 < (t353.length : Int) := of_decide_eq_true (by first | (with_reducible assumption) | assumption)
                                    obtain ⟨ad366, e366, hx366_0⟩ := Kd.at_int (Kd.R_reads' HO_62.out).2.2 x64_3 p366 q366
                                    cases e366
                                    replace p366 := eq_true p366
                                    replace q366 := eq_true q366
                                    go_wp2
                                    go_roundg k3
                                    case measure => have := HJ11.out; have := HK2.out; have := HK3.out; omega
                                    case rel => exact ⟨(wrap64 (x9_3 - 1)), (wrap64 (x64_3 + 1)), (by first | rfl | (simp; done) | (simp [*]; done)), (by first | rfl | (simp; done) | (simp [*]; done)), H', ⟨by have := HJ11.out; have := HK2.out; have := HK3.out; omega⟩, ⟨by (with_reducible repeat (first | apply Kd.R_alloc | apply Kd.R_drewN | apply Kd.R_drew)); exact HO_3.out⟩, ⟨by (with_reducible repeat (first | apply Kd.R_alloc | apply Kd.R_drewN | apply Kd.R_drew)); exact HO_4.out⟩, ⟨by (with_reducible repeat (first | apply Kd.R_alloc | apply Kd.R_drewN | apply Kd.R_drew)); exact HO_62.out⟩, ⟨by (with_reducible repeat (first | refine blk_drewN ?_ _ | refine blk_drew ?_ | refine blk_alloc ?_ _)); exact BK351.out⟩, ⟨by repeat (first | (with_reducible first | exact HB.out | apply below_alloc | apply pw_below_drewN | apply below_drew1 | refine below_set ?_ GE351.out) | exact HB.out)⟩⟩
                                  · rw [if_neg c32] at H
                                    have c32b0 : ((rd t353 x64_3) == x57_2) = false := beq_eq_false_iff_ne.mpr c32
                                    have c32b1 : ((rd t353 x64_3) != x57_2) = true := bne_iff_ne.mpr c32
                                    have H' := Aside0.mk H
                                    clear H
                                    have p366 : 0 ≤ (x64_3 : Int) := of_decide_eq_true (by first | (with_reducible assumption) | assumption)
                                    have q366 : x64_3 < (t353.length : Int) := of_decide_eq_true (by first | (with_reducible assumption) | assumption)
                                    obtain ⟨ad366, e366, hx366_0⟩ := Kd.at_int (Kd.R_reads' HO_62.out).2.2 x64_3 p366 q366
                                    cases e366
                                    replace p366 := eq_true p366
                                    replace q366 := eq_true q366
                                    go_wp2
                                    go_roundg k3
                                    case measure => have := HJ11.out; have := HK2.out; have := HK3.out; omega
                                    case rel => exact ⟨(x9_3), (wrap64 (x64_3 + 1)), (by first | rfl | (simp; done) | (simp [*]; done)), (by first | rfl | (simp; done) | (simp [*]; done)), H', ⟨by have := HJ11.out; have := HK2.out; have := HK3.out; omega⟩, ⟨by (with_reducible repeat (first | apply Kd.R_alloc | apply Kd.R_drewN | apply Kd.R_drew)); exact HO_3.out⟩, ⟨by (with_reducible repeat (first | apply Kd.R_alloc | apply Kd.R_drewN | apply Kd.R_drew)); exact HO_4.out⟩, ⟨by (with_reducible repeat (first | apply Kd.R_alloc | apply Kd.R_drewN | apply Kd.R_drew)); exact HO_62.out⟩, ⟨by (with_reducible repeat (first | refine blk_drewN ?_ _ | refine blk_drew ?_ | refine blk_alloc ?_ _)); exact BK351.out⟩, ⟨by repeat (first | (with_reducible first | exact HB.out | apply below_alloc | apply pw_below_drewN | apply below_drew1 | refine below_set ?_ GE351.out) | exact HB.out)⟩⟩
                                · rw [if_neg c31] at H
                                  exact absurd H (by simp)
                              · rw [if_neg c30] at H
                                exact absurd H (by simp)
                            · rw [if_neg c29] at H
                              have c29b0 : decide (x64_3 < (t353.length : Int)) = false := decide_eq_false c29
                              clear c29
                              by_cases c33 : x9_3 = 0
                              · rw [if_pos c33] at H
                                have c33b0 : (x9_3 == 0) = true := beq_iff_eq.mpr c33
                                have c33b1 : (x9_3 != 0) = false := bne_eq_false_iff_eq.mpr c33
                                clear c33
                                have H' := Aside0.mk H
                                clear H
                                go_wp2
                                go_roundg k3
                                case measure => have := HJ11.out; have := HK2.out; have := HK3.out; omega
                                case rel => exact ⟨(wrap64 (x57_2 + 1)), (by first | rfl | (simp; done) | (simp [*]; done)), H', ⟨by have := HJ11.out; have := HK2.out; have := HK3.out; omega⟩, ⟨by (with_reducible repeat (first | apply Kd.R_alloc | apply Kd.R_drewN | apply Kd.R_drew)); exact HO_3.out⟩, ⟨by (with_reducible repeat (first | apply Kd.R_alloc | apply Kd.R_drewN | apply Kd.R_drew)); exact Kd.R_mono HO_4.out (fun _ hk => hk.1)⟩, ⟨by (with_reducible repeat (first | refine blk_drewN ?_ _ | refine blk_drew ?_ | refine blk_alloc ?_ _)); exact BK351.out⟩, ⟨by repeat (first | (with_reducible first | exact HB.out | apply below_alloc | apply pw_below_drewN | apply below_drew1 | refine below_set ?_ GE351.out) | exact HB.out)⟩⟩
                              · rw [if_neg c33] at H
                                have c33b0 : (x9_3 == 0) = false := beq_eq_false_iff_ne.mpr c33
                                have c33b1 : (x9_3 != 0) = true := bne_iff_ne.mpr c33
                                obtain rfl := Option.some.inj H
                                go_wp2
                                go_ret
                                exact ⟨by first | rfl | (simp [errW_none, errW_some] <;> rfl) | (simp [*, errW_none, errW_some] <;> rfl), by repeat (first | (with_reducible first | exact HB.out | apply below_alloc | apply pw_below_drewN | apply below_drew1 | refine below_set ?_ GE351.out) | exact HB.out)⟩
                      · rw [if_neg c28] at H
                        exact absurd H (by simp)
                    · rw [if_neg c27] at H
                      exact absurd H (by simp)
                  · rw [if_neg c26] at H
                    have c26b0 : decide (x57_2 < (l0_0.length : Int)) = false := decide_eq_false c26
                    clear c26
                    have H' := Aside0.mk H
                    clear H
                    go_wp2
                    go_meet
                    case rel => exact ⟨_, H', ⟨by have := HJ11.out; have := HK2.out; first | omega | exact Nat.le_refl _⟩, ⟨by (with_reducible repeat (first | apply Kd.R_alloc | apply Kd.R_drewN | apply Kd.R_drew)); exact HO_3.out⟩, ⟨by (with_reducible repeat (first | apply Kd.R_alloc | apply Kd.R_drewN | apply Kd.R_drew)); exact HO_4.out⟩, ⟨by (with_reducible repeat (first | refine blk_drewN ?_ _ | refine blk_drew ?_ | refine blk_alloc ?_ _)); exact BK351.out⟩, ⟨by repeat (first | (with_reducible first | exact HB.out | apply below_alloc | apply pw_below_drewN | apply below_drew1 | refine below_set ?_ GE351.out) | exact HB.out)⟩⟩
      · rw [if_neg c10] at H
        have c10b0 : (t355 == 0) = false := beq_eq_false_iff_ne.mpr c10
        have c10b1 : (t355 != 0) = true := bne_iff_ne.mpr c10
        (first | rw [c10b0] | (simp only [i64_w, i32_w]; rw [c10b0]) | skip)
        have H' := Aside0.mk H
        clear H
        go_wp2
        go_meet
        case rel => exact ⟨_, H', ⟨by first | omega | exact Nat.le_refl _⟩, ⟨by (with_reducible repeat (first | apply Kd.R_alloc | apply Kd.R_drewN | apply Kd.R_drew)); exact HO357.out⟩, ⟨by (with_reducible repeat (first | apply Kd.R_alloc | apply Kd.R_drewN | apply Kd.R_drew)); exact HO359.out⟩, ⟨by (with_reducible repeat (first | refine blk_drewN ?_ _ | refine blk_drew ?_ | refine blk_alloc ?_ _)); exact BK351.out⟩, ⟨by repeat (first | (with_reducible first | exact HB.out | apply below_alloc | apply pw_below_drewN | apply below_drew1 | refine below_set ?_ GE351.out) | exact HB.out)⟩⟩
    case rest =>
      clear HC5
      try clear c1
      try clear c2
      try clear p2
      try clear c3
      try clear p3
      try clear q3
      try clear hx3
      try clear c6
      try clear p6
      try clear c10
      try clear c10b0
      try clear c10b1
      try clear c16
      try clear c17
      try clear c17b0
      try clear c17b1
      try clear c19
      try clear c24
      try clear c25
      try clear c26
      try clear c26b0
      try clear c27
      try clear c27b0
      try clear c28
      try clear c28b0
      try clear c29
      try clear c29b0
      try clear c30
      try clear c30b0
      try clear c31
      try clear c31b0
      try clear c32
      try clear c32b0
      try clear c32b1
      try clear c33
      try clear c33b0
      try clear c33b1
      try clear hcz13_0
      try clear hcz13_1
      try clear hcz13_2
      try clear hcz13_3
      try clear hcz20_0
      try clear hcz20_1
      try clear hcz20_2
      try clear hcz20_3
      try clear hcz22_0
      try clear hcz22_1
      try clear hcz22_2
      try clear hcz22_3
      try clear hcz25_0
      try clear hcz25_1
      try clear hcz25_2
      try clear hcz25_3
      try clear hcz8_0
      try clear hcz8_1
      try clear hcz8_2
      try clear hcz8_3
      try clear hfz13_0
      try clear hfz13_1
      try clear hfz13_2
      try clear hfz13_3
      try clear hfz20_0
      try clear hfz20_1
      try clear hfz20_2
      try clear hfz20_3
      try clear hfz22_0
      try clear hfz22_1
      try clear hfz22_2
      try clear hfz22_3
      try clear hfz25_0
      try clear hfz25_1
      try clear hfz25_2
      try clear hfz25_3
      try clear hfz8_0
      try clear hfz8_1
      try clear hfz8_2
      try clear hfz8_3
      try clear hx365_0
      try clear hx366_0
      try clear p2
      try clear p3
      try clear p365
      try clear p366
      try clear q3
      try clear q365
      try clear q366
      obtain ⟨kq, HA, HJ4, HO_3, HO_4, BK351, HB⟩ := hcut
      cases kq with
      | zero => exact absurd HA.out (by simp [churnlaw12_BraidBack.j3])
      | succ kj4 =>
        have H := HA.out
        clear HA
        simp only [churnlaw12_BraidBack.j3] at H
        replace H := Option.bind_eq_some_iff.mp H
        obtain ⟨⟨t367, t368⟩, A340, H⟩ := H
        replace H : (if t368 = 0 then (churnlaw12_BraidBack.l2 kj4 t367 t367 (t367.length : Int) 0 l0_0 l0_1 l0_2 l0_3) else (if t368 = 2 then (if (t367.length : Int) = 0 then (if t355 = 0 then (some true) else (if t355 = 2 then (some ((wrap64 ((t353.length : Int) + (t354.length : Int))) == 0)) else (some false))) else (some false)) else (some false))) = some r := H
        have A34 := Aside0.mk A340
        clear A340
        by_cases c35 : t368 = 0
        · rw [if_pos c35] at H
          have c35b0 : (t368 == 0) = true := beq_iff_eq.mpr c35
          have c35b1 : (t368 != 0) = false := bne_eq_false_iff_eq.mpr c35
          clear c35
          have H' := Aside0.mk H
          clear H
          have hcz36_0 : wc.cell? ⟨gb351, 0, none⟩ = some (.slice A0_0 l0_0.length c0_0) := (blk_cell BK351.out 0).trans rfl
          have hcz36_1 : wc.cell? ⟨gb351, 1, none⟩ = some (.slice A0_1 l0_1.length c0_1) := (blk_cell BK351.out 1).trans rfl
          have hcz36_2 : wc.cell? ⟨gb351, 2, none⟩ = some (.slice A0_2 l0_2.length c0_2) := (blk_cell BK351.out 2).trans rfl
          have hcz36_3 : wc.cell? ⟨gb351, 3, none⟩ = some (.slice A0_3 l0_3.length c0_3) := (blk_cell BK351.out 3).trans rfl
          have hfz36_0 := blk_frozen BK351.out 0
          have hfz36_1 := blk_frozen BK351.out 1
          have hfz36_2 := blk_frozen BK351.out 2
          have hfz36_3 := blk_frozen BK351.out 3
          go_wp2_with (first | ((with_reducible refine gate_callee (f := 26) rfl ?_); refine goesL_ (some 84) rfl rfl Try.func26 (by kernel_rfl) rfl #[.slice A0_0 l0_0.length c0_0, .slice A0_2 l0_2.length c0_2, .slice A0_3 l0_3.length c0_3] rfl (by (try simp only [List.map_toArray, List.map_cons, List.map_nil]); first | done | rfl | (simp only [List.length_drop, List.length_take]; rfl)) ?_; (with_reducible refine (braid_Draws.calls kj4 _ _ l0_0 _ _ l0_2 _ _ l0_3 t367 t368 _ ?side1 ?side2 ?side3 ?side4 ?side5 ?side6 A34.out).mono ?_); (case side1 => repeat (first | exact (Kd.C_below HR0_0.out HB.out) | (with_reducible refine Kd.C_alloc ?_ _) | (with_reducible refine Kd.C_drewN ?_ _) | (with_reducible refine Kd.C_drew ?_))); (case side2 => exact HC0_0.out); (case side3 => repeat (first | exact (Kd.C_below HR0_2.out HB.out) | (with_reducible refine Kd.C_alloc ?_ _) | (with_reducible refine Kd.C_drewN ?_ _) | (with_reducible refine Kd.C_drew ?_))); (case side4 => exact HC0_2.out); (case side5 => repeat (first | exact (Kd.C_below HR0_3.out HB.out) | (with_reducible refine Kd.C_alloc ?_ _) | (with_reducible refine Kd.C_drewN ?_ _) | (with_reducible refine Kd.C_drew ?_))); (case side6 => exact HC0_3.out); rintro e w37 ⟨v369, rfl, ho0, hb⟩; refine ⟨_, rfl, ?_⟩; have n0_ := Aside0.mk (Kd.R_elder' (by (with_reducible repeat (first | apply Kd.R_alloc | apply Kd.R_drewN | apply Kd.R_drew)); exact HO_3.out) (Kd.R_base ho0) hb); have n1_ := Aside0.mk (Kd.R_elder' (by (with_reducible repeat (first | apply Kd.R_alloc | apply Kd.R_drewN | apply Kd.R_drew)); exact HO_4.out) (Kd.R_base ho0) hb); have n2_ := Aside0.mk (Kd.R_lower (Kd.R_new' (Kd.R_new' ho0 (Kd.R_lt (by (with_reducible repeat (first | apply Kd.R_alloc | apply Kd.R_drewN | apply Kd.R_drew)); exact HO_3.out))) (Kd.R_lt (by (with_reducible repeat (first | apply Kd.R_alloc | apply Kd.R_drewN | apply Kd.R_drew)); exact HO_4.out))) (below_size (by repeat (first | (with_reducible first | exact HB.out | apply below_alloc | apply pw_below_drewN | apply below_drew1 | refine below_set ?_ GE351.out) | exact HB.out)))); have n3_ := Aside0.mk (blk_below (g := gb351) (o := .cells #[.slice A0_0 l0_0.length c0_0, .slice A0_1 l0_1.length c0_1, .slice A0_2 l0_2.length c0_2, .slice A0_3 l0_3.length c0_3] 52 (0, 0)) (by (with_reducible repeat (first | refine blk_drewN ?_ _ | refine blk_drew ?_ | refine blk_alloc ?_ _)); exact BK351.out) hb); have n4_ := Aside0.mk (below_step (by repeat (first | (with_reducible first | exact HB.out | apply below_alloc | apply pw_below_drewN | apply below_drew1 | refine below_set ?_ GE351.out) | exact HB.out)) hb); clear HO_3; clear HO_4; clear BK351; clear HB; have HO_3 := n0_; have HO_4 := n1_; have HO370 := n2_; have BK351 := n3_; have HB := n4_; clear n0_ n1_ n2_ n3_ n4_; (try clear hb); (try clear hb2); (try clear hk); (try clear hi); (try clear ho0); obtain ⟨Ao38, co38, eo38⟩ := Kd.R_slice HO370.out; subst eo38))
          go_loopg [114] kj4 (fun kq v114 w' => ∃ (x114_2 : Int), v114 = .int .i64 x114_2 ∧ Aside0 (churnlaw12_BraidBack.l2 kq t367 t367 (t367.length : Int) x114_2 l0_0 l0_1 l0_2 l0_3 = some r) ∧ Aside0 (kq ≤ kj4) ∧ Aside0 (Kd.R (Kd.int .i64) 3 w' w.heap.size (fun _ => True) (.slice Ao38 t367.length co38) t367) ∧ Aside0 (Kd.R (Kd.int .i64) 3 w' w.heap.size (fun _ => True) (.slice Ao38 t367.length co38) t367) ∧ Aside0 (w'.heap[gb351]? = some (.cells #[(.slice A0_0 l0_0.length c0_0), (.slice A0_1 l0_1.length c0_1), (.slice A0_2 l0_2.length c0_2), (.slice A0_3 l0_3.length c0_3)] 52 (0, 0))) ∧ Aside0 (Below w.heap.size w w'))
          case atStart => exact ⟨(0), (by first | rfl | (simp; done) | (simp [*]; done)), H', ⟨Nat.le_refl _⟩, ⟨by (with_reducible repeat (first | apply Kd.R_alloc | apply Kd.R_drewN | apply Kd.R_drew)); exact Kd.R_mono HO370.out (fun _ hk => trivial)⟩, ⟨by (with_reducible repeat (first | apply Kd.R_alloc | apply Kd.R_drewN | apply Kd.R_drew)); exact Kd.R_mono HO370.out (fun _ hk => trivial)⟩, ⟨by (with_reducible repeat (first | refine blk_drewN ?_ _ | refine blk_drew ?_ | refine blk_alloc ?_ _)); exact BK351.out⟩, ⟨by repeat (first | (with_reducible first | exact HB.out | apply below_alloc | apply pw_below_drewN | apply below_drew1 | refine below_set ?_ GE351.out) | exact HB.out)⟩⟩
          case round =>
            clear H'
            try clear c1
            try clear c2
            try clear p2
            try clear c3
            try clear p3
            try clear q3
            try clear hx3
            try clear c6
            try clear p6
            try clear c10
            try clear c10b0
            try clear c10b1
            try clear c16
            try clear c17
            try clear c17b0
            try clear c17b1
            try clear c19
            try clear c24
            try clear c25
            try clear c26
            try clear c26b0
            try clear c27
            try clear c27b0
            try clear c28
            try clear c28b0
            try clear c29
            try clear c29b0
            try clear c30
            try clear c30b0
            try clear c31
            try clear c31b0
            try clear c32
            try clear c32b0
            try clear c32b1
            try clear c33
            try clear c33b0
            try clear c33b1
            try clear c35
            try clear c35b0
            try clear c35b1
            try clear p36
            try clear q36
            try clear hx36
            try clear hcz13_0
            try clear hcz13_1
            try clear hcz13_2
            try clear hcz13_3
            try clear hcz20_0
            try clear hcz20_1
            try clear hcz20_2
            try clear hcz20_3
            try clear hcz22_0
            try clear hcz22_1
            try clear hcz22_2
            try clear hcz22_3
            try clear hcz25_0
            try clear hcz25_1
            try clear hcz25_2
            try clear hcz25_3
            try clear hcz36_0
            try clear hcz36_1
            try clear hcz36_2
            try clear hcz36_3
            try clear hcz8_0
            try clear hcz8_1
            try clear hcz8_2
            try clear hcz8_3
            try clear hfz13_0
            try clear hfz13_1
            try clear hfz13_2
            try clear hfz13_3
            try clear hfz20_0
            try clear hfz20_1
            try clear hfz20_2
            try clear hfz20_3
            try clear hfz22_0
            try clear hfz22_1
            try clear hfz22_2
            try clear hfz22_3
            try clear hfz25_0
            try clear hfz25_1
            try clear hfz25_2
            try clear hfz25_3
            try clear hfz36_0
            try clear hfz36_1
            try clear hfz36_2
            try clear hfz36_3
            try clear hfz8_0
            try clear hfz8_1
            try clear hfz8_2
            try clear hfz8_3
            try clear hx365_0
            try clear hx366_0
            try clear p2
            try clear p3
            try clear p365
            try clear p366
            try clear p6
            try clear q3
            try clear q365
            try clear q366
            obtain ⟨x114_2, rfl, HA, HK2, HO_12, HO_112, BK351, HB⟩ := hrel
            cases gk with
            | zero => exact absurd HA.out (by simp [churnlaw12_BraidBack.l2])
            | succ k2 =>
              have H := HA.out
              clear HA
              simp only [churnlaw12_BraidBack.l2] at H
              by_cases c39 : x114_2 < (t367.length : Int)
              · rw [if_pos c39] at H
                have c39b0 : decide (x114_2 < (t367.length : Int)) = true := decide_eq_true c39
                clear c39
                by_cases c40 : 0 ≤ x114_2
                · rw [if_pos c40] at H
                  have c40b0 : decide (0 ≤ x114_2) = true := decide_eq_true c40
                  clear c40
                  by_cases c41 : x114_2 < (t367.length : Int)
                  · rw [if_pos c41] at H
                    have c41b0 : decide (x114_2 < (t367.length : Int)) = true := decide_eq_true c41
                    clear c41
                    by_cases c42 : (rd t367 x114_2) < 0
                    · rw [if_pos c42] at H
                      have c42b0 : decide ((rd t367 x114_2) < 0) = true := decide_eq_true c42
                      clear c42
                      obtain rfl := Option.some.inj H
                      have p371 : 0 ≤ (x114_2 : Int) := of_decide_eq_true (by first | (with_reducible assumption) | assumption)
                      have q371 : x114_2 < (t367.length : Int) := of_decide_eq_true (by first | (with_reducible assumption) | assumption)
                      obtain ⟨ad371, e371, hx371_0⟩ := Kd.at_int (Kd.R_reads' HO_112.out).2.2 x114_2 p371 q371
                      cases e371
                      replace p371 := eq_true p371
                      replace q371 := eq_true q371
                      go_wp2
                      go_ret
                      exact ⟨by first | rfl | (simp [errW_none, errW_some] <;> rfl) | (simp [*, errW_none, errW_some] <;> rfl), by repeat (first | (with_reducible first | exact HB.out | apply below_alloc | apply pw_below_drewN | apply below_drew1 | refine below_set ?_ GE351.out) | exact HB.out)⟩
                    · rw [if_neg c42] at H
                      have c42b0 : decide ((rd t367 x114_2) < 0) = false := decide_eq_false c42
                      clear c42
                      by_cases c43 : (rd t367 x114_2) ≥ (wrap64 ((t367.length : Int) - x114_2))
                      · rw [if_pos c43] at H
                        have c43b0 : decide ((wrap64 ((t367.length : Int) - x114_2)) ≤ (rd t367 x114_2)) = true := decide_eq_true c43
                        clear c43
                        obtain rfl := Option.some.inj H
                        have p371 : 0 ≤ (x114_2 : Int) := of_decide_eq_true (by first | (with_reducible assumption) | assumption)
                        have q371 : x114_2 < (t367.length : Int) := of_decide_eq_true (by first | (with_reducible assumption) | assumption)
                        obtain ⟨ad371, e371, hx371_0⟩ := Kd.at_int (Kd.R_reads' HO_112.out).2.2 x114_2 p371 q371
                        cases e371
                        replace p371 := eq_true p371
                        replace q371 := eq_true q371
                        go_wp2
                        go_ret
                        exact ⟨by first | rfl | (simp [errW_none, errW_some] <;> rfl) | (simp [*, errW_none, errW_some] <;> rfl), by repeat (first | (with_reducible first | exact HB.out | apply below_alloc | apply pw_below_drewN | apply below_drew1 | refine below_set ?_ GE351.out) | exact HB.out)⟩
                      · rw [if_neg c43] at H
                        have c43b0 : decide ((wrap64 ((t367.length : Int) - x114_2)) ≤ (rd t367 x114_2)) = false := decide_eq_false c43
                        clear c43
                        have H' := Aside0.mk H
                        clear H
                        have p371 : 0 ≤ (x114_2 : Int) := of_decide_eq_true (by first | (with_reducible assumption) | assumption)
                        have q371 : x114_2 < (t367.length : Int) := of_decide_eq_true (by first | (with_reducible assumption) | assumption)
                        obtain ⟨ad371, e371, hx371_0⟩ := Kd.at_int (Kd.R_reads' HO_112.out).2.2 x114_2 p371 q371
                        cases e371
                        replace p371 := eq_true p371
                        replace q371 := eq_true q371
                        go_wp2
                        go_roundg k2
                        case measure => have := HJ4.out; have := HK2.out; omega
                        case rel => exact ⟨(wrap64 (x114_2 + 1)), (by first | rfl | (simp; done) | (simp [*]; done)), H', ⟨by have := HJ4.out; have := HK2.out; omega⟩, ⟨by (with_reducible repeat (first | apply Kd.R_alloc | apply Kd.R_drewN | apply Kd.R_drew)); exact HO_12.out⟩, ⟨by (with_reducible repeat (first | apply Kd.R_alloc | apply Kd.R_drewN | apply Kd.R_drew)); exact HO_112.out⟩, ⟨by (with_reducible repeat (first | refine blk_drewN ?_ _ | refine blk_drew ?_ | refine blk_alloc ?_ _)); exact BK351.out⟩, ⟨by repeat (first | (with_reducible first | exact HB.out | apply below_alloc | apply pw_below_drewN | apply below_drew1 | refine below_set ?_ GE351.out) | exact HB.out)⟩⟩
                  · rw [if_neg c41] at H
                    exact absurd H (by simp)
                · rw [if_neg c40] at H
                  exact absurd H (by simp)
              · rw [if_neg c39] at H
                have c39b0 : decide (x114_2 < (t367.length : Int)) = false := decide_eq_false c39
                clear c39
                replace H := Option.bind_eq_some_iff.mp H
                obtain ⟨⟨t372, t373, t374⟩, A440, H⟩ := H
                replace H : (if t374 = 0 then ((churnlaw12_same.f k2 t372 l0_2).bind fun t379 => (if t379 = true then ((churnlaw12_same.f k2 t373 l0_3).bind fun t380 => (some t380)) else (some false))) else (some false)) = some r := H
                have A44 := Aside0.mk A440
                clear A440
                by_cases c45 : t374 = 0
                · rw [if_pos c45] at H
                  have c45b0 : (t374 == 0) = true := beq_iff_eq.mpr c45
                  have c45b1 : (t374 != 0) = false := bne_eq_false_iff_eq.mpr c45
                  clear c45
                  replace H := Option.bind_eq_some_iff.mp H
                  obtain ⟨t379, A460, H⟩ := H
                  replace H : (if t379 = true then ((churnlaw12_same.f k2 t373 l0_3).bind fun t380 => (some t380)) else (some false)) = some r := H
                  have A46 := Aside0.mk A460
                  clear A460
                  by_cases c47 : t379 = true
                  · subst c47
                    have H1 : ((churnlaw12_same.f k2 t373 l0_3).bind fun t380 => (some t380)) = some r := by rw [if_pos rfl] at H; exact H
                    clear H
                    have H := H1
                    clear H1
                    replace H := Option.bind_eq_some_iff.mp H
                    obtain ⟨t380, A480, H⟩ := H
                    replace H : (some t380) = some r := H
                    have A48 := Aside0.mk A480
                    clear A480
                    obtain rfl := Option.some.inj H
                    have hcz49_0 : wr.cell? ⟨gb351, 0, none⟩ = some (.slice A0_0 l0_0.length c0_0) := (blk_cell BK351.out 0).trans rfl
                    have hcz49_1 : wr.cell? ⟨gb351, 1, none⟩ = some (.slice A0_1 l0_1.length c0_1) := (blk_cell BK351.out 1).trans rfl
                    have hcz49_2 : wr.cell? ⟨gb351, 2, none⟩ = some (.slice A0_2 l0_2.length c0_2) := (blk_cell BK351.out 2).trans rfl
                    have hcz49_3 : wr.cell? ⟨gb351, 3, none⟩ = some (.slice A0_3 l0_3.length c0_3) := (blk_cell BK351.out 3).trans rfl
                    have hfz49_0 := blk_frozen BK351.out 0
                    have hfz49_1 := blk_frozen BK351.out 1
                    have hfz49_2 := blk_frozen BK351.out 2
                    have hfz49_3 := blk_frozen BK351.out 3
                    go_wp2_with (first | ((with_reducible refine gate_callee (f := 25) rfl ?_); refine goesL_ (some 134) rfl rfl Try.func25 (by kernel_rfl) rfl #[.slice A0_0 l0_0.length c0_0, .slice Ao38 t367.length co38] rfl (by (try simp only [List.map_toArray, List.map_cons, List.map_nil]); first | done | rfl | (simp only [List.length_drop, List.length_take]; rfl)) ?_; (with_reducible refine (braid_Pattern.calls k2 _ _ l0_0 _ _ t367 t372 t373 t374 _ ?side1 ?side2 ?side3 ?side4 A44.out).mono ?_); (case side1 => repeat (first | exact (Kd.C_below HR0_0.out HB.out) | (with_reducible refine Kd.C_alloc ?_ _) | (with_reducible refine Kd.C_drewN ?_ _) | (with_reducible refine Kd.C_drew ?_))); (case side2 => exact HC0_0.out); (case side3 => repeat (first | exact (Kd.R_reads' HO_12.out).2.2 | (with_reducible refine Kd.C_alloc ?_ _) | (with_reducible refine Kd.C_drewN ?_ _) | (with_reducible refine Kd.C_drew ?_))); (case side4 => exact (Kd.R_reads' HO_12.out).2.1); rintro e w50 ⟨v375, v377, rfl, ho0, ho1, hb⟩; refine ⟨_, rfl, ?_⟩; have n0_ := Aside0.mk (Kd.R_mono (Kd.R_told (Kd.R_told (Kd.R_old (by (with_reducible repeat (first | apply Kd.R_alloc | apply Kd.R_drewN | apply Kd.R_drew)); exact HO_12.out) hb) (Kd.R_base ho0)) (Kd.R_base ho1)) (fun _ h_ => h_.1)); have n1_ := Aside0.mk (Kd.R_mono (Kd.R_told (Kd.R_told (Kd.R_old (by (with_reducible repeat (first | apply Kd.R_alloc | apply Kd.R_drewN | apply Kd.R_drew)); exact HO_112.out) hb) (Kd.R_base ho0)) (Kd.R_base ho1)) (fun _ h_ => h_.1)); have n2_ := Aside0.mk (Kd.R_lower (Kd.R_new' (Kd.R_new' ho0 (Kd.R_lt (by (with_reducible repeat (first | apply Kd.R_alloc | apply Kd.R_drewN | apply Kd.R_drew)); exact HO_12.out))) (Kd.R_lt (by (with_reducible repeat (first | apply Kd.R_alloc | apply Kd.R_drewN | apply Kd.R_drew)); exact HO_112.out))) (below_size (by repeat (first | (with_reducible first | exact HB.out | apply below_alloc | apply pw_below_drewN | apply below_drew1 | refine below_set ?_ GE351.out) | exact HB.out)))); have n3_ := Aside0.mk (Kd.R_lower (Kd.R_new' (Kd.R_new' ho1 (Kd.R_lt (by (with_reducible repeat (first | apply Kd.R_alloc | apply Kd.R_drewN | apply Kd.R_drew)); exact HO_12.out))) (Kd.R_lt (by (with_reducible repeat (first | apply Kd.R_alloc | apply Kd.R_drewN | apply Kd.R_drew)); exact HO_112.out))) (below_size (by repeat (first | (with_reducible first | exact HB.out | apply below_alloc | apply pw_below_drewN | apply below_drew1 | refine below_set ?_ GE351.out) | exact HB.out)))); have n4_ := Aside0.mk (blk_below (g := gb351) (o := .cells #[.slice A0_0 l0_0.length c0_0, .slice A0_1 l0_1.length c0_1, .slice A0_2 l0_2.length c0_2, .slice A0_3 l0_3.length c0_3] 52 (0, 0)) (by (with_reducible repeat (first | refine blk_drewN ?_ _ | refine blk_drew ?_ | refine blk_alloc ?_ _)); exact BK351.out) hb); have n5_ := Aside0.mk (below_step (by repeat (first | (with_reducible first | exact HB.out | apply below_alloc | apply pw_below_drewN | apply below_drew1 | refine below_set ?_ GE351.out) | exact HB.out)) hb); clear HO_12; clear HO_112; clear BK351; clear HB; have HO_12 := n0_; have HO_112 := n1_; have HO376 := n2_; have HO378 := n3_; have BK351 := n4_; have HB := n5_; clear n0_ n1_ n2_ n3_ n4_ n5_; (try clear hb); (try clear hb2); (try clear hk); (try clear hi); (try clear ho0); (try clear ho1); have hcz51_0 : w50.cell? ⟨gb351, 0, none⟩ = some (.slice A0_0 l0_0.length c0_0) := (blk_cell BK351.out 0).trans rfl; have hcz51_1 : w50.cell? ⟨gb351, 1, none⟩ = some (.slice A0_1 l0_1.length c0_1) := (blk_cell BK351.out 1).trans rfl; have hcz51_2 : w50.cell? ⟨gb351, 2, none⟩ = some (.slice A0_2 l0_2.length c0_2) := (blk_cell BK351.out 2).trans rfl; have hcz51_3 : w50.cell? ⟨gb351, 3, none⟩ = some (.slice A0_3 l0_3.length c0_3) := (blk_cell BK351.out 3).trans rfl; have hfz51_0 := blk_frozen BK351.out 0; have hfz51_1 := blk_frozen BK351.out 1; have hfz51_2 := blk_frozen BK351.out 2; have hfz51_3 := blk_frozen BK351.out 3; obtain ⟨Ao52, co52, eo52⟩ := Kd.R_slice HO376.out; subst eo52) | (go_at_call 21; (with_reducible refine (churnlaw12_same.calls k2 _ _ t372 _ _ l0_2 true _ ?side1 ?side2 ?side3 ?side4 A46.out).mono ?_); (case side1 => repeat (first | exact (Kd.R_reads' HO376.out).2.2 | (with_reducible refine Kd.C_alloc ?_ _) | (with_reducible refine Kd.C_drewN ?_ _) | (with_reducible refine Kd.C_drew ?_))); (case side2 => exact (Kd.R_reads' HO376.out).2.1); (case side3 => repeat (first | exact (Kd.C_below HR0_2.out HB.out) | (with_reducible refine Kd.C_alloc ?_ _) | (with_reducible refine Kd.C_drewN ?_ _) | (with_reducible refine Kd.C_drew ?_))); (case side4 => exact HC0_2.out); rintro e w' ⟨rfl, ⟨nd, rfl⟩⟩; obtain ⟨Ao53, co53, eo53⟩ := Kd.R_slice HO378.out; subst eo53) | (go_at_call 21; (with_reducible refine (churnlaw12_same.calls k2 _ _ t373 _ _ l0_3 t380 _ ?side1 ?side2 ?side3 ?side4 A48.out).mono ?_); (case side1 => repeat (first | exact (Kd.R_reads' HO378.out).2.2 | (with_reducible refine Kd.C_alloc ?_ _) | (with_reducible refine Kd.C_drewN ?_ _) | (with_reducible refine Kd.C_drew ?_))); (case side2 => exact (Kd.R_reads' HO378.out).2.1); (case side3 => repeat (first | exact (Kd.C_below HR0_3.out (by repeat (first | (with_reducible first | exact HB.out | apply below_alloc | apply pw_below_drewN | apply below_drew1 | refine below_set ?_ GE351.out) | exact HB.out))) | (with_reducible refine Kd.C_alloc ?_ _) | (with_reducible refine Kd.C_drewN ?_ _) | (with_reducible refine Kd.C_drew ?_))); (case side4 => exact HC0_3.out); rintro e w' ⟨rfl, ⟨nd, rfl⟩⟩))
                    go_ret
                    exact ⟨by first | rfl | (simp [errW_none, errW_some] <;> rfl) | (simp [*, errW_none, errW_some] <;> rfl), by repeat (first | (with_reducible first | exact HB.out | apply below_alloc | apply pw_below_drewN | apply below_drew1 | refine below_set ?_ GE351.out) | exact HB.out)⟩
                  · replace c47 := Bool.eq_false_iff.mpr c47
                    subst c47
                    have H1 : (some false) = some r := by rw [if_neg (show ¬ (false = true) by decide)] at H; exact H
                    clear H
                    have H := H1
                    clear H1
                    obtain rfl := Option.some.inj H
                    have hcz54_0 : wr.cell? ⟨gb351, 0, none⟩ = some (.slice A0_0 l0_0.length c0_0) := (blk_cell BK351.out 0).trans rfl
                    have hcz54_1 : wr.cell? ⟨gb351, 1, none⟩ = some (.slice A0_1 l0_1.length c0_1) := (blk_cell BK351.out 1).trans rfl
                    have hcz54_2 : wr.cell? ⟨gb351, 2, none⟩ = some (.slice A0_2 l0_2.length c0_2) := (blk_cell BK351.out 2).trans rfl
                    have hcz54_3 : wr.cell? ⟨gb351, 3, none⟩ = some (.slice A0_3 l0_3.length c0_3) := (blk_cell BK351.out 3).trans rfl
                    have hfz54_0 := blk_frozen BK351.out 0
                    have hfz54_1 := blk_frozen BK351.out 1
                    have hfz54_2 := blk_frozen BK351.out 2
                    have hfz54_3 := blk_frozen BK351.out 3
                    go_wp2_with (first | ((with_reducible refine gate_callee (f := 25) rfl ?_); refine goesL_ (some 134) rfl rfl Try.func25 (by kernel_rfl) rfl #[.slice A0_0 l0_0.length c0_0, .slice Ao38 t367.length co38] rfl (by (try simp only [List.map_toArray, List.map_cons, List.map_nil]); first | done | rfl | (simp only [List.length_drop, List.length_take]; rfl)) ?_; (with_reducible refine (braid_Pattern.calls k2 _ _ l0_0 _ _ t367 t372 t373 t374 _ ?side1 ?side2 ?side3 ?side4 A44.out).mono ?_); (case side1 => repeat (first | exact (Kd.C_below HR0_0.out HB.out) | (with_reducible refine Kd.C_alloc ?_ _) | (with_reducible refine Kd.C_drewN ?_ _) | (with_reducible refine Kd.C_drew ?_))); (case side2 => exact HC0_0.out); (case side3 => repeat (first | exact (Kd.R_reads' HO_12.out).2.2 | (with_reducible refine Kd.C_alloc ?_ _) | (with_reducible refine Kd.C_drewN ?_ _) | (with_reducible refine Kd.C_drew ?_))); (case side4 => exact (Kd.R_reads' HO_12.out).2.1); rintro e w55 ⟨v375, v377, rfl, ho0, ho1, hb⟩; refine ⟨_, rfl, ?_⟩; have n0_ := Aside0.mk (Kd.R_mono (Kd.R_told (Kd.R_told (Kd.R_old (by (with_reducible repeat (first | apply Kd.R_alloc | apply Kd.R_drewN | apply Kd.R_drew)); exact HO_12.out) hb) (Kd.R_base ho0)) (Kd.R_base ho1)) (fun _ h_ => h_.1)); have n1_ := Aside0.mk (Kd.R_mono (Kd.R_told (Kd.R_told (Kd.R_old (by (with_reducible repeat (first | apply Kd.R_alloc | apply Kd.R_drewN | apply Kd.R_drew)); exact HO_112.out) hb) (Kd.R_base ho0)) (Kd.R_base ho1)) (fun _ h_ => h_.1)); have n2_ := Aside0.mk (Kd.R_lower (Kd.R_new' (Kd.R_new' ho0 (Kd.R_lt (by (with_reducible repeat (first | apply Kd.R_alloc | apply Kd.R_drewN | apply Kd.R_drew)); exact HO_12.out))) (Kd.R_lt (by (with_reducible repeat (first | apply Kd.R_alloc | apply Kd.R_drewN | apply Kd.R_drew)); exact HO_112.out))) (below_size (by repeat (first | (with_reducible first | exact HB.out | apply below_alloc | apply pw_below_drewN | apply below_drew1 | refine below_set ?_ GE351.out) | exact HB.out)))); have n3_ := Aside0.mk (Kd.R_lower (Kd.R_new' (Kd.R_new' ho1 (Kd.R_lt (by (with_reducible repeat (first | apply Kd.R_alloc | apply Kd.R_drewN | apply Kd.R_drew)); exact HO_12.out))) (Kd.R_lt (by (with_reducible repeat (first | apply Kd.R_alloc | apply Kd.R_drewN | apply Kd.R_drew)); exact HO_112.out))) (below_size (by repeat (first | (with_reducible first | exact HB.out | apply below_alloc | apply pw_below_drewN | apply below_drew1 | refine below_set ?_ GE351.out) | exact HB.out)))); have n4_ := Aside0.mk (blk_below (g := gb351) (o := .cells #[.slice A0_0 l0_0.length c0_0, .slice A0_1 l0_1.length c0_1, .slice A0_2 l0_2.length c0_2, .slice A0_3 l0_3.length c0_3] 52 (0, 0)) (by (with_reducible repeat (first | refine blk_drewN ?_ _ | refine blk_drew ?_ | refine blk_alloc ?_ _)); exact BK351.out) hb); have n5_ := Aside0.mk (below_step (by repeat (first | (with_reducible first | exact HB.out | apply below_alloc | apply pw_below_drewN | apply below_drew1 | refine below_set ?_ GE351.out) | exact HB.out)) hb); clear HO_12; clear HO_112; clear BK351; clear HB; have HO_12 := n0_; have HO_112 := n1_; have HO376 := n2_; have HO378 := n3_; have BK351 := n4_; have HB := n5_; clear n0_ n1_ n2_ n3_ n4_ n5_; (try clear hb); (try clear hb2); (try clear hk); (try clear hi); (try clear ho0); (try clear ho1); have hcz56_0 : w55.cell? ⟨gb351, 0, none⟩ = some (.slice A0_0 l0_0.length c0_0) := (blk_cell BK351.out 0).trans rfl; have hcz56_1 : w55.cell? ⟨gb351, 1, none⟩ = some (.slice A0_1 l0_1.length c0_1) := (blk_cell BK351.out 1).trans rfl; have hcz56_2 : w55.cell? ⟨gb351, 2, none⟩ = some (.slice A0_2 l0_2.length c0_2) := (blk_cell BK351.out 2).trans rfl; have hcz56_3 : w55.cell? ⟨gb351, 3, none⟩ = some (.slice A0_3 l0_3.length c0_3) := (blk_cell BK351.out 3).trans rfl; have hfz56_0 := blk_frozen BK351.out 0; have hfz56_1 := blk_frozen BK351.out 1; have hfz56_2 := blk_frozen BK351.out 2; have hfz56_3 := blk_frozen BK351.out 3; obtain ⟨Ao57, co57, eo57⟩ := Kd.R_slice HO376.out; subst eo57) | (go_at_call 21; (with_reducible refine (churnlaw12_same.calls k2 _ _ t372 _ _ l0_2 false _ ?side1 ?side2 ?side3 ?side4 A46.out).mono ?_); (case side1 => repeat (first | exact (Kd.R_reads' HO376.out).2.2 | (with_reducible refine Kd.C_alloc ?_ _) | (with_reducible refine Kd.C_drewN ?_ _) | (with_reducible refine Kd.C_drew ?_))); (case side2 => exact (Kd.R_reads' HO376.out).2.1); (case side3 => repeat (first | exact (Kd.C_below HR0_2.out HB.out) | (with_reducible refine Kd.C_alloc ?_ _) | (with_reducible refine Kd.C_drewN ?_ _) | (with_reducible refine Kd.C_drew ?_))); (case side4 => exact HC0_2.out); rintro e w' ⟨rfl, ⟨nd, rfl⟩⟩))
                    go_ret
                    exact ⟨by first | rfl | (simp [errW_none, errW_some] <;> rfl) | (simp [*, errW_none, errW_some] <;> rfl), by repeat (first | (with_reducible first | exact HB.out | apply below_alloc | apply pw_below_drewN | apply below_drew1 | refine below_set ?_ GE351.out) | exact HB.out)⟩
                · rw [if_neg c45] at H
                  have c45b0 : (t374 == 0) = false := beq_eq_false_iff_ne.mpr c45
                  have c45b1 : (t374 != 0) = true := bne_iff_ne.mpr c45
                  obtain rfl := Option.some.inj H
                  have hcz58_0 : wr.cell? ⟨gb351, 0, none⟩ = some (.slice A0_0 l0_0.length c0_0) := (blk_cell BK351.out 0).trans rfl
                  have hcz58_1 : wr.cell? ⟨gb351, 1, none⟩ = some (.slice A0_1 l0_1.length c0_1) := (blk_cell BK351.out 1).trans rfl
                  have hcz58_2 : wr.cell? ⟨gb351, 2, none⟩ = some (.slice A0_2 l0_2.length c0_2) := (blk_cell BK351.out 2).trans rfl
                  have hcz58_3 : wr.cell? ⟨gb351, 3, none⟩ = some (.slice A0_3 l0_3.length c0_3) := (blk_cell BK351.out 3).trans rfl
                  have hfz58_0 := blk_frozen BK351.out 0
                  have hfz58_1 := blk_frozen BK351.out 1
                  have hfz58_2 := blk_frozen BK351.out 2
                  have hfz58_3 := blk_frozen BK351.out 3
                  go_wp2_with (first | ((with_reducible refine gate_callee (f := 25) rfl ?_); refine goesL_ (some 134) rfl rfl Try.func25 (by kernel_rfl) rfl #[.slice A0_0 l0_0.length c0_0, .slice Ao38 t367.length co38] rfl (by (try simp only [List.map_toArray, List.map_cons, List.map_nil]); first | done | rfl | (simp only [List.length_drop, List.length_take]; rfl)) ?_; (with_reducible refine (braid_Pattern.calls k2 _ _ l0_0 _ _ t367 t372 t373 t374 _ ?side1 ?side2 ?side3 ?side4 A44.out).mono ?_); (case side1 => repeat (first | exact (Kd.C_below HR0_0.out HB.out) | (with_reducible refine Kd.C_alloc ?_ _) | (with_reducible refine Kd.C_drewN ?_ _) | (with_reducible refine Kd.C_drew ?_))); (case side2 => exact HC0_0.out); (case side3 => repeat (first | exact (Kd.R_reads' HO_12.out).2.2 | (with_reducible refine Kd.C_alloc ?_ _) | (with_reducible refine Kd.C_drewN ?_ _) | (with_reducible refine Kd.C_drew ?_))); (case side4 => exact (Kd.R_reads' HO_12.out).2.1); rintro e w59 ⟨v375, v377, rfl, ho0, ho1, hb⟩; refine ⟨_, rfl, ?_⟩; have n0_ := Aside0.mk (Kd.R_mono (Kd.R_told (Kd.R_told (Kd.R_old (by (with_reducible repeat (first | apply Kd.R_alloc | apply Kd.R_drewN | apply Kd.R_drew)); exact HO_12.out) hb) (Kd.R_base ho0)) (Kd.R_base ho1)) (fun _ h_ => h_.1)); have n1_ := Aside0.mk (Kd.R_mono (Kd.R_told (Kd.R_told (Kd.R_old (by (with_reducible repeat (first | apply Kd.R_alloc | apply Kd.R_drewN | apply Kd.R_drew)); exact HO_112.out) hb) (Kd.R_base ho0)) (Kd.R_base ho1)) (fun _ h_ => h_.1)); have n2_ := Aside0.mk (Kd.R_lower (Kd.R_new' (Kd.R_new' ho0 (Kd.R_lt (by (with_reducible repeat (first | apply Kd.R_alloc | apply Kd.R_drewN | apply Kd.R_drew)); exact HO_12.out))) (Kd.R_lt (by (with_reducible repeat (first | apply Kd.R_alloc | apply Kd.R_drewN | apply Kd.R_drew)); exact HO_112.out))) (below_size (by repeat (first | (with_reducible first | exact HB.out | apply below_alloc | apply pw_below_drewN | apply below_drew1 | refine below_set ?_ GE351.out) | exact HB.out)))); have n3_ := Aside0.mk (Kd.R_lower (Kd.R_new' (Kd.R_new' ho1 (Kd.R_lt (by (with_reducible repeat (first | apply Kd.R_alloc | apply Kd.R_drewN | apply Kd.R_drew)); exact HO_12.out))) (Kd.R_lt (by (with_reducible repeat (first | apply Kd.R_alloc | apply Kd.R_drewN | apply Kd.R_drew)); exact HO_112.out))) (below_size (by repeat (first | (with_reducible first | exact HB.out | apply below_alloc | apply pw_below_drewN | apply below_drew1 | refine below_set ?_ GE351.out) | exact HB.out)))); have n4_ := Aside0.mk (blk_below (g := gb351) (o := .cells #[.slice A0_0 l0_0.length c0_0, .slice A0_1 l0_1.length c0_1, .slice A0_2 l0_2.length c0_2, .slice A0_3 l0_3.length c0_3] 52 (0, 0)) (by (with_reducible repeat (first | refine blk_drewN ?_ _ | refine blk_drew ?_ | refine blk_alloc ?_ _)); exact BK351.out) hb); have n5_ := Aside0.mk (below_step (by repeat (first | (with_reducible first | exact HB.out | apply below_alloc | apply pw_below_drewN | apply below_drew1 | refine below_set ?_ GE351.out) | exact HB.out)) hb); clear HO_12; clear HO_112; clear BK351; clear HB; have HO_12 := n0_; have HO_112 := n1_; have HO376 := n2_; have HO378 := n3_; have BK351 := n4_; have HB := n5_; clear n0_ n1_ n2_ n3_ n4_ n5_; (try clear hb); (try clear hb2); (try clear hk); (try clear hi); (try clear ho0); (try clear ho1)))
                  go_ret
                  exact ⟨by first | rfl | (simp [errW_none, errW_some] <;> rfl) | (simp [*, errW_none, errW_some] <;> rfl), by repeat (first | (with_reducible first | exact HB.out | apply below_alloc | apply pw_below_drewN | apply below_drew1 | refine below_set ?_ GE351.out) | exact HB.out)⟩
        · rw [if_neg c35] at H
          have c35b0 : (t368 == 0) = false := beq_eq_false_iff_ne.mpr c35
          have c35b1 : (t368 != 0) = true := bne_iff_ne.mpr c35
          by_cases c60 : t368 = 2
          · rw [if_pos c60] at H
            have c60b0 : (t368 == 2) = true := beq_iff_eq.mpr c60
            have c60b1 : (t368 != 2) = false := bne_eq_false_iff_eq.mpr c60
            clear c60
            by_cases c61 : (t367.length : Int) = 0
            · rw [if_pos c61] at H
              have c61b0 : ((t367.length : Int) == 0) = true := beq_iff_eq.mpr c61
              have c61b1 : ((t367.length : Int) != 0) = false := bne_eq_false_iff_eq.mpr c61
              clear c61
              by_cases c62 : t355 = 0
              · rw [if_pos c62] at H
                have c62b0 : (t355 == 0) = true := beq_iff_eq.mpr c62
                have c62b1 : (t355 != 0) = false := bne_eq_false_iff_eq.mpr c62
                clear c62
                obtain rfl := Option.some.inj H
                have hcz63_0 : wc.cell? ⟨gb351, 0, none⟩ = some (.slice A0_0 l0_0.length c0_0) := (blk_cell BK351.out 0).trans rfl
                have hcz63_1 : wc.cell? ⟨gb351, 1, none⟩ = some (.slice A0_1 l0_1.length c0_1) := (blk_cell BK351.out 1).trans rfl
                have hcz63_2 : wc.cell? ⟨gb351, 2, none⟩ = some (.slice A0_2 l0_2.length c0_2) := (blk_cell BK351.out 2).trans rfl
                have hcz63_3 : wc.cell? ⟨gb351, 3, none⟩ = some (.slice A0_3 l0_3.length c0_3) := (blk_cell BK351.out 3).trans rfl
                have hfz63_0 := blk_frozen BK351.out 0
                have hfz63_1 := blk_frozen BK351.out 1
                have hfz63_2 := blk_frozen BK351.out 2
                have hfz63_3 := blk_frozen BK351.out 3
                go_wp2_with (first | ((with_reducible refine gate_callee (f := 26) rfl ?_); refine goesL_ (some 84) rfl rfl Try.func26 (by kernel_rfl) rfl #[.slice A0_0 l0_0.length c0_0, .slice A0_2 l0_2.length c0_2, .slice A0_3 l0_3.length c0_3] rfl (by (try simp only [List.map_toArray, List.map_cons, List.map_nil]); first | done | rfl | (simp only [List.length_drop, List.length_take]; rfl)) ?_; (with_reducible refine (braid_Draws.calls kj4 _ _ l0_0 _ _ l0_2 _ _ l0_3 t367 t368 _ ?side1 ?side2 ?side3 ?side4 ?side5 ?side6 A34.out).mono ?_); (case side1 => repeat (first | exact (Kd.C_below HR0_0.out HB.out) | (with_reducible refine Kd.C_alloc ?_ _) | (with_reducible refine Kd.C_drewN ?_ _) | (with_reducible refine Kd.C_drew ?_))); (case side2 => exact HC0_0.out); (case side3 => repeat (first | exact (Kd.C_below HR0_2.out HB.out) | (with_reducible refine Kd.C_alloc ?_ _) | (with_reducible refine Kd.C_drewN ?_ _) | (with_reducible refine Kd.C_drew ?_))); (case side4 => exact HC0_2.out); (case side5 => repeat (first | exact (Kd.C_below HR0_3.out HB.out) | (with_reducible refine Kd.C_alloc ?_ _) | (with_reducible refine Kd.C_drewN ?_ _) | (with_reducible refine Kd.C_drew ?_))); (case side6 => exact HC0_3.out); rintro e w64 ⟨v369, rfl, ho0, hb⟩; refine ⟨_, rfl, ?_⟩; have n0_ := Aside0.mk (Kd.R_elder' (by (with_reducible repeat (first | apply Kd.R_alloc | apply Kd.R_drewN | apply Kd.R_drew)); exact HO_3.out) (Kd.R_base ho0) hb); have n1_ := Aside0.mk (Kd.R_elder' (by (with_reducible repeat (first | apply Kd.R_alloc | apply Kd.R_drewN | apply Kd.R_drew)); exact HO_4.out) (Kd.R_base ho0) hb); have n2_ := Aside0.mk (Kd.R_lower (Kd.R_new' (Kd.R_new' ho0 (Kd.R_lt (by (with_reducible repeat (first | apply Kd.R_alloc | apply Kd.R_drewN | apply Kd.R_drew)); exact HO_3.out))) (Kd.R_lt (by (with_reducible repeat (first | apply Kd.R_alloc | apply Kd.R_drewN | apply Kd.R_drew)); exact HO_4.out))) (below_size (by repeat (first | (with_reducible first | exact HB.out | apply below_alloc | apply pw_below_drewN | apply below_drew1 | refine below_set ?_ GE351.out) | exact HB.out)))); have n3_ := Aside0.mk (blk_below (g := gb351) (o := .cells #[.slice A0_0 l0_0.length c0_0, .slice A0_1 l0_1.length c0_1, .slice A0_2 l0_2.length c0_2, .slice A0_3 l0_3.length c0_3] 52 (0, 0)) (by (with_reducible repeat (first | refine blk_drewN ?_ _ | refine blk_drew ?_ | refine blk_alloc ?_ _)); exact BK351.out) hb); have n4_ := Aside0.mk (below_step (by repeat (first | (with_reducible first | exact HB.out | apply below_alloc | apply pw_below_drewN | apply below_drew1 | refine below_set ?_ GE351.out) | exact HB.out)) hb); clear HO_3; clear HO_4; clear BK351; clear HB; have HO_3 := n0_; have HO_4 := n1_; have HO370 := n2_; have BK351 := n3_; have HB := n4_; clear n0_ n1_ n2_ n3_ n4_; (try clear hb); (try clear hb2); (try clear hk); (try clear hi); (try clear ho0); obtain ⟨Ao65, co65, eo65⟩ := Kd.R_slice HO370.out; subst eo65))
                go_ret
                exact ⟨by first | rfl | (simp [errW_none, errW_some] <;> rfl) | (simp [*, errW_none, errW_some] <;> rfl), by repeat (first | (with_reducible first | exact HB.out | apply below_alloc | apply pw_below_drewN | apply below_drew1 | refine below_set ?_ GE351.out) | exact HB.out)⟩
              · rw [if_neg c62] at H
                have c62b0 : (t355 == 0) = false := beq_eq_false_iff_ne.mpr c62
                have c62b1 : (t355 != 0) = true := bne_iff_ne.mpr c62
                by_cases c66 : t355 = 2
                · rw [if_pos c66] at H
                  have c66b0 : (t355 == 2) = true := beq_iff_eq.mpr c66
                  have c66b1 : (t355 != 2) = false := bne_eq_false_iff_eq.mpr c66
                  clear c66
                  obtain rfl := Option.some.inj H
                  have hcz67_0 : wc.cell? ⟨gb351, 0, none⟩ = some (.slice A0_0 l0_0.length c0_0) := (blk_cell BK351.out 0).trans rfl
                  have hcz67_1 : wc.cell? ⟨gb351, 1, none⟩ = some (.slice A0_1 l0_1.length c0_1) := (blk_cell BK351.out 1).trans rfl
                  have hcz67_2 : wc.cell? ⟨gb351, 2, none⟩ = some (.slice A0_2 l0_2.length c0_2) := (blk_cell BK351.out 2).trans rfl
                  have hcz67_3 : wc.cell? ⟨gb351, 3, none⟩ = some (.slice A0_3 l0_3.length c0_3) := (blk_cell BK351.out 3).trans rfl
                  have hfz67_0 := blk_frozen BK351.out 0
                  have hfz67_1 := blk_frozen BK351.out 1
                  have hfz67_2 := blk_frozen BK351.out 2
                  have hfz67_3 := blk_frozen BK351.out 3
                  go_wp2_with (first | ((with_reducible refine gate_callee (f := 26) rfl ?_); refine goesL_ (some 84) rfl rfl Try.func26 (by kernel_rfl) rfl #[.slice A0_0 l0_0.length c0_0, .slice A0_2 l0_2.length c0_2, .slice A0_3 l0_3.length c0_3] rfl (by (try simp only [List.map_toArray, List.map_cons, List.map_nil]); first | done | rfl | (simp only [List.length_drop, List.length_take]; rfl)) ?_; (with_reducible refine (braid_Draws.calls kj4 _ _ l0_0 _ _ l0_2 _ _ l0_3 t367 t368 _ ?side1 ?side2 ?side3 ?side4 ?side5 ?side6 A34.out).mono ?_); (case side1 => repeat (first | exact (Kd.C_below HR0_0.out HB.out) | (with_reducible refine Kd.C_alloc ?_ _) | (with_reducible refine Kd.C_drewN ?_ _) | (with_reducible refine Kd.C_drew ?_))); (case side2 => exact HC0_0.out); (case side3 => repeat (first | exact (Kd.C_below HR0_2.out HB.out) | (with_reducible refine Kd.C_alloc ?_ _) | (with_reducible refine Kd.C_drewN ?_ _) | (with_reducible refine Kd.C_drew ?_))); (case side4 => exact HC0_2.out); (case side5 => repeat (first | exact (Kd.C_below HR0_3.out HB.out) | (with_reducible refine Kd.C_alloc ?_ _) | (with_reducible refine Kd.C_drewN ?_ _) | (with_reducible refine Kd.C_drew ?_))); (case side6 => exact HC0_3.out); rintro e w68 ⟨v369, rfl, ho0, hb⟩; refine ⟨_, rfl, ?_⟩; have n0_ := Aside0.mk (Kd.R_elder' (by (with_reducible repeat (first | apply Kd.R_alloc | apply Kd.R_drewN | apply Kd.R_drew)); exact HO_3.out) (Kd.R_base ho0) hb); have n1_ := Aside0.mk (Kd.R_elder' (by (with_reducible repeat (first | apply Kd.R_alloc | apply Kd.R_drewN | apply Kd.R_drew)); exact HO_4.out) (Kd.R_base ho0) hb); have n2_ := Aside0.mk (Kd.R_lower (Kd.R_new' (Kd.R_new' ho0 (Kd.R_lt (by (with_reducible repeat (first | apply Kd.R_alloc | apply Kd.R_drewN | apply Kd.R_drew)); exact HO_3.out))) (Kd.R_lt (by (with_reducible repeat (first | apply Kd.R_alloc | apply Kd.R_drewN | apply Kd.R_drew)); exact HO_4.out))) (below_size (by repeat (first | (with_reducible first | exact HB.out | apply below_alloc | apply pw_below_drewN | apply below_drew1 | refine below_set ?_ GE351.out) | exact HB.out)))); have n3_ := Aside0.mk (blk_below (g := gb351) (o := .cells #[.slice A0_0 l0_0.length c0_0, .slice A0_1 l0_1.length c0_1, .slice A0_2 l0_2.length c0_2, .slice A0_3 l0_3.length c0_3] 52 (0, 0)) (by (with_reducible repeat (first | refine blk_drewN ?_ _ | refine blk_drew ?_ | refine blk_alloc ?_ _)); exact BK351.out) hb); have n4_ := Aside0.mk (below_step (by repeat (first | (with_reducible first | exact HB.out | apply below_alloc | apply pw_below_drewN | apply below_drew1 | refine below_set ?_ GE351.out) | exact HB.out)) hb); clear HO_3; clear HO_4; clear BK351; clear HB; have HO_3 := n0_; have HO_4 := n1_; have HO370 := n2_; have BK351 := n3_; have HB := n4_; clear n0_ n1_ n2_ n3_ n4_; (try clear hb); (try clear hb2); (try clear hk); (try clear hi); (try clear ho0); obtain ⟨Ao69, co69, eo69⟩ := Kd.R_slice HO370.out; subst eo69; obtain ⟨Ao70, co70, eo70⟩ := Kd.R_slice HO_3.out; subst eo70; obtain ⟨Ao71, co71, eo71⟩ := Kd.R_slice HO_4.out; subst eo71))
                  go_ret
                  exact ⟨by first | rfl | (simp [errW_none, errW_some] <;> rfl) | (simp [*, errW_none, errW_some] <;> rfl), by repeat (first | (with_reducible first | exact HB.out | apply below_alloc | apply pw_below_drewN | apply below_drew1 | refine below_set ?_ GE351.out) | exact HB.out)⟩
                · rw [if_neg c66] at H
                  have c66b0 : (t355 == 2) = false := beq_eq_false_iff_ne.mpr c66
                  have c66b1 : (t355 != 2) = true := bne_iff_ne.mpr c66
                  obtain rfl := Option.some.inj H
                  have hcz72_0 : wc.cell? ⟨gb351, 0, none⟩ = some (.slice A0_0 l0_0.length c0_0) := (blk_cell BK351.out 0).trans rfl
                  have hcz72_1 : wc.cell? ⟨gb351, 1, none⟩ = some (.slice A0_1 l0_1.length c0_1) := (blk_cell BK351.out 1).trans rfl
                  have hcz72_2 : wc.cell? ⟨gb351, 2, none⟩ = some (.slice A0_2 l0_2.length c0_2) := (blk_cell BK351.out 2).trans rfl
                  have hcz72_3 : wc.cell? ⟨gb351, 3, none⟩ = some (.slice A0_3 l0_3.length c0_3) := (blk_cell BK351.out 3).trans rfl
                  have hfz72_0 := blk_frozen BK351.out 0
                  have hfz72_1 := blk_frozen BK351.out 1
                  have hfz72_2 := blk_frozen BK351.out 2
                  have hfz72_3 := blk_frozen BK351.out 3
                  go_wp2_with (first | ((with_reducible refine gate_callee (f := 26) rfl ?_); refine goesL_ (some 84) rfl rfl Try.func26 (by kernel_rfl) rfl #[.slice A0_0 l0_0.length c0_0, .slice A0_2 l0_2.length c0_2, .slice A0_3 l0_3.length c0_3] rfl (by (try simp only [List.map_toArray, List.map_cons, List.map_nil]); first | done | rfl | (simp only [List.length_drop, List.length_take]; rfl)) ?_; (with_reducible refine (braid_Draws.calls kj4 _ _ l0_0 _ _ l0_2 _ _ l0_3 t367 t368 _ ?side1 ?side2 ?side3 ?side4 ?side5 ?side6 A34.out).mono ?_); (case side1 => repeat (first | exact (Kd.C_below HR0_0.out HB.out) | (with_reducible refine Kd.C_alloc ?_ _) | (with_reducible refine Kd.C_drewN ?_ _) | (with_reducible refine Kd.C_drew ?_))); (case side2 => exact HC0_0.out); (case side3 => repeat (first | exact (Kd.C_below HR0_2.out HB.out) | (with_reducible refine Kd.C_alloc ?_ _) | (with_reducible refine Kd.C_drewN ?_ _) | (with_reducible refine Kd.C_drew ?_))); (case side4 => exact HC0_2.out); (case side5 => repeat (first | exact (Kd.C_below HR0_3.out HB.out) | (with_reducible refine Kd.C_alloc ?_ _) | (with_reducible refine Kd.C_drewN ?_ _) | (with_reducible refine Kd.C_drew ?_))); (case side6 => exact HC0_3.out); rintro e w73 ⟨v369, rfl, ho0, hb⟩; refine ⟨_, rfl, ?_⟩; have n0_ := Aside0.mk (Kd.R_elder' (by (with_reducible repeat (first | apply Kd.R_alloc | apply Kd.R_drewN | apply Kd.R_drew)); exact HO_3.out) (Kd.R_base ho0) hb); have n1_ := Aside0.mk (Kd.R_elder' (by (with_reducible repeat (first | apply Kd.R_alloc | apply Kd.R_drewN | apply Kd.R_drew)); exact HO_4.out) (Kd.R_base ho0) hb); have n2_ := Aside0.mk (Kd.R_lower (Kd.R_new' (Kd.R_new' ho0 (Kd.R_lt (by (with_reducible repeat (first | apply Kd.R_alloc | apply Kd.R_drewN | apply Kd.R_drew)); exact HO_3.out))) (Kd.R_lt (by (with_reducible repeat (first | apply Kd.R_alloc | apply Kd.R_drewN | apply Kd.R_drew)); exact HO_4.out))) (below_size (by repeat (first | (with_reducible first | exact HB.out | apply below_alloc | apply pw_below_drewN | apply below_drew1 | refine below_set ?_ GE351.out) | exact HB.out)))); have n3_ := Aside0.mk (blk_below (g := gb351) (o := .cells #[.slice A0_0 l0_0.length c0_0, .slice A0_1 l0_1.length c0_1, .slice A0_2 l0_2.length c0_2, .slice A0_3 l0_3.length c0_3] 52 (0, 0)) (by (with_reducible repeat (first | refine blk_drewN ?_ _ | refine blk_drew ?_ | refine blk_alloc ?_ _)); exact BK351.out) hb); have n4_ := Aside0.mk (below_step (by repeat (first | (with_reducible first | exact HB.out | apply below_alloc | apply pw_below_drewN | apply below_drew1 | refine below_set ?_ GE351.out) | exact HB.out)) hb); clear HO_3; clear HO_4; clear BK351; clear HB; have HO_3 := n0_; have HO_4 := n1_; have HO370 := n2_; have BK351 := n3_; have HB := n4_; clear n0_ n1_ n2_ n3_ n4_; (try clear hb); (try clear hb2); (try clear hk); (try clear hi); (try clear ho0); obtain ⟨Ao74, co74, eo74⟩ := Kd.R_slice HO370.out; subst eo74))
                  go_ret
                  exact ⟨by first | rfl | (simp [errW_none, errW_some] <;> rfl) | (simp [*, errW_none, errW_some] <;> rfl), by repeat (first | (with_reducible first | exact HB.out | apply below_alloc | apply pw_below_drewN | apply below_drew1 | refine below_set ?_ GE351.out) | exact HB.out)⟩
            · rw [if_neg c61] at H
              have c61b0 : ((t367.length : Int) == 0) = false := beq_eq_false_iff_ne.mpr c61
              have c61b1 : ((t367.length : Int) != 0) = true := bne_iff_ne.mpr c61
              have c61b2 : ¬ (t367 = []) := fun h_ => c61 (by rw [h_]; rfl)
              obtain rfl := Option.some.inj H
              have hcz75_0 : wc.cell? ⟨gb351, 0, none⟩ = some (.slice A0_0 l0_0.length c0_0) := (blk_cell BK351.out 0).trans rfl
              have hcz75_1 : wc.cell? ⟨gb351, 1, none⟩ = some (.slice A0_1 l0_1.length c0_1) := (blk_cell BK351.out 1).trans rfl
              have hcz75_2 : wc.cell? ⟨gb351, 2, none⟩ = some (.slice A0_2 l0_2.length c0_2) := (blk_cell BK351.out 2).trans rfl
              have hcz75_3 : wc.cell? ⟨gb351, 3, none⟩ = some (.slice A0_3 l0_3.length c0_3) := (blk_cell BK351.out 3).trans rfl
              have hfz75_0 := blk_frozen BK351.out 0
              have hfz75_1 := blk_frozen BK351.out 1
              have hfz75_2 := blk_frozen BK351.out 2
              have hfz75_3 := blk_frozen BK351.out 3
              go_wp2_with (first | ((with_reducible refine gate_callee (f := 26) rfl ?_); refine goesL_ (some 84) rfl rfl Try.func26 (by kernel_rfl) rfl #[.slice A0_0 l0_0.length c0_0, .slice A0_2 l0_2.length c0_2, .slice A0_3 l0_3.length c0_3] rfl (by (try simp only [List.map_toArray, List.map_cons, List.map_nil]); first | done | rfl | (simp only [List.length_drop, List.length_take]; rfl)) ?_; (with_reducible refine (braid_Draws.calls kj4 _ _ l0_0 _ _ l0_2 _ _ l0_3 t367 t368 _ ?side1 ?side2 ?side3 ?side4 ?side5 ?side6 A34.out).mono ?_); (case side1 => repeat (first | exact (Kd.C_below HR0_0.out HB.out) | (with_reducible refine Kd.C_alloc ?_ _) | (with_reducible refine Kd.C_drewN ?_ _) | (with_reducible refine Kd.C_drew ?_))); (case side2 => exact HC0_0.out); (case side3 => repeat (first | exact (Kd.C_below HR0_2.out HB.out) | (with_reducible refine Kd.C_alloc ?_ _) | (with_reducible refine Kd.C_drewN ?_ _) | (with_reducible refine Kd.C_drew ?_))); (case side4 => exact HC0_2.out); (case side5 => repeat (first | exact (Kd.C_below HR0_3.out HB.out) | (with_reducible refine Kd.C_alloc ?_ _) | (with_reducible refine Kd.C_drewN ?_ _) | (with_reducible refine Kd.C_drew ?_))); (case side6 => exact HC0_3.out); rintro e w76 ⟨v369, rfl, ho0, hb⟩; refine ⟨_, rfl, ?_⟩; have n0_ := Aside0.mk (Kd.R_elder' (by (with_reducible repeat (first | apply Kd.R_alloc | apply Kd.R_drewN | apply Kd.R_drew)); exact HO_3.out) (Kd.R_base ho0) hb); have n1_ := Aside0.mk (Kd.R_elder' (by (with_reducible repeat (first | apply Kd.R_alloc | apply Kd.R_drewN | apply Kd.R_drew)); exact HO_4.out) (Kd.R_base ho0) hb); have n2_ := Aside0.mk (Kd.R_lower (Kd.R_new' (Kd.R_new' ho0 (Kd.R_lt (by (with_reducible repeat (first | apply Kd.R_alloc | apply Kd.R_drewN | apply Kd.R_drew)); exact HO_3.out))) (Kd.R_lt (by (with_reducible repeat (first | apply Kd.R_alloc | apply Kd.R_drewN | apply Kd.R_drew)); exact HO_4.out))) (below_size (by repeat (first | (with_reducible first | exact HB.out | apply below_alloc | apply pw_below_drewN | apply below_drew1 | refine below_set ?_ GE351.out) | exact HB.out)))); have n3_ := Aside0.mk (blk_below (g := gb351) (o := .cells #[.slice A0_0 l0_0.length c0_0, .slice A0_1 l0_1.length c0_1, .slice A0_2 l0_2.length c0_2, .slice A0_3 l0_3.length c0_3] 52 (0, 0)) (by (with_reducible repeat (first | refine blk_drewN ?_ _ | refine blk_drew ?_ | refine blk_alloc ?_ _)); exact BK351.out) hb); have n4_ := Aside0.mk (below_step (by repeat (first | (with_reducible first | exact HB.out | apply below_alloc | apply pw_below_drewN | apply below_drew1 | refine below_set ?_ GE351.out) | exact HB.out)) hb); clear HO_3; clear HO_4; clear BK351; clear HB; have HO_3 := n0_; have HO_4 := n1_; have HO370 := n2_; have BK351 := n3_; have HB := n4_; clear n0_ n1_ n2_ n3_ n4_; (try clear hb); (try clear hb2); (try clear hk); (try clear hi); (try clear ho0); obtain ⟨Ao77, co77, eo77⟩ := Kd.R_slice HO370.out; subst eo77))
              go_ret
              exact ⟨by first | rfl | (simp [errW_none, errW_some] <;> rfl) | (simp [*, errW_none, errW_some] <;> rfl), by repeat (first | (with_reducible first | exact HB.out | apply below_alloc | apply pw_below_drewN | apply below_drew1 | refine below_set ?_ GE351.out) | exact HB.out)⟩
          · rw [if_neg c60] at H
            have c60b0 : (t368 == 2) = false := beq_eq_false_iff_ne.mpr c60
            have c60b1 : (t368 != 2) = true := bne_iff_ne.mpr c60
            obtain rfl := Option.some.inj H
            have hcz78_0 : wc.cell? ⟨gb351, 0, none⟩ = some (.slice A0_0 l0_0.length c0_0) := (blk_cell BK351.out 0).trans rfl
            have hcz78_1 : wc.cell? ⟨gb351, 1, none⟩ = some (.slice A0_1 l0_1.length c0_1) := (blk_cell BK351.out 1).trans rfl
            have hcz78_2 : wc.cell? ⟨gb351, 2, none⟩ = some (.slice A0_2 l0_2.length c0_2) := (blk_cell BK351.out 2).trans rfl
            have hcz78_3 : wc.cell? ⟨gb351, 3, none⟩ = some (.slice A0_3 l0_3.length c0_3) := (blk_cell BK351.out 3).trans rfl
            have hfz78_0 := blk_frozen BK351.out 0
            have hfz78_1 := blk_frozen BK351.out 1
            have hfz78_2 := blk_frozen BK351.out 2
            have hfz78_3 := blk_frozen BK351.out 3
            go_wp2_with (first | ((with_reducible refine gate_callee (f := 26) rfl ?_); refine goesL_ (some 84) rfl rfl Try.func26 (by kernel_rfl) rfl #[.slice A0_0 l0_0.length c0_0, .slice A0_2 l0_2.length c0_2, .slice A0_3 l0_3.length c0_3] rfl (by (try simp only [List.map_toArray, List.map_cons, List.map_nil]); first | done | rfl | (simp only [List.length_drop, List.length_take]; rfl)) ?_; (with_reducible refine (braid_Draws.calls kj4 _ _ l0_0 _ _ l0_2 _ _ l0_3 t367 t368 _ ?side1 ?side2 ?side3 ?side4 ?side5 ?side6 A34.out).mono ?_); (case side1 => repeat (first | exact (Kd.C_below HR0_0.out HB.out) | (with_reducible refine Kd.C_alloc ?_ _) | (with_reducible refine Kd.C_drewN ?_ _) | (with_reducible refine Kd.C_drew ?_))); (case side2 => exact HC0_0.out); (case side3 => repeat (first | exact (Kd.C_below HR0_2.out HB.out) | (with_reducible refine Kd.C_alloc ?_ _) | (with_reducible refine Kd.C_drewN ?_ _) | (with_reducible refine Kd.C_drew ?_))); (case side4 => exact HC0_2.out); (case side5 => repeat (first | exact (Kd.C_below HR0_3.out HB.out) | (with_reducible refine Kd.C_alloc ?_ _) | (with_reducible refine Kd.C_drewN ?_ _) | (with_reducible refine Kd.C_drew ?_))); (case side6 => exact HC0_3.out); rintro e w79 ⟨v369, rfl, ho0, hb⟩; refine ⟨_, rfl, ?_⟩; have n0_ := Aside0.mk (Kd.R_elder' (by (with_reducible repeat (first | apply Kd.R_alloc | apply Kd.R_drewN | apply Kd.R_drew)); exact HO_3.out) (Kd.R_base ho0) hb); have n1_ := Aside0.mk (Kd.R_elder' (by (with_reducible repeat (first | apply Kd.R_alloc | apply Kd.R_drewN | apply Kd.R_drew)); exact HO_4.out) (Kd.R_base ho0) hb); have n2_ := Aside0.mk (Kd.R_lower (Kd.R_new' (Kd.R_new' ho0 (Kd.R_lt (by (with_reducible repeat (first | apply Kd.R_alloc | apply Kd.R_drewN | apply Kd.R_drew)); exact HO_3.out))) (Kd.R_lt (by (with_reducible repeat (first | apply Kd.R_alloc | apply Kd.R_drewN | apply Kd.R_drew)); exact HO_4.out))) (below_size (by repeat (first | (with_reducible first | exact HB.out | apply below_alloc | apply pw_below_drewN | apply below_drew1 | refine below_set ?_ GE351.out) | exact HB.out)))); have n3_ := Aside0.mk (blk_below (g := gb351) (o := .cells #[.slice A0_0 l0_0.length c0_0, .slice A0_1 l0_1.length c0_1, .slice A0_2 l0_2.length c0_2, .slice A0_3 l0_3.length c0_3] 52 (0, 0)) (by (with_reducible repeat (first | refine blk_drewN ?_ _ | refine blk_drew ?_ | refine blk_alloc ?_ _)); exact BK351.out) hb); have n4_ := Aside0.mk (below_step (by repeat (first | (with_reducible first | exact HB.out | apply below_alloc | apply pw_below_drewN | apply below_drew1 | refine below_set ?_ GE351.out) | exact HB.out)) hb); clear HO_3; clear HO_4; clear BK351; clear HB; have HO_3 := n0_; have HO_4 := n1_; have HO370 := n2_; have BK351 := n3_; have HB := n4_; clear n0_ n1_ n2_ n3_ n4_; (try clear hb); (try clear hb2); (try clear hk); (try clear hi); (try clear ho0)))
            go_ret
            exact ⟨by first | rfl | (simp [errW_none, errW_some] <;> rfl) | (simp [*, errW_none, errW_some] <;> rfl), by repeat (first | (with_reducible first | exact HB.out | apply below_alloc | apply pw_below_drewN | apply below_drew1 | refine below_set ?_ GE351.out) | exact HB.out)⟩
  · replace c3 := Bool.eq_false_iff.mpr c3
    subst c3
    have H1 : (some false) = some r := by rw [if_neg (show ¬ (false = true) by decide)] at H; exact H
    clear H
    have H := H1
    clear H1
    obtain rfl := Option.some.inj H
    go_enter Try.func6, Try.ntmps6
    go_wp2_with (first | ((with_reducible refine gate_dst (N := 1) rfl ?_); (try (refine gate_guard (by rfl) ?_; dsimp only)); refine box_event ?hg (N := 1) ?hd (cs := #[.slice A0_0 l0_0.length c0_0, .slice A0_1 l0_1.length c0_1, .slice A0_2 l0_2.length c0_2, .slice A0_3 l0_3.length c0_3]) (t := 52) ?hr ?_; (case hd => rfl); (case hg => rfl); (case hr => first | (go_simp; done) | (go_simp; rfl)); intro gb351 hg w80 hbox hb; have n0_ := Aside0.mk (below_step (by repeat (first | (with_reducible first | exact HB.out | apply below_alloc | apply pw_below_drewN | apply below_drew1) | exact HB.out)) hb); have n1_ := Aside0.mk (hbox); have n2_ := Aside0.mk ((by rw [hg]; exact (below_size (by repeat (first | (with_reducible first | exact HB.out | apply below_alloc | apply pw_below_drewN | apply below_drew1) | exact HB.out))) : w.heap.size ≤ gb351)); have n3_ := Aside0.mk ((by rw [hg]; exact (below_size (by repeat (first | (with_reducible first | exact HB.out | apply below_alloc | apply pw_below_drewN | apply below_drew1) | exact HB.out))) : w.heap.size ≤ gb351)); clear HB; have HB := n0_; have BK351 := n1_; have GW351 := n2_; have GE351 := n3_; clear n0_ n1_ n2_ n3_; clear hb hbox hg) | ((with_reducible refine gate_callee (f := 16) rfl ?_); refine goesL_ (some 16) rfl rfl Try.func16 (by kernel_rfl) rfl #[] rfl (by (try simp only [List.map_toArray, List.map_cons, List.map_nil]); first | done | rfl | (simp only [List.length_drop, List.length_take]; rfl)) ?_; (with_reducible refine (churnlaw12_awake.calls k  false _ A2.out).mono ?_); rintro e w81 ⟨rfl, hb⟩; refine ⟨_, rfl, ?_⟩; have n0_ := Aside0.mk (blk_below (g := gb351) (o := .cells #[.slice A0_0 l0_0.length c0_0, .slice A0_1 l0_1.length c0_1, .slice A0_2 l0_2.length c0_2, .slice A0_3 l0_3.length c0_3] 52 (0, 0)) (by (with_reducible repeat (first | refine blk_drewN ?_ _ | refine blk_drew ?_ | refine blk_alloc ?_ _)); exact BK351.out) hb); have n1_ := Aside0.mk (below_step (by repeat (first | (with_reducible first | exact HB.out | apply below_alloc | apply pw_below_drewN | apply below_drew1 | refine below_set ?_ GE351.out) | exact HB.out)) hb); clear BK351; clear HB; have BK351 := n0_; have HB := n1_; clear n0_ n1_; (try clear hb); (try clear hb2); (try clear hk); (try clear hi)))
    go_ret
    exact ⟨by first | rfl | (simp [errW_none, errW_some] <;> rfl) | (simp [*, errW_none, errW_some] <;> rfl), by repeat (first | (with_reducible first | exact HB.out | apply below_alloc | apply pw_below_drewN | apply below_drew1 | refine below_set ?_ GE351.out) | exact HB.out)⟩

end Go.Proofs.Ytiefmocfgneldaa.Q
