/- Functions of the program as plain Lean functions, each with a proof that its call comes to just these answers, or the row that joins them to the given statement; no condition beside the statement's own. Written for this claim by pf.py, this session's program over the kit's print. -/
import Derived.Test.YtiefmocfgneldaaQx0
import Derived.Test.YtiefmocfgneldaaQx8
import Derived.Test.YtiefmocfgneldaaQx9
import Derived.Test.YtiefmocfgneldaaQx12
import Derived.Test.YtiefmocfgneldaaQx13
import Derived.Test.YtiefmocfgneldaaQx22
import Derived.Test.YtiefmocfgneldaaQx23
namespace Go.Proofs.Ytiefmocfgneldaa.Q
open Go.RowKit Go.Proofs.YtiefmocfgneldaaW.PrintWords Go.Proofs.YtiefmocfgneldaaW.PrintLast Go.Proofs.YtiefmocfgneldaaW.PrintMore
attribute [local go_sem] max2_int min2_int max_two min_two max_three min_three max_four min_four   -- for this text's walks alone
set_option linter.unusedVariables false
set_option linter.unusedSimpArgs false

/-! ### churnlaw12_BraidDeals: function 8 -/
mutual
def churnlaw12_BraidDeals.j0 : Nat → Int → Int → List Int → List Int → Int → Bool → Option (Bool)
  | 0, _, _, _, _, _, _ => none
  | k + 1, x0, x1, x2, x7, x8, x51 => if x51 = true then (some false) else (if x8 = 0 then (if (x7.length : Int) = x1 then ((braid_Bounds.f k x0).bind fun t445 => (if (t445.length : Int) = x0 then (if 0 ≤ x0 then (if (x0 : Int).toNat ≤ 35184372088832 then (churnlaw12_BraidDeals.l0 k x0 x1 x2 x7 (List.replicate (x0 : Int).toNat 0) t445 (t445.length : Int) 0) else (none)) else (none)) else (some false))) else (some false)) else (if x8 = 2 then (some ((x7.length : Int) == 0)) else (some false)))
def churnlaw12_BraidDeals.l0 : Nat → Int → Int → List Int → List Int → List Int → List Int → Int → Int → Option (Bool)
  | 0, _, _, _, _, _, _, _, _ => none
  | k + 1, x0, x1, x2, x7, x10, x73, x74, x75 => if x75 < x74 then (if 0 ≤ x75 then (if x75 < (x73.length : Int) then (if (rd x73 x75) = (wrap64 (x0 - x75)) then (if x75 < (x2.length : Int) then ((churnlaw12_place.f (rd x2 x75) (rd x73 x75)).bind fun t453 => (if x75 < (x10.length : Int) then (churnlaw12_BraidDeals.l0 k x0 x1 x2 x7 (x10.set (x75 : Int).toNat t453) x73 x74 (wrap64 (x75 + 1))) else (none))) else (churnlaw12_BraidDeals.l0 k x0 x1 x2 x7 x10 x73 x74 (wrap64 (x75 + 1)))) else (some false)) else (none)) else (none)) else (churnlaw12_BraidDeals.l1 k x0 x1 x7 x10 ([] : List (List Int)) 0 x7 (x7.length : Int) 0)
def churnlaw12_BraidDeals.l1 : Nat → Int → Int → List Int → List Int → List (List Int) → Int → List Int → Int → Int → Option (Bool)
  | 0, _, _, _, _, _, _, _, _, _ => none
  | k + 1, x0, x1, x7, x10, x13, x14, x99, x100, x101 => if x101 < x100 then (if 0 ≤ x101 then (if x101 < (x99.length : Int) then (if 0 ≤ (wrap64 (x1 - 1)) then (if (wrap64 (x1 - 1)) < (x7.length : Int) then (if (rd x99 x101) < (rd x7 (wrap64 (x1 - 1))) then (churnlaw12_BraidDeals.j3 k x0 x1 x7 x10 x13 x14 (rd x99 x101) x99 x100 x101 true) else (if 0 < (x7.length : Int) then (if (rd x99 x101) > (rd x7 0) then (churnlaw12_BraidDeals.j3 k x0 x1 x7 x10 x13 x14 (rd x99 x101) x99 x100 x101 true) else (if (wrap64 ((rd x7 0) - (rd x7 (wrap64 (x1 - 1))))) > 1 then (churnlaw12_BraidDeals.j3 k x0 x1 x7 x10 x13 x14 (rd x99 x101) x99 x100 x101 true) else (if x101 > 0 then (if 0 ≤ (wrap64 (x101 - 1)) then (if (wrap64 (x101 - 1)) < (x7.length : Int) then (churnlaw12_BraidDeals.j3 k x0 x1 x7 x10 x13 x14 (rd x99 x101) x99 x100 x101 (decide ((rd x99 x101) > (rd x7 (wrap64 (x101 - 1)))))) else (none)) else (none)) else (churnlaw12_BraidDeals.j3 k x0 x1 x7 x10 x13 x14 (rd x99 x101) x99 x100 x101 false)))) else (none))) else (none)) else (none)) else (none)) else (none)) else ((braid_Pattern.f k x7 x10).bind fun bt467 => ((braid_Weave_int.f k bt467.1 x13).bind fun bt474 => (if x14 = x0 then (if bt467.2.2 = 0 then (if bt474.2 = 0 then (churnlaw12_BraidDeals.j5 k x0 x1 bt467.1 bt474.1 ((bt474.1.length : Int) != x0)) else (churnlaw12_BraidDeals.j5 k x0 x1 bt467.1 bt474.1 true)) else (churnlaw12_BraidDeals.j5 k x0 x1 bt467.1 bt474.1 true)) else (churnlaw12_BraidDeals.j5 k x0 x1 bt467.1 bt474.1 true))))
def churnlaw12_BraidDeals.j3 : Nat → Int → Int → List Int → List Int → List (List Int) → Int → Int → List Int → Int → Int → Bool → Option (Bool)
  | 0, _, _, _, _, _, _, _, _, _, _, _ => none
  | k + 1, x0, x1, x7, x10, x13, x14, x16, x99, x100, x101, x144 => if x144 = true then (some false) else (churnlaw12_BraidDeals.l2 k x0 x1 x7 x10 x13 x14 ([] : List Int) x99 x100 x101 x16 0)
def churnlaw12_BraidDeals.l2 : Nat → Int → Int → List Int → List Int → List (List Int) → Int → List Int → List Int → Int → Int → Int → Int → Option (Bool)
  | 0, _, _, _, _, _, _, _, _, _, _, _, _ => none
  | k + 1, x0, x1, x7, x10, x13, x14, x17, x99, x100, x101, x145, x146 => if x146 < x145 then (if x17.length < 17592186044416 then (churnlaw12_BraidDeals.l2 k x0 x1 x7 x10 x13 (wrap64 (x14 + 1)) (x17 ++ [x14]) x99 x100 x101 x145 (wrap64 (x146 + 1))) else (none)) else (if x13.length < 5864062014805 then (churnlaw12_BraidDeals.l1 k x0 x1 x7 x10 (x13 ++ [x17]) x14 x99 x100 (wrap64 (x101 + 1))) else (none))
def churnlaw12_BraidDeals.j5 : Nat → Int → Int → List Int → List Int → Bool → Option (Bool)
  | 0, _, _, _, _, _ => none
  | k + 1, x0, x1, x18, x21, x189 => if x189 = true then (some false) else (if 0 ≤ x0 then (if (x0 : Int).toNat ≤ 281474976710656 then (if 0 ≤ x1 then (if (x1 : Int).toNat ≤ 35184372088832 then (churnlaw12_BraidDeals.l3 k x0 x18 (List.replicate (x0 : Int).toNat false) (List.replicate (x1 : Int).toNat 0) x21 (x21.length : Int) 0) else (none)) else (none)) else (none)) else (none))
def churnlaw12_BraidDeals.l3 : Nat → Int → List Int → List Bool → List Int → List Int → Int → Int → Option (Bool)
  | 0, _, _, _, _, _, _, _ => none
  | k + 1, x0, x18, x23, x24, x194, x195, x196 => if x196 < x195 then (if 0 ≤ x196 then (if x196 < (x194.length : Int) then (if (rd x194 x196) < 0 then (some false) else (if (rd x194 x196) ≥ x0 then (some false) else (if 0 ≤ (rd x194 x196) then (if (rd x194 x196) < (x23.length : Int) then (if rdOf false x23 (rd x194 x196) = true then (some false) else (if x196 < (x18.length : Int) then (if 0 ≤ (rd x18 x196) then (if (rd x18 x196) < (x24.length : Int) then (if (wrap64 ((rd x194 x196) + 1)) ≤ (rd x24 (rd x18 x196)) then (some false) else (churnlaw12_BraidDeals.l3 k x0 x18 (x23.set ((rd x194 x196) : Int).toNat true) (x24.set ((rd x18 x196) : Int).toNat (wrap64 ((rd x194 x196) + 1))) x194 x195 (wrap64 (x196 + 1)))) else (none)) else (none)) else (none))) else (none)) else (none)))) else (none)) else (none)) else (some true)
end
def churnlaw12_BraidDeals.f (k : Nat) (a0 : Int) (a1 : Int) (l2 : List Int) : Option (Bool) := (churnlaw12_awake.f k).bind fun t440 => (if t440 = true then ((braid_Sizes.f k a0 a1).bind fun bt441 => (if a0 ≥ 0 then (if a0 ≤ 256 then (if a1 ≥ 1 then (churnlaw12_BraidDeals.j0 k a0 a1 l2 bt441.1 bt441.2 ((bt441.2 == 0) != (decide (a1 ≤ 64)))) else (churnlaw12_BraidDeals.j0 k a0 a1 l2 bt441.1 bt441.2 ((bt441.2 == 0) != false))) else (churnlaw12_BraidDeals.j0 k a0 a1 l2 bt441.1 bt441.2 ((bt441.2 == 0) != false))) else (churnlaw12_BraidDeals.j0 k a0 a1 l2 bt441.1 bt441.2 ((bt441.2 == 0) != false)))) else (some false))
theorem churnlaw12_BraidDeals.mono_l : ∀ k, (∀ y0 y1 y2 y3 y4 y5, LeO (churnlaw12_BraidDeals.j0 k y0 y1 y2 y3 y4 y5) (churnlaw12_BraidDeals.j0 (k + 1) y0 y1 y2 y3 y4 y5)) ∧ (∀ y0 y1 y2 y3 y4 y5 y6 y7, LeO (churnlaw12_BraidDeals.l0 k y0 y1 y2 y3 y4 y5 y6 y7) (churnlaw12_BraidDeals.l0 (k + 1) y0 y1 y2 y3 y4 y5 y6 y7)) ∧ (∀ y0 y1 y2 y3 y4 y5 y6 y7 y8, LeO (churnlaw12_BraidDeals.l1 k y0 y1 y2 y3 y4 y5 y6 y7 y8) (churnlaw12_BraidDeals.l1 (k + 1) y0 y1 y2 y3 y4 y5 y6 y7 y8)) ∧ (∀ y0 y1 y2 y3 y4 y5 y6 y7 y8 y9 y10, LeO (churnlaw12_BraidDeals.j3 k y0 y1 y2 y3 y4 y5 y6 y7 y8 y9 y10) (churnlaw12_BraidDeals.j3 (k + 1) y0 y1 y2 y3 y4 y5 y6 y7 y8 y9 y10)) ∧ (∀ y0 y1 y2 y3 y4 y5 y6 y7 y8 y9 y10 y11, LeO (churnlaw12_BraidDeals.l2 k y0 y1 y2 y3 y4 y5 y6 y7 y8 y9 y10 y11) (churnlaw12_BraidDeals.l2 (k + 1) y0 y1 y2 y3 y4 y5 y6 y7 y8 y9 y10 y11)) ∧ (∀ y0 y1 y2 y3 y4, LeO (churnlaw12_BraidDeals.j5 k y0 y1 y2 y3 y4) (churnlaw12_BraidDeals.j5 (k + 1) y0 y1 y2 y3 y4)) ∧ (∀ y0 y1 y2 y3 y4 y5 y6, LeO (churnlaw12_BraidDeals.l3 k y0 y1 y2 y3 y4 y5 y6) (churnlaw12_BraidDeals.l3 (k + 1) y0 y1 y2 y3 y4 y5 y6))
  | 0 => ⟨fun _ _ _ _ _ _ r h => by simp [churnlaw12_BraidDeals.j0] at h, fun _ _ _ _ _ _ _ _ r h => by simp [churnlaw12_BraidDeals.l0] at h, fun _ _ _ _ _ _ _ _ _ r h => by simp [churnlaw12_BraidDeals.l1] at h, fun _ _ _ _ _ _ _ _ _ _ _ r h => by simp [churnlaw12_BraidDeals.j3] at h, fun _ _ _ _ _ _ _ _ _ _ _ _ r h => by simp [churnlaw12_BraidDeals.l2] at h, fun _ _ _ _ _ r h => by simp [churnlaw12_BraidDeals.j5] at h, fun _ _ _ _ _ _ _ r h => by simp [churnlaw12_BraidDeals.l3] at h⟩
  | k + 1 => by
    obtain ⟨ih0, ih1, ih2, ih3, ih4, ih5, ih6⟩ := churnlaw12_BraidDeals.mono_l k
    refine ⟨?_, ?_, ?_, ?_, ?_, ?_, ?_⟩
    · intro y0 y1 y2 y3 y4 y5
      unfold churnlaw12_BraidDeals.j0
      repeat' first
      | (with_reducible exact ih0 _ _ _ _ _ _)
      | (with_reducible exact ih1 _ _ _ _ _ _ _ _)
      | (with_reducible exact ih2 _ _ _ _ _ _ _ _ _)
      | (with_reducible exact ih3 _ _ _ _ _ _ _ _ _ _ _)
      | (with_reducible exact ih4 _ _ _ _ _ _ _ _ _ _ _ _)
      | (with_reducible exact ih5 _ _ _ _ _)
      | (with_reducible exact ih6 _ _ _ _ _ _ _)
      | (with_reducible exact braid_Bounds.mono _ _)
      | (with_reducible exact braid_Pattern.mono _ _ _)
      | (with_reducible exact braid_Sizes.mono _ _ _)
      | (with_reducible exact braid_Weave_int.mono _ _ _)
      | (with_reducible exact churnlaw12_awake.mono _)
      | (with_reducible exact LeO.refl _)
      | (with_reducible exact LeO.none _)
      | (with_reducible refine LeO.ite ?_ ?_)
      | (with_reducible refine LeO.bind ?_ (fun _ => ?_))
      | exact ih0 _ _ _ _ _ _
      | exact ih1 _ _ _ _ _ _ _ _
      | exact ih2 _ _ _ _ _ _ _ _ _
      | exact ih3 _ _ _ _ _ _ _ _ _ _ _
      | exact ih4 _ _ _ _ _ _ _ _ _ _ _ _
      | exact ih5 _ _ _ _ _
      | exact ih6 _ _ _ _ _ _ _
      | exact braid_Bounds.mono _ _
      | exact braid_Pattern.mono _ _ _
      | exact braid_Sizes.mono _ _ _
      | exact braid_Weave_int.mono _ _ _
      | exact churnlaw12_awake.mono _
      | exact LeO.none _
      | refine LeO.ite ?_ ?_
      | refine LeO.bind ?_ (fun _ => ?_)
    · intro y0 y1 y2 y3 y4 y5 y6 y7
      unfold churnlaw12_BraidDeals.l0
      repeat' first
      | (with_reducible exact ih0 _ _ _ _ _ _)
      | (with_reducible exact ih1 _ _ _ _ _ _ _ _)
      | (with_reducible exact ih2 _ _ _ _ _ _ _ _ _)
      | (with_reducible exact ih3 _ _ _ _ _ _ _ _ _ _ _)
      | (with_reducible exact ih4 _ _ _ _ _ _ _ _ _ _ _ _)
      | (with_reducible exact ih5 _ _ _ _ _)
      | (with_reducible exact ih6 _ _ _ _ _ _ _)
      | (with_reducible exact braid_Bounds.mono _ _)
      | (with_reducible exact braid_Pattern.mono _ _ _)
      | (with_reducible exact braid_Sizes.mono _ _ _)
      | (with_reducible exact braid_Weave_int.mono _ _ _)
      | (with_reducible exact churnlaw12_awake.mono _)
      | (with_reducible exact LeO.refl _)
      | (with_reducible exact LeO.none _)
      | (with_reducible refine LeO.ite ?_ ?_)
      | (with_reducible refine LeO.bind ?_ (fun _ => ?_))
      | exact ih0 _ _ _ _ _ _
      | exact ih1 _ _ _ _ _ _ _ _
      | exact ih2 _ _ _ _ _ _ _ _ _
      | exact ih3 _ _ _ _ _ _ _ _ _ _ _
      | exact ih4 _ _ _ _ _ _ _ _ _ _ _ _
      | exact ih5 _ _ _ _ _
      | exact ih6 _ _ _ _ _ _ _
      | exact braid_Bounds.mono _ _
      | exact braid_Pattern.mono _ _ _
      | exact braid_Sizes.mono _ _ _
      | exact braid_Weave_int.mono _ _ _
      | exact churnlaw12_awake.mono _
      | exact LeO.none _
      | refine LeO.ite ?_ ?_
      | refine LeO.bind ?_ (fun _ => ?_)
    · intro y0 y1 y2 y3 y4 y5 y6 y7 y8
      unfold churnlaw12_BraidDeals.l1
      repeat' first
      | (with_reducible exact ih0 _ _ _ _ _ _)
      | (with_reducible exact ih1 _ _ _ _ _ _ _ _)
      | (with_reducible exact ih2 _ _ _ _ _ _ _ _ _)
      | (with_reducible exact ih3 _ _ _ _ _ _ _ _ _ _ _)
      | (with_reducible exact ih4 _ _ _ _ _ _ _ _ _ _ _ _)
      | (with_reducible exact ih5 _ _ _ _ _)
      | (with_reducible exact ih6 _ _ _ _ _ _ _)
      | (with_reducible exact braid_Bounds.mono _ _)
      | (with_reducible exact braid_Pattern.mono _ _ _)
      | (with_reducible exact braid_Sizes.mono _ _ _)
      | (with_reducible exact braid_Weave_int.mono _ _ _)
      | (with_reducible exact churnlaw12_awake.mono _)
      | (with_reducible exact LeO.refl _)
      | (with_reducible exact LeO.none _)
      | (with_reducible refine LeO.ite ?_ ?_)
      | (with_reducible refine LeO.bind ?_ (fun _ => ?_))
      | exact ih0 _ _ _ _ _ _
      | exact ih1 _ _ _ _ _ _ _ _
      | exact ih2 _ _ _ _ _ _ _ _ _
      | exact ih3 _ _ _ _ _ _ _ _ _ _ _
      | exact ih4 _ _ _ _ _ _ _ _ _ _ _ _
      | exact ih5 _ _ _ _ _
      | exact ih6 _ _ _ _ _ _ _
      | exact braid_Bounds.mono _ _
      | exact braid_Pattern.mono _ _ _
      | exact braid_Sizes.mono _ _ _
      | exact braid_Weave_int.mono _ _ _
      | exact churnlaw12_awake.mono _
      | exact LeO.none _
      | refine LeO.ite ?_ ?_
      | refine LeO.bind ?_ (fun _ => ?_)
    · intro y0 y1 y2 y3 y4 y5 y6 y7 y8 y9 y10
      unfold churnlaw12_BraidDeals.j3
      repeat' first
      | (with_reducible exact ih0 _ _ _ _ _ _)
      | (with_reducible exact ih1 _ _ _ _ _ _ _ _)
      | (with_reducible exact ih2 _ _ _ _ _ _ _ _ _)
      | (with_reducible exact ih3 _ _ _ _ _ _ _ _ _ _ _)
      | (with_reducible exact ih4 _ _ _ _ _ _ _ _ _ _ _ _)
      | (with_reducible exact ih5 _ _ _ _ _)
      | (with_reducible exact ih6 _ _ _ _ _ _ _)
      | (with_reducible exact braid_Bounds.mono _ _)
      | (with_reducible exact braid_Pattern.mono _ _ _)
      | (with_reducible exact braid_Sizes.mono _ _ _)
      | (with_reducible exact braid_Weave_int.mono _ _ _)
      | (with_reducible exact churnlaw12_awake.mono _)
      | (with_reducible exact LeO.refl _)
      | (with_reducible exact LeO.none _)
      | (with_reducible refine LeO.ite ?_ ?_)
      | (with_reducible refine LeO.bind ?_ (fun _ => ?_))
      | exact ih0 _ _ _ _ _ _
      | exact ih1 _ _ _ _ _ _ _ _
      | exact ih2 _ _ _ _ _ _ _ _ _
      | exact ih3 _ _ _ _ _ _ _ _ _ _ _
      | exact ih4 _ _ _ _ _ _ _ _ _ _ _ _
      | exact ih5 _ _ _ _ _
      | exact ih6 _ _ _ _ _ _ _
      | exact braid_Bounds.mono _ _
      | exact braid_Pattern.mono _ _ _
      | exact braid_Sizes.mono _ _ _
      | exact braid_Weave_int.mono _ _ _
      | exact churnlaw12_awake.mono _
      | exact LeO.none _
      | refine LeO.ite ?_ ?_
      | refine LeO.bind ?_ (fun _ => ?_)
    · intro y0 y1 y2 y3 y4 y5 y6 y7 y8 y9 y10 y11
      unfold churnlaw12_BraidDeals.l2
      repeat' first
      | (with_reducible exact ih0 _ _ _ _ _ _)
      | (with_reducible exact ih1 _ _ _ _ _ _ _ _)
      | (with_reducible exact ih2 _ _ _ _ _ _ _ _ _)
      | (with_reducible exact ih3 _ _ _ _ _ _ _ _ _ _ _)
      | (with_reducible exact ih4 _ _ _ _ _ _ _ _ _ _ _ _)
      | (with_reducible exact ih5 _ _ _ _ _)
      | (with_reducible exact ih6 _ _ _ _ _ _ _)
      | (with_reducible exact braid_Bounds.mono _ _)
      | (with_reducible exact braid_Pattern.mono _ _ _)
      | (with_reducible exact braid_Sizes.mono _ _ _)
      | (with_reducible exact braid_Weave_int.mono _ _ _)
      | (with_reducible exact churnlaw12_awake.mono _)
      | (with_reducible exact LeO.refl _)
      | (with_reducible exact LeO.none _)
      | (with_reducible refine LeO.ite ?_ ?_)
      | (with_reducible refine LeO.bind ?_ (fun _ => ?_))
      | exact ih0 _ _ _ _ _ _
      | exact ih1 _ _ _ _ _ _ _ _
      | exact ih2 _ _ _ _ _ _ _ _ _
      | exact ih3 _ _ _ _ _ _ _ _ _ _ _
      | exact ih4 _ _ _ _ _ _ _ _ _ _ _ _
      | exact ih5 _ _ _ _ _
      | exact ih6 _ _ _ _ _ _ _
      | exact braid_Bounds.mono _ _
      | exact braid_Pattern.mono _ _ _
      | exact braid_Sizes.mono _ _ _
      | exact braid_Weave_int.mono _ _ _
      | exact churnlaw12_awake.mono _
      | exact LeO.none _
      | refine LeO.ite ?_ ?_
      | refine LeO.bind ?_ (fun _ => ?_)
    · intro y0 y1 y2 y3 y4
      unfold churnlaw12_BraidDeals.j5
      repeat' first
      | (with_reducible exact ih0 _ _ _ _ _ _)
      | (with_reducible exact ih1 _ _ _ _ _ _ _ _)
      | (with_reducible exact ih2 _ _ _ _ _ _ _ _ _)
      | (with_reducible exact ih3 _ _ _ _ _ _ _ _ _ _ _)
      | (with_reducible exact ih4 _ _ _ _ _ _ _ _ _ _ _ _)
      | (with_reducible exact ih5 _ _ _ _ _)
      | (with_reducible exact ih6 _ _ _ _ _ _ _)
      | (with_reducible exact braid_Bounds.mono _ _)
      | (with_reducible exact braid_Pattern.mono _ _ _)
      | (with_reducible exact braid_Sizes.mono _ _ _)
      | (with_reducible exact braid_Weave_int.mono _ _ _)
      | (with_reducible exact churnlaw12_awake.mono _)
      | (with_reducible exact LeO.refl _)
      | (with_reducible exact LeO.none _)
      | (with_reducible refine LeO.ite ?_ ?_)
      | (with_reducible refine LeO.bind ?_ (fun _ => ?_))
      | exact ih0 _ _ _ _ _ _
      | exact ih1 _ _ _ _ _ _ _ _
      | exact ih2 _ _ _ _ _ _ _ _ _
      | exact ih3 _ _ _ _ _ _ _ _ _ _ _
      | exact ih4 _ _ _ _ _ _ _ _ _ _ _ _
      | exact ih5 _ _ _ _ _
      | exact ih6 _ _ _ _ _ _ _
      | exact braid_Bounds.mono _ _
      | exact braid_Pattern.mono _ _ _
      | exact braid_Sizes.mono _ _ _
      | exact braid_Weave_int.mono _ _ _
      | exact churnlaw12_awake.mono _
      | exact LeO.none _
      | refine LeO.ite ?_ ?_
      | refine LeO.bind ?_ (fun _ => ?_)
    · intro y0 y1 y2 y3 y4 y5 y6
      unfold churnlaw12_BraidDeals.l3
      repeat' first
      | (with_reducible exact ih0 _ _ _ _ _ _)
      | (with_reducible exact ih1 _ _ _ _ _ _ _ _)
      | (with_reducible exact ih2 _ _ _ _ _ _ _ _ _)
      | (with_reducible exact ih3 _ _ _ _ _ _ _ _ _ _ _)
      | (with_reducible exact ih4 _ _ _ _ _ _ _ _ _ _ _ _)
      | (with_reducible exact ih5 _ _ _ _ _)
      | (with_reducible exact ih6 _ _ _ _ _ _ _)
      | (with_reducible exact braid_Bounds.mono _ _)
      | (with_reducible exact braid_Pattern.mono _ _ _)
      | (with_reducible exact braid_Sizes.mono _ _ _)
      | (with_reducible exact braid_Weave_int.mono _ _ _)
      | (with_reducible exact churnlaw12_awake.mono _)
      | (with_reducible exact LeO.refl _)
      | (with_reducible exact LeO.none _)
      | (with_reducible refine LeO.ite ?_ ?_)
      | (with_reducible refine LeO.bind ?_ (fun _ => ?_))
      | exact ih0 _ _ _ _ _ _
      | exact ih1 _ _ _ _ _ _ _ _
      | exact ih2 _ _ _ _ _ _ _ _ _
      | exact ih3 _ _ _ _ _ _ _ _ _ _ _
      | exact ih4 _ _ _ _ _ _ _ _ _ _ _ _
      | exact ih5 _ _ _ _ _
      | exact ih6 _ _ _ _ _ _ _
      | exact braid_Bounds.mono _ _
      | exact braid_Pattern.mono _ _ _
      | exact braid_Sizes.mono _ _ _
      | exact braid_Weave_int.mono _ _ _
      | exact churnlaw12_awake.mono _
      | exact LeO.none _
      | refine LeO.ite ?_ ?_
      | refine LeO.bind ?_ (fun _ => ?_)
theorem churnlaw12_BraidDeals.mono : ∀ a0 a1 a2 k, LeO (churnlaw12_BraidDeals.f k a0 a1 a2) (churnlaw12_BraidDeals.f (k + 1) a0 a1 a2) := by
  intro a0 a1 a2 k
  obtain ⟨ih0, ih1, ih2, ih3, ih4, ih5, ih6⟩ := churnlaw12_BraidDeals.mono_l k
  unfold churnlaw12_BraidDeals.f
  repeat' first
      | (with_reducible exact ih0 _ _ _ _ _ _)
      | (with_reducible exact ih1 _ _ _ _ _ _ _ _)
      | (with_reducible exact ih2 _ _ _ _ _ _ _ _ _)
      | (with_reducible exact ih3 _ _ _ _ _ _ _ _ _ _ _)
      | (with_reducible exact ih4 _ _ _ _ _ _ _ _ _ _ _ _)
      | (with_reducible exact ih5 _ _ _ _ _)
      | (with_reducible exact ih6 _ _ _ _ _ _ _)
      | (with_reducible exact braid_Bounds.mono _ _)
      | (with_reducible exact braid_Pattern.mono _ _ _)
      | (with_reducible exact braid_Sizes.mono _ _ _)
      | (with_reducible exact braid_Weave_int.mono _ _ _)
      | (with_reducible exact churnlaw12_awake.mono _)
      | (with_reducible exact LeO.refl _)
      | (with_reducible exact LeO.none _)
      | (with_reducible refine LeO.ite ?_ ?_)
      | (with_reducible refine LeO.bind ?_ (fun _ => ?_))
      | exact ih0 _ _ _ _ _ _
      | exact ih1 _ _ _ _ _ _ _ _
      | exact ih2 _ _ _ _ _ _ _ _ _
      | exact ih3 _ _ _ _ _ _ _ _ _ _ _
      | exact ih4 _ _ _ _ _ _ _ _ _ _ _ _
      | exact ih5 _ _ _ _ _
      | exact ih6 _ _ _ _ _ _ _
      | exact braid_Bounds.mono _ _
      | exact braid_Pattern.mono _ _ _
      | exact braid_Sizes.mono _ _ _
      | exact braid_Weave_int.mono _ _ _
      | exact churnlaw12_awake.mono _
      | exact LeO.none _
      | refine LeO.ite ?_ ?_
      | refine LeO.bind ?_ (fun _ => ?_)
set_option maxHeartbeats 8000000 in
set_option maxRecDepth 100000 in
theorem churnlaw12_BraidDeals.calls (k : Nat) (a0 : Int) (a1 : Int) (A2 : Option Addr) (c2 : Nat) (l2 : List Int) (r : Bool) (w : World) (hr2 : Kd.C (Kd.int .i64) w A2 l2.length l2) (hc2 : l2.length ≤ c2) (h : churnlaw12_BraidDeals.f k a0 a1 l2 = some r) :
    Calls Try.prog 8 #[.int .i64 a0, .int .i64 a1, .slice A2 l2.length c2] w fun e w' => e = .returned (.bool r) ∧ Below w.heap.size w w' := by
  have HR2 := Aside0.mk hr2
  have HC2 := Aside0.mk hc2
  clear hr2 hc2
  have HB := Aside0.mk (Below.refl w.heap.size w)
  have H : ((churnlaw12_awake.f k).bind fun t440 => (if t440 = true then ((braid_Sizes.f k a0 a1).bind fun bt441 => (if a0 ≥ 0 then (if a0 ≤ 256 then (if a1 ≥ 1 then (churnlaw12_BraidDeals.j0 k a0 a1 l2 bt441.1 bt441.2 ((bt441.2 == 0) != (decide (a1 ≤ 64)))) else (churnlaw12_BraidDeals.j0 k a0 a1 l2 bt441.1 bt441.2 ((bt441.2 == 0) != false))) else (churnlaw12_BraidDeals.j0 k a0 a1 l2 bt441.1 bt441.2 ((bt441.2 == 0) != false))) else (churnlaw12_BraidDeals.j0 k a0 a1 l2 bt441.1 bt441.2 ((bt441.2 == 0) != false)))) else (some false))) = some r := h
  clear h
  replace H := Option.bind_eq_some_iff.mp H
  obtain ⟨t440, A40, H⟩ := H
  replace H : (if t440 = true then ((braid_Sizes.f k a0 a1).bind fun bt441 => (if a0 ≥ 0 then (if a0 ≤ 256 then (if a1 ≥ 1 then (churnlaw12_BraidDeals.j0 k a0 a1 l2 bt441.1 bt441.2 ((bt441.2 == 0) != (decide (a1 ≤ 64)))) else (churnlaw12_BraidDeals.j0 k a0 a1 l2 bt441.1 bt441.2 ((bt441.2 == 0) != false))) else (churnlaw12_BraidDeals.j0 k a0 a1 l2 bt441.1 bt441.2 ((bt441.2 == 0) != false))) else (churnlaw12_BraidDeals.j0 k a0 a1 l2 bt441.1 bt441.2 ((bt441.2 == 0) != false)))) else (some false)) = some r := H
  have A4 := Aside0.mk A40
  clear A40
  by_cases c5 : t440 = true
  · subst c5
    have H1 : ((braid_Sizes.f k a0 a1).bind fun bt441 => (if a0 ≥ 0 then (if a0 ≤ 256 then (if a1 ≥ 1 then (churnlaw12_BraidDeals.j0 k a0 a1 l2 bt441.1 bt441.2 ((bt441.2 == 0) != (decide (a1 ≤ 64)))) else (churnlaw12_BraidDeals.j0 k a0 a1 l2 bt441.1 bt441.2 ((bt441.2 == 0) != false))) else (churnlaw12_BraidDeals.j0 k a0 a1 l2 bt441.1 bt441.2 ((bt441.2 == 0) != false))) else (churnlaw12_BraidDeals.j0 k a0 a1 l2 bt441.1 bt441.2 ((bt441.2 == 0) != false)))) = some r := by rw [if_pos rfl] at H; exact H
    clear H
    have H := H1
    clear H1
    replace H := Option.bind_eq_some_iff.mp H
    obtain ⟨⟨t441, t442⟩, A60, H⟩ := H
    replace H : (if a0 ≥ 0 then (if a0 ≤ 256 then (if a1 ≥ 1 then (churnlaw12_BraidDeals.j0 k a0 a1 l2 t441 t442 ((t442 == 0) != (decide (a1 ≤ 64)))) else (churnlaw12_BraidDeals.j0 k a0 a1 l2 t441 t442 ((t442 == 0) != false))) else (churnlaw12_BraidDeals.j0 k a0 a1 l2 t441 t442 ((t442 == 0) != false))) else (churnlaw12_BraidDeals.j0 k a0 a1 l2 t441 t442 ((t442 == 0) != false))) = some r := H
    have A6 := Aside0.mk A60
    clear A60
    have HC7 := Aside0.mk H
    clear H
    go_enter Try.func8, Try.ntmps8
    go_upto_region 4 with (first | (go_at_call 16; (with_reducible refine (churnlaw12_awake.calls k  true _ A4.out).mono ?_); rintro e w8 ⟨rfl, hb⟩; have n0_ := Aside0.mk (below_step (by repeat (first | (with_reducible first | exact HB.out | apply below_alloc | apply pw_below_drewN | apply below_drew1) | exact HB.out)) hb); clear HB; have HB := n0_; clear n0_; (try clear hb); (try clear hb2); (try clear hk); (try clear hi)) | (go_at_call 19; (with_reducible refine (braid_Sizes.calls k a0 a1 t441 t442 _ A6.out).mono ?_); rintro e w9 ⟨v443, rfl, ho0, hb⟩; have n0_ := Aside0.mk (Kd.R_lower ho0 (below_size (by repeat (first | (with_reducible first | exact HB.out | apply below_alloc | apply pw_below_drewN | apply below_drew1) | exact HB.out)))); have n1_ := Aside0.mk (below_step (by repeat (first | (with_reducible first | exact HB.out | apply below_alloc | apply pw_below_drewN | apply below_drew1) | exact HB.out)) hb); clear HB; have HO444 := n0_; have HB := n1_; clear n0_ n1_; (try clear hb); (try clear hb2); (try clear hk); (try clear hi); (try clear ho0)))
    repeat (go_quiet (first | (go_at_call 16; (with_reducible refine (churnlaw12_awake.calls k  true _ A4.out).mono ?_); rintro e w8 ⟨rfl, hb⟩; have n0_ := Aside0.mk (below_step (by repeat (first | (with_reducible first | exact HB.out | apply below_alloc | apply pw_below_drewN | apply below_drew1) | exact HB.out)) hb); clear HB; have HB := n0_; clear n0_; (try clear hb); (try clear hb2); (try clear hk); (try clear hi)) | (go_at_call 19; (with_reducible refine (braid_Sizes.calls k a0 a1 t441 t442 _ A6.out).mono ?_); rintro e w9 ⟨v443, rfl, ho0, hb⟩; have n0_ := Aside0.mk (Kd.R_lower ho0 (below_size (by repeat (first | (with_reducible first | exact HB.out | apply below_alloc | apply pw_below_drewN | apply below_drew1) | exact HB.out)))); have n1_ := Aside0.mk (below_step (by repeat (first | (with_reducible first | exact HB.out | apply below_alloc | apply pw_below_drewN | apply below_drew1) | exact HB.out)) hb); clear HB; have HO444 := n0_; have HB := n1_; clear n0_ n1_; (try clear hb); (try clear hb2); (try clear hk); (try clear hi); (try clear ho0))); go_upto_region 4 with (first | (go_at_call 16; (with_reducible refine (churnlaw12_awake.calls k  true _ A4.out).mono ?_); rintro e w8 ⟨rfl, hb⟩; have n0_ := Aside0.mk (below_step (by repeat (first | (with_reducible first | exact HB.out | apply below_alloc | apply pw_below_drewN | apply below_drew1) | exact HB.out)) hb); clear HB; have HB := n0_; clear n0_; (try clear hb); (try clear hb2); (try clear hk); (try clear hi)) | (go_at_call 19; (with_reducible refine (braid_Sizes.calls k a0 a1 t441 t442 _ A6.out).mono ?_); rintro e w9 ⟨v443, rfl, ho0, hb⟩; have n0_ := Aside0.mk (Kd.R_lower ho0 (below_size (by repeat (first | (with_reducible first | exact HB.out | apply below_alloc | apply pw_below_drewN | apply below_drew1) | exact HB.out)))); have n1_ := Aside0.mk (below_step (by repeat (first | (with_reducible first | exact HB.out | apply below_alloc | apply pw_below_drewN | apply below_drew1) | exact HB.out)) hb); clear HB; have HO444 := n0_; have HB := n1_; clear n0_ n1_; (try clear hb); (try clear hb2); (try clear hk); (try clear hi); (try clear ho0))))
    (try simp only [Act.put, List.setIfInBounds_toArray, List.set_cons_zero, List.set_cons_succ])
    go_cut [51] (fun v51 wc => ∃ (kq : Nat) (x51_6 : Bool), v51 = .bool x51_6 ∧ Aside0 (churnlaw12_BraidDeals.j0 kq a0 a1 l2 t441 t442 x51_6 = some r) ∧ Aside0 (kq ≤ k) ∧ Aside0 (Kd.R (Kd.int .i64) 3 wc w.heap.size (fun _ => True) v443 t441) ∧ Aside0 (Below w.heap.size w wc))
    case first => as_aux_lemma =>
      have H := HC7.out
      clear HC7
      by_cases c10 : a0 ≥ 0
      · rw [if_pos c10] at H
        have c10b0 : decide (0 ≤ a0) = true := decide_eq_true c10
        clear c10
        (first | rw [c10b0] | (simp only [i64_w, i32_w]; rw [c10b0]) | skip)
        by_cases c11 : a0 ≤ 256
        · rw [if_pos c11] at H
          have c11b0 : decide (a0 ≤ 256) = true := decide_eq_true c11
          clear c11
          by_cases c12 : a1 ≥ 1
          · rw [if_pos c12] at H
            have c12b0 : decide (1 ≤ a1) = true := decide_eq_true c12
            clear c12
            have H' := Aside0.mk H
            clear H
            go_wp2
            repeat (go_quiet (fail); try go_wp2)
            go_meet
            case rel => exact ⟨_, (((t442 == 0) != (decide (a1 ≤ 64)))), (by first | rfl | (simp; done) | (simp [*]; done)), H', ⟨by first | omega | exact Nat.le_refl _⟩, ⟨by (with_reducible repeat (first | apply Kd.R_alloc | apply Kd.R_drewN | apply Kd.R_drew)); exact HO444.out⟩, ⟨by repeat (first | (with_reducible first | exact HB.out | apply below_alloc | apply pw_below_drewN | apply below_drew1) | exact HB.out)⟩⟩
          · rw [if_neg c12] at H
            have c12b0 : decide (1 ≤ a1) = false := decide_eq_false c12
            clear c12
            have H' := Aside0.mk H
            clear H
            go_wp2
            repeat (go_quiet (fail); try go_wp2)
            go_meet
            case rel => exact ⟨_, (((t442 == 0) != false)), (by first | rfl | (simp; done) | (simp [*]; done)), H', ⟨by first | omega | exact Nat.le_refl _⟩, ⟨by (with_reducible repeat (first | apply Kd.R_alloc | apply Kd.R_drewN | apply Kd.R_drew)); exact HO444.out⟩, ⟨by repeat (first | (with_reducible first | exact HB.out | apply below_alloc | apply pw_below_drewN | apply below_drew1) | exact HB.out)⟩⟩
        · rw [if_neg c11] at H
          have c11b0 : decide (a0 ≤ 256) = false := decide_eq_false c11
          clear c11
          have H' := Aside0.mk H
          clear H
          go_wp2
          repeat (go_quiet (fail); try go_wp2)
          go_meet
          case rel => exact ⟨_, (((t442 == 0) != false)), (by first | rfl | (simp; done) | (simp [*]; done)), H', ⟨by first | omega | exact Nat.le_refl _⟩, ⟨by (with_reducible repeat (first | apply Kd.R_alloc | apply Kd.R_drewN | apply Kd.R_drew)); exact HO444.out⟩, ⟨by repeat (first | (with_reducible first | exact HB.out | apply below_alloc | apply pw_below_drewN | apply below_drew1) | exact HB.out)⟩⟩
      · rw [if_neg c10] at H
        have c10b0 : decide (0 ≤ a0) = false := decide_eq_false c10
        clear c10
        (first | rw [c10b0] | (simp only [i64_w, i32_w]; rw [c10b0]) | skip)
        have H' := Aside0.mk H
        clear H
        go_wp2
        repeat (go_quiet (fail); try go_wp2)
        go_meet
        case rel => exact ⟨_, (((t442 == 0) != false)), (by first | rfl | (simp; done) | (simp [*]; done)), H', ⟨by first | omega | exact Nat.le_refl _⟩, ⟨by (with_reducible repeat (first | apply Kd.R_alloc | apply Kd.R_drewN | apply Kd.R_drew)); exact HO444.out⟩, ⟨by repeat (first | (with_reducible first | exact HB.out | apply below_alloc | apply pw_below_drewN | apply below_drew1) | exact HB.out)⟩⟩
    case rest => as_aux_lemma =>
      clear HC7
      try clear c1
      try clear c2
      try clear p2
      try clear c5
      try clear c8
      try clear c10
      try clear c10b0
      try clear c11
      try clear c11b0
      try clear c12
      try clear c12b0
      obtain ⟨kq, x51_6, rfl, HA, HJ6, HO_7, HB⟩ := hcut
      cases kq with
      | zero => exact absurd HA.out (by simp [churnlaw12_BraidDeals.j0])
      | succ kj6 =>
        have H := HA.out
        clear HA
        simp only [churnlaw12_BraidDeals.j0] at H
        by_cases c13 : x51_6 = true
        · subst c13
          have H1 : (some false) = some r := by rw [if_pos rfl] at H; exact H
          clear H
          have H := H1
          clear H1
          obtain rfl := Option.some.inj H
          go_wp2
          repeat (go_quiet (fail); try go_wp2)
          go_ret
          exact ⟨by first | rfl | (simp [errW_none, errW_some] <;> rfl) | (simp [*, errW_none, errW_some] <;> rfl), by repeat (first | (with_reducible first | exact HB.out | apply below_alloc | apply pw_below_drewN | apply below_drew1) | exact HB.out)⟩
        · replace c13 := Bool.eq_false_iff.mpr c13
          subst c13
          have H1 : (if t442 = 0 then (if (t441.length : Int) = a1 then ((braid_Bounds.f kj6 a0).bind fun t445 => (if (t445.length : Int) = a0 then (if 0 ≤ a0 then (if (a0 : Int).toNat ≤ 35184372088832 then (churnlaw12_BraidDeals.l0 kj6 a0 a1 l2 t441 (List.replicate (a0 : Int).toNat 0) t445 (t445.length : Int) 0) else (none)) else (none)) else (some false))) else (some false)) else (if t442 = 2 then (some ((t441.length : Int) == 0)) else (some false))) = some r := by rw [if_neg (show ¬ (false = true) by decide)] at H; exact H
          clear H
          have H := H1
          clear H1
          by_cases c14 : t442 = 0
          · rw [if_pos c14] at H
            have c14b0 : (t442 == 0) = true := beq_iff_eq.mpr c14
            have c14b1 : (t442 != 0) = false := bne_eq_false_iff_eq.mpr c14
            clear c14
            by_cases c15 : (t441.length : Int) = a1
            · rw [if_pos c15] at H
              have c15b0 : ((t441.length : Int) == a1) = true := beq_iff_eq.mpr c15
              have c15b1 : ((t441.length : Int) != a1) = false := bne_eq_false_iff_eq.mpr c15
              clear c15
              replace H := Option.bind_eq_some_iff.mp H
              obtain ⟨t445, A160, H⟩ := H
              replace H : (if (t445.length : Int) = a0 then (if 0 ≤ a0 then (if (a0 : Int).toNat ≤ 35184372088832 then (churnlaw12_BraidDeals.l0 kj6 a0 a1 l2 t441 (List.replicate (a0 : Int).toNat 0) t445 (t445.length : Int) 0) else (none)) else (none)) else (some false)) = some r := H
              have A16 := Aside0.mk A160
              clear A160
              by_cases c17 : (t445.length : Int) = a0
              · rw [if_pos c17] at H
                have c17b0 : ((t445.length : Int) == a0) = true := beq_iff_eq.mpr c17
                have c17b1 : ((t445.length : Int) != a0) = false := bne_eq_false_iff_eq.mpr c17
                clear c17
                by_cases c18 : 0 ≤ a0
                · rw [if_pos c18] at H
                  have c18b0 := eq_true c18
                  have c18b1 : decide (0 ≤ a0) = true := decide_eq_true c18
                  clear c18
                  by_cases c19 : (a0 : Int).toNat ≤ 35184372088832
                  · rw [if_pos c19] at H
                    have c19b0 := eq_true c19
                    have c19b1 : decide ((a0 : Int).toNat ≤ 35184372088832) = true := decide_eq_true c19
                    clear c19
                    obtain ⟨y448, hy448⟩ : ∃ y_ : List Int, y_ = (List.replicate (a0 : Int).toNat 0) := ⟨_, rfl⟩
                    replace H : (churnlaw12_BraidDeals.l0 kj6 a0 a1 l2 t441 y448 t445 (t445.length : Int) 0) = some r := by first | (rw [hy448]; with_reducible exact H) | (have H2_ := (Option.bind_some _ _).symm.trans H; rw [hy448]; with_reducible exact H2_) | (have H2_ := (Option.bind_some _ _).symm.trans H; with_reducible exact H2_) | with_reducible exact H | (rw [hy448]; exact H) | exact H
                    have Ny448 := Aside0.mk hy448
                    clear hy448
                    have H' := Aside0.mk H
                    clear H
                    obtain ⟨Ao20, co20, eo20⟩ := Kd.R_slice HO_7.out
                    subst eo20
                    go_wp2_with (first | (go_at_call 20; (with_reducible refine (braid_Bounds.calls kj6 a0 t445 _ A16.out).mono ?_); rintro e w21 ⟨v446, rfl, ho0, hb⟩; have n0_ := Aside0.mk (Kd.R_elder' (by (with_reducible repeat (first | apply Kd.R_alloc | apply Kd.R_drewN | apply Kd.R_drew)); exact HO_7.out) (Kd.R_base ho0) hb); have n1_ := Aside0.mk (Kd.R_lower (Kd.R_new' ho0 (Kd.R_lt (by (with_reducible repeat (first | apply Kd.R_alloc | apply Kd.R_drewN | apply Kd.R_drew)); exact HO_7.out))) (below_size (by repeat (first | (with_reducible first | exact HB.out | apply below_alloc | apply pw_below_drewN | apply below_drew1) | exact HB.out)))); have n2_ := Aside0.mk (below_step (by repeat (first | (with_reducible first | exact HB.out | apply below_alloc | apply pw_below_drewN | apply below_drew1) | exact HB.out)) hb); clear HO_7; clear HB; have HO_7 := n0_; have HO447 := n1_; have HB := n2_; clear n0_ n1_ n2_; (try clear hb); (try clear hb2); (try clear hk); (try clear hi); (try clear ho0); obtain ⟨Ao22, co22, eo22⟩ := Kd.R_slice HO447.out; subst eo22) | ((with_reducible refine gate_dst (N := 72) rfl ?_); (try (refine gate_guard (by rfl) ?_; dsimp only)); refine Kd.R_make (Kd.int .i64) _ 3 rfl (N := 72) rfl 22 _ _ rfl a0 rfl rfl Try.underlying22 (.int .i64 0) 8 info3 rfl (by decide) (by omega) 0 (ok := fun _ => True) (okp := fun _ => True) rfl (fun _ hk => hk) trivial (of_decide_eq_true (by first | (with_reducible assumption) | assumption)) (Nat.le_trans (Nat.mul_le_mul_right _ (of_decide_eq_true (by first | (with_reducible assumption) | assumption) : a0.toNat ≤ 35184372088832)) (by omega)) (Below.refl _ _) (Nat.le_refl _) ?_; intro v449 w23 ho24 hb hg_ hnew_; clear hg_ hnew_; (first | rw [← Ny448.out] at ho24 | (simp only [Int.reduceToNat] at ho24; rw [← Ny448.out] at ho24)); have n0_ := Aside0.mk (Kd.R_elder' (by (with_reducible repeat (first | apply Kd.R_alloc | apply Kd.R_drewN | apply Kd.R_drew)); exact HO_7.out) (Kd.R_base ho24) hb); have n1_ := Aside0.mk (Kd.R_elder' (by (with_reducible repeat (first | apply Kd.R_alloc | apply Kd.R_drewN | apply Kd.R_drew)); exact HO447.out) (Kd.R_base ho24) hb); have n2_ := Aside0.mk (Kd.R_lower (Kd.R_new' (Kd.R_new' ho24 (Kd.R_lt (by (with_reducible repeat (first | apply Kd.R_alloc | apply Kd.R_drewN | apply Kd.R_drew)); exact HO_7.out))) (Kd.R_lt (by (with_reducible repeat (first | apply Kd.R_alloc | apply Kd.R_drewN | apply Kd.R_drew)); exact HO447.out))) (below_size (by repeat (first | (with_reducible first | exact HB.out | apply below_alloc | apply pw_below_drewN | apply below_drew1) | exact HB.out)))); have n3_ := Aside0.mk (below_step (by repeat (first | (with_reducible first | exact HB.out | apply below_alloc | apply pw_below_drewN | apply below_drew1) | exact HB.out)) hb); clear HO_7; clear HO447; clear HB; have HO_7 := n0_; have HO447 := n1_; have HO450 := n2_; have HB := n3_; clear n0_ n1_ n2_ n3_; clear hb ho24))
                    repeat (go_quiet (first | (go_at_call 20; (with_reducible refine (braid_Bounds.calls kj6 a0 t445 _ A16.out).mono ?_); rintro e w21 ⟨v446, rfl, ho0, hb⟩; have n0_ := Aside0.mk (Kd.R_elder' (by (with_reducible repeat (first | apply Kd.R_alloc | apply Kd.R_drewN | apply Kd.R_drew)); exact HO_7.out) (Kd.R_base ho0) hb); have n1_ := Aside0.mk (Kd.R_lower (Kd.R_new' ho0 (Kd.R_lt (by (with_reducible repeat (first | apply Kd.R_alloc | apply Kd.R_drewN | apply Kd.R_drew)); exact HO_7.out))) (below_size (by repeat (first | (with_reducible first | exact HB.out | apply below_alloc | apply pw_below_drewN | apply below_drew1) | exact HB.out)))); have n2_ := Aside0.mk (below_step (by repeat (first | (with_reducible first | exact HB.out | apply below_alloc | apply pw_below_drewN | apply below_drew1) | exact HB.out)) hb); clear HO_7; clear HB; have HO_7 := n0_; have HO447 := n1_; have HB := n2_; clear n0_ n1_ n2_; (try clear hb); (try clear hb2); (try clear hk); (try clear hi); (try clear ho0); obtain ⟨Ao22, co22, eo22⟩ := Kd.R_slice HO447.out; subst eo22) | ((with_reducible refine gate_dst (N := 72) rfl ?_); (try (refine gate_guard (by rfl) ?_; dsimp only)); refine Kd.R_make (Kd.int .i64) _ 3 rfl (N := 72) rfl 22 _ _ rfl a0 rfl rfl Try.underlying22 (.int .i64 0) 8 info3 rfl (by decide) (by omega) 0 (ok := fun _ => True) (okp := fun _ => True) rfl (fun _ hk => hk) trivial (of_decide_eq_true (by first | (with_reducible assumption) | assumption)) (Nat.le_trans (Nat.mul_le_mul_right _ (of_decide_eq_true (by first | (with_reducible assumption) | assumption) : a0.toNat ≤ 35184372088832)) (by omega)) (Below.refl _ _) (Nat.le_refl _) ?_; intro v449 w23 ho24 hb hg_ hnew_; clear hg_ hnew_; (first | rw [← Ny448.out] at ho24 | (simp only [Int.reduceToNat] at ho24; rw [← Ny448.out] at ho24)); have n0_ := Aside0.mk (Kd.R_elder' (by (with_reducible repeat (first | apply Kd.R_alloc | apply Kd.R_drewN | apply Kd.R_drew)); exact HO_7.out) (Kd.R_base ho24) hb); have n1_ := Aside0.mk (Kd.R_elder' (by (with_reducible repeat (first | apply Kd.R_alloc | apply Kd.R_drewN | apply Kd.R_drew)); exact HO447.out) (Kd.R_base ho24) hb); have n2_ := Aside0.mk (Kd.R_lower (Kd.R_new' (Kd.R_new' ho24 (Kd.R_lt (by (with_reducible repeat (first | apply Kd.R_alloc | apply Kd.R_drewN | apply Kd.R_drew)); exact HO_7.out))) (Kd.R_lt (by (with_reducible repeat (first | apply Kd.R_alloc | apply Kd.R_drewN | apply Kd.R_drew)); exact HO447.out))) (below_size (by repeat (first | (with_reducible first | exact HB.out | apply below_alloc | apply pw_below_drewN | apply below_drew1) | exact HB.out)))); have n3_ := Aside0.mk (below_step (by repeat (first | (with_reducible first | exact HB.out | apply below_alloc | apply pw_below_drewN | apply below_drew1) | exact HB.out)) hb); clear HO_7; clear HO447; clear HB; have HO_7 := n0_; have HO447 := n1_; have HO450 := n2_; have HB := n3_; clear n0_ n1_ n2_ n3_; clear hb ho24)); try go_wp2_with (first | (go_at_call 20; (with_reducible refine (braid_Bounds.calls kj6 a0 t445 _ A16.out).mono ?_); rintro e w21 ⟨v446, rfl, ho0, hb⟩; have n0_ := Aside0.mk (Kd.R_elder' (by (with_reducible repeat (first | apply Kd.R_alloc | apply Kd.R_drewN | apply Kd.R_drew)); exact HO_7.out) (Kd.R_base ho0) hb); have n1_ := Aside0.mk (Kd.R_lower (Kd.R_new' ho0 (Kd.R_lt (by (with_reducible repeat (first | apply Kd.R_alloc | apply Kd.R_drewN | apply Kd.R_drew)); exact HO_7.out))) (below_size (by repeat (first | (with_reducible first | exact HB.out | apply below_alloc | apply pw_below_drewN | apply below_drew1) | exact HB.out)))); have n2_ := Aside0.mk (below_step (by repeat (first | (with_reducible first | exact HB.out | apply below_alloc | apply pw_below_drewN | apply below_drew1) | exact HB.out)) hb); clear HO_7; clear HB; have HO_7 := n0_; have HO447 := n1_; have HB := n2_; clear n0_ n1_ n2_; (try clear hb); (try clear hb2); (try clear hk); (try clear hi); (try clear ho0); obtain ⟨Ao22, co22, eo22⟩ := Kd.R_slice HO447.out; subst eo22) | ((with_reducible refine gate_dst (N := 72) rfl ?_); (try (refine gate_guard (by rfl) ?_; dsimp only)); refine Kd.R_make (Kd.int .i64) _ 3 rfl (N := 72) rfl 22 _ _ rfl a0 rfl rfl Try.underlying22 (.int .i64 0) 8 info3 rfl (by decide) (by omega) 0 (ok := fun _ => True) (okp := fun _ => True) rfl (fun _ hk => hk) trivial (of_decide_eq_true (by first | (with_reducible assumption) | assumption)) (Nat.le_trans (Nat.mul_le_mul_right _ (of_decide_eq_true (by first | (with_reducible assumption) | assumption) : a0.toNat ≤ 35184372088832)) (by omega)) (Below.refl _ _) (Nat.le_refl _) ?_; intro v449 w23 ho24 hb hg_ hnew_; clear hg_ hnew_; (first | rw [← Ny448.out] at ho24 | (simp only [Int.reduceToNat] at ho24; rw [← Ny448.out] at ho24)); have n0_ := Aside0.mk (Kd.R_elder' (by (with_reducible repeat (first | apply Kd.R_alloc | apply Kd.R_drewN | apply Kd.R_drew)); exact HO_7.out) (Kd.R_base ho24) hb); have n1_ := Aside0.mk (Kd.R_elder' (by (with_reducible repeat (first | apply Kd.R_alloc | apply Kd.R_drewN | apply Kd.R_drew)); exact HO447.out) (Kd.R_base ho24) hb); have n2_ := Aside0.mk (Kd.R_lower (Kd.R_new' (Kd.R_new' ho24 (Kd.R_lt (by (with_reducible repeat (first | apply Kd.R_alloc | apply Kd.R_drewN | apply Kd.R_drew)); exact HO_7.out))) (Kd.R_lt (by (with_reducible repeat (first | apply Kd.R_alloc | apply Kd.R_drewN | apply Kd.R_drew)); exact HO447.out))) (below_size (by repeat (first | (with_reducible first | exact HB.out | apply below_alloc | apply pw_below_drewN | apply below_drew1) | exact HB.out)))); have n3_ := Aside0.mk (below_step (by repeat (first | (with_reducible first | exact HB.out | apply below_alloc | apply pw_below_drewN | apply below_drew1) | exact HB.out)) hb); clear HO_7; clear HO447; clear HB; have HO_7 := n0_; have HO447 := n1_; have HO450 := n2_; have HB := n3_; clear n0_ n1_ n2_ n3_; clear hb ho24)))
                    go_loopg [75] kj6 (fun kq v75 w' => ∃ (x10_2 : List Int) (x75_2 : Int), v75 = .int .i64 x75_2 ∧ Aside0 (churnlaw12_BraidDeals.l0 kq a0 a1 l2 t441 x10_2 t445 (t445.length : Int) x75_2 = some r) ∧ Aside0 (kq ≤ kj6) ∧ Aside0 (Kd.R (Kd.int .i64) 3 w' w.heap.size (fun k_ => some k_ ≠ (v449 : Value).ownBlock ∧ some k_ ≠ ((.slice Ao22 t445.length co22) : Value).ownBlock) (.slice Ao20 t441.length co20) t441) ∧ Aside0 (Kd.R (Kd.int .i64) 3 w' w.heap.size (fun k_ => some k_ ≠ ((.slice Ao20 t441.length co20) : Value).ownBlock ∧ some k_ ≠ ((.slice Ao22 t445.length co22) : Value).ownBlock) v449 x10_2) ∧ Aside0 (Kd.R (Kd.int .i64) 3 w' w.heap.size (fun k_ => some k_ ≠ ((.slice Ao20 t441.length co20) : Value).ownBlock ∧ some k_ ≠ (v449 : Value).ownBlock) (.slice Ao22 t445.length co22) t445) ∧ Aside0 (Below w.heap.size w w'))
                    case atStart => exact ⟨(y448), (0), (by first | rfl | (simp; done) | (simp [*]; done)), H', ⟨Nat.le_refl _⟩, ⟨by (with_reducible repeat (first | apply Kd.R_alloc | apply Kd.R_drewN | apply Kd.R_drew)); exact Kd.R_mono HO_7.out (fun _ hk => ⟨hk.2, hk.1.2⟩)⟩, ⟨by (with_reducible repeat (first | apply Kd.R_alloc | apply Kd.R_drewN | apply Kd.R_drew)); exact Kd.R_mono HO450.out (fun _ hk => ⟨hk.1.2, hk.2⟩)⟩, ⟨by (with_reducible repeat (first | apply Kd.R_alloc | apply Kd.R_drewN | apply Kd.R_drew)); exact Kd.R_mono HO447.out (fun _ hk => ⟨hk.1.2, hk.2⟩)⟩, ⟨by repeat (first | (with_reducible first | exact HB.out | apply below_alloc | apply pw_below_drewN | apply below_drew1) | exact HB.out)⟩⟩
                    case round => as_aux_lemma =>
                      clear H'
                      try clear c1
                      try clear c2
                      try clear p2
                      try clear c5
                      try clear c8
                      try clear c10
                      try clear c10b0
                      try clear c11
                      try clear c11b0
                      try clear c12
                      try clear c12b0
                      try clear c13
                      try clear c14
                      try clear c14b0
                      try clear c14b1
                      try clear c15
                      try clear c15b0
                      try clear c15b1
                      try clear c17
                      try clear c17b0
                      try clear c17b1
                      try clear c18
                      try clear c18b0
                      try clear c18b1
                      try clear c19
                      try clear c19b0
                      try clear c19b1
                      try clear p2
                      obtain ⟨x10_2, x75_2, rfl, HA, HK2, HO_7, HO_10, HO_73, HB⟩ := hrel
                      cases gk with
                      | zero => exact absurd HA.out (by simp [churnlaw12_BraidDeals.l0])
                      | succ k2 =>
                        have H := HA.out
                        clear HA
                        simp only [churnlaw12_BraidDeals.l0] at H
                        by_cases c25 : x75_2 < (t445.length : Int)
                        · rw [if_pos c25] at H
                          have c25b0 : decide (x75_2 < (t445.length : Int)) = true := decide_eq_true c25
                          clear c25
                          by_cases c26 : 0 ≤ x75_2
                          · rw [if_pos c26] at H
                            have c26b0 : decide (0 ≤ x75_2) = true := decide_eq_true c26
                            clear c26
                            by_cases c27 : x75_2 < (t445.length : Int)
                            · rw [if_pos c27] at H
                              have c27b0 : decide (x75_2 < (t445.length : Int)) = true := decide_eq_true c27
                              clear c27
                              by_cases c28 : (rd t445 x75_2) = (wrap64 (a0 - x75_2))
                              · rw [if_pos c28] at H
                                have c28b0 : ((rd t445 x75_2) == (wrap64 (a0 - x75_2))) = true := beq_iff_eq.mpr c28
                                have c28b1 : ((rd t445 x75_2) != (wrap64 (a0 - x75_2))) = false := bne_eq_false_iff_eq.mpr c28
                                clear c28
                                by_cases c29 : x75_2 < (l2.length : Int)
                                · rw [if_pos c29] at H
                                  have c29b0 : decide (x75_2 < (l2.length : Int)) = true := decide_eq_true c29
                                  clear c29
                                  replace H := Option.bind_eq_some_iff.mp H
                                  obtain ⟨t453, A300, H⟩ := H
                                  replace H : (if x75_2 < (x10_2.length : Int) then (churnlaw12_BraidDeals.l0 k2 a0 a1 l2 t441 (x10_2.set (x75_2 : Int).toNat t453) t445 (t445.length : Int) (wrap64 (x75_2 + 1))) else (none)) = some r := H
                                  have A30 := Aside0.mk A300
                                  clear A300
                                  by_cases c31 : x75_2 < (x10_2.length : Int)
                                  · rw [if_pos c31] at H
                                    have c31b0 : decide (x75_2 < (x10_2.length : Int)) = true := decide_eq_true c31
                                    clear c31
                                    obtain ⟨y454, hy454⟩ : ∃ y_ : List Int, y_ = (x10_2.set (x75_2 : Int).toNat t453) := ⟨_, rfl⟩
                                    replace H : (churnlaw12_BraidDeals.l0 k2 a0 a1 l2 t441 y454 t445 (t445.length : Int) (wrap64 (x75_2 + 1))) = some r := by first | (rw [hy454]; with_reducible exact H) | (have H2_ := (Option.bind_some _ _).symm.trans H; rw [hy454]; with_reducible exact H2_) | (have H2_ := (Option.bind_some _ _).symm.trans H; with_reducible exact H2_) | with_reducible exact H | (rw [hy454]; exact H) | exact H
                                    have Ny454 := Aside0.mk hy454
                                    clear hy454
                                    have H' := Aside0.mk H
                                    clear H
                                    have p451 : 0 ≤ (x75_2 : Int) := of_decide_eq_true (by first | (with_reducible assumption) | assumption)
                                    have q451 : x75_2 < (t445.length : Int) := of_decide_eq_true (by first | (with_reducible assumption) | assumption)
                                    obtain ⟨ad451, e451, hx451_0⟩ := Kd.at_int (Kd.R_reads' HO_73.out).2.2 x75_2 p451 q451
                                    cases e451
                                    replace p451 := eq_true p451
                                    replace q451 := eq_true q451
                                    have p452 : 0 ≤ (x75_2 : Int) := of_decide_eq_true (by first | (with_reducible assumption) | assumption)
                                    have q452 : x75_2 < (l2.length : Int) := of_decide_eq_true (by first | (with_reducible assumption) | assumption)
                                    obtain ⟨ad452, e452, hx452_0⟩ := Kd.at_int HR2.out x75_2 p452 q452
                                    cases e452
                                    (try (replace hx452_0 := (HB.out.cell (World.block_lt_of_cell? w _ hx452_0)).trans hx452_0))
                                    replace p452 := eq_true p452
                                    replace q452 := eq_true q452
                                    go_wp2_with (first | (go_at_call 27; (with_reducible refine (churnlaw12_place.calls (rd l2 x75_2) (rd t445 x75_2) t453 _ A30.out).mono ?_); rintro e w' ⟨rfl, ⟨nd, rfl⟩⟩; (try first | exact ⟨rfl, _, World.drewN_drewN _ _ _⟩ | exact ⟨rfl, _, Eq.trans (World.drewN_drewN _ _ _) (congrArg (World.drewN _) (Nat.add_assoc _ _ _))⟩); have p32 : 0 ≤ (x75_2 : Int) := of_decide_eq_true (by first | (with_reducible assumption) | assumption); have q32 : (x75_2 : Int) < ((x10_2.length : Int) : Int) := of_decide_eq_true (by first | (with_reducible assumption) | assumption); obtain ⟨go32, co32, eo32, gb32, gl32, cl32, HG32⟩ := Kd.R_form HO_10.out (by omega); (first | cases eo32 | (injection eo32 with ea_ en_ ec_; (first | subst ea_ | (injection ea_ with ea_; subst ea_)); subst ec_; clear en_)); have GB32 := Aside0.mk gb32; have GG32 := Aside0.mk HG32; clear gb32 gl32 HG32; obtain ⟨hx32_0, hf32_0⟩ := Kd.R_celln 0 HO_10.out (x75_2 : Int) p32 q32; replace p32 := eq_true p32; replace q32 := eq_true q32; obtain ⟨hy33_, hz33_⟩ := Kd.R_celln 0 HO_10.out (x75_2 : Int) (of_decide_eq_true (by first | (with_reducible assumption) | assumption)) (of_decide_eq_true (by first | (with_reducible assumption) | assumption)); have HP33 := Kd.R_putg HO_10.out (x75_2 : Int) t453) | ((with_reducible refine gate_store (t := 3) (p := 97) rfl ?_); (try (rw [drewN_self wr]; generalize hq_ : World.drewN wr _ = wr; have n0_ := Aside0.mk (Kd.R_at hq_ HO_7.out); have n1_ := Aside0.mk (Kd.R_at hq_ HO_10.out); have n2_ := Aside0.mk (Kd.R_at hq_ HO_73.out); have n3_ := Aside0.mk (below_at hq_ HB.out); clear hq_ HO_7 HO_10 HO_73 HB; have HO_7 := n0_; have HO_10 := n1_; have HO_73 := n2_; have HB := n3_; clear n0_ n1_ n2_ n3_; (try (obtain ⟨hy33_, hz33_⟩ := Kd.R_celln 0 HO_10.out (x75_2 : Int) (of_decide_eq_true (by first | (with_reducible assumption) | assumption)) (of_decide_eq_true (by first | (with_reducible assumption) | assumption)))); (try (have HP33 := Kd.R_putg HO_10.out (x75_2 : Int) t453)))); refine store_event (t := 3) (p := 97) (v := ?vo_w34) (w1 := (wr.setCell ⟨go32, (x75_2 : Int).toNat, none⟩ (.int .i64 t453))) ?hg ?ho ?hn ?hr ?_; (case ho => rfl); (case hg => rfl); (case hn => rfl); (case hr => first | (go_simp; done) | (go_simp; rfl)); intro w34 hw; have hg : wr.grownBy w34 (some go32) := (by rw [hw]; exact HP33.2); have hp_ : Kd.R (Kd.int .i64) 3 w34 w.heap.size (fun k_ => some k_ ≠ (.slice Ao20 t441.length co20 : Value).ownBlock ∧ some k_ ≠ (.slice (some ad451) t445.length co22 : Value).ownBlock) (.slice (some ⟨go32, 0, none⟩) x10_2.length co32) y454 := (by rw [hw, Ny454.out]; exact HP33.1); clear HP33; have n0_ := Aside0.mk (Kd.R_after (v := (.slice (some ⟨go32, 0, none⟩) x10_2.length co32)) (v1 := (.slice (some ⟨go32, 0, none⟩) x10_2.length co32)) (ok := (fun k_ => some k_ ≠ (.slice (some ad451) t445.length co22 : Value).ownBlock)) (by (with_reducible repeat (first | apply Kd.R_alloc | apply Kd.R_drewN | apply Kd.R_drew)); exact Kd.R_mono HO_7.out (fun _ hk => ⟨hk.2, hk.1⟩)) hg (.inl rfl)); have n1_ := Aside0.mk (hp_); have n2_ := Aside0.mk (Kd.R_after (v := (.slice (some ⟨go32, 0, none⟩) x10_2.length co32)) (v1 := (.slice (some ⟨go32, 0, none⟩) x10_2.length co32)) (ok := (fun k_ => some k_ ≠ (.slice Ao20 t441.length co20 : Value).ownBlock)) (by (with_reducible repeat (first | apply Kd.R_alloc | apply Kd.R_drewN | apply Kd.R_drew)); exact HO_73.out) hg (.inl rfl)); have n3_ := Aside0.mk ((by rw [hw]; exact below_set (HB.out) GB32.out : Below w.heap.size w w34)); clear HO_7; clear HO_10; clear HO_73; clear HB; have HO_7 := n0_; have HO_10 := n1_; have HO_73 := n2_; have HB := n3_; clear n0_ n1_ n2_ n3_; clear hg hw hp_))
                                    repeat (go_quiet (first | (go_at_call 27; (with_reducible refine (churnlaw12_place.calls (rd l2 x75_2) (rd t445 x75_2) t453 _ A30.out).mono ?_); rintro e w' ⟨rfl, ⟨nd, rfl⟩⟩; (try first | exact ⟨rfl, _, World.drewN_drewN _ _ _⟩ | exact ⟨rfl, _, Eq.trans (World.drewN_drewN _ _ _) (congrArg (World.drewN _) (Nat.add_assoc _ _ _))⟩); have p32 : 0 ≤ (x75_2 : Int) := of_decide_eq_true (by first | (with_reducible assumption) | assumption); have q32 : (x75_2 : Int) < ((x10_2.length : Int) : Int) := of_decide_eq_true (by first | (with_reducible assumption) | assumption); obtain ⟨go32, co32, eo32, gb32, gl32, cl32, HG32⟩ := Kd.R_form HO_10.out (by omega); (first | cases eo32 | (injection eo32 with ea_ en_ ec_; (first | subst ea_ | (injection ea_ with ea_; subst ea_)); subst ec_; clear en_)); have GB32 := Aside0.mk gb32; have GG32 := Aside0.mk HG32; clear gb32 gl32 HG32; obtain ⟨hx32_0, hf32_0⟩ := Kd.R_celln 0 HO_10.out (x75_2 : Int) p32 q32; replace p32 := eq_true p32; replace q32 := eq_true q32; obtain ⟨hy33_, hz33_⟩ := Kd.R_celln 0 HO_10.out (x75_2 : Int) (of_decide_eq_true (by first | (with_reducible assumption) | assumption)) (of_decide_eq_true (by first | (with_reducible assumption) | assumption)); have HP33 := Kd.R_putg HO_10.out (x75_2 : Int) t453) | ((with_reducible refine gate_store (t := 3) (p := 97) rfl ?_); (try (rw [drewN_self wr]; generalize hq_ : World.drewN wr _ = wr; have n0_ := Aside0.mk (Kd.R_at hq_ HO_7.out); have n1_ := Aside0.mk (Kd.R_at hq_ HO_10.out); have n2_ := Aside0.mk (Kd.R_at hq_ HO_73.out); have n3_ := Aside0.mk (below_at hq_ HB.out); clear hq_ HO_7 HO_10 HO_73 HB; have HO_7 := n0_; have HO_10 := n1_; have HO_73 := n2_; have HB := n3_; clear n0_ n1_ n2_ n3_; (try (obtain ⟨hy33_, hz33_⟩ := Kd.R_celln 0 HO_10.out (x75_2 : Int) (of_decide_eq_true (by first | (with_reducible assumption) | assumption)) (of_decide_eq_true (by first | (with_reducible assumption) | assumption)))); (try (have HP33 := Kd.R_putg HO_10.out (x75_2 : Int) t453)))); refine store_event (t := 3) (p := 97) (v := ?vo_w34) (w1 := (wr.setCell ⟨go32, (x75_2 : Int).toNat, none⟩ (.int .i64 t453))) ?hg ?ho ?hn ?hr ?_; (case ho => rfl); (case hg => rfl); (case hn => rfl); (case hr => first | (go_simp; done) | (go_simp; rfl)); intro w34 hw; have hg : wr.grownBy w34 (some go32) := (by rw [hw]; exact HP33.2); have hp_ : Kd.R (Kd.int .i64) 3 w34 w.heap.size (fun k_ => some k_ ≠ (.slice Ao20 t441.length co20 : Value).ownBlock ∧ some k_ ≠ (.slice (some ad451) t445.length co22 : Value).ownBlock) (.slice (some ⟨go32, 0, none⟩) x10_2.length co32) y454 := (by rw [hw, Ny454.out]; exact HP33.1); clear HP33; have n0_ := Aside0.mk (Kd.R_after (v := (.slice (some ⟨go32, 0, none⟩) x10_2.length co32)) (v1 := (.slice (some ⟨go32, 0, none⟩) x10_2.length co32)) (ok := (fun k_ => some k_ ≠ (.slice (some ad451) t445.length co22 : Value).ownBlock)) (by (with_reducible repeat (first | apply Kd.R_alloc | apply Kd.R_drewN | apply Kd.R_drew)); exact Kd.R_mono HO_7.out (fun _ hk => ⟨hk.2, hk.1⟩)) hg (.inl rfl)); have n1_ := Aside0.mk (hp_); have n2_ := Aside0.mk (Kd.R_after (v := (.slice (some ⟨go32, 0, none⟩) x10_2.length co32)) (v1 := (.slice (some ⟨go32, 0, none⟩) x10_2.length co32)) (ok := (fun k_ => some k_ ≠ (.slice Ao20 t441.length co20 : Value).ownBlock)) (by (with_reducible repeat (first | apply Kd.R_alloc | apply Kd.R_drewN | apply Kd.R_drew)); exact HO_73.out) hg (.inl rfl)); have n3_ := Aside0.mk ((by rw [hw]; exact below_set (HB.out) GB32.out : Below w.heap.size w w34)); clear HO_7; clear HO_10; clear HO_73; clear HB; have HO_7 := n0_; have HO_10 := n1_; have HO_73 := n2_; have HB := n3_; clear n0_ n1_ n2_ n3_; clear hg hw hp_)); try go_wp2_with (first | (go_at_call 27; (with_reducible refine (churnlaw12_place.calls (rd l2 x75_2) (rd t445 x75_2) t453 _ A30.out).mono ?_); rintro e w' ⟨rfl, ⟨nd, rfl⟩⟩; (try first | exact ⟨rfl, _, World.drewN_drewN _ _ _⟩ | exact ⟨rfl, _, Eq.trans (World.drewN_drewN _ _ _) (congrArg (World.drewN _) (Nat.add_assoc _ _ _))⟩); have p32 : 0 ≤ (x75_2 : Int) := of_decide_eq_true (by first | (with_reducible assumption) | assumption); have q32 : (x75_2 : Int) < ((x10_2.length : Int) : Int) := of_decide_eq_true (by first | (with_reducible assumption) | assumption); obtain ⟨go32, co32, eo32, gb32, gl32, cl32, HG32⟩ := Kd.R_form HO_10.out (by omega); (first | cases eo32 | (injection eo32 with ea_ en_ ec_; (first | subst ea_ | (injection ea_ with ea_; subst ea_)); subst ec_; clear en_)); have GB32 := Aside0.mk gb32; have GG32 := Aside0.mk HG32; clear gb32 gl32 HG32; obtain ⟨hx32_0, hf32_0⟩ := Kd.R_celln 0 HO_10.out (x75_2 : Int) p32 q32; replace p32 := eq_true p32; replace q32 := eq_true q32; obtain ⟨hy33_, hz33_⟩ := Kd.R_celln 0 HO_10.out (x75_2 : Int) (of_decide_eq_true (by first | (with_reducible assumption) | assumption)) (of_decide_eq_true (by first | (with_reducible assumption) | assumption)); have HP33 := Kd.R_putg HO_10.out (x75_2 : Int) t453) | ((with_reducible refine gate_store (t := 3) (p := 97) rfl ?_); (try (rw [drewN_self wr]; generalize hq_ : World.drewN wr _ = wr; have n0_ := Aside0.mk (Kd.R_at hq_ HO_7.out); have n1_ := Aside0.mk (Kd.R_at hq_ HO_10.out); have n2_ := Aside0.mk (Kd.R_at hq_ HO_73.out); have n3_ := Aside0.mk (below_at hq_ HB.out); clear hq_ HO_7 HO_10 HO_73 HB; have HO_7 := n0_; have HO_10 := n1_; have HO_73 := n2_; have HB := n3_; clear n0_ n1_ n2_ n3_; (try (obtain ⟨hy33_, hz33_⟩ := Kd.R_celln 0 HO_10.out (x75_2 : Int) (of_decide_eq_true (by first | (with_reducible assumption) | assumption)) (of_decide_eq_true (by first | (with_reducible assumption) | assumption)))); (try (have HP33 := Kd.R_putg HO_10.out (x75_2 : Int) t453)))); refine store_event (t := 3) (p := 97) (v := ?vo_w34) (w1 := (wr.setCell ⟨go32, (x75_2 : Int).toNat, none⟩ (.int .i64 t453))) ?hg ?ho ?hn ?hr ?_; (case ho => rfl); (case hg => rfl); (case hn => rfl); (case hr => first | (go_simp; done) | (go_simp; rfl)); intro w34 hw; have hg : wr.grownBy w34 (some go32) := (by rw [hw]; exact HP33.2); have hp_ : Kd.R (Kd.int .i64) 3 w34 w.heap.size (fun k_ => some k_ ≠ (.slice Ao20 t441.length co20 : Value).ownBlock ∧ some k_ ≠ (.slice (some ad451) t445.length co22 : Value).ownBlock) (.slice (some ⟨go32, 0, none⟩) x10_2.length co32) y454 := (by rw [hw, Ny454.out]; exact HP33.1); clear HP33; have n0_ := Aside0.mk (Kd.R_after (v := (.slice (some ⟨go32, 0, none⟩) x10_2.length co32)) (v1 := (.slice (some ⟨go32, 0, none⟩) x10_2.length co32)) (ok := (fun k_ => some k_ ≠ (.slice (some ad451) t445.length co22 : Value).ownBlock)) (by (with_reducible repeat (first | apply Kd.R_alloc | apply Kd.R_drewN | apply Kd.R_drew)); exact Kd.R_mono HO_7.out (fun _ hk => ⟨hk.2, hk.1⟩)) hg (.inl rfl)); have n1_ := Aside0.mk (hp_); have n2_ := Aside0.mk (Kd.R_after (v := (.slice (some ⟨go32, 0, none⟩) x10_2.length co32)) (v1 := (.slice (some ⟨go32, 0, none⟩) x10_2.length co32)) (ok := (fun k_ => some k_ ≠ (.slice Ao20 t441.length co20 : Value).ownBlock)) (by (with_reducible repeat (first | apply Kd.R_alloc | apply Kd.R_drewN | apply Kd.R_drew)); exact HO_73.out) hg (.inl rfl)); have n3_ := Aside0.mk ((by rw [hw]; exact below_set (HB.out) GB32.out : Below w.heap.size w w34)); clear HO_7; clear HO_10; clear HO_73; clear HB; have HO_7 := n0_; have HO_10 := n1_; have HO_73 := n2_; have HB := n3_; clear n0_ n1_ n2_ n3_; clear hg hw hp_)))
                                    go_roundg k2
                                    case measure => have := HJ6.out; have := HK2.out; omega
                                    case rel => exact ⟨(y454), (wrap64 (x75_2 + 1)), (by first | rfl | (simp; done) | (simp [*]; done)), H', ⟨by have := HJ6.out; have := HK2.out; omega⟩, ⟨by (with_reducible repeat (first | apply Kd.R_alloc | apply Kd.R_drewN | apply Kd.R_drew)); exact Kd.R_mono HO_7.out (fun _ hk => ⟨hk.2, hk.1⟩)⟩, ⟨by (with_reducible repeat (first | apply Kd.R_alloc | apply Kd.R_drewN | apply Kd.R_drew)); exact HO_10.out⟩, ⟨by (with_reducible repeat (first | apply Kd.R_alloc | apply Kd.R_drewN | apply Kd.R_drew)); exact HO_73.out⟩, ⟨by repeat (first | (with_reducible first | exact HB.out | apply below_alloc | apply pw_below_drewN | apply below_drew1) | exact HB.out)⟩⟩
                                  · rw [if_neg c31] at H
                                    exact absurd H (by simp)
                                · rw [if_neg c29] at H
                                  have c29b0 : decide (x75_2 < (l2.length : Int)) = false := decide_eq_false c29
                                  clear c29
                                  have H' := Aside0.mk H
                                  clear H
                                  have p451 : 0 ≤ (x75_2 : Int) := of_decide_eq_true (by first | (with_reducible assumption) | assumption)
                                  have q451 : x75_2 < (t445.length : Int) := of_decide_eq_true (by first | (with_reducible assumption) | assumption)
                                  obtain ⟨ad451, e451, hx451_0⟩ := Kd.at_int (Kd.R_reads' HO_73.out).2.2 x75_2 p451 q451
                                  cases e451
                                  replace p451 := eq_true p451
                                  replace q451 := eq_true q451
                                  go_wp2
                                  repeat (go_quiet (fail); try go_wp2)
                                  go_roundg k2
                                  case measure => have := HJ6.out; have := HK2.out; omega
                                  case rel => exact ⟨(x10_2), (wrap64 (x75_2 + 1)), (by first | rfl | (simp; done) | (simp [*]; done)), H', ⟨by have := HJ6.out; have := HK2.out; omega⟩, ⟨by (with_reducible repeat (first | apply Kd.R_alloc | apply Kd.R_drewN | apply Kd.R_drew)); exact HO_7.out⟩, ⟨by (with_reducible repeat (first | apply Kd.R_alloc | apply Kd.R_drewN | apply Kd.R_drew)); exact HO_10.out⟩, ⟨by (with_reducible repeat (first | apply Kd.R_alloc | apply Kd.R_drewN | apply Kd.R_drew)); exact HO_73.out⟩, ⟨by repeat (first | (with_reducible first | exact HB.out | apply below_alloc | apply pw_below_drewN | apply below_drew1) | exact HB.out)⟩⟩
                              · rw [if_neg c28] at H
                                have c28b0 : ((rd t445 x75_2) == (wrap64 (a0 - x75_2))) = false := beq_eq_false_iff_ne.mpr c28
                                have c28b1 : ((rd t445 x75_2) != (wrap64 (a0 - x75_2))) = true := bne_iff_ne.mpr c28
                                obtain rfl := Option.some.inj H
                                have p451 : 0 ≤ (x75_2 : Int) := of_decide_eq_true (by first | (with_reducible assumption) | assumption)
                                have q451 : x75_2 < (t445.length : Int) := of_decide_eq_true (by first | (with_reducible assumption) | assumption)
                                obtain ⟨ad451, e451, hx451_0⟩ := Kd.at_int (Kd.R_reads' HO_73.out).2.2 x75_2 p451 q451
                                cases e451
                                replace p451 := eq_true p451
                                replace q451 := eq_true q451
                                go_wp2
                                repeat (go_quiet (fail); try go_wp2)
                                go_ret
                                exact ⟨by first | rfl | (simp [errW_none, errW_some] <;> rfl) | (simp [*, errW_none, errW_some] <;> rfl), by repeat (first | (with_reducible first | exact HB.out | apply below_alloc | apply pw_below_drewN | apply below_drew1) | exact HB.out)⟩
                            · rw [if_neg c27] at H
                              exact absurd H (by simp)
                          · rw [if_neg c26] at H
                            exact absurd H (by simp)
                        · rw [if_neg c25] at H
                          have c25b0 : decide (x75_2 < (t445.length : Int)) = false := decide_eq_false c25
                          clear c25
                          have H' := Aside0.mk H
                          clear H
                          go_wp2
                          repeat (go_quiet (fail); try go_wp2)
                          go_loopg [13, 14, 101] k2 (fun kq v13 v14 v101 w' => ∃ (x13_3 : List (List Int)) (x14_3 : Int) (x101_3 : Int), v14 = .int .i64 x14_3 ∧ v101 = .int .i64 x101_3 ∧ Aside0 (churnlaw12_BraidDeals.l1 kq a0 a1 t441 x10_2 x13_3 x14_3 t441 (t441.length : Int) x101_3 = some r) ∧ Aside0 (kq ≤ k2) ∧ Aside0 (Kd.R (Kd.int .i64) 3 w' w.heap.size (fun k_ => some k_ ≠ (v449 : Value).ownBlock) (.slice Ao20 t441.length co20) t441) ∧ Aside0 (Kd.R (Kd.int .i64) 3 w' w.heap.size (fun k_ => some k_ ≠ ((.slice Ao20 t441.length co20) : Value).ownBlock ∧ some k_ ≠ ((.slice Ao20 t441.length co20) : Value).ownBlock) v449 x10_2) ∧ Aside0 (Kd.S (Kd.slice 3 (Kd.int .i64)) 22 w' w.heap.size (fun k_ => some k_ ≠ ((.slice Ao20 t441.length co20) : Value).ownBlock ∧ some k_ ≠ (v449 : Value).ownBlock ∧ some k_ ≠ ((.slice Ao20 t441.length co20) : Value).ownBlock) v13 x13_3) ∧ Aside0 (Kd.R (Kd.int .i64) 3 w' w.heap.size (fun k_ => some k_ ≠ (v449 : Value).ownBlock) (.slice Ao20 t441.length co20) t441) ∧ Aside0 (Below w.heap.size w w'))
                          case atStart => exact ⟨(([] : List (List Int))), (0), (0), (by first | rfl | (simp; done) | (simp [*]; done)), (by first | rfl | (simp; done) | (simp [*]; done)), H', ⟨Nat.le_refl _⟩, ⟨by (with_reducible repeat (first | apply Kd.R_alloc | apply Kd.R_drewN | apply Kd.R_drew)); exact Kd.R_mono HO_7.out (fun _ hk => hk.1)⟩, ⟨by (with_reducible repeat (first | apply Kd.R_alloc | apply Kd.R_drewN | apply Kd.R_drew)); exact Kd.R_mono HO_10.out (fun _ hk => ⟨hk.1, hk.1⟩)⟩, ⟨by first | exact Kd.S_nil _ _ _ _ _ | exact Kd.N_nil _ _ _ _ _ | exact Kd.V_nil _ _ _ _ _ | exact Kd.Q_nil _ _ _ _ _ | exact Kd.R_nil _ _ _ _ _⟩, ⟨by (with_reducible repeat (first | apply Kd.R_alloc | apply Kd.R_drewN | apply Kd.R_drew)); exact Kd.R_mono HO_7.out (fun _ hk => hk.1)⟩, ⟨by repeat (first | (with_reducible first | exact HB.out | apply below_alloc | apply pw_below_drewN | apply below_drew1) | exact HB.out)⟩⟩
                          case round => as_aux_lemma =>
                            clear H'
                            try clear c1
                            try clear c2
                            try clear p2
                            try clear c3
                            try clear p3
                            try clear q3
                            try clear hx3
                            try clear hf3
                            try clear p4
                            try clear q4
                            try clear hx4
                            try clear c5
                            try clear p6
                            try clear c8
                            try clear c10
                            try clear c10b0
                            try clear c11
                            try clear c11b0
                            try clear c12
                            try clear c12b0
                            try clear c13
                            try clear c14
                            try clear c14b0
                            try clear c14b1
                            try clear c15
                            try clear c15b0
                            try clear c15b1
                            try clear c17
                            try clear c17b0
                            try clear c17b1
                            try clear c18
                            try clear c18b0
                            try clear c18b1
                            try clear c19
                            try clear c19b0
                            try clear c19b1
                            try clear c25
                            try clear c25b0
                            try clear c26
                            try clear c26b0
                            try clear c27
                            try clear c27b0
                            try clear c28
                            try clear c28b0
                            try clear c28b1
                            try clear c29
                            try clear c29b0
                            try clear c31
                            try clear c31b0
                            try clear p32
                            try clear q32
                            try clear hx32
                            try clear hf32
                            try clear hx32_0
                            try clear hx451_0
                            try clear hx452_0
                            try clear p2
                            try clear p32
                            try clear p451
                            try clear p452
                            try clear q32
                            try clear q451
                            try clear q452
                            obtain ⟨x13_3, x14_3, x101_3, rfl, rfl, HA, HK3, HO_7, HO_10, HO_13, HO_99, HB⟩ := hrel
                            cases gk with
                            | zero => exact absurd HA.out (by simp [churnlaw12_BraidDeals.l1])
                            | succ k3 =>
                              have H := HA.out
                              clear HA
                              simp only [churnlaw12_BraidDeals.l1] at H
                              by_cases c35 : x101_3 < (t441.length : Int)
                              · rw [if_pos c35] at H
                                have c35b0 : decide (x101_3 < (t441.length : Int)) = true := decide_eq_true c35
                                clear c35
                                by_cases c36 : 0 ≤ x101_3
                                · rw [if_pos c36] at H
                                  have c36b0 : decide (0 ≤ x101_3) = true := decide_eq_true c36
                                  clear c36
                                  by_cases c37 : x101_3 < (t441.length : Int)
                                  · rw [if_pos c37] at H
                                    have c37b0 : decide (x101_3 < (t441.length : Int)) = true := decide_eq_true c37
                                    clear c37
                                    have HC38 := Aside0.mk H
                                    clear H
                                    have p455 : 0 ≤ (x101_3 : Int) := of_decide_eq_true (by first | (with_reducible assumption) | assumption)
                                    have q455 : x101_3 < (t441.length : Int) := of_decide_eq_true (by first | (with_reducible assumption) | assumption)
                                    obtain ⟨ad455, e455, hx455_0⟩ := Kd.at_int (Kd.R_reads' HO_99.out).2.2 x101_3 p455 q455
                                    cases e455
                                    replace p455 := eq_true p455
                                    replace q455 := eq_true q455
                                    go_upto_region 27 with (fail)
                                    repeat (go_quiet (fail); go_upto_region 27 with (fail))
                                    go_cut [144] (fun v144 wc => ∃ (kq : Nat) (x144_37 : Bool), v144 = .bool x144_37 ∧ Aside0 (churnlaw12_BraidDeals.j3 kq a0 a1 t441 x10_2 x13_3 x14_3 (rd t441 x101_3) t441 (t441.length : Int) x101_3 x144_37 = some r) ∧ Aside0 (kq ≤ k3) ∧ Aside0 (Kd.R (Kd.int .i64) 3 wc w.heap.size (fun k_ => some k_ ≠ (v449 : Value).ownBlock) (.slice (some ad455) t441.length co20) t441) ∧ Aside0 (Kd.R (Kd.int .i64) 3 wc w.heap.size (fun k_ => some k_ ≠ ((.slice (some ad455) t441.length co20) : Value).ownBlock ∧ some k_ ≠ ((.slice (some ad455) t441.length co20) : Value).ownBlock) v449 x10_2) ∧ Aside0 (Kd.S (Kd.slice 3 (Kd.int .i64)) 22 wc w.heap.size (fun k_ => some k_ ≠ ((.slice (some ad455) t441.length co20) : Value).ownBlock ∧ some k_ ≠ (v449 : Value).ownBlock ∧ some k_ ≠ ((.slice (some ad455) t441.length co20) : Value).ownBlock) u13 x13_3) ∧ Aside0 (Kd.R (Kd.int .i64) 3 wc w.heap.size (fun k_ => some k_ ≠ (v449 : Value).ownBlock) (.slice (some ad455) t441.length co20) t441) ∧ Aside0 (Below w.heap.size w wc))
                                    case first => as_aux_lemma =>
                                      have H := HC38.out
                                      clear HC38
                                      obtain ⟨ji39, hji39⟩ : ∃ j_ : Int, (wrap64 (a1 - 1)) = j_ := ⟨_, rfl⟩
                                      replace H : (if 0 ≤ (ji39) then (if (ji39) < (t441.length : Int) then (if (rd t441 x101_3) < (rd t441 (ji39)) then (churnlaw12_BraidDeals.j3 k3 a0 a1 t441 x10_2 x13_3 x14_3 (rd t441 x101_3) t441 (t441.length : Int) x101_3 true) else (if 0 < (t441.length : Int) then (if (rd t441 x101_3) > (rd t441 0) then (churnlaw12_BraidDeals.j3 k3 a0 a1 t441 x10_2 x13_3 x14_3 (rd t441 x101_3) t441 (t441.length : Int) x101_3 true) else (if (wrap64 ((rd t441 0) - (rd t441 (ji39)))) > 1 then (churnlaw12_BraidDeals.j3 k3 a0 a1 t441 x10_2 x13_3 x14_3 (rd t441 x101_3) t441 (t441.length : Int) x101_3 true) else (if x101_3 > 0 then (if 0 ≤ (wrap64 (x101_3 - 1)) then (if (wrap64 (x101_3 - 1)) < (t441.length : Int) then (churnlaw12_BraidDeals.j3 k3 a0 a1 t441 x10_2 x13_3 x14_3 (rd t441 x101_3) t441 (t441.length : Int) x101_3 (decide ((rd t441 x101_3) > (rd t441 (wrap64 (x101_3 - 1)))))) else (none)) else (none)) else (churnlaw12_BraidDeals.j3 k3 a0 a1 t441 x10_2 x13_3 x14_3 (rd t441 x101_3) t441 (t441.length : Int) x101_3 false)))) else (none))) else (none)) else (none)) = some r := by first | (rw [hji39] at H; exact H) | (simp only [hji39] at H ⊢; exact H)
                                      have hji39w : (IntKind.i64.wrap (a1 - 1)) = ji39 := (i64_w _).trans hji39
                                      by_cases c40 : 0 ≤ (ji39)
                                      · rw [if_pos c40] at H
                                        have c40b0 : decide (0 ≤ (ji39)) = true := decide_eq_true c40
                                        clear c40
                                        (first | rw [c40b0] | (simp only [i64_w, i32_w]; rw [c40b0]) | skip)
                                        by_cases c41 : (ji39) < (t441.length : Int)
                                        · rw [if_pos c41] at H
                                          have c41b0 : decide ((ji39) < (t441.length : Int)) = true := decide_eq_true c41
                                          clear c41
                                          by_cases c42 : (rd t441 x101_3) < (rd t441 (ji39))
                                          · rw [if_pos c42] at H
                                            have c42b0 : decide ((rd t441 x101_3) < (rd t441 (ji39))) = true := decide_eq_true c42
                                            clear c42
                                            have H' := Aside0.mk H
                                            clear H
                                            have p456 : 0 ≤ ((ji39) : Int) := of_decide_eq_true (by first | (with_reducible assumption) | assumption)
                                            have q456 : (ji39) < (t441.length : Int) := of_decide_eq_true (by first | (with_reducible assumption) | assumption)
                                            obtain ⟨ad456, e456, hx456_0⟩ := Kd.at_int (Kd.R_reads' HO_7.out).2.2 (ji39) p456 q456
                                            obtain rfl : ad455 = ad456 := (by injection e456)
                                            replace p456 := eq_true p456
                                            replace q456 := eq_true q456
                                            go_wp2
                                            repeat (go_quiet (fail); try go_wp2)
                                            go_meet
                                            case rel => exact ⟨_, (true), (by first | rfl | (simp; done) | (simp [*]; done)), H', ⟨by have := HJ6.out; have := HK2.out; have := HK3.out; first | omega | exact Nat.le_refl _⟩, ⟨by (with_reducible repeat (first | apply Kd.R_alloc | apply Kd.R_drewN | apply Kd.R_drew)); exact HO_7.out⟩, ⟨by (with_reducible repeat (first | apply Kd.R_alloc | apply Kd.R_drewN | apply Kd.R_drew)); exact HO_10.out⟩, ⟨by (with_reducible repeat (first | apply Kd.S_alloc | apply Kd.S_drewN | apply Kd.S_drew)); exact HO_13.out⟩, ⟨by (with_reducible repeat (first | apply Kd.R_alloc | apply Kd.R_drewN | apply Kd.R_drew)); exact HO_99.out⟩, ⟨by repeat (first | (with_reducible first | exact HB.out | apply below_alloc | apply pw_below_drewN | apply below_drew1) | exact HB.out)⟩⟩
                                          · rw [if_neg c42] at H
                                            have c42b0 : decide ((rd t441 x101_3) < (rd t441 (ji39))) = false := decide_eq_false c42
                                            clear c42
                                            by_cases c43 : 0 < (t441.length : Int)
                                            · rw [if_pos c43] at H
                                              have c43b0 : decide (0 < (t441.length : Int)) = true := decide_eq_true c43
                                              have c43b1 : decide (0 < t441.length) = true := decide_eq_true (by omega)
                                              clear c43
                                              by_cases c44 : (rd t441 x101_3) > (rd t441 0)
                                              · rw [if_pos c44] at H
                                                have c44b0 : decide ((rd t441 0) < (rd t441 x101_3)) = true := decide_eq_true c44
                                                clear c44
                                                have H' := Aside0.mk H
                                                clear H
                                                have p456 : 0 ≤ ((ji39) : Int) := of_decide_eq_true (by first | (with_reducible assumption) | assumption)
                                                have q456 : (ji39) < (t441.length : Int) := of_decide_eq_true (by first | (with_reducible assumption) | assumption)
                                                obtain ⟨ad456, e456, hx456_0⟩ := Kd.at_int (Kd.R_reads' HO_7.out).2.2 (ji39) p456 q456
                                                obtain rfl : ad455 = ad456 := (by injection e456)
                                                replace p456 := eq_true p456
                                                replace q456 := eq_true q456
                                                have p457 : 0 ≤ (0 : Int) := (by omega)
                                                have q457 : 0 < (t441.length : Int) := of_decide_eq_true (by first | (with_reducible assumption) | assumption)
                                                obtain ⟨ad457, e457, hx457_0⟩ := Kd.at_int (Kd.R_reads' HO_7.out).2.2 0 p457 q457
                                                obtain rfl : ad455 = ad457 := (by injection e457)
                                                have qi457 : (0 < t441.length) = True := eq_true (by omega)
                                                (try rw [show ((0 : Int)).toNat = 0 from rfl] at hx457_0)
                                                (try rw [Addr.add_zero'] at hx457_0)
                                                replace p457 := eq_true p457
                                                replace q457 := eq_true q457
                                                go_wp2
                                                repeat (go_quiet (fail); try go_wp2)
                                                go_meet
                                                case rel => exact ⟨_, (true), (by first | rfl | (simp; done) | (simp [*]; done)), H', ⟨by have := HJ6.out; have := HK2.out; have := HK3.out; first | omega | exact Nat.le_refl _⟩, ⟨by (with_reducible repeat (first | apply Kd.R_alloc | apply Kd.R_drewN | apply Kd.R_drew)); exact HO_7.out⟩, ⟨by (with_reducible repeat (first | apply Kd.R_alloc | apply Kd.R_drewN | apply Kd.R_drew)); exact HO_10.out⟩, ⟨by (with_reducible repeat (first | apply Kd.S_alloc | apply Kd.S_drewN | apply Kd.S_drew)); exact HO_13.out⟩, ⟨by (with_reducible repeat (first | apply Kd.R_alloc | apply Kd.R_drewN | apply Kd.R_drew)); exact HO_99.out⟩, ⟨by repeat (first | (with_reducible first | exact HB.out | apply below_alloc | apply pw_below_drewN | apply below_drew1) | exact HB.out)⟩⟩
                                              · rw [if_neg c44] at H
                                                have c44b0 : decide ((rd t441 0) < (rd t441 x101_3)) = false := decide_eq_false c44
                                                clear c44
                                                by_cases c45 : (wrap64 ((rd t441 0) - (rd t441 (ji39)))) > 1
                                                · rw [if_pos c45] at H
                                                  have c45b0 : decide (1 < (wrap64 ((rd t441 0) - (rd t441 (ji39))))) = true := decide_eq_true c45
                                                  clear c45
                                                  have H' := Aside0.mk H
                                                  clear H
                                                  have p456 : 0 ≤ ((ji39) : Int) := of_decide_eq_true (by first | (with_reducible assumption) | assumption)
                                                  have q456 : (ji39) < (t441.length : Int) := of_decide_eq_true (by first | (with_reducible assumption) | assumption)
                                                  obtain ⟨ad456, e456, hx456_0⟩ := Kd.at_int (Kd.R_reads' HO_7.out).2.2 (ji39) p456 q456
                                                  obtain rfl : ad455 = ad456 := (by injection e456)
                                                  replace p456 := eq_true p456
                                                  replace q456 := eq_true q456
                                                  have p457 : 0 ≤ (0 : Int) := (by omega)
                                                  have q457 : 0 < (t441.length : Int) := of_decide_eq_true (by first | (with_reducible assumption) | assumption)
                                                  obtain ⟨ad457, e457, hx457_0⟩ := Kd.at_int (Kd.R_reads' HO_7.out).2.2 0 p457 q457
                                                  obtain rfl : ad455 = ad457 := (by injection e457)
                                                  have qi457 : (0 < t441.length) = True := eq_true (by omega)
                                                  (try rw [show ((0 : Int)).toNat = 0 from rfl] at hx457_0)
                                                  (try rw [Addr.add_zero'] at hx457_0)
                                                  replace p457 := eq_true p457
                                                  replace q457 := eq_true q457
                                                  have p458 : 0 ≤ (0 : Int) := (by omega)
                                                  have q458 : 0 < (t441.length : Int) := of_decide_eq_true (by first | (with_reducible assumption) | assumption)
                                                  obtain ⟨ad458, e458, hx458_0⟩ := Kd.at_int (Kd.R_reads' HO_7.out).2.2 0 p458 q458
                                                  obtain rfl : ad455 = ad458 := (by injection e458)
                                                  have qi458 : (0 < t441.length) = True := eq_true (by omega)
                                                  (try rw [show ((0 : Int)).toNat = 0 from rfl] at hx458_0)
                                                  (try rw [Addr.add_zero'] at hx458_0)
                                                  replace p458 := eq_true p458
                                                  replace q458 := eq_true q458
                                                  have p459 : 0 ≤ ((ji39) : Int) := of_decide_eq_true (by first | (with_reducible assumption) | assumption)
                                                  have q459 : (ji39) < (t441.length : Int) := of_decide_eq_true (by first | (with_reducible assumption) | assumption)
                                                  obtain ⟨ad459, e459, hx459_0⟩ := Kd.at_int (Kd.R_reads' HO_7.out).2.2 (ji39) p459 q459
                                                  obtain rfl : ad455 = ad459 := (by injection e459)
                                                  replace p459 := eq_true p459
                                                  replace q459 := eq_true q459
                                                  go_wp2
                                                  repeat (go_quiet (fail); try go_wp2)
                                                  go_meet
                                                  case rel => exact ⟨_, (true), (by first | rfl | (simp; done) | (simp [*]; done)), H', ⟨by have := HJ6.out; have := HK2.out; have := HK3.out; first | omega | exact Nat.le_refl _⟩, ⟨by (with_reducible repeat (first | apply Kd.R_alloc | apply Kd.R_drewN | apply Kd.R_drew)); exact HO_7.out⟩, ⟨by (with_reducible repeat (first | apply Kd.R_alloc | apply Kd.R_drewN | apply Kd.R_drew)); exact HO_10.out⟩, ⟨by (with_reducible repeat (first | apply Kd.S_alloc | apply Kd.S_drewN | apply Kd.S_drew)); exact HO_13.out⟩, ⟨by (with_reducible repeat (first | apply Kd.R_alloc | apply Kd.R_drewN | apply Kd.R_drew)); exact HO_99.out⟩, ⟨by repeat (first | (with_reducible first | exact HB.out | apply below_alloc | apply pw_below_drewN | apply below_drew1) | exact HB.out)⟩⟩
                                                · rw [if_neg c45] at H
                                                  have c45b0 : decide (1 < (wrap64 ((rd t441 0) - (rd t441 (ji39))))) = false := decide_eq_false c45
                                                  clear c45
                                                  by_cases c46 : x101_3 > 0
                                                  · rw [if_pos c46] at H
                                                    have c46b0 : decide (0 < x101_3) = true := decide_eq_true c46
                                                    clear c46
                                                    obtain ⟨ji47, hji47⟩ : ∃ j_ : Int, (wrap64 (x101_3 - 1)) = j_ := ⟨_, rfl⟩
                                                    replace H : (if 0 ≤ (ji47) then (if (ji47) < (t441.length : Int) then (churnlaw12_BraidDeals.j3 k3 a0 a1 t441 x10_2 x13_3 x14_3 (rd t441 x101_3) t441 (t441.length : Int) x101_3 (decide ((rd t441 x101_3) > (rd t441 (ji47))))) else (none)) else (none)) = some r := by first | (rw [hji47] at H; exact H) | (simp only [hji47] at H ⊢; exact H)
                                                    have hji47w : (IntKind.i64.wrap (x101_3 - 1)) = ji47 := (i64_w _).trans hji47
                                                    by_cases c48 : 0 ≤ (ji47)
                                                    · rw [if_pos c48] at H
                                                      have c48b0 : decide (0 ≤ (ji47)) = true := decide_eq_true c48
                                                      clear c48
                                                      by_cases c49 : (ji47) < (t441.length : Int)
                                                      · rw [if_pos c49] at H
                                                        have c49b0 : decide ((ji47) < (t441.length : Int)) = true := decide_eq_true c49
                                                        clear c49
                                                        have H' := Aside0.mk H
                                                        clear H
                                                        have p456 : 0 ≤ ((ji39) : Int) := of_decide_eq_true (by first | (with_reducible assumption) | assumption)
                                                        have q456 : (ji39) < (t441.length : Int) := of_decide_eq_true (by first | (with_reducible assumption) | assumption)
                                                        obtain ⟨ad456, e456, hx456_0⟩ := Kd.at_int (Kd.R_reads' HO_7.out).2.2 (ji39) p456 q456
                                                        obtain rfl : ad455 = ad456 := (by injection e456)
                                                        replace p456 := eq_true p456
                                                        replace q456 := eq_true q456
                                                        have p457 : 0 ≤ (0 : Int) := (by omega)
                                                        have q457 : 0 < (t441.length : Int) := of_decide_eq_true (by first | (with_reducible assumption) | assumption)
                                                        obtain ⟨ad457, e457, hx457_0⟩ := Kd.at_int (Kd.R_reads' HO_7.out).2.2 0 p457 q457
                                                        obtain rfl : ad455 = ad457 := (by injection e457)
                                                        have qi457 : (0 < t441.length) = True := eq_true (by omega)
                                                        (try rw [show ((0 : Int)).toNat = 0 from rfl] at hx457_0)
                                                        (try rw [Addr.add_zero'] at hx457_0)
                                                        replace p457 := eq_true p457
                                                        replace q457 := eq_true q457
                                                        have p458 : 0 ≤ (0 : Int) := (by omega)
                                                        have q458 : 0 < (t441.length : Int) := of_decide_eq_true (by first | (with_reducible assumption) | assumption)
                                                        obtain ⟨ad458, e458, hx458_0⟩ := Kd.at_int (Kd.R_reads' HO_7.out).2.2 0 p458 q458
                                                        obtain rfl : ad455 = ad458 := (by injection e458)
                                                        have qi458 : (0 < t441.length) = True := eq_true (by omega)
                                                        (try rw [show ((0 : Int)).toNat = 0 from rfl] at hx458_0)
                                                        (try rw [Addr.add_zero'] at hx458_0)
                                                        replace p458 := eq_true p458
                                                        replace q458 := eq_true q458
                                                        have p459 : 0 ≤ ((ji39) : Int) := of_decide_eq_true (by first | (with_reducible assumption) | assumption)
                                                        have q459 : (ji39) < (t441.length : Int) := of_decide_eq_true (by first | (with_reducible assumption) | assumption)
                                                        obtain ⟨ad459, e459, hx459_0⟩ := Kd.at_int (Kd.R_reads' HO_7.out).2.2 (ji39) p459 q459
                                                        obtain rfl : ad455 = ad459 := (by injection e459)
                                                        replace p459 := eq_true p459
                                                        replace q459 := eq_true q459
                                                        have p460 : 0 ≤ ((ji47) : Int) := of_decide_eq_true (by first | (with_reducible assumption) | assumption)
                                                        have q460 : (ji47) < (t441.length : Int) := of_decide_eq_true (by first | (with_reducible assumption) | assumption)
                                                        obtain ⟨ad460, e460, hx460_0⟩ := Kd.at_int (Kd.R_reads' HO_7.out).2.2 (ji47) p460 q460
                                                        obtain rfl : ad455 = ad460 := (by injection e460)
                                                        replace p460 := eq_true p460
                                                        replace q460 := eq_true q460
                                                        go_wp2
                                                        repeat (go_quiet (fail); try go_wp2)
                                                        go_meet
                                                        case rel => exact ⟨_, (decide ((rd t441 x101_3) > (rd t441 (ji47)))), (by first | rfl | (simp; done) | (simp only [← hji47] <;> (first | rfl | simp)) | (simp [*]; done)), H', ⟨by have := HJ6.out; have := HK2.out; have := HK3.out; first | omega | exact Nat.le_refl _⟩, ⟨by (with_reducible repeat (first | apply Kd.R_alloc | apply Kd.R_drewN | apply Kd.R_drew)); exact HO_7.out⟩, ⟨by (with_reducible repeat (first | apply Kd.R_alloc | apply Kd.R_drewN | apply Kd.R_drew)); exact HO_10.out⟩, ⟨by (with_reducible repeat (first | apply Kd.S_alloc | apply Kd.S_drewN | apply Kd.S_drew)); exact HO_13.out⟩, ⟨by (with_reducible repeat (first | apply Kd.R_alloc | apply Kd.R_drewN | apply Kd.R_drew)); exact HO_99.out⟩, ⟨by repeat (first | (with_reducible first | exact HB.out | apply below_alloc | apply pw_below_drewN | apply below_drew1) | exact HB.out)⟩⟩
                                                      · rw [if_neg c49] at H
                                                        exact absurd H (by simp)
                                                    · rw [if_neg c48] at H
                                                      exact absurd H (by simp)
                                                  · rw [if_neg c46] at H
                                                    have c46b0 : decide (0 < x101_3) = false := decide_eq_false c46
                                                    clear c46
                                                    have H' := Aside0.mk H
                                                    clear H
                                                    have p456 : 0 ≤ ((ji39) : Int) := of_decide_eq_true (by first | (with_reducible assumption) | assumption)
                                                    have q456 : (ji39) < (t441.length : Int) := of_decide_eq_true (by first | (with_reducible assumption) | assumption)
                                                    obtain ⟨ad456, e456, hx456_0⟩ := Kd.at_int (Kd.R_reads' HO_7.out).2.2 (ji39) p456 q456
                                                    obtain rfl : ad455 = ad456 := (by injection e456)
                                                    replace p456 := eq_true p456
                                                    replace q456 := eq_true q456
                                                    have p457 : 0 ≤ (0 : Int) := (by omega)
                                                    have q457 : 0 < (t441.length : Int) := of_decide_eq_true (by first | (with_reducible assumption) | assumption)
                                                    obtain ⟨ad457, e457, hx457_0⟩ := Kd.at_int (Kd.R_reads' HO_7.out).2.2 0 p457 q457
                                                    obtain rfl : ad455 = ad457 := (by injection e457)
                                                    have qi457 : (0 < t441.length) = True := eq_true (by omega)
                                                    (try rw [show ((0 : Int)).toNat = 0 from rfl] at hx457_0)
                                                    (try rw [Addr.add_zero'] at hx457_0)
                                                    replace p457 := eq_true p457
                                                    replace q457 := eq_true q457
                                                    have p458 : 0 ≤ (0 : Int) := (by omega)
                                                    have q458 : 0 < (t441.length : Int) := of_decide_eq_true (by first | (with_reducible assumption) | assumption)
                                                    obtain ⟨ad458, e458, hx458_0⟩ := Kd.at_int (Kd.R_reads' HO_7.out).2.2 0 p458 q458
                                                    obtain rfl : ad455 = ad458 := (by injection e458)
                                                    have qi458 : (0 < t441.length) = True := eq_true (by omega)
                                                    (try rw [show ((0 : Int)).toNat = 0 from rfl] at hx458_0)
                                                    (try rw [Addr.add_zero'] at hx458_0)
                                                    replace p458 := eq_true p458
                                                    replace q458 := eq_true q458
                                                    have p459 : 0 ≤ ((ji39) : Int) := of_decide_eq_true (by first | (with_reducible assumption) | assumption)
                                                    have q459 : (ji39) < (t441.length : Int) := of_decide_eq_true (by first | (with_reducible assumption) | assumption)
                                                    obtain ⟨ad459, e459, hx459_0⟩ := Kd.at_int (Kd.R_reads' HO_7.out).2.2 (ji39) p459 q459
                                                    obtain rfl : ad455 = ad459 := (by injection e459)
                                                    replace p459 := eq_true p459
                                                    replace q459 := eq_true q459
                                                    go_wp2
                                                    repeat (go_quiet (fail); try go_wp2)
                                                    go_meet
                                                    case rel => exact ⟨_, (false), (by first | rfl | (simp; done) | (simp [*]; done)), H', ⟨by have := HJ6.out; have := HK2.out; have := HK3.out; first | omega | exact Nat.le_refl _⟩, ⟨by (with_reducible repeat (first | apply Kd.R_alloc | apply Kd.R_drewN | apply Kd.R_drew)); exact HO_7.out⟩, ⟨by (with_reducible repeat (first | apply Kd.R_alloc | apply Kd.R_drewN | apply Kd.R_drew)); exact HO_10.out⟩, ⟨by (with_reducible repeat (first | apply Kd.S_alloc | apply Kd.S_drewN | apply Kd.S_drew)); exact HO_13.out⟩, ⟨by (with_reducible repeat (first | apply Kd.R_alloc | apply Kd.R_drewN | apply Kd.R_drew)); exact HO_99.out⟩, ⟨by repeat (first | (with_reducible first | exact HB.out | apply below_alloc | apply pw_below_drewN | apply below_drew1) | exact HB.out)⟩⟩
                                            · rw [if_neg c43] at H
                                              exact absurd H (by simp)
                                        · rw [if_neg c41] at H
                                          exact absurd H (by simp)
                                      · rw [if_neg c40] at H
                                        exact absurd H (by simp)
                                    case rest => as_aux_lemma =>
                                      clear HC38
                                      try clear c1
                                      try clear c2
                                      try clear p2
                                      try clear c3
                                      try clear p3
                                      try clear q3
                                      try clear hx3
                                      try clear hf3
                                      try clear c4
                                      try clear p4
                                      try clear q4
                                      try clear hx4
                                      try clear qi4
                                      try clear c5
                                      try clear p6
                                      try clear c8
                                      try clear c10
                                      try clear c10b0
                                      try clear c11
                                      try clear c11b0
                                      try clear c12
                                      try clear c12b0
                                      try clear c13
                                      try clear c14
                                      try clear c14b0
                                      try clear c14b1
                                      try clear c15
                                      try clear c15b0
                                      try clear c15b1
                                      try clear c17
                                      try clear c17b0
                                      try clear c17b1
                                      try clear c18
                                      try clear c18b0
                                      try clear c18b1
                                      try clear c19
                                      try clear c19b0
                                      try clear c19b1
                                      try clear c25
                                      try clear c25b0
                                      try clear c26
                                      try clear c26b0
                                      try clear c27
                                      try clear c27b0
                                      try clear c28
                                      try clear c28b0
                                      try clear c28b1
                                      try clear c29
                                      try clear c29b0
                                      try clear c31
                                      try clear c31b0
                                      try clear p32
                                      try clear q32
                                      try clear hx32
                                      try clear hf32
                                      try clear c35
                                      try clear c35b0
                                      try clear c36
                                      try clear c36b0
                                      try clear c37
                                      try clear c37b0
                                      try clear c40
                                      try clear c40b0
                                      try clear c41
                                      try clear c41b0
                                      try clear c42
                                      try clear c42b0
                                      try clear c43
                                      try clear c43b0
                                      try clear c43b1
                                      try clear c44
                                      try clear c44b0
                                      try clear c45
                                      try clear c45b0
                                      try clear p45
                                      try clear q45
                                      try clear hx45
                                      try clear qi45
                                      try clear c46
                                      try clear c46b0
                                      try clear p46
                                      try clear q46
                                      try clear hx46
                                      try clear c48
                                      try clear c48b0
                                      try clear c49
                                      try clear c49b0
                                      try clear hx32_0
                                      try clear hx451_0
                                      try clear hx452_0
                                      try clear hx455_0
                                      try clear hx456_0
                                      try clear hx457_0
                                      try clear hx458_0
                                      try clear hx459_0
                                      try clear hx460_0
                                      try clear p2
                                      try clear p3
                                      try clear p32
                                      try clear p4
                                      try clear p451
                                      try clear p452
                                      try clear p455
                                      try clear p456
                                      try clear p457
                                      try clear p458
                                      try clear p459
                                      try clear p460
                                      try clear p6
                                      try clear q3
                                      try clear q32
                                      try clear q4
                                      try clear q451
                                      try clear q452
                                      try clear q455
                                      try clear q456
                                      try clear q457
                                      try clear q458
                                      try clear q459
                                      try clear q460
                                      obtain ⟨kq, x144_37, rfl, HA, HJ37, HO_7, HO_10, HO_13, HO_99, HB⟩ := hcut
                                      cases kq with
                                      | zero => exact absurd HA.out (by simp [churnlaw12_BraidDeals.j3])
                                      | succ kj37 =>
                                        have H := HA.out
                                        clear HA
                                        simp only [churnlaw12_BraidDeals.j3] at H
                                        by_cases c50 : x144_37 = true
                                        · subst c50
                                          have H1 : (some false) = some r := by rw [if_pos rfl] at H; exact H
                                          clear H
                                          have H := H1
                                          clear H1
                                          obtain rfl := Option.some.inj H
                                          go_wp2
                                          repeat (go_quiet (fail); try go_wp2)
                                          go_ret
                                          exact ⟨by first | rfl | (simp [errW_none, errW_some] <;> rfl) | (simp [*, errW_none, errW_some] <;> rfl), by repeat (first | (with_reducible first | exact HB.out | apply below_alloc | apply pw_below_drewN | apply below_drew1) | exact HB.out)⟩
                                        · replace c50 := Bool.eq_false_iff.mpr c50
                                          subst c50
                                          have H1 : (churnlaw12_BraidDeals.l2 kj37 a0 a1 t441 x10_2 x13_3 x14_3 ([] : List Int) t441 (t441.length : Int) x101_3 (rd t441 x101_3) 0) = some r := by rw [if_neg (show ¬ (false = true) by decide)] at H; exact H
                                          clear H
                                          have H := H1
                                          clear H1
                                          have H' := Aside0.mk H
                                          clear H
                                          go_wp2
                                          repeat (go_quiet (fail); try go_wp2)
                                          go_loopg [14, 17, 146] kj37 (fun kq v14 v17 v146 w' => ∃ (x14_5 : Int) (x17_5 : List Int) (x146_5 : Int), v14 = .int .i64 x14_5 ∧ v146 = .int .i64 x146_5 ∧ Aside0 (churnlaw12_BraidDeals.l2 kq a0 a1 t441 x10_2 x13_3 x14_5 x17_5 t441 (t441.length : Int) x101_3 (rd t441 x101_3) x146_5 = some r) ∧ Aside0 (kq ≤ kj37) ∧ Aside0 (Kd.R (Kd.int .i64) 3 w' w.heap.size (fun k_ => some k_ ≠ (v449 : Value).ownBlock ∧ some k_ ≠ (v17 : Value).ownBlock) (.slice (some ad455) t441.length co20) t441) ∧ Aside0 (Kd.R (Kd.int .i64) 3 w' w.heap.size (fun k_ => some k_ ≠ ((.slice (some ad455) t441.length co20) : Value).ownBlock ∧ some k_ ≠ (v17 : Value).ownBlock ∧ some k_ ≠ ((.slice (some ad455) t441.length co20) : Value).ownBlock) v449 x10_2) ∧ Aside0 (Kd.S (Kd.slice 3 (Kd.int .i64)) 22 w' w.heap.size (fun k_ => some k_ ≠ ((.slice (some ad455) t441.length co20) : Value).ownBlock ∧ some k_ ≠ (v449 : Value).ownBlock ∧ some k_ ≠ (v17 : Value).ownBlock ∧ some k_ ≠ ((.slice (some ad455) t441.length co20) : Value).ownBlock) u13 x13_3) ∧ Aside0 (Kd.R (Kd.int .i64) 3 w' w.heap.size (fun k_ => some k_ ≠ ((.slice (some ad455) t441.length co20) : Value).ownBlock ∧ some k_ ≠ (v449 : Value).ownBlock ∧ some k_ ≠ ((.slice (some ad455) t441.length co20) : Value).ownBlock) v17 x17_5) ∧ Aside0 (Kd.R (Kd.int .i64) 3 w' w.heap.size (fun k_ => some k_ ≠ (v449 : Value).ownBlock ∧ some k_ ≠ (v17 : Value).ownBlock) (.slice (some ad455) t441.length co20) t441) ∧ Aside0 (Below w.heap.size w w'))
                                          case atStart => exact ⟨(x14_3), (([] : List Int)), (0), (by first | rfl | (simp; done) | (simp [*]; done)), (by first | rfl | (simp; done) | (simp [*]; done)), H', ⟨Nat.le_refl _⟩, ⟨by (with_reducible repeat (first | apply Kd.R_alloc | apply Kd.R_drewN | apply Kd.R_drew)); exact Kd.R_mono HO_7.out (fun _ hk => ⟨hk, (by simp [Value.ownBlock])⟩)⟩, ⟨by (with_reducible repeat (first | apply Kd.R_alloc | apply Kd.R_drewN | apply Kd.R_drew)); exact Kd.R_mono HO_10.out (fun _ hk => ⟨hk.1, ⟨(by simp [Value.ownBlock]), hk.2⟩⟩)⟩, ⟨by (with_reducible repeat (first | apply Kd.S_alloc | apply Kd.S_drewN | apply Kd.S_drew)); exact Kd.S_mono HO_13.out (fun _ hk => ⟨hk.1, ⟨hk.2.1, ⟨(by simp [Value.ownBlock]), hk.2.2⟩⟩⟩)⟩, ⟨by first | exact Kd.R_nil _ _ _ _ _ | exact Kd.N_nil _ _ _ _ _ | exact Kd.V_nil _ _ _ _ _ | exact Kd.Q_nil _ _ _ _ _ | exact Kd.S_nil _ _ _ _ _⟩, ⟨by (with_reducible repeat (first | apply Kd.R_alloc | apply Kd.R_drewN | apply Kd.R_drew)); exact Kd.R_mono HO_99.out (fun _ hk => ⟨hk, (by simp [Value.ownBlock])⟩)⟩, ⟨by repeat (first | (with_reducible first | exact HB.out | apply below_alloc | apply pw_below_drewN | apply below_drew1) | exact HB.out)⟩⟩
                                          case round => as_aux_lemma =>
                                            clear H'
                                            try clear c1
                                            try clear c2
                                            try clear p2
                                            try clear c3
                                            try clear p3
                                            try clear q3
                                            try clear hx3
                                            try clear hf3
                                            try clear c4
                                            try clear p4
                                            try clear q4
                                            try clear hx4
                                            try clear qi4
                                            try clear c5
                                            try clear p6
                                            try clear c8
                                            try clear c10
                                            try clear c10b0
                                            try clear c11
                                            try clear c11b0
                                            try clear c12
                                            try clear c12b0
                                            try clear c13
                                            try clear c14
                                            try clear c14b0
                                            try clear c14b1
                                            try clear c15
                                            try clear c15b0
                                            try clear c15b1
                                            try clear c17
                                            try clear c17b0
                                            try clear c17b1
                                            try clear c18
                                            try clear c18b0
                                            try clear c18b1
                                            try clear c19
                                            try clear c19b0
                                            try clear c19b1
                                            try clear c25
                                            try clear c25b0
                                            try clear c26
                                            try clear c26b0
                                            try clear c27
                                            try clear c27b0
                                            try clear c28
                                            try clear c28b0
                                            try clear c28b1
                                            try clear c29
                                            try clear c29b0
                                            try clear c31
                                            try clear c31b0
                                            try clear p32
                                            try clear q32
                                            try clear hx32
                                            try clear hf32
                                            try clear c35
                                            try clear c35b0
                                            try clear c36
                                            try clear c36b0
                                            try clear c37
                                            try clear c37b0
                                            try clear c40
                                            try clear c40b0
                                            try clear c41
                                            try clear c41b0
                                            try clear c42
                                            try clear c42b0
                                            try clear c43
                                            try clear c43b0
                                            try clear c43b1
                                            try clear c44
                                            try clear c44b0
                                            try clear c45
                                            try clear c45b0
                                            try clear p45
                                            try clear q45
                                            try clear hx45
                                            try clear qi45
                                            try clear c46
                                            try clear c46b0
                                            try clear p46
                                            try clear q46
                                            try clear hx46
                                            try clear c48
                                            try clear c48b0
                                            try clear c49
                                            try clear c49b0
                                            try clear c50
                                            try clear hx32_0
                                            try clear hx451_0
                                            try clear hx452_0
                                            try clear hx455_0
                                            try clear hx456_0
                                            try clear hx457_0
                                            try clear hx458_0
                                            try clear hx459_0
                                            try clear hx460_0
                                            try clear p2
                                            try clear p3
                                            try clear p32
                                            try clear p4
                                            try clear p45
                                            try clear p451
                                            try clear p452
                                            try clear p455
                                            try clear p456
                                            try clear p457
                                            try clear p458
                                            try clear p459
                                            try clear p46
                                            try clear p460
                                            try clear p6
                                            try clear q3
                                            try clear q32
                                            try clear q4
                                            try clear q45
                                            try clear q451
                                            try clear q452
                                            try clear q455
                                            try clear q456
                                            try clear q457
                                            try clear q458
                                            try clear q459
                                            try clear q46
                                            try clear q460
                                            obtain ⟨x14_5, x17_5, x146_5, rfl, rfl, HA, HK5, HO_7, HO_10, HO_13, HO_17, HO_99, HB⟩ := hrel
                                            cases gk with
                                            | zero => exact absurd HA.out (by simp [churnlaw12_BraidDeals.l2])
                                            | succ k5 =>
                                              have H := HA.out
                                              clear HA
                                              simp only [churnlaw12_BraidDeals.l2] at H
                                              by_cases c51 : x146_5 < (rd t441 x101_3)
                                              · rw [if_pos c51] at H
                                                have c51b0 : decide (x146_5 < (rd t441 x101_3)) = true := decide_eq_true c51
                                                clear c51
                                                by_cases c52 : x17_5.length < 17592186044416
                                                · rw [if_pos c52] at H
                                                  have LMc52 := Aside0.mk c52
                                                  clear c52
                                                  obtain ⟨y461, hy461⟩ : ∃ y_ : List Int, y_ = (x17_5 ++ [x14_5]) := ⟨_, rfl⟩
                                                  replace H : (churnlaw12_BraidDeals.l2 k5 a0 a1 t441 x10_2 x13_3 (wrap64 (x14_5 + 1)) y461 t441 (t441.length : Int) x101_3 (rd t441 x101_3) (wrap64 (x146_5 + 1))) = some r := by first | (rw [hy461]; with_reducible exact H) | (have H2_ := (Option.bind_some _ _).symm.trans H; rw [hy461]; with_reducible exact H2_) | (have H2_ := (Option.bind_some _ _).symm.trans H; with_reducible exact H2_) | with_reducible exact H | (rw [hy461]; exact H) | exact H
                                                  have Ny461 := Aside0.mk hy461
                                                  clear hy461
                                                  have H' := Aside0.mk H
                                                  clear H
                                                  go_wp2_with (first | ((with_reducible refine gate_builtin (b := .append) (xs := #[.tmp 148, .tmp 150]) rfl ?_); (try (refine gate_guard (by rfl) ?_; dsimp only)); at_builtin; refine Kd.R_append (Kd.int .i64) (w0 := w) w.heap.size rfl (.tmp 148) (.tmp 150) 22 3 (.int .i64 0) 8 rfl Try.underlying22 info3 rfl (by decide) (by omega) u17 x17_5 x14_5 [.int .i64 x14_5] (fun k_ => some k_ ≠ (.slice (some ad455) t441.length co20 : Value).ownBlock ∧ some k_ ≠ (v449 : Value).ownBlock ∧ some k_ ≠ (.slice (some ad455) t441.length co20 : Value).ownBlock) (fun _ => False) rfl rfl ?aP (fun _ hk => hk.elim) ?aF ?aO ?aB ?aS ?aL ?_; (case aP => exact rfl); (case aB => exact (by repeat (first | (with_reducible first | exact HB.out | apply below_alloc | apply pw_below_drewN | apply below_drew1) | exact HB.out))); (case aF => exact (fun k_ hk => ⟨Kd.fresh' (Kd.R_lt (by (with_reducible repeat (first | apply Kd.R_alloc | apply Kd.R_drewN | apply Kd.R_drew)); exact HO_7.out)) k_ hk, Kd.fresh' (Kd.R_lt (by (with_reducible repeat (first | apply Kd.R_alloc | apply Kd.R_drewN | apply Kd.R_drew)); exact HO_10.out)) k_ hk, Kd.fresh' (Kd.R_lt (by (with_reducible repeat (first | apply Kd.R_alloc | apply Kd.R_drewN | apply Kd.R_drew)); exact HO_99.out)) k_ hk⟩)); (case aO => exact (by (with_reducible repeat (first | apply Kd.R_alloc | apply Kd.R_drewN | apply Kd.R_drew)); exact HO_17.out)); (case aS => exact (below_size (by repeat (first | (with_reducible first | exact HB.out | apply below_alloc | apply pw_below_drewN | apply below_drew1) | exact HB.out)))); (case aL => have := LMc52.out; omega); intro v462 w53 ho hb hg hat; rw [← Ny461.out] at ho; have n0_ := Aside0.mk (Kd.R_after (ok := (fun k_ => some k_ ≠ (v449 : Value).ownBlock)) (by (with_reducible repeat (first | apply Kd.R_alloc | apply Kd.R_drewN | apply Kd.R_drew)); exact HO_7.out) hg hat); have n1_ := Aside0.mk (Kd.R_after (ok := (fun k_ => some k_ ≠ (.slice (some ad455) t441.length co20 : Value).ownBlock ∧ some k_ ≠ (.slice (some ad455) t441.length co20 : Value).ownBlock)) (by (with_reducible repeat (first | apply Kd.R_alloc | apply Kd.R_drewN | apply Kd.R_drew)); exact Kd.R_mono HO_10.out (fun _ hk => ⟨⟨hk.1, hk.2.2⟩, hk.2.1⟩)) hg hat); have n2_ := Aside0.mk (Kd.S_after (ok := (fun k_ => some k_ ≠ (.slice (some ad455) t441.length co20 : Value).ownBlock ∧ some k_ ≠ (v449 : Value).ownBlock ∧ some k_ ≠ (.slice (some ad455) t441.length co20 : Value).ownBlock)) (by (with_reducible repeat (first | apply Kd.S_alloc | apply Kd.S_drewN | apply Kd.S_drew)); exact Kd.S_mono HO_13.out (fun _ hk => ⟨⟨hk.1, ⟨hk.2.1, hk.2.2.2⟩⟩, hk.2.2.1⟩)) hg hat); have n3_ := Aside0.mk (Kd.R_after (ok := (fun k_ => some k_ ≠ (v449 : Value).ownBlock)) (by (with_reducible repeat (first | apply Kd.R_alloc | apply Kd.R_drewN | apply Kd.R_drew)); exact HO_99.out) hg hat); have n4_ := Aside0.mk (hb); have n5_ := Aside0.mk (ho); clear HO_7; clear HO_10; clear HO_13; clear HO_99; clear HB; clear HO_17; have HO_7 := n0_; have HO_10 := n1_; have HO_13 := n2_; have HO_99 := n3_; have HB := n4_; have HO463 := n5_; clear n0_ n1_ n2_ n3_ n4_ n5_; clear ho hb hg hat))
                                                  repeat (go_quiet (first | ((with_reducible refine gate_builtin (b := .append) (xs := #[.tmp 148, .tmp 150]) rfl ?_); (try (refine gate_guard (by rfl) ?_; dsimp only)); at_builtin; refine Kd.R_append (Kd.int .i64) (w0 := w) w.heap.size rfl (.tmp 148) (.tmp 150) 22 3 (.int .i64 0) 8 rfl Try.underlying22 info3 rfl (by decide) (by omega) u17 x17_5 x14_5 [.int .i64 x14_5] (fun k_ => some k_ ≠ (.slice (some ad455) t441.length co20 : Value).ownBlock ∧ some k_ ≠ (v449 : Value).ownBlock ∧ some k_ ≠ (.slice (some ad455) t441.length co20 : Value).ownBlock) (fun _ => False) rfl rfl ?aP (fun _ hk => hk.elim) ?aF ?aO ?aB ?aS ?aL ?_; (case aP => exact rfl); (case aB => exact (by repeat (first | (with_reducible first | exact HB.out | apply below_alloc | apply pw_below_drewN | apply below_drew1) | exact HB.out))); (case aF => exact (fun k_ hk => ⟨Kd.fresh' (Kd.R_lt (by (with_reducible repeat (first | apply Kd.R_alloc | apply Kd.R_drewN | apply Kd.R_drew)); exact HO_7.out)) k_ hk, Kd.fresh' (Kd.R_lt (by (with_reducible repeat (first | apply Kd.R_alloc | apply Kd.R_drewN | apply Kd.R_drew)); exact HO_10.out)) k_ hk, Kd.fresh' (Kd.R_lt (by (with_reducible repeat (first | apply Kd.R_alloc | apply Kd.R_drewN | apply Kd.R_drew)); exact HO_99.out)) k_ hk⟩)); (case aO => exact (by (with_reducible repeat (first | apply Kd.R_alloc | apply Kd.R_drewN | apply Kd.R_drew)); exact HO_17.out)); (case aS => exact (below_size (by repeat (first | (with_reducible first | exact HB.out | apply below_alloc | apply pw_below_drewN | apply below_drew1) | exact HB.out)))); (case aL => have := LMc52.out; omega); intro v462 w53 ho hb hg hat; rw [← Ny461.out] at ho; have n0_ := Aside0.mk (Kd.R_after (ok := (fun k_ => some k_ ≠ (v449 : Value).ownBlock)) (by (with_reducible repeat (first | apply Kd.R_alloc | apply Kd.R_drewN | apply Kd.R_drew)); exact HO_7.out) hg hat); have n1_ := Aside0.mk (Kd.R_after (ok := (fun k_ => some k_ ≠ (.slice (some ad455) t441.length co20 : Value).ownBlock ∧ some k_ ≠ (.slice (some ad455) t441.length co20 : Value).ownBlock)) (by (with_reducible repeat (first | apply Kd.R_alloc | apply Kd.R_drewN | apply Kd.R_drew)); exact Kd.R_mono HO_10.out (fun _ hk => ⟨⟨hk.1, hk.2.2⟩, hk.2.1⟩)) hg hat); have n2_ := Aside0.mk (Kd.S_after (ok := (fun k_ => some k_ ≠ (.slice (some ad455) t441.length co20 : Value).ownBlock ∧ some k_ ≠ (v449 : Value).ownBlock ∧ some k_ ≠ (.slice (some ad455) t441.length co20 : Value).ownBlock)) (by (with_reducible repeat (first | apply Kd.S_alloc | apply Kd.S_drewN | apply Kd.S_drew)); exact Kd.S_mono HO_13.out (fun _ hk => ⟨⟨hk.1, ⟨hk.2.1, hk.2.2.2⟩⟩, hk.2.2.1⟩)) hg hat); have n3_ := Aside0.mk (Kd.R_after (ok := (fun k_ => some k_ ≠ (v449 : Value).ownBlock)) (by (with_reducible repeat (first | apply Kd.R_alloc | apply Kd.R_drewN | apply Kd.R_drew)); exact HO_99.out) hg hat); have n4_ := Aside0.mk (hb); have n5_ := Aside0.mk (ho); clear HO_7; clear HO_10; clear HO_13; clear HO_99; clear HB; clear HO_17; have HO_7 := n0_; have HO_10 := n1_; have HO_13 := n2_; have HO_99 := n3_; have HB := n4_; have HO463 := n5_; clear n0_ n1_ n2_ n3_ n4_ n5_; clear ho hb hg hat)); try go_wp2_with (first | ((with_reducible refine gate_builtin (b := .append) (xs := #[.tmp 148, .tmp 150]) rfl ?_); (try (refine gate_guard (by rfl) ?_; dsimp only)); at_builtin; refine Kd.R_append (Kd.int .i64) (w0 := w) w.heap.size rfl (.tmp 148) (.tmp 150) 22 3 (.int .i64 0) 8 rfl Try.underlying22 info3 rfl (by decide) (by omega) u17 x17_5 x14_5 [.int .i64 x14_5] (fun k_ => some k_ ≠ (.slice (some ad455) t441.length co20 : Value).ownBlock ∧ some k_ ≠ (v449 : Value).ownBlock ∧ some k_ ≠ (.slice (some ad455) t441.length co20 : Value).ownBlock) (fun _ => False) rfl rfl ?aP (fun _ hk => hk.elim) ?aF ?aO ?aB ?aS ?aL ?_; (case aP => exact rfl); (case aB => exact (by repeat (first | (with_reducible first | exact HB.out | apply below_alloc | apply pw_below_drewN | apply below_drew1) | exact HB.out))); (case aF => exact (fun k_ hk => ⟨Kd.fresh' (Kd.R_lt (by (with_reducible repeat (first | apply Kd.R_alloc | apply Kd.R_drewN | apply Kd.R_drew)); exact HO_7.out)) k_ hk, Kd.fresh' (Kd.R_lt (by (with_reducible repeat (first | apply Kd.R_alloc | apply Kd.R_drewN | apply Kd.R_drew)); exact HO_10.out)) k_ hk, Kd.fresh' (Kd.R_lt (by (with_reducible repeat (first | apply Kd.R_alloc | apply Kd.R_drewN | apply Kd.R_drew)); exact HO_99.out)) k_ hk⟩)); (case aO => exact (by (with_reducible repeat (first | apply Kd.R_alloc | apply Kd.R_drewN | apply Kd.R_drew)); exact HO_17.out)); (case aS => exact (below_size (by repeat (first | (with_reducible first | exact HB.out | apply below_alloc | apply pw_below_drewN | apply below_drew1) | exact HB.out)))); (case aL => have := LMc52.out; omega); intro v462 w53 ho hb hg hat; rw [← Ny461.out] at ho; have n0_ := Aside0.mk (Kd.R_after (ok := (fun k_ => some k_ ≠ (v449 : Value).ownBlock)) (by (with_reducible repeat (first | apply Kd.R_alloc | apply Kd.R_drewN | apply Kd.R_drew)); exact HO_7.out) hg hat); have n1_ := Aside0.mk (Kd.R_after (ok := (fun k_ => some k_ ≠ (.slice (some ad455) t441.length co20 : Value).ownBlock ∧ some k_ ≠ (.slice (some ad455) t441.length co20 : Value).ownBlock)) (by (with_reducible repeat (first | apply Kd.R_alloc | apply Kd.R_drewN | apply Kd.R_drew)); exact Kd.R_mono HO_10.out (fun _ hk => ⟨⟨hk.1, hk.2.2⟩, hk.2.1⟩)) hg hat); have n2_ := Aside0.mk (Kd.S_after (ok := (fun k_ => some k_ ≠ (.slice (some ad455) t441.length co20 : Value).ownBlock ∧ some k_ ≠ (v449 : Value).ownBlock ∧ some k_ ≠ (.slice (some ad455) t441.length co20 : Value).ownBlock)) (by (with_reducible repeat (first | apply Kd.S_alloc | apply Kd.S_drewN | apply Kd.S_drew)); exact Kd.S_mono HO_13.out (fun _ hk => ⟨⟨hk.1, ⟨hk.2.1, hk.2.2.2⟩⟩, hk.2.2.1⟩)) hg hat); have n3_ := Aside0.mk (Kd.R_after (ok := (fun k_ => some k_ ≠ (v449 : Value).ownBlock)) (by (with_reducible repeat (first | apply Kd.R_alloc | apply Kd.R_drewN | apply Kd.R_drew)); exact HO_99.out) hg hat); have n4_ := Aside0.mk (hb); have n5_ := Aside0.mk (ho); clear HO_7; clear HO_10; clear HO_13; clear HO_99; clear HB; clear HO_17; have HO_7 := n0_; have HO_10 := n1_; have HO_13 := n2_; have HO_99 := n3_; have HB := n4_; have HO463 := n5_; clear n0_ n1_ n2_ n3_ n4_ n5_; clear ho hb hg hat)))
                                                  go_roundg k5
                                                  case measure => have := HJ6.out; have := HK2.out; have := HK3.out; have := HJ37.out; have := HK5.out; omega
                                                  case rel => exact ⟨(wrap64 (x14_5 + 1)), (y461), (wrap64 (x146_5 + 1)), (by first | rfl | (simp; done) | (simp [*]; done)), (by first | rfl | (simp; done) | (simp [*]; done)), H', ⟨by have := HJ6.out; have := HK2.out; have := HK3.out; have := HJ37.out; have := HK5.out; omega⟩, ⟨by (with_reducible repeat (first | apply Kd.R_alloc | apply Kd.R_drewN | apply Kd.R_drew)); exact HO_7.out⟩, ⟨by (with_reducible repeat (first | apply Kd.R_alloc | apply Kd.R_drewN | apply Kd.R_drew)); exact Kd.R_mono HO_10.out (fun _ hk => ⟨hk.1.1, ⟨hk.2, hk.1.2⟩⟩)⟩, ⟨by (with_reducible repeat (first | apply Kd.S_alloc | apply Kd.S_drewN | apply Kd.S_drew)); exact Kd.S_mono HO_13.out (fun _ hk => ⟨hk.1.1, ⟨hk.1.2.1, ⟨hk.2, hk.1.2.2⟩⟩⟩)⟩, ⟨by (with_reducible repeat (first | apply Kd.R_alloc | apply Kd.R_drewN | apply Kd.R_drew)); exact HO463.out⟩, ⟨by (with_reducible repeat (first | apply Kd.R_alloc | apply Kd.R_drewN | apply Kd.R_drew)); exact HO_99.out⟩, ⟨by repeat (first | (with_reducible first | exact HB.out | apply below_alloc | apply pw_below_drewN | apply below_drew1) | exact HB.out)⟩⟩
                                                · rw [if_neg c52] at H
                                                  exact absurd H (by simp)
                                              · rw [if_neg c51] at H
                                                have c51b0 : decide (x146_5 < (rd t441 x101_3)) = false := decide_eq_false c51
                                                clear c51
                                                by_cases c54 : x13_3.length < 5864062014805
                                                · rw [if_pos c54] at H
                                                  have LMc54 := Aside0.mk c54
                                                  clear c54
                                                  obtain ⟨y464, hy464⟩ : ∃ y_ : List (List Int), y_ = (x13_3 ++ [x17_5]) := ⟨_, rfl⟩
                                                  replace H : (churnlaw12_BraidDeals.l1 k5 a0 a1 t441 x10_2 y464 x14_5 t441 (t441.length : Int) (wrap64 (x101_3 + 1))) = some r := by first | (rw [hy464]; with_reducible exact H) | (have H2_ := (Option.bind_some _ _).symm.trans H; rw [hy464]; with_reducible exact H2_) | (have H2_ := (Option.bind_some _ _).symm.trans H; with_reducible exact H2_) | with_reducible exact H | (rw [hy464]; exact H) | exact H
                                                  have Ny464 := Aside0.mk hy464
                                                  clear hy464
                                                  have H' := Aside0.mk H
                                                  clear H
                                                  obtain ⟨Ao56, co56, eo56⟩ := Kd.R_slice HO_17.out
                                                  subst eo56
                                                  go_wp2_with (first | ((with_reducible refine gate_builtin (b := .append) (xs := #[.tmp 155, .tmp 157]) rfl ?_); (try (refine gate_guard (by rfl) ?_; dsimp only)); at_builtin; refine Kd.S_append (Kd.slice 3 (Kd.int .i64)) (w0 := w) w.heap.size rfl (.tmp 155) (.tmp 157) 63 22 (.slice none 0 0) 24 rfl Try.underlying63 info22 rfl (by decide) (by omega) u13 x13_3 x17_5 [.slice Ao56 x17_5.length co56] (fun k_ => some k_ ≠ (.slice (some ad455) t441.length co20 : Value).ownBlock ∧ some k_ ≠ (v449 : Value).ownBlock ∧ some k_ ≠ (.slice (some ad455) t441.length co20 : Value).ownBlock) (fun k_ => some k_ = (.slice Ao56 x17_5.length co56 : Value).ownBlock) rfl rfl ?aP (fun k_ hk_ => ((Kd.R_mono (ok' := fun k_ => ((fun k_ => some k_ ≠ (.slice (some ad455) t441.length co20 : Value).ownBlock ∧ some k_ ≠ (v449 : Value).ownBlock ∧ some k_ ≠ (.slice (some ad455) t441.length co20 : Value).ownBlock)) k_ ∧ some k_ ≠ (u13 : Value).ownBlock) (Kd.R_apart' (HO_17.out) (Kd.S_typed HO_13.out) (by decide)) (fun k_ hk => ⟨⟨hk.1.1, ⟨hk.1.2.1, hk.1.2.2⟩⟩, hk.2⟩))).1 k_ hk_.symm) ?aF ?aO ?aB ?aS ?aL ?_; (case aP => exact Kd.M_row (Kd.R_mono (Kd.R_tight rfl (Kd.R_mono (ok' := fun k_ => ((fun k_ => some k_ ≠ (.slice (some ad455) t441.length co20 : Value).ownBlock ∧ some k_ ≠ (v449 : Value).ownBlock ∧ some k_ ≠ (.slice (some ad455) t441.length co20 : Value).ownBlock)) k_ ∧ some k_ ≠ (u13 : Value).ownBlock) (Kd.R_apart' (HO_17.out) (Kd.S_typed HO_13.out) (by decide)) (fun k_ hk => ⟨⟨hk.1.1, ⟨hk.1.2.1, hk.1.2.2⟩⟩, hk.2⟩))) (fun _ h_ => h_))); (case aB => exact (by repeat (first | (with_reducible first | exact HB.out | apply below_alloc | apply pw_below_drewN | apply below_drew1) | exact HB.out))); (case aF => exact (fun k_ hk => ⟨Kd.fresh' (Kd.R_lt (by (with_reducible repeat (first | apply Kd.R_alloc | apply Kd.R_drewN | apply Kd.R_drew)); exact HO_7.out)) k_ hk, Kd.fresh' (Kd.R_lt (by (with_reducible repeat (first | apply Kd.R_alloc | apply Kd.R_drewN | apply Kd.R_drew)); exact HO_10.out)) k_ hk, Kd.fresh' (Kd.R_lt (by (with_reducible repeat (first | apply Kd.R_alloc | apply Kd.R_drewN | apply Kd.R_drew)); exact HO_99.out)) k_ hk⟩)); (case aO => exact (by (with_reducible repeat (first | apply Kd.S_alloc | apply Kd.S_drewN | apply Kd.S_drew)); exact Kd.S_mono HO_13.out (fun k_ hk => ⟨⟨hk.1, ⟨hk.2.1, hk.2.2.2⟩⟩, fun e_ => hk.2.2.1 e_⟩))); (case aS => exact (below_size (by repeat (first | (with_reducible first | exact HB.out | apply below_alloc | apply pw_below_drewN | apply below_drew1) | exact HB.out)))); (case aL => have := LMc54.out; omega); intro v465 w55 ho hb hg hat; rw [← Ny464.out] at ho; have n0_ := Aside0.mk (Kd.R_over' (by (with_reducible repeat (first | apply Kd.R_alloc | apply Kd.R_drewN | apply Kd.R_drew)); exact HO_7.out) (Kd.S_typed (by (with_reducible repeat (first | apply Kd.S_alloc | apply Kd.S_drewN | apply Kd.S_drew)); exact HO_13.out)) (by decide) hg); have n1_ := Aside0.mk (Kd.R_over' (by (with_reducible repeat (first | apply Kd.R_alloc | apply Kd.R_drewN | apply Kd.R_drew)); exact HO_10.out) (Kd.S_typed (by (with_reducible repeat (first | apply Kd.S_alloc | apply Kd.S_drewN | apply Kd.S_drew)); exact HO_13.out)) (by decide) hg); have n2_ := Aside0.mk (Kd.R_over' (by (with_reducible repeat (first | apply Kd.R_alloc | apply Kd.R_drewN | apply Kd.R_drew)); exact HO_99.out) (Kd.S_typed (by (with_reducible repeat (first | apply Kd.S_alloc | apply Kd.S_drewN | apply Kd.S_drew)); exact HO_13.out)) (by decide) hg); have n3_ := Aside0.mk (hb); have n4_ := Aside0.mk (ho); clear HO_7; clear HO_10; clear HO_99; clear HB; clear HO_13; clear HO_17; have HO_7 := n0_; have HO_10 := n1_; have HO_99 := n2_; have HB := n3_; have HO466 := n4_; clear n0_ n1_ n2_ n3_ n4_; clear ho hb hg hat))
                                                  repeat (go_quiet (first | ((with_reducible refine gate_builtin (b := .append) (xs := #[.tmp 155, .tmp 157]) rfl ?_); (try (refine gate_guard (by rfl) ?_; dsimp only)); at_builtin; refine Kd.S_append (Kd.slice 3 (Kd.int .i64)) (w0 := w) w.heap.size rfl (.tmp 155) (.tmp 157) 63 22 (.slice none 0 0) 24 rfl Try.underlying63 info22 rfl (by decide) (by omega) u13 x13_3 x17_5 [.slice Ao56 x17_5.length co56] (fun k_ => some k_ ≠ (.slice (some ad455) t441.length co20 : Value).ownBlock ∧ some k_ ≠ (v449 : Value).ownBlock ∧ some k_ ≠ (.slice (some ad455) t441.length co20 : Value).ownBlock) (fun k_ => some k_ = (.slice Ao56 x17_5.length co56 : Value).ownBlock) rfl rfl ?aP (fun k_ hk_ => ((Kd.R_mono (ok' := fun k_ => ((fun k_ => some k_ ≠ (.slice (some ad455) t441.length co20 : Value).ownBlock ∧ some k_ ≠ (v449 : Value).ownBlock ∧ some k_ ≠ (.slice (some ad455) t441.length co20 : Value).ownBlock)) k_ ∧ some k_ ≠ (u13 : Value).ownBlock) (Kd.R_apart' (HO_17.out) (Kd.S_typed HO_13.out) (by decide)) (fun k_ hk => ⟨⟨hk.1.1, ⟨hk.1.2.1, hk.1.2.2⟩⟩, hk.2⟩))).1 k_ hk_.symm) ?aF ?aO ?aB ?aS ?aL ?_; (case aP => exact Kd.M_row (Kd.R_mono (Kd.R_tight rfl (Kd.R_mono (ok' := fun k_ => ((fun k_ => some k_ ≠ (.slice (some ad455) t441.length co20 : Value).ownBlock ∧ some k_ ≠ (v449 : Value).ownBlock ∧ some k_ ≠ (.slice (some ad455) t441.length co20 : Value).ownBlock)) k_ ∧ some k_ ≠ (u13 : Value).ownBlock) (Kd.R_apart' (HO_17.out) (Kd.S_typed HO_13.out) (by decide)) (fun k_ hk => ⟨⟨hk.1.1, ⟨hk.1.2.1, hk.1.2.2⟩⟩, hk.2⟩))) (fun _ h_ => h_))); (case aB => exact (by repeat (first | (with_reducible first | exact HB.out | apply below_alloc | apply pw_below_drewN | apply below_drew1) | exact HB.out))); (case aF => exact (fun k_ hk => ⟨Kd.fresh' (Kd.R_lt (by (with_reducible repeat (first | apply Kd.R_alloc | apply Kd.R_drewN | apply Kd.R_drew)); exact HO_7.out)) k_ hk, Kd.fresh' (Kd.R_lt (by (with_reducible repeat (first | apply Kd.R_alloc | apply Kd.R_drewN | apply Kd.R_drew)); exact HO_10.out)) k_ hk, Kd.fresh' (Kd.R_lt (by (with_reducible repeat (first | apply Kd.R_alloc | apply Kd.R_drewN | apply Kd.R_drew)); exact HO_99.out)) k_ hk⟩)); (case aO => exact (by (with_reducible repeat (first | apply Kd.S_alloc | apply Kd.S_drewN | apply Kd.S_drew)); exact Kd.S_mono HO_13.out (fun k_ hk => ⟨⟨hk.1, ⟨hk.2.1, hk.2.2.2⟩⟩, fun e_ => hk.2.2.1 e_⟩))); (case aS => exact (below_size (by repeat (first | (with_reducible first | exact HB.out | apply below_alloc | apply pw_below_drewN | apply below_drew1) | exact HB.out)))); (case aL => have := LMc54.out; omega); intro v465 w55 ho hb hg hat; rw [← Ny464.out] at ho; have n0_ := Aside0.mk (Kd.R_over' (by (with_reducible repeat (first | apply Kd.R_alloc | apply Kd.R_drewN | apply Kd.R_drew)); exact HO_7.out) (Kd.S_typed (by (with_reducible repeat (first | apply Kd.S_alloc | apply Kd.S_drewN | apply Kd.S_drew)); exact HO_13.out)) (by decide) hg); have n1_ := Aside0.mk (Kd.R_over' (by (with_reducible repeat (first | apply Kd.R_alloc | apply Kd.R_drewN | apply Kd.R_drew)); exact HO_10.out) (Kd.S_typed (by (with_reducible repeat (first | apply Kd.S_alloc | apply Kd.S_drewN | apply Kd.S_drew)); exact HO_13.out)) (by decide) hg); have n2_ := Aside0.mk (Kd.R_over' (by (with_reducible repeat (first | apply Kd.R_alloc | apply Kd.R_drewN | apply Kd.R_drew)); exact HO_99.out) (Kd.S_typed (by (with_reducible repeat (first | apply Kd.S_alloc | apply Kd.S_drewN | apply Kd.S_drew)); exact HO_13.out)) (by decide) hg); have n3_ := Aside0.mk (hb); have n4_ := Aside0.mk (ho); clear HO_7; clear HO_10; clear HO_99; clear HB; clear HO_13; clear HO_17; have HO_7 := n0_; have HO_10 := n1_; have HO_99 := n2_; have HB := n3_; have HO466 := n4_; clear n0_ n1_ n2_ n3_ n4_; clear ho hb hg hat)); try go_wp2_with (first | ((with_reducible refine gate_builtin (b := .append) (xs := #[.tmp 155, .tmp 157]) rfl ?_); (try (refine gate_guard (by rfl) ?_; dsimp only)); at_builtin; refine Kd.S_append (Kd.slice 3 (Kd.int .i64)) (w0 := w) w.heap.size rfl (.tmp 155) (.tmp 157) 63 22 (.slice none 0 0) 24 rfl Try.underlying63 info22 rfl (by decide) (by omega) u13 x13_3 x17_5 [.slice Ao56 x17_5.length co56] (fun k_ => some k_ ≠ (.slice (some ad455) t441.length co20 : Value).ownBlock ∧ some k_ ≠ (v449 : Value).ownBlock ∧ some k_ ≠ (.slice (some ad455) t441.length co20 : Value).ownBlock) (fun k_ => some k_ = (.slice Ao56 x17_5.length co56 : Value).ownBlock) rfl rfl ?aP (fun k_ hk_ => ((Kd.R_mono (ok' := fun k_ => ((fun k_ => some k_ ≠ (.slice (some ad455) t441.length co20 : Value).ownBlock ∧ some k_ ≠ (v449 : Value).ownBlock ∧ some k_ ≠ (.slice (some ad455) t441.length co20 : Value).ownBlock)) k_ ∧ some k_ ≠ (u13 : Value).ownBlock) (Kd.R_apart' (HO_17.out) (Kd.S_typed HO_13.out) (by decide)) (fun k_ hk => ⟨⟨hk.1.1, ⟨hk.1.2.1, hk.1.2.2⟩⟩, hk.2⟩))).1 k_ hk_.symm) ?aF ?aO ?aB ?aS ?aL ?_; (case aP => exact Kd.M_row (Kd.R_mono (Kd.R_tight rfl (Kd.R_mono (ok' := fun k_ => ((fun k_ => some k_ ≠ (.slice (some ad455) t441.length co20 : Value).ownBlock ∧ some k_ ≠ (v449 : Value).ownBlock ∧ some k_ ≠ (.slice (some ad455) t441.length co20 : Value).ownBlock)) k_ ∧ some k_ ≠ (u13 : Value).ownBlock) (Kd.R_apart' (HO_17.out) (Kd.S_typed HO_13.out) (by decide)) (fun k_ hk => ⟨⟨hk.1.1, ⟨hk.1.2.1, hk.1.2.2⟩⟩, hk.2⟩))) (fun _ h_ => h_))); (case aB => exact (by repeat (first | (with_reducible first | exact HB.out | apply below_alloc | apply pw_below_drewN | apply below_drew1) | exact HB.out))); (case aF => exact (fun k_ hk => ⟨Kd.fresh' (Kd.R_lt (by (with_reducible repeat (first | apply Kd.R_alloc | apply Kd.R_drewN | apply Kd.R_drew)); exact HO_7.out)) k_ hk, Kd.fresh' (Kd.R_lt (by (with_reducible repeat (first | apply Kd.R_alloc | apply Kd.R_drewN | apply Kd.R_drew)); exact HO_10.out)) k_ hk, Kd.fresh' (Kd.R_lt (by (with_reducible repeat (first | apply Kd.R_alloc | apply Kd.R_drewN | apply Kd.R_drew)); exact HO_99.out)) k_ hk⟩)); (case aO => exact (by (with_reducible repeat (first | apply Kd.S_alloc | apply Kd.S_drewN | apply Kd.S_drew)); exact Kd.S_mono HO_13.out (fun k_ hk => ⟨⟨hk.1, ⟨hk.2.1, hk.2.2.2⟩⟩, fun e_ => hk.2.2.1 e_⟩))); (case aS => exact (below_size (by repeat (first | (with_reducible first | exact HB.out | apply below_alloc | apply pw_below_drewN | apply below_drew1) | exact HB.out)))); (case aL => have := LMc54.out; omega); intro v465 w55 ho hb hg hat; rw [← Ny464.out] at ho; have n0_ := Aside0.mk (Kd.R_over' (by (with_reducible repeat (first | apply Kd.R_alloc | apply Kd.R_drewN | apply Kd.R_drew)); exact HO_7.out) (Kd.S_typed (by (with_reducible repeat (first | apply Kd.S_alloc | apply Kd.S_drewN | apply Kd.S_drew)); exact HO_13.out)) (by decide) hg); have n1_ := Aside0.mk (Kd.R_over' (by (with_reducible repeat (first | apply Kd.R_alloc | apply Kd.R_drewN | apply Kd.R_drew)); exact HO_10.out) (Kd.S_typed (by (with_reducible repeat (first | apply Kd.S_alloc | apply Kd.S_drewN | apply Kd.S_drew)); exact HO_13.out)) (by decide) hg); have n2_ := Aside0.mk (Kd.R_over' (by (with_reducible repeat (first | apply Kd.R_alloc | apply Kd.R_drewN | apply Kd.R_drew)); exact HO_99.out) (Kd.S_typed (by (with_reducible repeat (first | apply Kd.S_alloc | apply Kd.S_drewN | apply Kd.S_drew)); exact HO_13.out)) (by decide) hg); have n3_ := Aside0.mk (hb); have n4_ := Aside0.mk (ho); clear HO_7; clear HO_10; clear HO_99; clear HB; clear HO_13; clear HO_17; have HO_7 := n0_; have HO_10 := n1_; have HO_99 := n2_; have HB := n3_; have HO466 := n4_; clear n0_ n1_ n2_ n3_ n4_; clear ho hb hg hat)))
                                                  go_roundg k5
                                                  case measure => have := HJ6.out; have := HK2.out; have := HK3.out; have := HJ37.out; have := HK5.out; omega
                                                  case rel => exact ⟨(y464), (x14_5), (wrap64 (x101_3 + 1)), (by first | rfl | (simp; done) | (simp [*]; done)), (by first | rfl | (simp; done) | (simp [*]; done)), H', ⟨by have := HJ6.out; have := HK2.out; have := HK3.out; have := HJ37.out; have := HK5.out; omega⟩, ⟨by (with_reducible repeat (first | apply Kd.R_alloc | apply Kd.R_drewN | apply Kd.R_drew)); exact Kd.R_mono HO_7.out (fun _ hk => hk.1)⟩, ⟨by (with_reducible repeat (first | apply Kd.R_alloc | apply Kd.R_drewN | apply Kd.R_drew)); exact Kd.R_mono HO_10.out (fun _ hk => ⟨hk.1, hk.2.2⟩)⟩, ⟨by (with_reducible repeat (first | apply Kd.S_alloc | apply Kd.S_drewN | apply Kd.S_drew)); exact HO466.out⟩, ⟨by (with_reducible repeat (first | apply Kd.R_alloc | apply Kd.R_drewN | apply Kd.R_drew)); exact Kd.R_mono HO_99.out (fun _ hk => hk.1)⟩, ⟨by repeat (first | (with_reducible first | exact HB.out | apply below_alloc | apply pw_below_drewN | apply below_drew1) | exact HB.out)⟩⟩
                                                · rw [if_neg c54] at H
                                                  exact absurd H (by simp)
                                  · rw [if_neg c37] at H
                                    exact absurd H (by simp)
                                · rw [if_neg c36] at H
                                  exact absurd H (by simp)
                              · rw [if_neg c35] at H
                                have c35b0 : decide (x101_3 < (t441.length : Int)) = false := decide_eq_false c35
                                clear c35
                                replace H := Option.bind_eq_some_iff.mp H
                                obtain ⟨⟨t467, t468, t469⟩, A570, H⟩ := H
                                replace H : ((braid_Weave_int.f k3 t467 x13_3).bind fun bt474 => (if x14_3 = a0 then (if t469 = 0 then (if bt474.2 = 0 then (churnlaw12_BraidDeals.j5 k3 a0 a1 t467 bt474.1 ((bt474.1.length : Int) != a0)) else (churnlaw12_BraidDeals.j5 k3 a0 a1 t467 bt474.1 true)) else (churnlaw12_BraidDeals.j5 k3 a0 a1 t467 bt474.1 true)) else (churnlaw12_BraidDeals.j5 k3 a0 a1 t467 bt474.1 true))) = some r := H
                                have A57 := Aside0.mk A570
                                clear A570
                                replace H := Option.bind_eq_some_iff.mp H
                                obtain ⟨⟨t474, t475⟩, A580, H⟩ := H
                                replace H : (if x14_3 = a0 then (if t469 = 0 then (if t475 = 0 then (churnlaw12_BraidDeals.j5 k3 a0 a1 t467 t474 ((t474.length : Int) != a0)) else (churnlaw12_BraidDeals.j5 k3 a0 a1 t467 t474 true)) else (churnlaw12_BraidDeals.j5 k3 a0 a1 t467 t474 true)) else (churnlaw12_BraidDeals.j5 k3 a0 a1 t467 t474 true)) = some r := H
                                have A58 := Aside0.mk A580
                                clear A580
                                have HC59 := Aside0.mk H
                                clear H
                                obtain ⟨Ao60, co60, eo60⟩ := Kd.R_slice HO_10.out
                                subst eo60
                                go_upto_region 39 with (first | (go_at_call 25; (with_reducible refine (braid_Pattern.calls k3 _ _ t441 _ _ x10_2 t467 t468 t469 _ ?side1 ?side2 ?side3 ?side4 A57.out).mono ?_); (case side1 => repeat (first | exact (Kd.R_reads' HO_7.out).2.2 | (with_reducible refine Kd.C_alloc ?_ _) | (with_reducible refine Kd.C_drewN ?_ _) | (with_reducible refine Kd.C_drew ?_))); (case side2 => exact (Kd.R_reads' HO_7.out).2.1); (case side3 => repeat (first | exact (Kd.R_reads' HO_10.out).2.2 | (with_reducible refine Kd.C_alloc ?_ _) | (with_reducible refine Kd.C_drewN ?_ _) | (with_reducible refine Kd.C_drew ?_))); (case side4 => exact (Kd.R_reads' HO_10.out).2.1); rintro e w61 ⟨v470, v472, rfl, ho0, ho1, hb⟩; have n0_ := Aside0.mk (Kd.R_mono (Kd.R_told (Kd.R_told (Kd.R_old (by (with_reducible repeat (first | apply Kd.R_alloc | apply Kd.R_drewN | apply Kd.R_drew)); exact HO_7.out) hb) (Kd.R_base ho0)) (Kd.R_base ho1)) (fun _ h_ => h_.1)); have n1_ := Aside0.mk (Kd.R_mono (Kd.R_told (Kd.R_told (Kd.R_old (by (with_reducible repeat (first | apply Kd.R_alloc | apply Kd.R_drewN | apply Kd.R_drew)); exact HO_10.out) hb) (Kd.R_base ho0)) (Kd.R_base ho1)) (fun _ h_ => h_.1)); have n2_ := Aside0.mk (Kd.S_mono (Kd.S_told (Kd.S_told (Kd.S_old (by (with_reducible repeat (first | apply Kd.S_alloc | apply Kd.S_drewN | apply Kd.S_drew)); exact HO_13.out) hb) (Kd.R_base ho0)) (Kd.R_base ho1)) (fun _ h_ => h_.1)); have n3_ := Aside0.mk (Kd.R_mono (Kd.R_told (Kd.R_told (Kd.R_old (by (with_reducible repeat (first | apply Kd.R_alloc | apply Kd.R_drewN | apply Kd.R_drew)); exact HO_99.out) hb) (Kd.R_base ho0)) (Kd.R_base ho1)) (fun _ h_ => h_.1)); have n4_ := Aside0.mk (Kd.R_lower (Kd.R_new' (Kd.R_new' (Kd.R_new' ho0 (Kd.R_lt (by (with_reducible repeat (first | apply Kd.R_alloc | apply Kd.R_drewN | apply Kd.R_drew)); exact HO_7.out))) (Kd.R_lt (by (with_reducible repeat (first | apply Kd.R_alloc | apply Kd.R_drewN | apply Kd.R_drew)); exact HO_10.out))) (Kd.R_lt (by (with_reducible repeat (first | apply Kd.R_alloc | apply Kd.R_drewN | apply Kd.R_drew)); exact HO_99.out))) (below_size (by repeat (first | (with_reducible first | exact HB.out | apply below_alloc | apply pw_below_drewN | apply below_drew1) | exact HB.out)))); have n5_ := Aside0.mk (Kd.R_lower (Kd.R_new' (Kd.R_new' (Kd.R_new' ho1 (Kd.R_lt (by (with_reducible repeat (first | apply Kd.R_alloc | apply Kd.R_drewN | apply Kd.R_drew)); exact HO_7.out))) (Kd.R_lt (by (with_reducible repeat (first | apply Kd.R_alloc | apply Kd.R_drewN | apply Kd.R_drew)); exact HO_10.out))) (Kd.R_lt (by (with_reducible repeat (first | apply Kd.R_alloc | apply Kd.R_drewN | apply Kd.R_drew)); exact HO_99.out))) (below_size (by repeat (first | (with_reducible first | exact HB.out | apply below_alloc | apply pw_below_drewN | apply below_drew1) | exact HB.out)))); have n6_ := Aside0.mk (below_step (by repeat (first | (with_reducible first | exact HB.out | apply below_alloc | apply pw_below_drewN | apply below_drew1) | exact HB.out)) hb); clear HO_7; clear HO_10; clear HO_13; clear HO_99; clear HB; have HO_7 := n0_; have HO_10 := n1_; have HO_13 := n2_; have HO_99 := n3_; have HO471 := n4_; have HO473 := n5_; have HB := n6_; clear n0_ n1_ n2_ n3_ n4_ n5_ n6_; (try clear hb); (try clear hb2); (try clear hk); (try clear hi); (try clear ho0); (try clear ho1); obtain ⟨Ao62, co62, eo62⟩ := Kd.R_slice HO471.out; subst eo62; obtain ⟨Ao63, co63, eo63⟩ := Kd.S_slice HO_13.out; subst eo63) | (go_at_call 28; (with_reducible refine (braid_Weave_int.calls k3 _ _ t467 _ _ x13_3 t474 t475 _ ?side1 ?side2 ?side3 ?side4 A58.out).mono ?_); (case side1 => repeat (first | exact (Kd.R_reads' HO471.out).2.2 | (with_reducible refine Kd.C_alloc ?_ _) | (with_reducible refine Kd.C_drewN ?_ _) | (with_reducible refine Kd.C_drew ?_))); (case side2 => exact (Kd.R_reads' HO471.out).2.1); (case side3 => repeat (first | exact (Kd.S_reads' HO_13.out).2.2 | (with_reducible refine Kd.C_alloc ?_ _) | (with_reducible refine Kd.C_drewN ?_ _) | (with_reducible refine Kd.C_drew ?_))); (case side4 => exact (Kd.S_reads' HO_13.out).2.1); rintro e w64 ⟨v476, rfl, ho0, hb⟩; have n0_ := Aside0.mk (Kd.R_elder' (by (with_reducible repeat (first | apply Kd.R_alloc | apply Kd.R_drewN | apply Kd.R_drew)); exact HO_7.out) (Kd.R_base ho0) hb); have n1_ := Aside0.mk (Kd.R_elder' (by (with_reducible repeat (first | apply Kd.R_alloc | apply Kd.R_drewN | apply Kd.R_drew)); exact HO_10.out) (Kd.R_base ho0) hb); have n2_ := Aside0.mk (Kd.S_elder' (by (with_reducible repeat (first | apply Kd.S_alloc | apply Kd.S_drewN | apply Kd.S_drew)); exact HO_13.out) (Kd.R_base ho0) hb); have n3_ := Aside0.mk (Kd.R_elder' (by (with_reducible repeat (first | apply Kd.R_alloc | apply Kd.R_drewN | apply Kd.R_drew)); exact HO_99.out) (Kd.R_base ho0) hb); have n4_ := Aside0.mk (Kd.R_elder' (by (with_reducible repeat (first | apply Kd.R_alloc | apply Kd.R_drewN | apply Kd.R_drew)); exact HO471.out) (Kd.R_base ho0) hb); have n5_ := Aside0.mk (Kd.R_elder' (by (with_reducible repeat (first | apply Kd.R_alloc | apply Kd.R_drewN | apply Kd.R_drew)); exact HO473.out) (Kd.R_base ho0) hb); have n6_ := Aside0.mk (Kd.R_lower (Kd.R_new' (Kd.R_new' (Kd.R_new' (Kd.R_new' (Kd.R_new' ho0 (Kd.R_lt (by (with_reducible repeat (first | apply Kd.R_alloc | apply Kd.R_drewN | apply Kd.R_drew)); exact HO_7.out))) (Kd.R_lt (by (with_reducible repeat (first | apply Kd.R_alloc | apply Kd.R_drewN | apply Kd.R_drew)); exact HO_10.out))) (Kd.R_lt (by (with_reducible repeat (first | apply Kd.R_alloc | apply Kd.R_drewN | apply Kd.R_drew)); exact HO_99.out))) (Kd.R_lt (by (with_reducible repeat (first | apply Kd.R_alloc | apply Kd.R_drewN | apply Kd.R_drew)); exact HO471.out))) (Kd.R_lt (by (with_reducible repeat (first | apply Kd.R_alloc | apply Kd.R_drewN | apply Kd.R_drew)); exact HO473.out))) (below_size (by repeat (first | (with_reducible first | exact HB.out | apply below_alloc | apply pw_below_drewN | apply below_drew1) | exact HB.out)))); have n7_ := Aside0.mk (below_step (by repeat (first | (with_reducible first | exact HB.out | apply below_alloc | apply pw_below_drewN | apply below_drew1) | exact HB.out)) hb); clear HO_7; clear HO_10; clear HO_13; clear HO_99; clear HO471; clear HO473; clear HB; have HO_7 := n0_; have HO_10 := n1_; have HO_13 := n2_; have HO_99 := n3_; have HO471 := n4_; have HO473 := n5_; have HO477 := n6_; have HB := n7_; clear n0_ n1_ n2_ n3_ n4_ n5_ n6_ n7_; (try clear hb); (try clear hb2); (try clear hk); (try clear hi); (try clear ho0)))
                                repeat (go_quiet (first | (go_at_call 25; (with_reducible refine (braid_Pattern.calls k3 _ _ t441 _ _ x10_2 t467 t468 t469 _ ?side1 ?side2 ?side3 ?side4 A57.out).mono ?_); (case side1 => repeat (first | exact (Kd.R_reads' HO_7.out).2.2 | (with_reducible refine Kd.C_alloc ?_ _) | (with_reducible refine Kd.C_drewN ?_ _) | (with_reducible refine Kd.C_drew ?_))); (case side2 => exact (Kd.R_reads' HO_7.out).2.1); (case side3 => repeat (first | exact (Kd.R_reads' HO_10.out).2.2 | (with_reducible refine Kd.C_alloc ?_ _) | (with_reducible refine Kd.C_drewN ?_ _) | (with_reducible refine Kd.C_drew ?_))); (case side4 => exact (Kd.R_reads' HO_10.out).2.1); rintro e w61 ⟨v470, v472, rfl, ho0, ho1, hb⟩; have n0_ := Aside0.mk (Kd.R_mono (Kd.R_told (Kd.R_told (Kd.R_old (by (with_reducible repeat (first | apply Kd.R_alloc | apply Kd.R_drewN | apply Kd.R_drew)); exact HO_7.out) hb) (Kd.R_base ho0)) (Kd.R_base ho1)) (fun _ h_ => h_.1)); have n1_ := Aside0.mk (Kd.R_mono (Kd.R_told (Kd.R_told (Kd.R_old (by (with_reducible repeat (first | apply Kd.R_alloc | apply Kd.R_drewN | apply Kd.R_drew)); exact HO_10.out) hb) (Kd.R_base ho0)) (Kd.R_base ho1)) (fun _ h_ => h_.1)); have n2_ := Aside0.mk (Kd.S_mono (Kd.S_told (Kd.S_told (Kd.S_old (by (with_reducible repeat (first | apply Kd.S_alloc | apply Kd.S_drewN | apply Kd.S_drew)); exact HO_13.out) hb) (Kd.R_base ho0)) (Kd.R_base ho1)) (fun _ h_ => h_.1)); have n3_ := Aside0.mk (Kd.R_mono (Kd.R_told (Kd.R_told (Kd.R_old (by (with_reducible repeat (first | apply Kd.R_alloc | apply Kd.R_drewN | apply Kd.R_drew)); exact HO_99.out) hb) (Kd.R_base ho0)) (Kd.R_base ho1)) (fun _ h_ => h_.1)); have n4_ := Aside0.mk (Kd.R_lower (Kd.R_new' (Kd.R_new' (Kd.R_new' ho0 (Kd.R_lt (by (with_reducible repeat (first | apply Kd.R_alloc | apply Kd.R_drewN | apply Kd.R_drew)); exact HO_7.out))) (Kd.R_lt (by (with_reducible repeat (first | apply Kd.R_alloc | apply Kd.R_drewN | apply Kd.R_drew)); exact HO_10.out))) (Kd.R_lt (by (with_reducible repeat (first | apply Kd.R_alloc | apply Kd.R_drewN | apply Kd.R_drew)); exact HO_99.out))) (below_size (by repeat (first | (with_reducible first | exact HB.out | apply below_alloc | apply pw_below_drewN | apply below_drew1) | exact HB.out)))); have n5_ := Aside0.mk (Kd.R_lower (Kd.R_new' (Kd.R_new' (Kd.R_new' ho1 (Kd.R_lt (by (with_reducible repeat (first | apply Kd.R_alloc | apply Kd.R_drewN | apply Kd.R_drew)); exact HO_7.out))) (Kd.R_lt (by (with_reducible repeat (first | apply Kd.R_alloc | apply Kd.R_drewN | apply Kd.R_drew)); exact HO_10.out))) (Kd.R_lt (by (with_reducible repeat (first | apply Kd.R_alloc | apply Kd.R_drewN | apply Kd.R_drew)); exact HO_99.out))) (below_size (by repeat (first | (with_reducible first | exact HB.out | apply below_alloc | apply pw_below_drewN | apply below_drew1) | exact HB.out)))); have n6_ := Aside0.mk (below_step (by repeat (first | (with_reducible first | exact HB.out | apply below_alloc | apply pw_below_drewN | apply below_drew1) | exact HB.out)) hb); clear HO_7; clear HO_10; clear HO_13; clear HO_99; clear HB; have HO_7 := n0_; have HO_10 := n1_; have HO_13 := n2_; have HO_99 := n3_; have HO471 := n4_; have HO473 := n5_; have HB := n6_; clear n0_ n1_ n2_ n3_ n4_ n5_ n6_; (try clear hb); (try clear hb2); (try clear hk); (try clear hi); (try clear ho0); (try clear ho1); obtain ⟨Ao62, co62, eo62⟩ := Kd.R_slice HO471.out; subst eo62; obtain ⟨Ao63, co63, eo63⟩ := Kd.S_slice HO_13.out; subst eo63) | (go_at_call 28; (with_reducible refine (braid_Weave_int.calls k3 _ _ t467 _ _ x13_3 t474 t475 _ ?side1 ?side2 ?side3 ?side4 A58.out).mono ?_); (case side1 => repeat (first | exact (Kd.R_reads' HO471.out).2.2 | (with_reducible refine Kd.C_alloc ?_ _) | (with_reducible refine Kd.C_drewN ?_ _) | (with_reducible refine Kd.C_drew ?_))); (case side2 => exact (Kd.R_reads' HO471.out).2.1); (case side3 => repeat (first | exact (Kd.S_reads' HO_13.out).2.2 | (with_reducible refine Kd.C_alloc ?_ _) | (with_reducible refine Kd.C_drewN ?_ _) | (with_reducible refine Kd.C_drew ?_))); (case side4 => exact (Kd.S_reads' HO_13.out).2.1); rintro e w64 ⟨v476, rfl, ho0, hb⟩; have n0_ := Aside0.mk (Kd.R_elder' (by (with_reducible repeat (first | apply Kd.R_alloc | apply Kd.R_drewN | apply Kd.R_drew)); exact HO_7.out) (Kd.R_base ho0) hb); have n1_ := Aside0.mk (Kd.R_elder' (by (with_reducible repeat (first | apply Kd.R_alloc | apply Kd.R_drewN | apply Kd.R_drew)); exact HO_10.out) (Kd.R_base ho0) hb); have n2_ := Aside0.mk (Kd.S_elder' (by (with_reducible repeat (first | apply Kd.S_alloc | apply Kd.S_drewN | apply Kd.S_drew)); exact HO_13.out) (Kd.R_base ho0) hb); have n3_ := Aside0.mk (Kd.R_elder' (by (with_reducible repeat (first | apply Kd.R_alloc | apply Kd.R_drewN | apply Kd.R_drew)); exact HO_99.out) (Kd.R_base ho0) hb); have n4_ := Aside0.mk (Kd.R_elder' (by (with_reducible repeat (first | apply Kd.R_alloc | apply Kd.R_drewN | apply Kd.R_drew)); exact HO471.out) (Kd.R_base ho0) hb); have n5_ := Aside0.mk (Kd.R_elder' (by (with_reducible repeat (first | apply Kd.R_alloc | apply Kd.R_drewN | apply Kd.R_drew)); exact HO473.out) (Kd.R_base ho0) hb); have n6_ := Aside0.mk (Kd.R_lower (Kd.R_new' (Kd.R_new' (Kd.R_new' (Kd.R_new' (Kd.R_new' ho0 (Kd.R_lt (by (with_reducible repeat (first | apply Kd.R_alloc | apply Kd.R_drewN | apply Kd.R_drew)); exact HO_7.out))) (Kd.R_lt (by (with_reducible repeat (first | apply Kd.R_alloc | apply Kd.R_drewN | apply Kd.R_drew)); exact HO_10.out))) (Kd.R_lt (by (with_reducible repeat (first | apply Kd.R_alloc | apply Kd.R_drewN | apply Kd.R_drew)); exact HO_99.out))) (Kd.R_lt (by (with_reducible repeat (first | apply Kd.R_alloc | apply Kd.R_drewN | apply Kd.R_drew)); exact HO471.out))) (Kd.R_lt (by (with_reducible repeat (first | apply Kd.R_alloc | apply Kd.R_drewN | apply Kd.R_drew)); exact HO473.out))) (below_size (by repeat (first | (with_reducible first | exact HB.out | apply below_alloc | apply pw_below_drewN | apply below_drew1) | exact HB.out)))); have n7_ := Aside0.mk (below_step (by repeat (first | (with_reducible first | exact HB.out | apply below_alloc | apply pw_below_drewN | apply below_drew1) | exact HB.out)) hb); clear HO_7; clear HO_10; clear HO_13; clear HO_99; clear HO471; clear HO473; clear HB; have HO_7 := n0_; have HO_10 := n1_; have HO_13 := n2_; have HO_99 := n3_; have HO471 := n4_; have HO473 := n5_; have HO477 := n6_; have HB := n7_; clear n0_ n1_ n2_ n3_ n4_ n5_ n6_ n7_; (try clear hb); (try clear hb2); (try clear hk); (try clear hi); (try clear ho0))); go_upto_region 39 with (first | (go_at_call 25; (with_reducible refine (braid_Pattern.calls k3 _ _ t441 _ _ x10_2 t467 t468 t469 _ ?side1 ?side2 ?side3 ?side4 A57.out).mono ?_); (case side1 => repeat (first | exact (Kd.R_reads' HO_7.out).2.2 | (with_reducible refine Kd.C_alloc ?_ _) | (with_reducible refine Kd.C_drewN ?_ _) | (with_reducible refine Kd.C_drew ?_))); (case side2 => exact (Kd.R_reads' HO_7.out).2.1); (case side3 => repeat (first | exact (Kd.R_reads' HO_10.out).2.2 | (with_reducible refine Kd.C_alloc ?_ _) | (with_reducible refine Kd.C_drewN ?_ _) | (with_reducible refine Kd.C_drew ?_))); (case side4 => exact (Kd.R_reads' HO_10.out).2.1); rintro e w61 ⟨v470, v472, rfl, ho0, ho1, hb⟩; have n0_ := Aside0.mk (Kd.R_mono (Kd.R_told (Kd.R_told (Kd.R_old (by (with_reducible repeat (first | apply Kd.R_alloc | apply Kd.R_drewN | apply Kd.R_drew)); exact HO_7.out) hb) (Kd.R_base ho0)) (Kd.R_base ho1)) (fun _ h_ => h_.1)); have n1_ := Aside0.mk (Kd.R_mono (Kd.R_told (Kd.R_told (Kd.R_old (by (with_reducible repeat (first | apply Kd.R_alloc | apply Kd.R_drewN | apply Kd.R_drew)); exact HO_10.out) hb) (Kd.R_base ho0)) (Kd.R_base ho1)) (fun _ h_ => h_.1)); have n2_ := Aside0.mk (Kd.S_mono (Kd.S_told (Kd.S_told (Kd.S_old (by (with_reducible repeat (first | apply Kd.S_alloc | apply Kd.S_drewN | apply Kd.S_drew)); exact HO_13.out) hb) (Kd.R_base ho0)) (Kd.R_base ho1)) (fun _ h_ => h_.1)); have n3_ := Aside0.mk (Kd.R_mono (Kd.R_told (Kd.R_told (Kd.R_old (by (with_reducible repeat (first | apply Kd.R_alloc | apply Kd.R_drewN | apply Kd.R_drew)); exact HO_99.out) hb) (Kd.R_base ho0)) (Kd.R_base ho1)) (fun _ h_ => h_.1)); have n4_ := Aside0.mk (Kd.R_lower (Kd.R_new' (Kd.R_new' (Kd.R_new' ho0 (Kd.R_lt (by (with_reducible repeat (first | apply Kd.R_alloc | apply Kd.R_drewN | apply Kd.R_drew)); exact HO_7.out))) (Kd.R_lt (by (with_reducible repeat (first | apply Kd.R_alloc | apply Kd.R_drewN | apply Kd.R_drew)); exact HO_10.out))) (Kd.R_lt (by (with_reducible repeat (first | apply Kd.R_alloc | apply Kd.R_drewN | apply Kd.R_drew)); exact HO_99.out))) (below_size (by repeat (first | (with_reducible first | exact HB.out | apply below_alloc | apply pw_below_drewN | apply below_drew1) | exact HB.out)))); have n5_ := Aside0.mk (Kd.R_lower (Kd.R_new' (Kd.R_new' (Kd.R_new' ho1 (Kd.R_lt (by (with_reducible repeat (first | apply Kd.R_alloc | apply Kd.R_drewN | apply Kd.R_drew)); exact HO_7.out))) (Kd.R_lt (by (with_reducible repeat (first | apply Kd.R_alloc | apply Kd.R_drewN | apply Kd.R_drew)); exact HO_10.out))) (Kd.R_lt (by (with_reducible repeat (first | apply Kd.R_alloc | apply Kd.R_drewN | apply Kd.R_drew)); exact HO_99.out))) (below_size (by repeat (first | (with_reducible first | exact HB.out | apply below_alloc | apply pw_below_drewN | apply below_drew1) | exact HB.out)))); have n6_ := Aside0.mk (below_step (by repeat (first | (with_reducible first | exact HB.out | apply below_alloc | apply pw_below_drewN | apply below_drew1) | exact HB.out)) hb); clear HO_7; clear HO_10; clear HO_13; clear HO_99; clear HB; have HO_7 := n0_; have HO_10 := n1_; have HO_13 := n2_; have HO_99 := n3_; have HO471 := n4_; have HO473 := n5_; have HB := n6_; clear n0_ n1_ n2_ n3_ n4_ n5_ n6_; (try clear hb); (try clear hb2); (try clear hk); (try clear hi); (try clear ho0); (try clear ho1); obtain ⟨Ao62, co62, eo62⟩ := Kd.R_slice HO471.out; subst eo62; obtain ⟨Ao63, co63, eo63⟩ := Kd.S_slice HO_13.out; subst eo63) | (go_at_call 28; (with_reducible refine (braid_Weave_int.calls k3 _ _ t467 _ _ x13_3 t474 t475 _ ?side1 ?side2 ?side3 ?side4 A58.out).mono ?_); (case side1 => repeat (first | exact (Kd.R_reads' HO471.out).2.2 | (with_reducible refine Kd.C_alloc ?_ _) | (with_reducible refine Kd.C_drewN ?_ _) | (with_reducible refine Kd.C_drew ?_))); (case side2 => exact (Kd.R_reads' HO471.out).2.1); (case side3 => repeat (first | exact (Kd.S_reads' HO_13.out).2.2 | (with_reducible refine Kd.C_alloc ?_ _) | (with_reducible refine Kd.C_drewN ?_ _) | (with_reducible refine Kd.C_drew ?_))); (case side4 => exact (Kd.S_reads' HO_13.out).2.1); rintro e w64 ⟨v476, rfl, ho0, hb⟩; have n0_ := Aside0.mk (Kd.R_elder' (by (with_reducible repeat (first | apply Kd.R_alloc | apply Kd.R_drewN | apply Kd.R_drew)); exact HO_7.out) (Kd.R_base ho0) hb); have n1_ := Aside0.mk (Kd.R_elder' (by (with_reducible repeat (first | apply Kd.R_alloc | apply Kd.R_drewN | apply Kd.R_drew)); exact HO_10.out) (Kd.R_base ho0) hb); have n2_ := Aside0.mk (Kd.S_elder' (by (with_reducible repeat (first | apply Kd.S_alloc | apply Kd.S_drewN | apply Kd.S_drew)); exact HO_13.out) (Kd.R_base ho0) hb); have n3_ := Aside0.mk (Kd.R_elder' (by (with_reducible repeat (first | apply Kd.R_alloc | apply Kd.R_drewN | apply Kd.R_drew)); exact HO_99.out) (Kd.R_base ho0) hb); have n4_ := Aside0.mk (Kd.R_elder' (by (with_reducible repeat (first | apply Kd.R_alloc | apply Kd.R_drewN | apply Kd.R_drew)); exact HO471.out) (Kd.R_base ho0) hb); have n5_ := Aside0.mk (Kd.R_elder' (by (with_reducible repeat (first | apply Kd.R_alloc | apply Kd.R_drewN | apply Kd.R_drew)); exact HO473.out) (Kd.R_base ho0) hb); have n6_ := Aside0.mk (Kd.R_lower (Kd.R_new' (Kd.R_new' (Kd.R_new' (Kd.R_new' (Kd.R_new' ho0 (Kd.R_lt (by (with_reducible repeat (first | apply Kd.R_alloc | apply Kd.R_drewN | apply Kd.R_drew)); exact HO_7.out))) (Kd.R_lt (by (with_reducible repeat (first | apply Kd.R_alloc | apply Kd.R_drewN | apply Kd.R_drew)); exact HO_10.out))) (Kd.R_lt (by (with_reducible repeat (first | apply Kd.R_alloc | apply Kd.R_drewN | apply Kd.R_drew)); exact HO_99.out))) (Kd.R_lt (by (with_reducible repeat (first | apply Kd.R_alloc | apply Kd.R_drewN | apply Kd.R_drew)); exact HO471.out))) (Kd.R_lt (by (with_reducible repeat (first | apply Kd.R_alloc | apply Kd.R_drewN | apply Kd.R_drew)); exact HO473.out))) (below_size (by repeat (first | (with_reducible first | exact HB.out | apply below_alloc | apply pw_below_drewN | apply below_drew1) | exact HB.out)))); have n7_ := Aside0.mk (below_step (by repeat (first | (with_reducible first | exact HB.out | apply below_alloc | apply pw_below_drewN | apply below_drew1) | exact HB.out)) hb); clear HO_7; clear HO_10; clear HO_13; clear HO_99; clear HO471; clear HO473; clear HB; have HO_7 := n0_; have HO_10 := n1_; have HO_13 := n2_; have HO_99 := n3_; have HO471 := n4_; have HO473 := n5_; have HO477 := n6_; have HB := n7_; clear n0_ n1_ n2_ n3_ n4_ n5_ n6_ n7_; (try clear hb); (try clear hb2); (try clear hk); (try clear hi); (try clear ho0))))
                                (try simp only [Act.put, List.setIfInBounds_toArray, List.set_cons_zero, List.set_cons_succ])
                                go_cut [189] (fun v189 wc => ∃ (kq : Nat) (x189_58 : Bool), v189 = .bool x189_58 ∧ Aside0 (churnlaw12_BraidDeals.j5 kq a0 a1 t467 t474 x189_58 = some r) ∧ Aside0 (kq ≤ k3) ∧ Aside0 (Kd.R (Kd.int .i64) 3 wc w.heap.size (fun k_ => some k_ ≠ (v476 : Value).ownBlock) (.slice Ao62 t467.length co62) t467) ∧ Aside0 (Kd.R (Kd.int .i64) 3 wc w.heap.size (fun k_ => some k_ ≠ ((.slice Ao62 t467.length co62) : Value).ownBlock) v476 t474) ∧ Aside0 (Below w.heap.size w wc))
                                case first => as_aux_lemma =>
                                  have H := HC59.out
                                  clear HC59
                                  by_cases c65 : x14_3 = a0
                                  · rw [if_pos c65] at H
                                    have c65b0 : (x14_3 == a0) = true := beq_iff_eq.mpr c65
                                    have c65b1 : (x14_3 != a0) = false := bne_eq_false_iff_eq.mpr c65
                                    clear c65
                                    (first | rw [c65b0] | (simp only [i64_w, i32_w]; rw [c65b0]) | skip)
                                    by_cases c66 : t469 = 0
                                    · rw [if_pos c66] at H
                                      have c66b0 : (t469 == 0) = true := beq_iff_eq.mpr c66
                                      have c66b1 : (t469 != 0) = false := bne_eq_false_iff_eq.mpr c66
                                      clear c66
                                      by_cases c67 : t475 = 0
                                      · rw [if_pos c67] at H
                                        have c67b0 : (t475 == 0) = true := beq_iff_eq.mpr c67
                                        have c67b1 : (t475 != 0) = false := bne_eq_false_iff_eq.mpr c67
                                        clear c67
                                        have H' := Aside0.mk H
                                        clear H
                                        obtain ⟨Ao68, co68, eo68⟩ := Kd.R_slice HO477.out
                                        subst eo68
                                        go_wp2
                                        repeat (go_quiet (fail); try go_wp2)
                                        go_meet
                                        case rel => exact ⟨_, (((t474.length : Int) != a0)), (by first | rfl | (simp; done) | (simp [*]; done)), H', ⟨by have := HJ6.out; have := HK2.out; have := HK3.out; first | omega | exact Nat.le_refl _⟩, ⟨by (with_reducible repeat (first | apply Kd.R_alloc | apply Kd.R_drewN | apply Kd.R_drew)); exact Kd.R_mono HO471.out (fun _ hk => hk.2)⟩, ⟨by (with_reducible repeat (first | apply Kd.R_alloc | apply Kd.R_drewN | apply Kd.R_drew)); exact Kd.R_mono HO477.out (fun _ hk => hk.1.2)⟩, ⟨by repeat (first | (with_reducible first | exact HB.out | apply below_alloc | apply pw_below_drewN | apply below_drew1) | exact HB.out)⟩⟩
                                      · rw [if_neg c67] at H
                                        have c67b0 : (t475 == 0) = false := beq_eq_false_iff_ne.mpr c67
                                        have c67b1 : (t475 != 0) = true := bne_iff_ne.mpr c67
                                        have H' := Aside0.mk H
                                        clear H
                                        go_wp2
                                        repeat (go_quiet (fail); try go_wp2)
                                        go_meet
                                        case rel => exact ⟨_, (true), (by first | rfl | (simp; done) | (simp [*]; done)), H', ⟨by have := HJ6.out; have := HK2.out; have := HK3.out; first | omega | exact Nat.le_refl _⟩, ⟨by (with_reducible repeat (first | apply Kd.R_alloc | apply Kd.R_drewN | apply Kd.R_drew)); exact Kd.R_mono HO471.out (fun _ hk => hk.2)⟩, ⟨by (with_reducible repeat (first | apply Kd.R_alloc | apply Kd.R_drewN | apply Kd.R_drew)); exact Kd.R_mono HO477.out (fun _ hk => hk.1.2)⟩, ⟨by repeat (first | (with_reducible first | exact HB.out | apply below_alloc | apply pw_below_drewN | apply below_drew1) | exact HB.out)⟩⟩
                                    · rw [if_neg c66] at H
                                      have c66b0 : (t469 == 0) = false := beq_eq_false_iff_ne.mpr c66
                                      have c66b1 : (t469 != 0) = true := bne_iff_ne.mpr c66
                                      have H' := Aside0.mk H
                                      clear H
                                      go_wp2
                                      repeat (go_quiet (fail); try go_wp2)
                                      go_meet
                                      case rel => exact ⟨_, (true), (by first | rfl | (simp; done) | (simp [*]; done)), H', ⟨by have := HJ6.out; have := HK2.out; have := HK3.out; first | omega | exact Nat.le_refl _⟩, ⟨by (with_reducible repeat (first | apply Kd.R_alloc | apply Kd.R_drewN | apply Kd.R_drew)); exact Kd.R_mono HO471.out (fun _ hk => hk.2)⟩, ⟨by (with_reducible repeat (first | apply Kd.R_alloc | apply Kd.R_drewN | apply Kd.R_drew)); exact Kd.R_mono HO477.out (fun _ hk => hk.1.2)⟩, ⟨by repeat (first | (with_reducible first | exact HB.out | apply below_alloc | apply pw_below_drewN | apply below_drew1) | exact HB.out)⟩⟩
                                  · rw [if_neg c65] at H
                                    have c65b0 : (x14_3 == a0) = false := beq_eq_false_iff_ne.mpr c65
                                    have c65b1 : (x14_3 != a0) = true := bne_iff_ne.mpr c65
                                    (first | rw [c65b0] | (simp only [i64_w, i32_w]; rw [c65b0]) | skip)
                                    have H' := Aside0.mk H
                                    clear H
                                    go_wp2
                                    repeat (go_quiet (fail); try go_wp2)
                                    go_meet
                                    case rel => exact ⟨_, (true), (by first | rfl | (simp; done) | (simp [*]; done)), H', ⟨by have := HJ6.out; have := HK2.out; have := HK3.out; first | omega | exact Nat.le_refl _⟩, ⟨by (with_reducible repeat (first | apply Kd.R_alloc | apply Kd.R_drewN | apply Kd.R_drew)); exact Kd.R_mono HO471.out (fun _ hk => hk.2)⟩, ⟨by (with_reducible repeat (first | apply Kd.R_alloc | apply Kd.R_drewN | apply Kd.R_drew)); exact Kd.R_mono HO477.out (fun _ hk => hk.1.2)⟩, ⟨by repeat (first | (with_reducible first | exact HB.out | apply below_alloc | apply pw_below_drewN | apply below_drew1) | exact HB.out)⟩⟩
                                case rest => as_aux_lemma =>
                                  clear HC59
                                  try clear c1
                                  try clear c2
                                  try clear p2
                                  try clear c3
                                  try clear p3
                                  try clear q3
                                  try clear hx3
                                  try clear hf3
                                  try clear c4
                                  try clear p4
                                  try clear q4
                                  try clear hx4
                                  try clear qi4
                                  try clear c5
                                  try clear c6
                                  try clear p6
                                  try clear c8
                                  try clear c10
                                  try clear c10b0
                                  try clear c11
                                  try clear c11b0
                                  try clear c12
                                  try clear c12b0
                                  try clear c13
                                  try clear c14
                                  try clear c14b0
                                  try clear c14b1
                                  try clear c15
                                  try clear c15b0
                                  try clear c15b1
                                  try clear c17
                                  try clear c17b0
                                  try clear c17b1
                                  try clear c18
                                  try clear c18b0
                                  try clear c18b1
                                  try clear c19
                                  try clear c19b0
                                  try clear c19b1
                                  try clear c25
                                  try clear c25b0
                                  try clear c26
                                  try clear c26b0
                                  try clear c27
                                  try clear c27b0
                                  try clear c28
                                  try clear c28b0
                                  try clear c28b1
                                  try clear c29
                                  try clear c29b0
                                  try clear c31
                                  try clear c31b0
                                  try clear p32
                                  try clear q32
                                  try clear hx32
                                  try clear hf32
                                  try clear c35
                                  try clear c35b0
                                  try clear c36
                                  try clear c36b0
                                  try clear c37
                                  try clear c37b0
                                  try clear c40
                                  try clear c40b0
                                  try clear c41
                                  try clear c41b0
                                  try clear c42
                                  try clear c42b0
                                  try clear c43
                                  try clear c43b0
                                  try clear c43b1
                                  try clear c44
                                  try clear c44b0
                                  try clear c45
                                  try clear c45b0
                                  try clear p45
                                  try clear q45
                                  try clear hx45
                                  try clear qi45
                                  try clear c46
                                  try clear c46b0
                                  try clear p46
                                  try clear q46
                                  try clear hx46
                                  try clear c48
                                  try clear c48b0
                                  try clear c49
                                  try clear c49b0
                                  try clear c50
                                  try clear c51
                                  try clear c51b0
                                  try clear c52
                                  try clear c54
                                  try clear p64
                                  try clear c65
                                  try clear c65b0
                                  try clear c65b1
                                  try clear c66
                                  try clear c66b0
                                  try clear c66b1
                                  try clear c67
                                  try clear c67b0
                                  try clear c67b1
                                  try clear hx32_0
                                  try clear hx451_0
                                  try clear hx452_0
                                  try clear hx455_0
                                  try clear hx456_0
                                  try clear hx457_0
                                  try clear hx458_0
                                  try clear hx459_0
                                  try clear hx460_0
                                  try clear p2
                                  try clear p3
                                  try clear p32
                                  try clear p4
                                  try clear p45
                                  try clear p451
                                  try clear p452
                                  try clear p455
                                  try clear p456
                                  try clear p457
                                  try clear p458
                                  try clear p459
                                  try clear p46
                                  try clear p460
                                  try clear p6
                                  try clear q3
                                  try clear q32
                                  try clear q4
                                  try clear q45
                                  try clear q451
                                  try clear q452
                                  try clear q455
                                  try clear q456
                                  try clear q457
                                  try clear q458
                                  try clear q459
                                  try clear q46
                                  try clear q460
                                  obtain ⟨kq, x189_58, rfl, HA, HJ58, HO_18, HO_21, HB⟩ := hcut
                                  cases kq with
                                  | zero => exact absurd HA.out (by simp [churnlaw12_BraidDeals.j5])
                                  | succ kj58 =>
                                    have H := HA.out
                                    clear HA
                                    simp only [churnlaw12_BraidDeals.j5] at H
                                    by_cases c69 : x189_58 = true
                                    · subst c69
                                      have H1 : (some false) = some r := by rw [if_pos rfl] at H; exact H
                                      clear H
                                      have H := H1
                                      clear H1
                                      obtain rfl := Option.some.inj H
                                      go_wp2
                                      repeat (go_quiet (fail); try go_wp2)
                                      go_ret
                                      exact ⟨by first | rfl | (simp [errW_none, errW_some] <;> rfl) | (simp [*, errW_none, errW_some] <;> rfl), by repeat (first | (with_reducible first | exact HB.out | apply below_alloc | apply pw_below_drewN | apply below_drew1) | exact HB.out)⟩
                                    · replace c69 := Bool.eq_false_iff.mpr c69
                                      subst c69
                                      have H1 : (if 0 ≤ a0 then (if (a0 : Int).toNat ≤ 281474976710656 then (if 0 ≤ a1 then (if (a1 : Int).toNat ≤ 35184372088832 then (churnlaw12_BraidDeals.l3 kj58 a0 t467 (List.replicate (a0 : Int).toNat false) (List.replicate (a1 : Int).toNat 0) t474 (t474.length : Int) 0) else (none)) else (none)) else (none)) else (none)) = some r := by rw [if_neg (show ¬ (false = true) by decide)] at H; exact H
                                      clear H
                                      have H := H1
                                      clear H1
                                      by_cases c70 : 0 ≤ a0
                                      · rw [if_pos c70] at H
                                        have c70b0 := eq_true c70
                                        have c70b1 : decide (0 ≤ a0) = true := decide_eq_true c70
                                        clear c70
                                        by_cases c71 : (a0 : Int).toNat ≤ 281474976710656
                                        · rw [if_pos c71] at H
                                          have c71b0 := eq_true c71
                                          have c71b1 : decide ((a0 : Int).toNat ≤ 281474976710656) = true := decide_eq_true c71
                                          clear c71
                                          obtain ⟨y478, hy478⟩ : ∃ y_ : List Bool, y_ = (List.replicate (a0 : Int).toNat false) := ⟨_, rfl⟩
                                          replace H : (if 0 ≤ a1 then (if (a1 : Int).toNat ≤ 35184372088832 then (churnlaw12_BraidDeals.l3 kj58 a0 t467 y478 (List.replicate (a1 : Int).toNat 0) t474 (t474.length : Int) 0) else (none)) else (none)) = some r := by first | (rw [hy478]; with_reducible exact H) | (have H2_ := (Option.bind_some _ _).symm.trans H; rw [hy478]; with_reducible exact H2_) | (have H2_ := (Option.bind_some _ _).symm.trans H; with_reducible exact H2_) | with_reducible exact H | (rw [hy478]; exact H) | exact H
                                          have Ny478 := Aside0.mk hy478
                                          clear hy478
                                          by_cases c72 : 0 ≤ a1
                                          · rw [if_pos c72] at H
                                            have c72b0 := eq_true c72
                                            have c72b1 : decide (0 ≤ a1) = true := decide_eq_true c72
                                            clear c72
                                            by_cases c73 : (a1 : Int).toNat ≤ 35184372088832
                                            · rw [if_pos c73] at H
                                              have c73b0 := eq_true c73
                                              have c73b1 : decide ((a1 : Int).toNat ≤ 35184372088832) = true := decide_eq_true c73
                                              clear c73
                                              obtain ⟨y481, hy481⟩ : ∃ y_ : List Int, y_ = (List.replicate (a1 : Int).toNat 0) := ⟨_, rfl⟩
                                              replace H : (churnlaw12_BraidDeals.l3 kj58 a0 t467 y478 y481 t474 (t474.length : Int) 0) = some r := by first | (rw [hy481]; with_reducible exact H) | (have H2_ := (Option.bind_some _ _).symm.trans H; rw [hy481]; with_reducible exact H2_) | (have H2_ := (Option.bind_some _ _).symm.trans H; with_reducible exact H2_) | with_reducible exact H | (rw [hy481]; exact H) | exact H
                                              have Ny481 := Aside0.mk hy481
                                              clear hy481
                                              have H' := Aside0.mk H
                                              clear H
                                              go_wp2_with (first | ((with_reducible refine gate_dst (N := 191) rfl ?_); (try (refine gate_guard (by rfl) ?_; dsimp only)); refine Kd.R_make Kd.bool _ 4 rfl (N := 191) rfl 65 _ _ rfl a0 rfl rfl Try.underlying65 (.bool false) 1 info4 rfl (by decide) (by omega) false (ok := fun _ => True) (okp := fun _ => True) rfl (fun _ hk => hk) trivial (of_decide_eq_true (by first | (with_reducible assumption) | assumption)) (Nat.le_trans (Nat.mul_le_mul_right _ (of_decide_eq_true (by first | (with_reducible assumption) | assumption) : a0.toNat ≤ 281474976710656)) (by omega)) (Below.refl _ _) (Nat.le_refl _) ?_; intro v479 w74 ho75 hb hg_ hnew_; clear hg_ hnew_; (first | rw [← Ny478.out] at ho75 | (simp only [Int.reduceToNat] at ho75; rw [← Ny478.out] at ho75)); have n0_ := Aside0.mk (Kd.R_below (by (with_reducible repeat (first | apply Kd.R_alloc | apply Kd.R_drewN | apply Kd.R_drew)); exact HO_18.out) hb); have n1_ := Aside0.mk (Kd.R_below (by (with_reducible repeat (first | apply Kd.R_alloc | apply Kd.R_drewN | apply Kd.R_drew)); exact HO_21.out) hb); have n2_ := Aside0.mk (Kd.R_lower ho75 (below_size (by repeat (first | (with_reducible first | exact HB.out | apply below_alloc | apply pw_below_drewN | apply below_drew1) | exact HB.out)))); have n3_ := Aside0.mk (below_step (by repeat (first | (with_reducible first | exact HB.out | apply below_alloc | apply pw_below_drewN | apply below_drew1) | exact HB.out)) hb); clear HO_18; clear HO_21; clear HB; have HO_18 := n0_; have HO_21 := n1_; have HO480 := n2_; have HB := n3_; clear n0_ n1_ n2_ n3_; clear hb ho75) | ((with_reducible refine gate_dst (N := 193) rfl ?_); (try (refine gate_guard (by rfl) ?_; dsimp only)); refine Kd.R_make (Kd.int .i64) _ 3 rfl (N := 193) rfl 22 _ _ rfl a1 rfl rfl Try.underlying22 (.int .i64 0) 8 info3 rfl (by decide) (by omega) 0 (ok := fun _ => True) (okp := fun _ => True) rfl (fun _ hk => hk) trivial (of_decide_eq_true (by first | (with_reducible assumption) | assumption)) (Nat.le_trans (Nat.mul_le_mul_right _ (of_decide_eq_true (by first | (with_reducible assumption) | assumption) : a1.toNat ≤ 35184372088832)) (by omega)) (Below.refl _ _) (Nat.le_refl _) ?_; intro v482 w76 ho77 hb hg_ hnew_; clear hg_ hnew_; (first | rw [← Ny481.out] at ho77 | (simp only [Int.reduceToNat] at ho77; rw [← Ny481.out] at ho77)); have n0_ := Aside0.mk (Kd.R_elder' (by (with_reducible repeat (first | apply Kd.R_alloc | apply Kd.R_drewN | apply Kd.R_drew)); exact HO_18.out) (Kd.R_base ho77) hb); have n1_ := Aside0.mk (Kd.R_elder' (by (with_reducible repeat (first | apply Kd.R_alloc | apply Kd.R_drewN | apply Kd.R_drew)); exact HO_21.out) (Kd.R_base ho77) hb); have n2_ := Aside0.mk (Kd.R_below (by (with_reducible repeat (first | apply Kd.R_alloc | apply Kd.R_drewN | apply Kd.R_drew)); exact HO480.out) hb); have n3_ := Aside0.mk (Kd.R_lower (Kd.R_new' (Kd.R_new' ho77 (Kd.R_lt (by (with_reducible repeat (first | apply Kd.R_alloc | apply Kd.R_drewN | apply Kd.R_drew)); exact HO_18.out))) (Kd.R_lt (by (with_reducible repeat (first | apply Kd.R_alloc | apply Kd.R_drewN | apply Kd.R_drew)); exact HO_21.out))) (below_size (by repeat (first | (with_reducible first | exact HB.out | apply below_alloc | apply pw_below_drewN | apply below_drew1) | exact HB.out)))); have n4_ := Aside0.mk (below_step (by repeat (first | (with_reducible first | exact HB.out | apply below_alloc | apply pw_below_drewN | apply below_drew1) | exact HB.out)) hb); clear HO_18; clear HO_21; clear HO480; clear HB; have HO_18 := n0_; have HO_21 := n1_; have HO480 := n2_; have HO483 := n3_; have HB := n4_; clear n0_ n1_ n2_ n3_ n4_; clear hb ho77; obtain ⟨Ao78, co78, eo78⟩ := Kd.R_slice HO_21.out; subst eo78))
                                              repeat (go_quiet (first | ((with_reducible refine gate_dst (N := 191) rfl ?_); (try (refine gate_guard (by rfl) ?_; dsimp only)); refine Kd.R_make Kd.bool _ 4 rfl (N := 191) rfl 65 _ _ rfl a0 rfl rfl Try.underlying65 (.bool false) 1 info4 rfl (by decide) (by omega) false (ok := fun _ => True) (okp := fun _ => True) rfl (fun _ hk => hk) trivial (of_decide_eq_true (by first | (with_reducible assumption) | assumption)) (Nat.le_trans (Nat.mul_le_mul_right _ (of_decide_eq_true (by first | (with_reducible assumption) | assumption) : a0.toNat ≤ 281474976710656)) (by omega)) (Below.refl _ _) (Nat.le_refl _) ?_; intro v479 w74 ho75 hb hg_ hnew_; clear hg_ hnew_; (first | rw [← Ny478.out] at ho75 | (simp only [Int.reduceToNat] at ho75; rw [← Ny478.out] at ho75)); have n0_ := Aside0.mk (Kd.R_below (by (with_reducible repeat (first | apply Kd.R_alloc | apply Kd.R_drewN | apply Kd.R_drew)); exact HO_18.out) hb); have n1_ := Aside0.mk (Kd.R_below (by (with_reducible repeat (first | apply Kd.R_alloc | apply Kd.R_drewN | apply Kd.R_drew)); exact HO_21.out) hb); have n2_ := Aside0.mk (Kd.R_lower ho75 (below_size (by repeat (first | (with_reducible first | exact HB.out | apply below_alloc | apply pw_below_drewN | apply below_drew1) | exact HB.out)))); have n3_ := Aside0.mk (below_step (by repeat (first | (with_reducible first | exact HB.out | apply below_alloc | apply pw_below_drewN | apply below_drew1) | exact HB.out)) hb); clear HO_18; clear HO_21; clear HB; have HO_18 := n0_; have HO_21 := n1_; have HO480 := n2_; have HB := n3_; clear n0_ n1_ n2_ n3_; clear hb ho75) | ((with_reducible refine gate_dst (N := 193) rfl ?_); (try (refine gate_guard (by rfl) ?_; dsimp only)); refine Kd.R_make (Kd.int .i64) _ 3 rfl (N := 193) rfl 22 _ _ rfl a1 rfl rfl Try.underlying22 (.int .i64 0) 8 info3 rfl (by decide) (by omega) 0 (ok := fun _ => True) (okp := fun _ => True) rfl (fun _ hk => hk) trivial (of_decide_eq_true (by first | (with_reducible assumption) | assumption)) (Nat.le_trans (Nat.mul_le_mul_right _ (of_decide_eq_true (by first | (with_reducible assumption) | assumption) : a1.toNat ≤ 35184372088832)) (by omega)) (Below.refl _ _) (Nat.le_refl _) ?_; intro v482 w76 ho77 hb hg_ hnew_; clear hg_ hnew_; (first | rw [← Ny481.out] at ho77 | (simp only [Int.reduceToNat] at ho77; rw [← Ny481.out] at ho77)); have n0_ := Aside0.mk (Kd.R_elder' (by (with_reducible repeat (first | apply Kd.R_alloc | apply Kd.R_drewN | apply Kd.R_drew)); exact HO_18.out) (Kd.R_base ho77) hb); have n1_ := Aside0.mk (Kd.R_elder' (by (with_reducible repeat (first | apply Kd.R_alloc | apply Kd.R_drewN | apply Kd.R_drew)); exact HO_21.out) (Kd.R_base ho77) hb); have n2_ := Aside0.mk (Kd.R_below (by (with_reducible repeat (first | apply Kd.R_alloc | apply Kd.R_drewN | apply Kd.R_drew)); exact HO480.out) hb); have n3_ := Aside0.mk (Kd.R_lower (Kd.R_new' (Kd.R_new' ho77 (Kd.R_lt (by (with_reducible repeat (first | apply Kd.R_alloc | apply Kd.R_drewN | apply Kd.R_drew)); exact HO_18.out))) (Kd.R_lt (by (with_reducible repeat (first | apply Kd.R_alloc | apply Kd.R_drewN | apply Kd.R_drew)); exact HO_21.out))) (below_size (by repeat (first | (with_reducible first | exact HB.out | apply below_alloc | apply pw_below_drewN | apply below_drew1) | exact HB.out)))); have n4_ := Aside0.mk (below_step (by repeat (first | (with_reducible first | exact HB.out | apply below_alloc | apply pw_below_drewN | apply below_drew1) | exact HB.out)) hb); clear HO_18; clear HO_21; clear HO480; clear HB; have HO_18 := n0_; have HO_21 := n1_; have HO480 := n2_; have HO483 := n3_; have HB := n4_; clear n0_ n1_ n2_ n3_ n4_; clear hb ho77; obtain ⟨Ao78, co78, eo78⟩ := Kd.R_slice HO_21.out; subst eo78)); try go_wp2_with (first | ((with_reducible refine gate_dst (N := 191) rfl ?_); (try (refine gate_guard (by rfl) ?_; dsimp only)); refine Kd.R_make Kd.bool _ 4 rfl (N := 191) rfl 65 _ _ rfl a0 rfl rfl Try.underlying65 (.bool false) 1 info4 rfl (by decide) (by omega) false (ok := fun _ => True) (okp := fun _ => True) rfl (fun _ hk => hk) trivial (of_decide_eq_true (by first | (with_reducible assumption) | assumption)) (Nat.le_trans (Nat.mul_le_mul_right _ (of_decide_eq_true (by first | (with_reducible assumption) | assumption) : a0.toNat ≤ 281474976710656)) (by omega)) (Below.refl _ _) (Nat.le_refl _) ?_; intro v479 w74 ho75 hb hg_ hnew_; clear hg_ hnew_; (first | rw [← Ny478.out] at ho75 | (simp only [Int.reduceToNat] at ho75; rw [← Ny478.out] at ho75)); have n0_ := Aside0.mk (Kd.R_below (by (with_reducible repeat (first | apply Kd.R_alloc | apply Kd.R_drewN | apply Kd.R_drew)); exact HO_18.out) hb); have n1_ := Aside0.mk (Kd.R_below (by (with_reducible repeat (first | apply Kd.R_alloc | apply Kd.R_drewN | apply Kd.R_drew)); exact HO_21.out) hb); have n2_ := Aside0.mk (Kd.R_lower ho75 (below_size (by repeat (first | (with_reducible first | exact HB.out | apply below_alloc | apply pw_below_drewN | apply below_drew1) | exact HB.out)))); have n3_ := Aside0.mk (below_step (by repeat (first | (with_reducible first | exact HB.out | apply below_alloc | apply pw_below_drewN | apply below_drew1) | exact HB.out)) hb); clear HO_18; clear HO_21; clear HB; have HO_18 := n0_; have HO_21 := n1_; have HO480 := n2_; have HB := n3_; clear n0_ n1_ n2_ n3_; clear hb ho75) | ((with_reducible refine gate_dst (N := 193) rfl ?_); (try (refine gate_guard (by rfl) ?_; dsimp only)); refine Kd.R_make (Kd.int .i64) _ 3 rfl (N := 193) rfl 22 _ _ rfl a1 rfl rfl Try.underlying22 (.int .i64 0) 8 info3 rfl (by decide) (by omega) 0 (ok := fun _ => True) (okp := fun _ => True) rfl (fun _ hk => hk) trivial (of_decide_eq_true (by first | (with_reducible assumption) | assumption)) (Nat.le_trans (Nat.mul_le_mul_right _ (of_decide_eq_true (by first | (with_reducible assumption) | assumption) : a1.toNat ≤ 35184372088832)) (by omega)) (Below.refl _ _) (Nat.le_refl _) ?_; intro v482 w76 ho77 hb hg_ hnew_; clear hg_ hnew_; (first | rw [← Ny481.out] at ho77 | (simp only [Int.reduceToNat] at ho77; rw [← Ny481.out] at ho77)); have n0_ := Aside0.mk (Kd.R_elder' (by (with_reducible repeat (first | apply Kd.R_alloc | apply Kd.R_drewN | apply Kd.R_drew)); exact HO_18.out) (Kd.R_base ho77) hb); have n1_ := Aside0.mk (Kd.R_elder' (by (with_reducible repeat (first | apply Kd.R_alloc | apply Kd.R_drewN | apply Kd.R_drew)); exact HO_21.out) (Kd.R_base ho77) hb); have n2_ := Aside0.mk (Kd.R_below (by (with_reducible repeat (first | apply Kd.R_alloc | apply Kd.R_drewN | apply Kd.R_drew)); exact HO480.out) hb); have n3_ := Aside0.mk (Kd.R_lower (Kd.R_new' (Kd.R_new' ho77 (Kd.R_lt (by (with_reducible repeat (first | apply Kd.R_alloc | apply Kd.R_drewN | apply Kd.R_drew)); exact HO_18.out))) (Kd.R_lt (by (with_reducible repeat (first | apply Kd.R_alloc | apply Kd.R_drewN | apply Kd.R_drew)); exact HO_21.out))) (below_size (by repeat (first | (with_reducible first | exact HB.out | apply below_alloc | apply pw_below_drewN | apply below_drew1) | exact HB.out)))); have n4_ := Aside0.mk (below_step (by repeat (first | (with_reducible first | exact HB.out | apply below_alloc | apply pw_below_drewN | apply below_drew1) | exact HB.out)) hb); clear HO_18; clear HO_21; clear HO480; clear HB; have HO_18 := n0_; have HO_21 := n1_; have HO480 := n2_; have HO483 := n3_; have HB := n4_; clear n0_ n1_ n2_ n3_ n4_; clear hb ho77; obtain ⟨Ao78, co78, eo78⟩ := Kd.R_slice HO_21.out; subst eo78)))
                                              go_loopg [196] kj58 (fun kq v196 w' => ∃ (x23_5 : List Bool) (x24_5 : List Int) (x196_5 : Int), v196 = .int .i64 x196_5 ∧ Aside0 (churnlaw12_BraidDeals.l3 kq a0 t467 x23_5 x24_5 t474 (t474.length : Int) x196_5 = some r) ∧ Aside0 (kq ≤ kj58) ∧ Aside0 (Kd.R (Kd.int .i64) 3 w' w.heap.size (fun k_ => some k_ ≠ (v482 : Value).ownBlock ∧ some k_ ≠ ((.slice Ao78 t474.length co78) : Value).ownBlock) (.slice Ao62 t467.length co62) t467) ∧ Aside0 (Kd.R Kd.bool 4 w' w.heap.size (fun _ => True) v479 x23_5) ∧ Aside0 (Kd.R (Kd.int .i64) 3 w' w.heap.size (fun k_ => some k_ ≠ ((.slice Ao62 t467.length co62) : Value).ownBlock ∧ some k_ ≠ ((.slice Ao78 t474.length co78) : Value).ownBlock) v482 x24_5) ∧ Aside0 (Kd.R (Kd.int .i64) 3 w' w.heap.size (fun k_ => some k_ ≠ ((.slice Ao62 t467.length co62) : Value).ownBlock ∧ some k_ ≠ (v482 : Value).ownBlock) (.slice Ao78 t474.length co78) t474) ∧ Aside0 (Below w.heap.size w w'))
                                              case atStart => exact ⟨(y478), (y481), (0), (by first | rfl | (simp; done) | (simp [*]; done)), H', ⟨Nat.le_refl _⟩, ⟨by (with_reducible repeat (first | apply Kd.R_alloc | apply Kd.R_drewN | apply Kd.R_drew)); exact Kd.R_mono HO_18.out (fun _ hk => ⟨hk.2, hk.1⟩)⟩, ⟨by (with_reducible repeat (first | apply Kd.R_alloc | apply Kd.R_drewN | apply Kd.R_drew)); exact HO480.out⟩, ⟨by (with_reducible repeat (first | apply Kd.R_alloc | apply Kd.R_drewN | apply Kd.R_drew)); exact Kd.R_mono HO483.out (fun _ hk => ⟨hk.1.2, hk.2⟩)⟩, ⟨by (with_reducible repeat (first | apply Kd.R_alloc | apply Kd.R_drewN | apply Kd.R_drew)); exact HO_21.out⟩, ⟨by repeat (first | (with_reducible first | exact HB.out | apply below_alloc | apply pw_below_drewN | apply below_drew1) | exact HB.out)⟩⟩
                                              case round => as_aux_lemma =>
                                                clear H'
                                                try clear c1
                                                try clear c2
                                                try clear p2
                                                try clear c3
                                                try clear p3
                                                try clear q3
                                                try clear hx3
                                                try clear hf3
                                                try clear c4
                                                try clear p4
                                                try clear q4
                                                try clear hx4
                                                try clear qi4
                                                try clear c5
                                                try clear c6
                                                try clear p6
                                                try clear c7
                                                try clear c8
                                                try clear c10
                                                try clear c10b0
                                                try clear c11
                                                try clear c11b0
                                                try clear c12
                                                try clear c12b0
                                                try clear c13
                                                try clear c14
                                                try clear c14b0
                                                try clear c14b1
                                                try clear c15
                                                try clear c15b0
                                                try clear c15b1
                                                try clear c17
                                                try clear c17b0
                                                try clear c17b1
                                                try clear c18
                                                try clear c18b0
                                                try clear c18b1
                                                try clear c19
                                                try clear c19b0
                                                try clear c19b1
                                                try clear c25
                                                try clear c25b0
                                                try clear c26
                                                try clear c26b0
                                                try clear c27
                                                try clear c27b0
                                                try clear c28
                                                try clear c28b0
                                                try clear c28b1
                                                try clear c29
                                                try clear c29b0
                                                try clear c31
                                                try clear c31b0
                                                try clear p32
                                                try clear q32
                                                try clear hx32
                                                try clear hf32
                                                try clear c35
                                                try clear c35b0
                                                try clear c36
                                                try clear c36b0
                                                try clear c37
                                                try clear c37b0
                                                try clear c40
                                                try clear c40b0
                                                try clear c41
                                                try clear c41b0
                                                try clear c42
                                                try clear c42b0
                                                try clear c43
                                                try clear c43b0
                                                try clear c43b1
                                                try clear c44
                                                try clear c44b0
                                                try clear c45
                                                try clear c45b0
                                                try clear p45
                                                try clear q45
                                                try clear hx45
                                                try clear qi45
                                                try clear c46
                                                try clear c46b0
                                                try clear p46
                                                try clear q46
                                                try clear hx46
                                                try clear c48
                                                try clear c48b0
                                                try clear c49
                                                try clear c49b0
                                                try clear c50
                                                try clear c51
                                                try clear c51b0
                                                try clear c52
                                                try clear c54
                                                try clear p64
                                                try clear c65
                                                try clear c65b0
                                                try clear c65b1
                                                try clear c66
                                                try clear c66b0
                                                try clear c66b1
                                                try clear c67
                                                try clear c67b0
                                                try clear c67b1
                                                try clear c69
                                                try clear c70
                                                try clear c70b0
                                                try clear c70b1
                                                try clear c71
                                                try clear c71b0
                                                try clear c71b1
                                                try clear c72
                                                try clear c72b0
                                                try clear c72b1
                                                try clear c73
                                                try clear c73b0
                                                try clear c73b1
                                                try clear hx32_0
                                                try clear hx451_0
                                                try clear hx452_0
                                                try clear hx455_0
                                                try clear hx456_0
                                                try clear hx457_0
                                                try clear hx458_0
                                                try clear hx459_0
                                                try clear hx460_0
                                                try clear p2
                                                try clear p3
                                                try clear p32
                                                try clear p4
                                                try clear p45
                                                try clear p451
                                                try clear p452
                                                try clear p455
                                                try clear p456
                                                try clear p457
                                                try clear p458
                                                try clear p459
                                                try clear p46
                                                try clear p460
                                                try clear p6
                                                try clear p64
                                                try clear q3
                                                try clear q32
                                                try clear q4
                                                try clear q45
                                                try clear q451
                                                try clear q452
                                                try clear q455
                                                try clear q456
                                                try clear q457
                                                try clear q458
                                                try clear q459
                                                try clear q46
                                                try clear q460
                                                obtain ⟨x23_5, x24_5, x196_5, rfl, HA, HK5, HO_18, HO_23, HO_24, HO_194, HB⟩ := hrel
                                                cases gk with
                                                | zero => exact absurd HA.out (by simp [churnlaw12_BraidDeals.l3])
                                                | succ k5 =>
                                                  have H := HA.out
                                                  clear HA
                                                  simp only [churnlaw12_BraidDeals.l3] at H
                                                  by_cases c79 : x196_5 < (t474.length : Int)
                                                  · rw [if_pos c79] at H
                                                    have c79b0 : decide (x196_5 < (t474.length : Int)) = true := decide_eq_true c79
                                                    clear c79
                                                    by_cases c80 : 0 ≤ x196_5
                                                    · rw [if_pos c80] at H
                                                      have c80b0 : decide (0 ≤ x196_5) = true := decide_eq_true c80
                                                      clear c80
                                                      by_cases c81 : x196_5 < (t474.length : Int)
                                                      · rw [if_pos c81] at H
                                                        have c81b0 : decide (x196_5 < (t474.length : Int)) = true := decide_eq_true c81
                                                        clear c81
                                                        by_cases c82 : (rd t474 x196_5) < 0
                                                        · rw [if_pos c82] at H
                                                          have c82b0 : decide ((rd t474 x196_5) < 0) = true := decide_eq_true c82
                                                          clear c82
                                                          obtain rfl := Option.some.inj H
                                                          have p484 : 0 ≤ (x196_5 : Int) := of_decide_eq_true (by first | (with_reducible assumption) | assumption)
                                                          have q484 : x196_5 < (t474.length : Int) := of_decide_eq_true (by first | (with_reducible assumption) | assumption)
                                                          obtain ⟨ad484, e484, hx484_0⟩ := Kd.at_int (Kd.R_reads' HO_194.out).2.2 x196_5 p484 q484
                                                          cases e484
                                                          replace p484 := eq_true p484
                                                          replace q484 := eq_true q484
                                                          go_wp2
                                                          repeat (go_quiet (fail); try go_wp2)
                                                          go_ret
                                                          exact ⟨by first | rfl | (simp [errW_none, errW_some] <;> rfl) | (simp [*, errW_none, errW_some] <;> rfl), by repeat (first | (with_reducible first | exact HB.out | apply below_alloc | apply pw_below_drewN | apply below_drew1) | exact HB.out)⟩
                                                        · rw [if_neg c82] at H
                                                          have c82b0 : decide ((rd t474 x196_5) < 0) = false := decide_eq_false c82
                                                          clear c82
                                                          by_cases c83 : (rd t474 x196_5) ≥ a0
                                                          · rw [if_pos c83] at H
                                                            have c83b0 : decide (a0 ≤ (rd t474 x196_5)) = true := decide_eq_true c83
                                                            clear c83
                                                            obtain rfl := Option.some.inj H
                                                            have p484 : 0 ≤ (x196_5 : Int) := of_decide_eq_true (by first | (with_reducible assumption) | assumption)
                                                            have q484 : x196_5 < (t474.length : Int) := of_decide_eq_true (by first | (with_reducible assumption) | assumption)
                                                            obtain ⟨ad484, e484, hx484_0⟩ := Kd.at_int (Kd.R_reads' HO_194.out).2.2 x196_5 p484 q484
                                                            cases e484
                                                            replace p484 := eq_true p484
                                                            replace q484 := eq_true q484
                                                            go_wp2
                                                            repeat (go_quiet (fail); try go_wp2)
                                                            go_ret
                                                            exact ⟨by first | rfl | (simp [errW_none, errW_some] <;> rfl) | (simp [*, errW_none, errW_some] <;> rfl), by repeat (first | (with_reducible first | exact HB.out | apply below_alloc | apply pw_below_drewN | apply below_drew1) | exact HB.out)⟩
                                                          · rw [if_neg c83] at H
                                                            have c83b0 : decide (a0 ≤ (rd t474 x196_5)) = false := decide_eq_false c83
                                                            clear c83
                                                            by_cases c84 : 0 ≤ (rd t474 x196_5)
                                                            · rw [if_pos c84] at H
                                                              have c84b0 : decide (0 ≤ (rd t474 x196_5)) = true := decide_eq_true c84
                                                              clear c84
                                                              by_cases c85 : (rd t474 x196_5) < (x23_5.length : Int)
                                                              · rw [if_pos c85] at H
                                                                have c85b0 : decide ((rd t474 x196_5) < (x23_5.length : Int)) = true := decide_eq_true c85
                                                                clear c85
                                                                obtain ⟨bq86, hbq86⟩ : ∃ b_ : Bool, b_ = (rdOf false x23_5 (rd t474 x196_5)) := ⟨_, rfl⟩
                                                                replace H : (if bq86 = true then (some false) else (if x196_5 < (t467.length : Int) then (if 0 ≤ (rd t467 x196_5) then (if (rd t467 x196_5) < (x24_5.length : Int) then (if (wrap64 ((rd t474 x196_5) + 1)) ≤ (rd x24_5 (rd t467 x196_5)) then (some false) else (churnlaw12_BraidDeals.l3 k5 a0 t467 (x23_5.set ((rd t474 x196_5) : Int).toNat true) (x24_5.set ((rd t467 x196_5) : Int).toNat (wrap64 ((rd t474 x196_5) + 1))) t474 (t474.length : Int) (wrap64 (x196_5 + 1)))) else (none)) else (none)) else (none))) = some r := by rw [← hbq86] at H; exact H
                                                                have Nbq86 := Aside0.mk hbq86
                                                                clear hbq86
                                                                by_cases c87 : bq86 = true
                                                                · subst c87
                                                                  have H1 : (some false) = some r := by rw [if_pos rfl] at H; exact H
                                                                  clear H
                                                                  have H := H1
                                                                  clear H1
                                                                  obtain rfl := Option.some.inj H
                                                                  have p484 : 0 ≤ (x196_5 : Int) := of_decide_eq_true (by first | (with_reducible assumption) | assumption)
                                                                  have q484 : x196_5 < (t474.length : Int) := of_decide_eq_true (by first | (with_reducible assumption) | assumption)
                                                                  obtain ⟨ad484, e484, hx484_0⟩ := Kd.at_int (Kd.R_reads' HO_194.out).2.2 x196_5 p484 q484
                                                                  cases e484
                                                                  replace p484 := eq_true p484
                                                                  replace q484 := eq_true q484
                                                                  obtain ⟨Ao88, co88, eo88⟩ := Kd.R_slice HO_23.out
                                                                  subst eo88
                                                                  have p485 : 0 ≤ ((rd t474 x196_5) : Int) := of_decide_eq_true (by first | (with_reducible assumption) | assumption)
                                                                  have q485 : (rd t474 x196_5) < (x23_5.length : Int) := of_decide_eq_true (by first | (with_reducible assumption) | assumption)
                                                                  obtain ⟨ad485, e485, hx485_0⟩ := Kd.at_bool (Kd.R_reads' HO_23.out).2.2 (rd t474 x196_5) p485 q485
                                                                  (try rw [← Nbq86.out] at hx485_0)
                                                                  cases e485
                                                                  replace p485 := eq_true p485
                                                                  replace q485 := eq_true q485
                                                                  go_wp2
                                                                  repeat (go_quiet (fail); try go_wp2)
                                                                  go_ret
                                                                  exact ⟨by first | rfl | (simp [errW_none, errW_some] <;> rfl) | (simp [*, errW_none, errW_some] <;> rfl), by repeat (first | (with_reducible first | exact HB.out | apply below_alloc | apply pw_below_drewN | apply below_drew1) | exact HB.out)⟩
                                                                · replace c87 := Bool.eq_false_iff.mpr c87
                                                                  subst c87
                                                                  have H1 : (if x196_5 < (t467.length : Int) then (if 0 ≤ (rd t467 x196_5) then (if (rd t467 x196_5) < (x24_5.length : Int) then (if (wrap64 ((rd t474 x196_5) + 1)) ≤ (rd x24_5 (rd t467 x196_5)) then (some false) else (churnlaw12_BraidDeals.l3 k5 a0 t467 (x23_5.set ((rd t474 x196_5) : Int).toNat true) (x24_5.set ((rd t467 x196_5) : Int).toNat (wrap64 ((rd t474 x196_5) + 1))) t474 (t474.length : Int) (wrap64 (x196_5 + 1)))) else (none)) else (none)) else (none)) = some r := by rw [if_neg (show ¬ (false = true) by decide)] at H; exact H
                                                                  clear H
                                                                  have H := H1
                                                                  clear H1
                                                                  by_cases c89 : x196_5 < (t467.length : Int)
                                                                  · rw [if_pos c89] at H
                                                                    have c89b0 : decide (x196_5 < (t467.length : Int)) = true := decide_eq_true c89
                                                                    clear c89
                                                                    by_cases c90 : 0 ≤ (rd t467 x196_5)
                                                                    · rw [if_pos c90] at H
                                                                      have c90b0 : decide (0 ≤ (rd t467 x196_5)) = true := decide_eq_true c90
                                                                      clear c90
                                                                      by_cases c91 : (rd t467 x196_5) < (x24_5.length : Int)
                                                                      · rw [if_pos c91] at H
                                                                        have c91b0 : decide ((rd t467 x196_5) < (x24_5.length : Int)) = true := decide_eq_true c91
                                                                        clear c91
                                                                        by_cases c92 : (wrap64 ((rd t474 x196_5) + 1)) ≤ (rd x24_5 (rd t467 x196_5))
                                                                        · rw [if_pos c92] at H
                                                                          have c92b0 : decide ((wrap64 ((rd t474 x196_5) + 1)) ≤ (rd x24_5 (rd t467 x196_5))) = true := decide_eq_true c92
                                                                          clear c92
                                                                          obtain rfl := Option.some.inj H
                                                                          have p484 : 0 ≤ (x196_5 : Int) := of_decide_eq_true (by first | (with_reducible assumption) | assumption)
                                                                          have q484 : x196_5 < (t474.length : Int) := of_decide_eq_true (by first | (with_reducible assumption) | assumption)
                                                                          obtain ⟨ad484, e484, hx484_0⟩ := Kd.at_int (Kd.R_reads' HO_194.out).2.2 x196_5 p484 q484
                                                                          cases e484
                                                                          replace p484 := eq_true p484
                                                                          replace q484 := eq_true q484
                                                                          obtain ⟨Ao93, co93, eo93⟩ := Kd.R_slice HO_23.out
                                                                          subst eo93
                                                                          have p485 : 0 ≤ ((rd t474 x196_5) : Int) := of_decide_eq_true (by first | (with_reducible assumption) | assumption)
                                                                          have q485 : (rd t474 x196_5) < (x23_5.length : Int) := of_decide_eq_true (by first | (with_reducible assumption) | assumption)
                                                                          obtain ⟨ad485, e485, hx485_0⟩ := Kd.at_bool (Kd.R_reads' HO_23.out).2.2 (rd t474 x196_5) p485 q485
                                                                          (try rw [← Nbq86.out] at hx485_0)
                                                                          cases e485
                                                                          replace p485 := eq_true p485
                                                                          replace q485 := eq_true q485
                                                                          have p486 : 0 ≤ (x196_5 : Int) := of_decide_eq_true (by first | (with_reducible assumption) | assumption)
                                                                          have q486 : x196_5 < (t467.length : Int) := of_decide_eq_true (by first | (with_reducible assumption) | assumption)
                                                                          obtain ⟨ad486, e486, hx486_0⟩ := Kd.at_int (Kd.R_reads' HO_18.out).2.2 x196_5 p486 q486
                                                                          cases e486
                                                                          replace p486 := eq_true p486
                                                                          replace q486 := eq_true q486
                                                                          obtain ⟨Ao94, co94, eo94⟩ := Kd.R_slice HO_24.out
                                                                          subst eo94
                                                                          have p487 : 0 ≤ ((rd t467 x196_5) : Int) := of_decide_eq_true (by first | (with_reducible assumption) | assumption)
                                                                          have q487 : (rd t467 x196_5) < (x24_5.length : Int) := of_decide_eq_true (by first | (with_reducible assumption) | assumption)
                                                                          obtain ⟨ad487, e487, hx487_0⟩ := Kd.at_int (Kd.R_reads' HO_24.out).2.2 (rd t467 x196_5) p487 q487
                                                                          cases e487
                                                                          replace p487 := eq_true p487
                                                                          replace q487 := eq_true q487
                                                                          go_wp2
                                                                          repeat (go_quiet (fail); try go_wp2)
                                                                          go_ret
                                                                          exact ⟨by first | rfl | (simp [errW_none, errW_some] <;> rfl) | (simp [*, errW_none, errW_some] <;> rfl), by repeat (first | (with_reducible first | exact HB.out | apply below_alloc | apply pw_below_drewN | apply below_drew1) | exact HB.out)⟩
                                                                        · rw [if_neg c92] at H
                                                                          have c92b0 : decide ((wrap64 ((rd t474 x196_5) + 1)) ≤ (rd x24_5 (rd t467 x196_5))) = false := decide_eq_false c92
                                                                          clear c92
                                                                          obtain ⟨y488, hy488⟩ : ∃ y_ : List Bool, y_ = (x23_5.set ((rd t474 x196_5) : Int).toNat true) := ⟨_, rfl⟩
                                                                          replace H : (churnlaw12_BraidDeals.l3 k5 a0 t467 y488 (x24_5.set ((rd t467 x196_5) : Int).toNat (wrap64 ((rd t474 x196_5) + 1))) t474 (t474.length : Int) (wrap64 (x196_5 + 1))) = some r := by first | (rw [hy488]; with_reducible exact H) | (have H2_ := (Option.bind_some _ _).symm.trans H; rw [hy488]; with_reducible exact H2_) | (have H2_ := (Option.bind_some _ _).symm.trans H; with_reducible exact H2_) | with_reducible exact H | (rw [hy488]; exact H) | exact H
                                                                          have Ny488 := Aside0.mk hy488
                                                                          clear hy488
                                                                          obtain ⟨y490, hy490⟩ : ∃ y_ : List Int, y_ = (x24_5.set ((rd t467 x196_5) : Int).toNat (wrap64 ((rd t474 x196_5) + 1))) := ⟨_, rfl⟩
                                                                          replace H : (churnlaw12_BraidDeals.l3 k5 a0 t467 y488 y490 t474 (t474.length : Int) (wrap64 (x196_5 + 1))) = some r := by first | (rw [hy490]; with_reducible exact H) | (have H2_ := (Option.bind_some _ _).symm.trans H; rw [hy490]; with_reducible exact H2_) | (have H2_ := (Option.bind_some _ _).symm.trans H; with_reducible exact H2_) | with_reducible exact H | (rw [hy490]; exact H) | exact H
                                                                          have Ny490 := Aside0.mk hy490
                                                                          clear hy490
                                                                          have H' := Aside0.mk H
                                                                          clear H
                                                                          have p484 : 0 ≤ (x196_5 : Int) := of_decide_eq_true (by first | (with_reducible assumption) | assumption)
                                                                          have q484 : x196_5 < (t474.length : Int) := of_decide_eq_true (by first | (with_reducible assumption) | assumption)
                                                                          obtain ⟨ad484, e484, hx484_0⟩ := Kd.at_int (Kd.R_reads' HO_194.out).2.2 x196_5 p484 q484
                                                                          cases e484
                                                                          replace p484 := eq_true p484
                                                                          replace q484 := eq_true q484
                                                                          obtain ⟨Ao97, co97, eo97⟩ := Kd.R_slice HO_23.out
                                                                          subst eo97
                                                                          have p485 : 0 ≤ ((rd t474 x196_5) : Int) := of_decide_eq_true (by first | (with_reducible assumption) | assumption)
                                                                          have q485 : (rd t474 x196_5) < (x23_5.length : Int) := of_decide_eq_true (by first | (with_reducible assumption) | assumption)
                                                                          obtain ⟨ad485, e485, hx485_0⟩ := Kd.at_bool (Kd.R_reads' HO_23.out).2.2 (rd t474 x196_5) p485 q485
                                                                          (try rw [← Nbq86.out] at hx485_0)
                                                                          cases e485
                                                                          replace p485 := eq_true p485
                                                                          replace q485 := eq_true q485
                                                                          have p486 : 0 ≤ (x196_5 : Int) := of_decide_eq_true (by first | (with_reducible assumption) | assumption)
                                                                          have q486 : x196_5 < (t467.length : Int) := of_decide_eq_true (by first | (with_reducible assumption) | assumption)
                                                                          obtain ⟨ad486, e486, hx486_0⟩ := Kd.at_int (Kd.R_reads' HO_18.out).2.2 x196_5 p486 q486
                                                                          cases e486
                                                                          replace p486 := eq_true p486
                                                                          replace q486 := eq_true q486
                                                                          obtain ⟨Ao98, co98, eo98⟩ := Kd.R_slice HO_24.out
                                                                          subst eo98
                                                                          have p487 : 0 ≤ ((rd t467 x196_5) : Int) := of_decide_eq_true (by first | (with_reducible assumption) | assumption)
                                                                          have q487 : (rd t467 x196_5) < (x24_5.length : Int) := of_decide_eq_true (by first | (with_reducible assumption) | assumption)
                                                                          obtain ⟨ad487, e487, hx487_0⟩ := Kd.at_int (Kd.R_reads' HO_24.out).2.2 (rd t467 x196_5) p487 q487
                                                                          cases e487
                                                                          replace p487 := eq_true p487
                                                                          replace q487 := eq_true q487
                                                                          have p95 : 0 ≤ ((rd t474 x196_5) : Int) := of_decide_eq_true (by first | (with_reducible assumption) | assumption)
                                                                          have q95 : ((rd t474 x196_5) : Int) < ((x23_5.length : Int) : Int) := of_decide_eq_true (by first | (with_reducible assumption) | assumption)
                                                                          obtain ⟨go95, co95, eo95, gb95, gl95, cl95, HG95⟩ := Kd.R_form HO_23.out (by omega)
                                                                          (first | cases eo95 | (injection eo95 with ea_ en_ ec_; (first | subst ea_ | (injection ea_ with ea_; subst ea_)); subst ec_; clear en_))
                                                                          have GB95 := Aside0.mk gb95
                                                                          have GG95 := Aside0.mk HG95
                                                                          clear gb95 gl95 HG95
                                                                          (first | simp only [add_plain] at hx485_0 | skip)
                                                                          obtain ⟨hx95_0, hf95_0⟩ := Kd.R_celln false HO_23.out ((rd t474 x196_5) : Int) p95 q95
                                                                          replace p95 := eq_true p95
                                                                          replace q95 := eq_true q95
                                                                          have HP99 := Kd.R_putg HO_23.out ((rd t474 x196_5) : Int) true
                                                                          go_wp2_with (first | ((with_reducible refine gate_store (t := 4) (p := 228) rfl ?_); (try (rw [drewN_self wr]; generalize hq_ : World.drewN wr _ = wr; have n0_ := Aside0.mk (Kd.R_at hq_ HO_18.out); have n1_ := Aside0.mk (Kd.R_at hq_ HO_23.out); have n2_ := Aside0.mk (Kd.R_at hq_ HO_24.out); have n3_ := Aside0.mk (Kd.R_at hq_ HO_194.out); have n4_ := Aside0.mk (below_at hq_ HB.out); clear hq_ HO_18 HO_23 HO_24 HO_194 HB; have HO_18 := n0_; have HO_23 := n1_; have HO_24 := n2_; have HO_194 := n3_; have HB := n4_; clear n0_ n1_ n2_ n3_ n4_; (try (have HP99 := Kd.R_putg HO_23.out ((rd t474 x196_5) : Int) true)))); refine store_event (t := 4) (p := 228) (v := ?vo_w100) (w1 := (wr.setCell ⟨go95, ((rd t474 x196_5) : Int).toNat, none⟩ (.bool true))) ?hg ?ho ?hn ?hr ?_; (case ho => rfl); (case hg => rfl); (case hn => rfl); (case hr => first | (go_simp; done) | (go_simp; rfl)); intro w100 hw; have hg : wr.grownBy w100 (some go95) := (by rw [hw]; exact HP99.2); have hp_ : Kd.R Kd.bool 4 w100 w.heap.size (fun _ => True) (.slice (some ⟨go95, 0, none⟩) x23_5.length co97) y488 := (by rw [hw, Ny488.out]; exact HP99.1); clear HP99; have n0_ := Aside0.mk (Kd.R_over' (v := (.slice (some ⟨go95, 0, none⟩) x23_5.length co97)) (by (with_reducible repeat (first | apply Kd.R_alloc | apply Kd.R_drewN | apply Kd.R_drew)); exact HO_18.out) (Kd.R_typed HO_23.out) (by decide) hg); have n1_ := Aside0.mk (hp_); have n2_ := Aside0.mk (Kd.R_over' (v := (.slice (some ⟨go95, 0, none⟩) x23_5.length co97)) (by (with_reducible repeat (first | apply Kd.R_alloc | apply Kd.R_drewN | apply Kd.R_drew)); exact HO_24.out) (Kd.R_typed HO_23.out) (by decide) hg); have n3_ := Aside0.mk (Kd.R_over' (v := (.slice (some ⟨go95, 0, none⟩) x23_5.length co97)) (by (with_reducible repeat (first | apply Kd.R_alloc | apply Kd.R_drewN | apply Kd.R_drew)); exact HO_194.out) (Kd.R_typed HO_23.out) (by decide) hg); have n4_ := Aside0.mk ((by rw [hw]; exact below_set (HB.out) GB95.out : Below w.heap.size w w100)); clear HO_18; clear HO_23; clear HO_24; clear HO_194; clear HB; have HO_18 := n0_; have HO_23 := n1_; have HO_24 := n2_; have HO_194 := n3_; have HB := n4_; clear n0_ n1_ n2_ n3_ n4_; clear hg hw hp_; have p489 : 0 ≤ (x196_5 : Int) := of_decide_eq_true (by first | (with_reducible assumption) | assumption); have q489 : x196_5 < (t467.length : Int) := of_decide_eq_true (by first | (with_reducible assumption) | assumption); obtain ⟨ad489, e489, hx489_0⟩ := Kd.at_int (Kd.R_reads' HO_18.out).2.2 x196_5 p489 q489; obtain rfl : ad486 = ad489 := (by injection e489); replace p489 := eq_true p489; replace q489 := eq_true q489; have p96 : 0 ≤ ((rd t467 x196_5) : Int) := of_decide_eq_true (by first | (with_reducible assumption) | assumption); have q96 : ((rd t467 x196_5) : Int) < ((x24_5.length : Int) : Int) := of_decide_eq_true (by first | (with_reducible assumption) | assumption); obtain ⟨go96, co96, eo96, gb96, gl96, cl96, HG96⟩ := Kd.R_form HO_24.out (by omega); (first | cases eo96 | (injection eo96 with ea_ en_ ec_; (first | subst ea_ | (injection ea_ with ea_; subst ea_)); subst ec_; clear en_)); have GB96 := Aside0.mk gb96; have GG96 := Aside0.mk HG96; clear gb96 gl96 HG96; (first | simp only [add_plain] at hx487_0 | skip); obtain ⟨hx96_0, hf96_0⟩ := Kd.R_celln 0 HO_24.out ((rd t467 x196_5) : Int) p96 q96; replace p96 := eq_true p96; replace q96 := eq_true q96; obtain ⟨hy101_, hz101_⟩ := Kd.R_celln 0 HO_24.out ((rd t467 x196_5) : Int) (of_decide_eq_true (by first | (with_reducible assumption) | assumption)) (of_decide_eq_true (by first | (with_reducible assumption) | assumption)); have HP101 := Kd.R_putg HO_24.out ((rd t467 x196_5) : Int) (wrap64 ((rd t474 x196_5) + 1))) | ((with_reducible refine gate_store (t := 3) (p := 236) rfl ?_); (try (rw [drewN_self w100]; generalize hq_ : World.drewN w100 _ = w100; have n0_ := Aside0.mk (Kd.R_at hq_ HO_18.out); have n1_ := Aside0.mk (Kd.R_at hq_ HO_23.out); have n2_ := Aside0.mk (Kd.R_at hq_ HO_24.out); have n3_ := Aside0.mk (Kd.R_at hq_ HO_194.out); have n4_ := Aside0.mk (below_at hq_ HB.out); clear hq_ HO_18 HO_23 HO_24 HO_194 HB; have HO_18 := n0_; have HO_23 := n1_; have HO_24 := n2_; have HO_194 := n3_; have HB := n4_; clear n0_ n1_ n2_ n3_ n4_; (try (obtain ⟨hy101_, hz101_⟩ := Kd.R_celln 0 HO_24.out ((rd t467 x196_5) : Int) (of_decide_eq_true (by first | (with_reducible assumption) | assumption)) (of_decide_eq_true (by first | (with_reducible assumption) | assumption)))); (try (have HP101 := Kd.R_putg HO_24.out ((rd t467 x196_5) : Int) (wrap64 ((rd t474 x196_5) + 1)))))); refine store_event (t := 3) (p := 236) (v := ?vo_w102) (w1 := (w100.setCell ⟨go96, ((rd t467 x196_5) : Int).toNat, none⟩ (.int .i64 (wrap64 ((rd t474 x196_5) + 1))))) ?hg ?ho ?hn ?hr ?_; (case ho => rfl); (case hg => rfl); (case hn => rfl); (case hr => first | (go_simp; done) | (go_simp; rfl)); intro w102 hw; have hg : w100.grownBy w102 (some go96) := (by rw [hw]; exact HP101.2); have hp_ : Kd.R (Kd.int .i64) 3 w102 w.heap.size (fun k_ => some k_ ≠ (.slice (some ad486) t467.length co62 : Value).ownBlock ∧ some k_ ≠ (.slice (some ad484) t474.length co78 : Value).ownBlock) (.slice (some ⟨go96, 0, none⟩) x24_5.length co98) y490 := (by rw [hw, Ny490.out]; exact HP101.1); clear HP101; have n0_ := Aside0.mk (Kd.R_after (v := (.slice (some ⟨go96, 0, none⟩) x24_5.length co98)) (v1 := (.slice (some ⟨go96, 0, none⟩) x24_5.length co98)) (ok := (fun k_ => some k_ ≠ (.slice (some ad484) t474.length co78 : Value).ownBlock)) (by (with_reducible repeat (first | apply Kd.R_alloc | apply Kd.R_drewN | apply Kd.R_drew)); exact Kd.R_mono HO_18.out (fun _ hk => ⟨hk.2, hk.1⟩)) hg (.inl rfl)); have n1_ := Aside0.mk (Kd.R_over' (v := (.slice (some ⟨go96, 0, none⟩) x24_5.length co98)) (by (with_reducible repeat (first | apply Kd.R_alloc | apply Kd.R_drewN | apply Kd.R_drew)); exact HO_23.out) (Kd.R_typed HO_24.out) (by decide) hg); have n2_ := Aside0.mk (hp_); have n3_ := Aside0.mk (Kd.R_after (v := (.slice (some ⟨go96, 0, none⟩) x24_5.length co98)) (v1 := (.slice (some ⟨go96, 0, none⟩) x24_5.length co98)) (ok := (fun k_ => some k_ ≠ (.slice (some ad486) t467.length co62 : Value).ownBlock)) (by (with_reducible repeat (first | apply Kd.R_alloc | apply Kd.R_drewN | apply Kd.R_drew)); exact HO_194.out) hg (.inl rfl)); have n4_ := Aside0.mk ((by rw [hw]; exact below_set (HB.out) GB96.out : Below w.heap.size w w102)); clear HO_18; clear HO_23; clear HO_24; clear HO_194; clear HB; have HO_18 := n0_; have HO_23 := n1_; have HO_24 := n2_; have HO_194 := n3_; have HB := n4_; clear n0_ n1_ n2_ n3_ n4_; clear hg hw hp_))
                                                                          repeat (go_quiet (first | ((with_reducible refine gate_store (t := 4) (p := 228) rfl ?_); (try (rw [drewN_self wr]; generalize hq_ : World.drewN wr _ = wr; have n0_ := Aside0.mk (Kd.R_at hq_ HO_18.out); have n1_ := Aside0.mk (Kd.R_at hq_ HO_23.out); have n2_ := Aside0.mk (Kd.R_at hq_ HO_24.out); have n3_ := Aside0.mk (Kd.R_at hq_ HO_194.out); have n4_ := Aside0.mk (below_at hq_ HB.out); clear hq_ HO_18 HO_23 HO_24 HO_194 HB; have HO_18 := n0_; have HO_23 := n1_; have HO_24 := n2_; have HO_194 := n3_; have HB := n4_; clear n0_ n1_ n2_ n3_ n4_; (try (have HP99 := Kd.R_putg HO_23.out ((rd t474 x196_5) : Int) true)))); refine store_event (t := 4) (p := 228) (v := ?vo_w100) (w1 := (wr.setCell ⟨go95, ((rd t474 x196_5) : Int).toNat, none⟩ (.bool true))) ?hg ?ho ?hn ?hr ?_; (case ho => rfl); (case hg => rfl); (case hn => rfl); (case hr => first | (go_simp; done) | (go_simp; rfl)); intro w100 hw; have hg : wr.grownBy w100 (some go95) := (by rw [hw]; exact HP99.2); have hp_ : Kd.R Kd.bool 4 w100 w.heap.size (fun _ => True) (.slice (some ⟨go95, 0, none⟩) x23_5.length co97) y488 := (by rw [hw, Ny488.out]; exact HP99.1); clear HP99; have n0_ := Aside0.mk (Kd.R_over' (v := (.slice (some ⟨go95, 0, none⟩) x23_5.length co97)) (by (with_reducible repeat (first | apply Kd.R_alloc | apply Kd.R_drewN | apply Kd.R_drew)); exact HO_18.out) (Kd.R_typed HO_23.out) (by decide) hg); have n1_ := Aside0.mk (hp_); have n2_ := Aside0.mk (Kd.R_over' (v := (.slice (some ⟨go95, 0, none⟩) x23_5.length co97)) (by (with_reducible repeat (first | apply Kd.R_alloc | apply Kd.R_drewN | apply Kd.R_drew)); exact HO_24.out) (Kd.R_typed HO_23.out) (by decide) hg); have n3_ := Aside0.mk (Kd.R_over' (v := (.slice (some ⟨go95, 0, none⟩) x23_5.length co97)) (by (with_reducible repeat (first | apply Kd.R_alloc | apply Kd.R_drewN | apply Kd.R_drew)); exact HO_194.out) (Kd.R_typed HO_23.out) (by decide) hg); have n4_ := Aside0.mk ((by rw [hw]; exact below_set (HB.out) GB95.out : Below w.heap.size w w100)); clear HO_18; clear HO_23; clear HO_24; clear HO_194; clear HB; have HO_18 := n0_; have HO_23 := n1_; have HO_24 := n2_; have HO_194 := n3_; have HB := n4_; clear n0_ n1_ n2_ n3_ n4_; clear hg hw hp_; have p489 : 0 ≤ (x196_5 : Int) := of_decide_eq_true (by first | (with_reducible assumption) | assumption); have q489 : x196_5 < (t467.length : Int) := of_decide_eq_true (by first | (with_reducible assumption) | assumption); obtain ⟨ad489, e489, hx489_0⟩ := Kd.at_int (Kd.R_reads' HO_18.out).2.2 x196_5 p489 q489; obtain rfl : ad486 = ad489 := (by injection e489); replace p489 := eq_true p489; replace q489 := eq_true q489; have p96 : 0 ≤ ((rd t467 x196_5) : Int) := of_decide_eq_true (by first | (with_reducible assumption) | assumption); have q96 : ((rd t467 x196_5) : Int) < ((x24_5.length : Int) : Int) := of_decide_eq_true (by first | (with_reducible assumption) | assumption); obtain ⟨go96, co96, eo96, gb96, gl96, cl96, HG96⟩ := Kd.R_form HO_24.out (by omega); (first | cases eo96 | (injection eo96 with ea_ en_ ec_; (first | subst ea_ | (injection ea_ with ea_; subst ea_)); subst ec_; clear en_)); have GB96 := Aside0.mk gb96; have GG96 := Aside0.mk HG96; clear gb96 gl96 HG96; (first | simp only [add_plain] at hx487_0 | skip); obtain ⟨hx96_0, hf96_0⟩ := Kd.R_celln 0 HO_24.out ((rd t467 x196_5) : Int) p96 q96; replace p96 := eq_true p96; replace q96 := eq_true q96; obtain ⟨hy101_, hz101_⟩ := Kd.R_celln 0 HO_24.out ((rd t467 x196_5) : Int) (of_decide_eq_true (by first | (with_reducible assumption) | assumption)) (of_decide_eq_true (by first | (with_reducible assumption) | assumption)); have HP101 := Kd.R_putg HO_24.out ((rd t467 x196_5) : Int) (wrap64 ((rd t474 x196_5) + 1))) | ((with_reducible refine gate_store (t := 3) (p := 236) rfl ?_); (try (rw [drewN_self w100]; generalize hq_ : World.drewN w100 _ = w100; have n0_ := Aside0.mk (Kd.R_at hq_ HO_18.out); have n1_ := Aside0.mk (Kd.R_at hq_ HO_23.out); have n2_ := Aside0.mk (Kd.R_at hq_ HO_24.out); have n3_ := Aside0.mk (Kd.R_at hq_ HO_194.out); have n4_ := Aside0.mk (below_at hq_ HB.out); clear hq_ HO_18 HO_23 HO_24 HO_194 HB; have HO_18 := n0_; have HO_23 := n1_; have HO_24 := n2_; have HO_194 := n3_; have HB := n4_; clear n0_ n1_ n2_ n3_ n4_; (try (obtain ⟨hy101_, hz101_⟩ := Kd.R_celln 0 HO_24.out ((rd t467 x196_5) : Int) (of_decide_eq_true (by first | (with_reducible assumption) | assumption)) (of_decide_eq_true (by first | (with_reducible assumption) | assumption)))); (try (have HP101 := Kd.R_putg HO_24.out ((rd t467 x196_5) : Int) (wrap64 ((rd t474 x196_5) + 1)))))); refine store_event (t := 3) (p := 236) (v := ?vo_w102) (w1 := (w100.setCell ⟨go96, ((rd t467 x196_5) : Int).toNat, none⟩ (.int .i64 (wrap64 ((rd t474 x196_5) + 1))))) ?hg ?ho ?hn ?hr ?_; (case ho => rfl); (case hg => rfl); (case hn => rfl); (case hr => first | (go_simp; done) | (go_simp; rfl)); intro w102 hw; have hg : w100.grownBy w102 (some go96) := (by rw [hw]; exact HP101.2); have hp_ : Kd.R (Kd.int .i64) 3 w102 w.heap.size (fun k_ => some k_ ≠ (.slice (some ad486) t467.length co62 : Value).ownBlock ∧ some k_ ≠ (.slice (some ad484) t474.length co78 : Value).ownBlock) (.slice (some ⟨go96, 0, none⟩) x24_5.length co98) y490 := (by rw [hw, Ny490.out]; exact HP101.1); clear HP101; have n0_ := Aside0.mk (Kd.R_after (v := (.slice (some ⟨go96, 0, none⟩) x24_5.length co98)) (v1 := (.slice (some ⟨go96, 0, none⟩) x24_5.length co98)) (ok := (fun k_ => some k_ ≠ (.slice (some ad484) t474.length co78 : Value).ownBlock)) (by (with_reducible repeat (first | apply Kd.R_alloc | apply Kd.R_drewN | apply Kd.R_drew)); exact Kd.R_mono HO_18.out (fun _ hk => ⟨hk.2, hk.1⟩)) hg (.inl rfl)); have n1_ := Aside0.mk (Kd.R_over' (v := (.slice (some ⟨go96, 0, none⟩) x24_5.length co98)) (by (with_reducible repeat (first | apply Kd.R_alloc | apply Kd.R_drewN | apply Kd.R_drew)); exact HO_23.out) (Kd.R_typed HO_24.out) (by decide) hg); have n2_ := Aside0.mk (hp_); have n3_ := Aside0.mk (Kd.R_after (v := (.slice (some ⟨go96, 0, none⟩) x24_5.length co98)) (v1 := (.slice (some ⟨go96, 0, none⟩) x24_5.length co98)) (ok := (fun k_ => some k_ ≠ (.slice (some ad486) t467.length co62 : Value).ownBlock)) (by (with_reducible repeat (first | apply Kd.R_alloc | apply Kd.R_drewN | apply Kd.R_drew)); exact HO_194.out) hg (.inl rfl)); have n4_ := Aside0.mk ((by rw [hw]; exact below_set (HB.out) GB96.out : Below w.heap.size w w102)); clear HO_18; clear HO_23; clear HO_24; clear HO_194; clear HB; have HO_18 := n0_; have HO_23 := n1_; have HO_24 := n2_; have HO_194 := n3_; have HB := n4_; clear n0_ n1_ n2_ n3_ n4_; clear hg hw hp_)); try go_wp2_with (first | ((with_reducible refine gate_store (t := 4) (p := 228) rfl ?_); (try (rw [drewN_self wr]; generalize hq_ : World.drewN wr _ = wr; have n0_ := Aside0.mk (Kd.R_at hq_ HO_18.out); have n1_ := Aside0.mk (Kd.R_at hq_ HO_23.out); have n2_ := Aside0.mk (Kd.R_at hq_ HO_24.out); have n3_ := Aside0.mk (Kd.R_at hq_ HO_194.out); have n4_ := Aside0.mk (below_at hq_ HB.out); clear hq_ HO_18 HO_23 HO_24 HO_194 HB; have HO_18 := n0_; have HO_23 := n1_; have HO_24 := n2_; have HO_194 := n3_; have HB := n4_; clear n0_ n1_ n2_ n3_ n4_; (try (have HP99 := Kd.R_putg HO_23.out ((rd t474 x196_5) : Int) true)))); refine store_event (t := 4) (p := 228) (v := ?vo_w100) (w1 := (wr.setCell ⟨go95, ((rd t474 x196_5) : Int).toNat, none⟩ (.bool true))) ?hg ?ho ?hn ?hr ?_; (case ho => rfl); (case hg => rfl); (case hn => rfl); (case hr => first | (go_simp; done) | (go_simp; rfl)); intro w100 hw; have hg : wr.grownBy w100 (some go95) := (by rw [hw]; exact HP99.2); have hp_ : Kd.R Kd.bool 4 w100 w.heap.size (fun _ => True) (.slice (some ⟨go95, 0, none⟩) x23_5.length co97) y488 := (by rw [hw, Ny488.out]; exact HP99.1); clear HP99; have n0_ := Aside0.mk (Kd.R_over' (v := (.slice (some ⟨go95, 0, none⟩) x23_5.length co97)) (by (with_reducible repeat (first | apply Kd.R_alloc | apply Kd.R_drewN | apply Kd.R_drew)); exact HO_18.out) (Kd.R_typed HO_23.out) (by decide) hg); have n1_ := Aside0.mk (hp_); have n2_ := Aside0.mk (Kd.R_over' (v := (.slice (some ⟨go95, 0, none⟩) x23_5.length co97)) (by (with_reducible repeat (first | apply Kd.R_alloc | apply Kd.R_drewN | apply Kd.R_drew)); exact HO_24.out) (Kd.R_typed HO_23.out) (by decide) hg); have n3_ := Aside0.mk (Kd.R_over' (v := (.slice (some ⟨go95, 0, none⟩) x23_5.length co97)) (by (with_reducible repeat (first | apply Kd.R_alloc | apply Kd.R_drewN | apply Kd.R_drew)); exact HO_194.out) (Kd.R_typed HO_23.out) (by decide) hg); have n4_ := Aside0.mk ((by rw [hw]; exact below_set (HB.out) GB95.out : Below w.heap.size w w100)); clear HO_18; clear HO_23; clear HO_24; clear HO_194; clear HB; have HO_18 := n0_; have HO_23 := n1_; have HO_24 := n2_; have HO_194 := n3_; have HB := n4_; clear n0_ n1_ n2_ n3_ n4_; clear hg hw hp_; have p489 : 0 ≤ (x196_5 : Int) := of_decide_eq_true (by first | (with_reducible assumption) | assumption); have q489 : x196_5 < (t467.length : Int) := of_decide_eq_true (by first | (with_reducible assumption) | assumption); obtain ⟨ad489, e489, hx489_0⟩ := Kd.at_int (Kd.R_reads' HO_18.out).2.2 x196_5 p489 q489; obtain rfl : ad486 = ad489 := (by injection e489); replace p489 := eq_true p489; replace q489 := eq_true q489; have p96 : 0 ≤ ((rd t467 x196_5) : Int) := of_decide_eq_true (by first | (with_reducible assumption) | assumption); have q96 : ((rd t467 x196_5) : Int) < ((x24_5.length : Int) : Int) := of_decide_eq_true (by first | (with_reducible assumption) | assumption); obtain ⟨go96, co96, eo96, gb96, gl96, cl96, HG96⟩ := Kd.R_form HO_24.out (by omega); (first | cases eo96 | (injection eo96 with ea_ en_ ec_; (first | subst ea_ | (injection ea_ with ea_; subst ea_)); subst ec_; clear en_)); have GB96 := Aside0.mk gb96; have GG96 := Aside0.mk HG96; clear gb96 gl96 HG96; (first | simp only [add_plain] at hx487_0 | skip); obtain ⟨hx96_0, hf96_0⟩ := Kd.R_celln 0 HO_24.out ((rd t467 x196_5) : Int) p96 q96; replace p96 := eq_true p96; replace q96 := eq_true q96; obtain ⟨hy101_, hz101_⟩ := Kd.R_celln 0 HO_24.out ((rd t467 x196_5) : Int) (of_decide_eq_true (by first | (with_reducible assumption) | assumption)) (of_decide_eq_true (by first | (with_reducible assumption) | assumption)); have HP101 := Kd.R_putg HO_24.out ((rd t467 x196_5) : Int) (wrap64 ((rd t474 x196_5) + 1))) | ((with_reducible refine gate_store (t := 3) (p := 236) rfl ?_); (try (rw [drewN_self w100]; generalize hq_ : World.drewN w100 _ = w100; have n0_ := Aside0.mk (Kd.R_at hq_ HO_18.out); have n1_ := Aside0.mk (Kd.R_at hq_ HO_23.out); have n2_ := Aside0.mk (Kd.R_at hq_ HO_24.out); have n3_ := Aside0.mk (Kd.R_at hq_ HO_194.out); have n4_ := Aside0.mk (below_at hq_ HB.out); clear hq_ HO_18 HO_23 HO_24 HO_194 HB; have HO_18 := n0_; have HO_23 := n1_; have HO_24 := n2_; have HO_194 := n3_; have HB := n4_; clear n0_ n1_ n2_ n3_ n4_; (try (obtain ⟨hy101_, hz101_⟩ := Kd.R_celln 0 HO_24.out ((rd t467 x196_5) : Int) (of_decide_eq_true (by first | (with_reducible assumption) | assumption)) (of_decide_eq_true (by first | (with_reducible assumption) | assumption)))); (try (have HP101 := Kd.R_putg HO_24.out ((rd t467 x196_5) : Int) (wrap64 ((rd t474 x196_5) + 1)))))); refine store_event (t := 3) (p := 236) (v := ?vo_w102) (w1 := (w100.setCell ⟨go96, ((rd t467 x196_5) : Int).toNat, none⟩ (.int .i64 (wrap64 ((rd t474 x196_5) + 1))))) ?hg ?ho ?hn ?hr ?_; (case ho => rfl); (case hg => rfl); (case hn => rfl); (case hr => first | (go_simp; done) | (go_simp; rfl)); intro w102 hw; have hg : w100.grownBy w102 (some go96) := (by rw [hw]; exact HP101.2); have hp_ : Kd.R (Kd.int .i64) 3 w102 w.heap.size (fun k_ => some k_ ≠ (.slice (some ad486) t467.length co62 : Value).ownBlock ∧ some k_ ≠ (.slice (some ad484) t474.length co78 : Value).ownBlock) (.slice (some ⟨go96, 0, none⟩) x24_5.length co98) y490 := (by rw [hw, Ny490.out]; exact HP101.1); clear HP101; have n0_ := Aside0.mk (Kd.R_after (v := (.slice (some ⟨go96, 0, none⟩) x24_5.length co98)) (v1 := (.slice (some ⟨go96, 0, none⟩) x24_5.length co98)) (ok := (fun k_ => some k_ ≠ (.slice (some ad484) t474.length co78 : Value).ownBlock)) (by (with_reducible repeat (first | apply Kd.R_alloc | apply Kd.R_drewN | apply Kd.R_drew)); exact Kd.R_mono HO_18.out (fun _ hk => ⟨hk.2, hk.1⟩)) hg (.inl rfl)); have n1_ := Aside0.mk (Kd.R_over' (v := (.slice (some ⟨go96, 0, none⟩) x24_5.length co98)) (by (with_reducible repeat (first | apply Kd.R_alloc | apply Kd.R_drewN | apply Kd.R_drew)); exact HO_23.out) (Kd.R_typed HO_24.out) (by decide) hg); have n2_ := Aside0.mk (hp_); have n3_ := Aside0.mk (Kd.R_after (v := (.slice (some ⟨go96, 0, none⟩) x24_5.length co98)) (v1 := (.slice (some ⟨go96, 0, none⟩) x24_5.length co98)) (ok := (fun k_ => some k_ ≠ (.slice (some ad486) t467.length co62 : Value).ownBlock)) (by (with_reducible repeat (first | apply Kd.R_alloc | apply Kd.R_drewN | apply Kd.R_drew)); exact HO_194.out) hg (.inl rfl)); have n4_ := Aside0.mk ((by rw [hw]; exact below_set (HB.out) GB96.out : Below w.heap.size w w102)); clear HO_18; clear HO_23; clear HO_24; clear HO_194; clear HB; have HO_18 := n0_; have HO_23 := n1_; have HO_24 := n2_; have HO_194 := n3_; have HB := n4_; clear n0_ n1_ n2_ n3_ n4_; clear hg hw hp_)))
                                                                          go_roundg k5
                                                                          case measure => have := HJ6.out; have := HK2.out; have := HK3.out; have := HJ58.out; have := HK5.out; omega
                                                                          case rel => exact ⟨(y488), (y490), (wrap64 (x196_5 + 1)), (by first | rfl | (simp; done) | (simp [*]; done)), H', ⟨by have := HJ6.out; have := HK2.out; have := HK3.out; have := HJ58.out; have := HK5.out; omega⟩, ⟨by (with_reducible repeat (first | apply Kd.R_alloc | apply Kd.R_drewN | apply Kd.R_drew)); exact Kd.R_mono HO_18.out (fun _ hk => ⟨hk.2, hk.1⟩)⟩, ⟨by (with_reducible repeat (first | apply Kd.R_alloc | apply Kd.R_drewN | apply Kd.R_drew)); exact HO_23.out⟩, ⟨by (with_reducible repeat (first | apply Kd.R_alloc | apply Kd.R_drewN | apply Kd.R_drew)); exact HO_24.out⟩, ⟨by (with_reducible repeat (first | apply Kd.R_alloc | apply Kd.R_drewN | apply Kd.R_drew)); exact HO_194.out⟩, ⟨by repeat (first | (with_reducible first | exact HB.out | apply below_alloc | apply pw_below_drewN | apply below_drew1) | exact HB.out)⟩⟩
                                                                      · rw [if_neg c91] at H
                                                                        exact absurd H (by simp)
                                                                    · rw [if_neg c90] at H
                                                                      exact absurd H (by simp)
                                                                  · rw [if_neg c89] at H
                                                                    exact absurd H (by simp)
                                                              · rw [if_neg c85] at H
                                                                exact absurd H (by simp)
                                                            · rw [if_neg c84] at H
                                                              exact absurd H (by simp)
                                                      · rw [if_neg c81] at H
                                                        exact absurd H (by simp)
                                                    · rw [if_neg c80] at H
                                                      exact absurd H (by simp)
                                                  · rw [if_neg c79] at H
                                                    have c79b0 : decide (x196_5 < (t474.length : Int)) = false := decide_eq_false c79
                                                    clear c79
                                                    obtain rfl := Option.some.inj H
                                                    go_wp2
                                                    repeat (go_quiet (fail); try go_wp2)
                                                    go_ret
                                                    exact ⟨by first | rfl | (simp [errW_none, errW_some] <;> rfl) | (simp [*, errW_none, errW_some] <;> rfl), by repeat (first | (with_reducible first | exact HB.out | apply below_alloc | apply pw_below_drewN | apply below_drew1) | exact HB.out)⟩
                                            · rw [if_neg c73] at H
                                              exact absurd H (by simp)
                                          · rw [if_neg c72] at H
                                            exact absurd H (by simp)
                                        · rw [if_neg c71] at H
                                          exact absurd H (by simp)
                                      · rw [if_neg c70] at H
                                        exact absurd H (by simp)
                  · rw [if_neg c19] at H
                    exact absurd H (by simp)
                · rw [if_neg c18] at H
                  exact absurd H (by simp)
              · rw [if_neg c17] at H
                have c17b0 : ((t445.length : Int) == a0) = false := beq_eq_false_iff_ne.mpr c17
                have c17b1 : ((t445.length : Int) != a0) = true := bne_iff_ne.mpr c17
                obtain rfl := Option.some.inj H
                obtain ⟨Ao103, co103, eo103⟩ := Kd.R_slice HO_7.out
                subst eo103
                go_wp2_with (first | (go_at_call 20; (with_reducible refine (braid_Bounds.calls kj6 a0 t445 _ A16.out).mono ?_); rintro e w104 ⟨v446, rfl, ho0, hb⟩; have n0_ := Aside0.mk (Kd.R_elder' (by (with_reducible repeat (first | apply Kd.R_alloc | apply Kd.R_drewN | apply Kd.R_drew)); exact HO_7.out) (Kd.R_base ho0) hb); have n1_ := Aside0.mk (Kd.R_lower (Kd.R_new' ho0 (Kd.R_lt (by (with_reducible repeat (first | apply Kd.R_alloc | apply Kd.R_drewN | apply Kd.R_drew)); exact HO_7.out))) (below_size (by repeat (first | (with_reducible first | exact HB.out | apply below_alloc | apply pw_below_drewN | apply below_drew1) | exact HB.out)))); have n2_ := Aside0.mk (below_step (by repeat (first | (with_reducible first | exact HB.out | apply below_alloc | apply pw_below_drewN | apply below_drew1) | exact HB.out)) hb); clear HO_7; clear HB; have HO_7 := n0_; have HO447 := n1_; have HB := n2_; clear n0_ n1_ n2_; (try clear hb); (try clear hb2); (try clear hk); (try clear hi); (try clear ho0); obtain ⟨Ao105, co105, eo105⟩ := Kd.R_slice HO447.out; subst eo105))
                repeat (go_quiet (first | (go_at_call 20; (with_reducible refine (braid_Bounds.calls kj6 a0 t445 _ A16.out).mono ?_); rintro e w104 ⟨v446, rfl, ho0, hb⟩; have n0_ := Aside0.mk (Kd.R_elder' (by (with_reducible repeat (first | apply Kd.R_alloc | apply Kd.R_drewN | apply Kd.R_drew)); exact HO_7.out) (Kd.R_base ho0) hb); have n1_ := Aside0.mk (Kd.R_lower (Kd.R_new' ho0 (Kd.R_lt (by (with_reducible repeat (first | apply Kd.R_alloc | apply Kd.R_drewN | apply Kd.R_drew)); exact HO_7.out))) (below_size (by repeat (first | (with_reducible first | exact HB.out | apply below_alloc | apply pw_below_drewN | apply below_drew1) | exact HB.out)))); have n2_ := Aside0.mk (below_step (by repeat (first | (with_reducible first | exact HB.out | apply below_alloc | apply pw_below_drewN | apply below_drew1) | exact HB.out)) hb); clear HO_7; clear HB; have HO_7 := n0_; have HO447 := n1_; have HB := n2_; clear n0_ n1_ n2_; (try clear hb); (try clear hb2); (try clear hk); (try clear hi); (try clear ho0); obtain ⟨Ao105, co105, eo105⟩ := Kd.R_slice HO447.out; subst eo105)); try go_wp2_with (first | (go_at_call 20; (with_reducible refine (braid_Bounds.calls kj6 a0 t445 _ A16.out).mono ?_); rintro e w104 ⟨v446, rfl, ho0, hb⟩; have n0_ := Aside0.mk (Kd.R_elder' (by (with_reducible repeat (first | apply Kd.R_alloc | apply Kd.R_drewN | apply Kd.R_drew)); exact HO_7.out) (Kd.R_base ho0) hb); have n1_ := Aside0.mk (Kd.R_lower (Kd.R_new' ho0 (Kd.R_lt (by (with_reducible repeat (first | apply Kd.R_alloc | apply Kd.R_drewN | apply Kd.R_drew)); exact HO_7.out))) (below_size (by repeat (first | (with_reducible first | exact HB.out | apply below_alloc | apply pw_below_drewN | apply below_drew1) | exact HB.out)))); have n2_ := Aside0.mk (below_step (by repeat (first | (with_reducible first | exact HB.out | apply below_alloc | apply pw_below_drewN | apply below_drew1) | exact HB.out)) hb); clear HO_7; clear HB; have HO_7 := n0_; have HO447 := n1_; have HB := n2_; clear n0_ n1_ n2_; (try clear hb); (try clear hb2); (try clear hk); (try clear hi); (try clear ho0); obtain ⟨Ao105, co105, eo105⟩ := Kd.R_slice HO447.out; subst eo105)))
                go_ret
                exact ⟨by first | rfl | (simp [errW_none, errW_some] <;> rfl) | (simp [*, errW_none, errW_some] <;> rfl), by repeat (first | (with_reducible first | exact HB.out | apply below_alloc | apply pw_below_drewN | apply below_drew1) | exact HB.out)⟩
            · rw [if_neg c15] at H
              have c15b0 : ((t441.length : Int) == a1) = false := beq_eq_false_iff_ne.mpr c15
              have c15b1 : ((t441.length : Int) != a1) = true := bne_iff_ne.mpr c15
              obtain rfl := Option.some.inj H
              obtain ⟨Ao106, co106, eo106⟩ := Kd.R_slice HO_7.out
              subst eo106
              go_wp2
              repeat (go_quiet (fail); try go_wp2)
              go_ret
              exact ⟨by first | rfl | (simp [errW_none, errW_some] <;> rfl) | (simp [*, errW_none, errW_some] <;> rfl), by repeat (first | (with_reducible first | exact HB.out | apply below_alloc | apply pw_below_drewN | apply below_drew1) | exact HB.out)⟩
          · rw [if_neg c14] at H
            have c14b0 : (t442 == 0) = false := beq_eq_false_iff_ne.mpr c14
            have c14b1 : (t442 != 0) = true := bne_iff_ne.mpr c14
            by_cases c107 : t442 = 2
            · rw [if_pos c107] at H
              have c107b0 : (t442 == 2) = true := beq_iff_eq.mpr c107
              have c107b1 : (t442 != 2) = false := bne_eq_false_iff_eq.mpr c107
              clear c107
              obtain rfl := Option.some.inj H
              obtain ⟨Ao108, co108, eo108⟩ := Kd.R_slice HO_7.out
              subst eo108
              go_wp2
              repeat (go_quiet (fail); try go_wp2)
              go_ret
              exact ⟨by first | rfl | (simp [errW_none, errW_some] <;> rfl) | (simp [*, errW_none, errW_some] <;> rfl), by repeat (first | (with_reducible first | exact HB.out | apply below_alloc | apply pw_below_drewN | apply below_drew1) | exact HB.out)⟩
            · rw [if_neg c107] at H
              have c107b0 : (t442 == 2) = false := beq_eq_false_iff_ne.mpr c107
              have c107b1 : (t442 != 2) = true := bne_iff_ne.mpr c107
              obtain rfl := Option.some.inj H
              go_wp2
              repeat (go_quiet (fail); try go_wp2)
              go_ret
              exact ⟨by first | rfl | (simp [errW_none, errW_some] <;> rfl) | (simp [*, errW_none, errW_some] <;> rfl), by repeat (first | (with_reducible first | exact HB.out | apply below_alloc | apply pw_below_drewN | apply below_drew1) | exact HB.out)⟩
  · replace c5 := Bool.eq_false_iff.mpr c5
    subst c5
    have H1 : (some false) = some r := by rw [if_neg (show ¬ (false = true) by decide)] at H; exact H
    clear H
    have H := H1
    clear H1
    obtain rfl := Option.some.inj H
    go_enter Try.func8, Try.ntmps8
    go_wp2_with (first | (go_at_call 16; (with_reducible refine (churnlaw12_awake.calls k  false _ A4.out).mono ?_); rintro e w109 ⟨rfl, hb⟩; have n0_ := Aside0.mk (below_step (by repeat (first | (with_reducible first | exact HB.out | apply below_alloc | apply pw_below_drewN | apply below_drew1) | exact HB.out)) hb); clear HB; have HB := n0_; clear n0_; (try clear hb); (try clear hb2); (try clear hk); (try clear hi)))
    repeat (go_quiet (first | (go_at_call 16; (with_reducible refine (churnlaw12_awake.calls k  false _ A4.out).mono ?_); rintro e w109 ⟨rfl, hb⟩; have n0_ := Aside0.mk (below_step (by repeat (first | (with_reducible first | exact HB.out | apply below_alloc | apply pw_below_drewN | apply below_drew1) | exact HB.out)) hb); clear HB; have HB := n0_; clear n0_; (try clear hb); (try clear hb2); (try clear hk); (try clear hi))); try go_wp2_with (first | (go_at_call 16; (with_reducible refine (churnlaw12_awake.calls k  false _ A4.out).mono ?_); rintro e w109 ⟨rfl, hb⟩; have n0_ := Aside0.mk (below_step (by repeat (first | (with_reducible first | exact HB.out | apply below_alloc | apply pw_below_drewN | apply below_drew1) | exact HB.out)) hb); clear HB; have HB := n0_; clear n0_; (try clear hb); (try clear hb2); (try clear hk); (try clear hi))))
    go_ret
    exact ⟨by first | rfl | (simp [errW_none, errW_some] <;> rfl) | (simp [*, errW_none, errW_some] <;> rfl), by repeat (first | (with_reducible first | exact HB.out | apply below_alloc | apply pw_below_drewN | apply below_drew1) | exact HB.out)⟩

/-- THE ONE PURE STATEMENT of churnlaw12_BraidDeals: yours. -/
def churnlaw12_BraidDeals.Pure : Prop := ∀ (a0 : Int) (a1 : Int) (l2 : List Int), (Lit.int .i64 a0).wf = true → (Lit.int .i64 a1).wf = true → l2.length ≤ maxLen → l2.length * 8 ≤ 140737488351232 → (∀ x ∈ l2, (Lit.int .i64 x).wf = true) → ∃ k, churnlaw12_BraidDeals.f k a0 a1 l2 = some true
theorem churnlaw12_BraidDeals.walk (P : churnlaw12_BraidDeals.Pure) (a0 : Int) (a1 : Int) (a2 : Option Addr) (len2 cap2 : Nat) (z2 : List Int) (w : World) (w0 : (Lit.int .i64 a0).wf = true) (w1 : (Lit.int .i64 a1).wf = true) (w2 : (a2 = none ∧ len2 = 0 ∧ cap2 = 0 ∧ z2 = []) ∨ ∃ x, a2 = some x ∧ len2 ≤ cap2 ∧ cap2 ≤ maxLen ∧ z2.length = cap2 ∧ (∀ i, i < z2.length → w.cell? (x.add i) = some (.int .i64 (z2.getD i 0))) ∧ ∀ n ∈ z2, (Lit.int .i64 n).wf = true) (y2 : len2 * 8 ≤ 140737488351232) :
    Calls Try.prog 8 #[.int .i64 a0, .int .i64 a1, .slice a2 len2 cap2] w fun e w' => e = .returned (.bool true) ∧ Below w.heap.size w w' := by
  obtain ⟨l2, rfl, hr2, hm2, hw2, hc2⟩ := ReadsInt.ofRowC w2
  obtain ⟨k, h⟩ := P a0 a1 l2 w0 w1 hm2 y2 hw2
  refine (churnlaw12_BraidDeals.calls k a0 a1 _ _ l2 true w (Kd.C_of_reads (d := (0 : Int)) (h1 := fun _ => rfl) hr2) hc2 h).mono ?_
  rintro e w' ⟨rfl, hd⟩
  exact ⟨rfl, hd⟩

end Go.Proofs.Ytiefmocfgneldaa.Q
