/- Functions of the program as plain Lean functions, each with a proof that its call comes to just these answers, or the row that joins them to the given statement; no condition beside the statement's own. Written for this claim by pf.py, this session's program over the kit's print. -/
import Derived.Test.YtijnmfdpdjblbaaQx0
import Derived.Test.YtijnmfdpdjblbaaQx5
import Derived.Test.YtijnmfdpdjblbaaQx7
import Derived.Test.YtijnmfdpdjblbaaQx8
import Derived.Test.YtijnmfdpdjblbaaQx12
namespace Go.Proofs.Ytijnmfdpdjblbaa.Q
open Go.RowKit Go.Proofs.YtijnmfdpdjblbaaW.PrintWords Go.Proofs.YtijnmfdpdjblbaaW.PrintLast Go.Proofs.YtijnmfdpdjblbaaW.PrintMore
attribute [local go_sem] max2_int min2_int max_two min_two max_three min_three max_four min_four   -- for this text's walks alone
set_option linter.unusedVariables false
set_option linter.unusedSimpArgs false

open Go.Proofs.YtijnmfdpdjblbaaW.PrintWords.Kd renaming R_alloc → rA, R_drewN → rB, R_drew → rC, C_alloc → cA, C_drewN → cB, C_drew → cC, R_elder' → rE, R_base → rS, R_lower → rW, R_new' → rN, R_lt → rL, R_reads' → rR
open Go.Proofs.YtijnmfdpdjblbaaW.PrintWords.Aside0 renaming mk → mA
open Go.Proofs.YtijnmfdpdjblbaaW.PrintWords renaming below_alloc → bA, pw_below_drewN → bB, below_drew1 → bC, below_step → bS, below_size → bZ
/-! ### churnlaw10_DrawEven: function 5 -/
def churnlaw10_DrawEven.f (k : Nat) (l0 : List Int) (l1 : List Int) (l2 : List Int) : Option (Bool) := (churnlaw10_alive.f).bind fun t169 => (if t169 = true then ((draw_All.f l0 l1).bind fun bt170 => ((draw_Turn.f l0 l1 l2).bind fun bt175 => (if bt175.2 = 0 then ((draw_All.f bt175.1 l1).bind fun bt179 => ((draw_Turn.f bt175.1 l1 bt170.1).bind fun bt184 => (if 0 ≤ (l1.length : Int) then (if ((l1.length : Int) : Int).toNat ≤ 35184372088832 then ((draw_Turn.f l0 l1 (List.replicate ((l1.length : Int) : Int).toNat 0)).bind fun bt191 => ((draw_Turn.f bt191.1 l1 l2).bind fun bt195 => (if bt170.2.2 = 0 then (if bt179.2.2 = 0 then (if bt184.2 = 0 then (if bt191.2 = 0 then (if bt195.2 = 0 then (if (bt175.1.length : Int) = (l0.length : Int) then ((churnlaw10_same.f k bt179.1 l2).bind fun t199 => (if t199 = true then (if bt179.2.1 = bt170.2.1 then (if (strOfNums bt184.1).toList = (strOfNums l0).toList then (if (strOfNums bt195.1).toList = (strOfNums bt175.1).toList then (if 0 ≤ bt170.2.1 then (if bt170.2.1 ≤ (bt175.1.length : Int) then (if bt170.2.1 ≤ (l0.length : Int) then (some ((strOfNums (bt175.1.drop (bt170.2.1 : Int).toNat)).toList == (strOfNums (l0.drop (bt170.2.1 : Int).toNat)).toList)) else (none)) else (none)) else (none)) else (some false)) else (some false)) else (some false)) else (some false))) else (some false)) else (some false)) else (some false)) else (some false)) else (some false)) else (some false)))) else (none)) else (none)))) else (if bt175.2 = bt170.2.2 then (some true) else (if bt175.2 = 2 then (some ((bt175.1.length : Int) == 0)) else (some false)))))) else (some false))
theorem churnlaw10_DrawEven.mono : ∀ a0 a1 a2 k, LeO (churnlaw10_DrawEven.f k a0 a1 a2) (churnlaw10_DrawEven.f (k + 1) a0 a1 a2) := by
 intro a0 a1 a2 k
 unfold churnlaw10_DrawEven.f
 repeat' first
   | (with_reducible exact churnlaw10_same.mono _ _ _)
   | (with_reducible exact LeO.refl _)
   | (with_reducible exact LeO.none _)
   | (with_reducible refine LeO.ite ?_ ?_)
   | (with_reducible refine LeO.bind ?_ (fun _ => ?_))
   | exact churnlaw10_same.mono _ _ _
   | exact LeO.none _
   | refine LeO.ite ?_ ?_
   | refine LeO.bind ?_ (fun _ => ?_)
def churnlaw10_DrawEven.T13 : Bool × List (List Nat × List Nat) := (true, [([], []), ([0], [0]), ([], []), ([2], [2]), ([1, 3], [1, 3]), ([4], [4]), ([5], [5]), ([5], [5]), ([6, 7, 5, 5], [5, 6, 7]), ([5, 8], [5, 8]), ([9, 8], [9]), ([10], [10]), ([10], [10]), ([11, 12, 10], [10, 11, 12]), ([10, 13], [10, 13]), ([14, 10], [14]), ([15], [15]), ([16, 15], [15, 16]), ([15], [15]), ([18, 15], [15, 18]), ([17, 19, 15], [15, 17, 19]), ([15, 20], [15, 20]), ([21, 15], [21]), ([22], [22]), ([23, 22], [22, 23]), ([22], [22]), ([25, 22], [22, 25]), ([24, 26, 22], [22, 24, 26]), ([22, 27], [22, 27]), ([28, 22], [28]), ([29], [29]), ([29], [29]), ([30, 31, 29], [29, 30, 31]), ([32, 29], [29, 32]), ([29], [29]), ([29], [29]), ([34, 35, 29], [29, 34, 35]), ([36, 29], [29, 36]), ([33, 37, 29], [29, 33, 37]), ([29, 38], [29, 38]), ([39, 29, 0, 1, 2, 3, 4, 5, 6, 7, 8, 9, 10, 11, 12, 13, 14, 15, 16, 17, 18, 19, 20, 21, 22, 23, 24, 25, 26, 27, 28, 29, 30, 31, 32, 33, 34, 35, 36, 37, 38, 39], [39])])
def churnlaw10_DrawEven.B13 : List Nat := [0, 1, 0, 4, 15, 31, 63, 63, 255, 511, 1023, 2047, 2047, 8191, 16383, 32767, 65535, 131071, 65535, 327679, 1048575, 2097151, 4194303, 8388607, 16777215, 8388607, 41943039, 134217727, 268435455, 536870911, 1073741823, 1073741823, 4294967295, 8589934591, 1073741823, 1073741823, 52613349375, 121332826111, 274877906943, 549755813887, 1099511627775]
theorem churnlaw10_DrawEven.tab13 : rtab .any (opsOf Try.f5 13) = churnlaw10_DrawEven.T13 := by kernel_rfl
theorem churnlaw10_DrawEven.bits13 : waitsOk churnlaw10_DrawEven.T13.2 churnlaw10_DrawEven.B13 = true := by kernel_rfl
set_option maxHeartbeats 8000000 in
set_option maxRecDepth 100000 in
theorem churnlaw10_DrawEven.calls (k : Nat) (A0 : Option Addr) (c0 : Nat) (l0 : List Int) (A1 : Option Addr) (c1 : Nat) (l1 : List Int) (A2 : Option Addr) (c2 : Nat) (l2 : List Int) (r : Bool) (w : World) (hr0 : Kd.C (Kd.int .u8) w A0 l0.length l0) (hc0 : l0.length ≤ c0) (hr1 : Kd.C (Kd.int .i64) w A1 l1.length l1) (hc1 : l1.length ≤ c1) (hr2 : Kd.C (Kd.int .i64) w A2 l2.length l2) (hc2 : l2.length ≤ c2) (hr_ : r = true) (h : churnlaw10_DrawEven.f k l0 l1 l2 = some r) :
  Calls Try.prog 5 #[.slice A0 l0.length c0, .slice A1 l1.length c1, .slice A2 l2.length c2] w fun e w' => e = .returned (.bool r) ∧ Below w.heap.size w w' := by
 have HR_ := mA hr_
 clear hr_
 have HR0 := mA hr0
 have HC0 := mA hc0
 clear hr0 hc0
 have HR1 := mA hr1
 have HC1 := mA hc1
 clear hr1 hc1
 have HR2 := mA hr2
 have HC2 := mA hc2
 clear hr2 hc2
 have HB := mA (Below.refl w.heap.size w)
 have H : ((churnlaw10_alive.f).bind fun t169 => (if t169 = true then ((draw_All.f l0 l1).bind fun bt170 => ((draw_Turn.f l0 l1 l2).bind fun bt175 => (if bt175.2 = 0 then ((draw_All.f bt175.1 l1).bind fun bt179 => ((draw_Turn.f bt175.1 l1 bt170.1).bind fun bt184 => (if 0 ≤ (l1.length : Int) then (if ((l1.length : Int) : Int).toNat ≤ 35184372088832 then ((draw_Turn.f l0 l1 (List.replicate ((l1.length : Int) : Int).toNat 0)).bind fun bt191 => ((draw_Turn.f bt191.1 l1 l2).bind fun bt195 => (if bt170.2.2 = 0 then (if bt179.2.2 = 0 then (if bt184.2 = 0 then (if bt191.2 = 0 then (if bt195.2 = 0 then (if (bt175.1.length : Int) = (l0.length : Int) then ((churnlaw10_same.f k bt179.1 l2).bind fun t199 => (if t199 = true then (if bt179.2.1 = bt170.2.1 then (if (strOfNums bt184.1).toList = (strOfNums l0).toList then (if (strOfNums bt195.1).toList = (strOfNums bt175.1).toList then (if 0 ≤ bt170.2.1 then (if bt170.2.1 ≤ (bt175.1.length : Int) then (if bt170.2.1 ≤ (l0.length : Int) then (some ((strOfNums (bt175.1.drop (bt170.2.1 : Int).toNat)).toList == (strOfNums (l0.drop (bt170.2.1 : Int).toNat)).toList)) else (none)) else (none)) else (none)) else (some false)) else (some false)) else (some false)) else (some false))) else (some false)) else (some false)) else (some false)) else (some false)) else (some false)) else (some false)))) else (none)) else (none)))) else (if bt175.2 = bt170.2.2 then (some true) else (if bt175.2 = 2 then (some ((bt175.1.length : Int) == 0)) else (some false)))))) else (some false))) = some r := h
 clear h
 replace H := Option.bind_eq_some_iff.mp H
 obtain ⟨t169, A40, H⟩ := H
 replace H : (if t169 = true then ((draw_All.f l0 l1).bind fun bt170 => ((draw_Turn.f l0 l1 l2).bind fun bt175 => (if bt175.2 = 0 then ((draw_All.f bt175.1 l1).bind fun bt179 => ((draw_Turn.f bt175.1 l1 bt170.1).bind fun bt184 => (if 0 ≤ (l1.length : Int) then (if ((l1.length : Int) : Int).toNat ≤ 35184372088832 then ((draw_Turn.f l0 l1 (List.replicate ((l1.length : Int) : Int).toNat 0)).bind fun bt191 => ((draw_Turn.f bt191.1 l1 l2).bind fun bt195 => (if bt170.2.2 = 0 then (if bt179.2.2 = 0 then (if bt184.2 = 0 then (if bt191.2 = 0 then (if bt195.2 = 0 then (if (bt175.1.length : Int) = (l0.length : Int) then ((churnlaw10_same.f k bt179.1 l2).bind fun t199 => (if t199 = true then (if bt179.2.1 = bt170.2.1 then (if (strOfNums bt184.1).toList = (strOfNums l0).toList then (if (strOfNums bt195.1).toList = (strOfNums bt175.1).toList then (if 0 ≤ bt170.2.1 then (if bt170.2.1 ≤ (bt175.1.length : Int) then (if bt170.2.1 ≤ (l0.length : Int) then (some ((strOfNums (bt175.1.drop (bt170.2.1 : Int).toNat)).toList == (strOfNums (l0.drop (bt170.2.1 : Int).toNat)).toList)) else (none)) else (none)) else (none)) else (some false)) else (some false)) else (some false)) else (some false))) else (some false)) else (some false)) else (some false)) else (some false)) else (some false)) else (some false)))) else (none)) else (none)))) else (if bt175.2 = bt170.2.2 then (some true) else (if bt175.2 = 2 then (some ((bt175.1.length : Int) == 0)) else (some false)))))) else (some false)) = some r := H
 have A4 := mA A40
 clear A40
 by_cases c5 : t169 = true
 ·subst c5
  have H1 : ((draw_All.f l0 l1).bind fun bt170 => ((draw_Turn.f l0 l1 l2).bind fun bt175 => (if bt175.2 = 0 then ((draw_All.f bt175.1 l1).bind fun bt179 => ((draw_Turn.f bt175.1 l1 bt170.1).bind fun bt184 => (if 0 ≤ (l1.length : Int) then (if ((l1.length : Int) : Int).toNat ≤ 35184372088832 then ((draw_Turn.f l0 l1 (List.replicate ((l1.length : Int) : Int).toNat 0)).bind fun bt191 => ((draw_Turn.f bt191.1 l1 l2).bind fun bt195 => (if bt170.2.2 = 0 then (if bt179.2.2 = 0 then (if bt184.2 = 0 then (if bt191.2 = 0 then (if bt195.2 = 0 then (if (bt175.1.length : Int) = (l0.length : Int) then ((churnlaw10_same.f k bt179.1 l2).bind fun t199 => (if t199 = true then (if bt179.2.1 = bt170.2.1 then (if (strOfNums bt184.1).toList = (strOfNums l0).toList then (if (strOfNums bt195.1).toList = (strOfNums bt175.1).toList then (if 0 ≤ bt170.2.1 then (if bt170.2.1 ≤ (bt175.1.length : Int) then (if bt170.2.1 ≤ (l0.length : Int) then (some ((strOfNums (bt175.1.drop (bt170.2.1 : Int).toNat)).toList == (strOfNums (l0.drop (bt170.2.1 : Int).toNat)).toList)) else (none)) else (none)) else (none)) else (some false)) else (some false)) else (some false)) else (some false))) else (some false)) else (some false)) else (some false)) else (some false)) else (some false)) else (some false)))) else (none)) else (none)))) else (if bt175.2 = bt170.2.2 then (some true) else (if bt175.2 = 2 then (some ((bt175.1.length : Int) == 0)) else (some false)))))) = some r := by rw [if_pos rfl] at H; exact H
  clear H
  have H := H1
  clear H1
  replace H := Option.bind_eq_some_iff.mp H
  obtain ⟨⟨t170, t171, t172⟩, A60, H⟩ := H
  replace H : ((draw_Turn.f l0 l1 l2).bind fun bt175 => (if bt175.2 = 0 then ((draw_All.f bt175.1 l1).bind fun bt179 => ((draw_Turn.f bt175.1 l1 t170).bind fun bt184 => (if 0 ≤ (l1.length : Int) then (if ((l1.length : Int) : Int).toNat ≤ 35184372088832 then ((draw_Turn.f l0 l1 (List.replicate ((l1.length : Int) : Int).toNat 0)).bind fun bt191 => ((draw_Turn.f bt191.1 l1 l2).bind fun bt195 => (if t172 = 0 then (if bt179.2.2 = 0 then (if bt184.2 = 0 then (if bt191.2 = 0 then (if bt195.2 = 0 then (if (bt175.1.length : Int) = (l0.length : Int) then ((churnlaw10_same.f k bt179.1 l2).bind fun t199 => (if t199 = true then (if bt179.2.1 = t171 then (if (strOfNums bt184.1).toList = (strOfNums l0).toList then (if (strOfNums bt195.1).toList = (strOfNums bt175.1).toList then (if 0 ≤ t171 then (if t171 ≤ (bt175.1.length : Int) then (if t171 ≤ (l0.length : Int) then (some ((strOfNums (bt175.1.drop (t171 : Int).toNat)).toList == (strOfNums (l0.drop (t171 : Int).toNat)).toList)) else (none)) else (none)) else (none)) else (some false)) else (some false)) else (some false)) else (some false))) else (some false)) else (some false)) else (some false)) else (some false)) else (some false)) else (some false)))) else (none)) else (none)))) else (if bt175.2 = t172 then (some true) else (if bt175.2 = 2 then (some ((bt175.1.length : Int) == 0)) else (some false))))) = some r := H
  have A6 := mA A60
  clear A60
  replace H := Option.bind_eq_some_iff.mp H
  obtain ⟨⟨t175, t176⟩, A70, H⟩ := H
  replace H : (if t176 = 0 then ((draw_All.f t175 l1).bind fun bt179 => ((draw_Turn.f t175 l1 t170).bind fun bt184 => (if 0 ≤ (l1.length : Int) then (if ((l1.length : Int) : Int).toNat ≤ 35184372088832 then ((draw_Turn.f l0 l1 (List.replicate ((l1.length : Int) : Int).toNat 0)).bind fun bt191 => ((draw_Turn.f bt191.1 l1 l2).bind fun bt195 => (if t172 = 0 then (if bt179.2.2 = 0 then (if bt184.2 = 0 then (if bt191.2 = 0 then (if bt195.2 = 0 then (if (t175.length : Int) = (l0.length : Int) then ((churnlaw10_same.f k bt179.1 l2).bind fun t199 => (if t199 = true then (if bt179.2.1 = t171 then (if (strOfNums bt184.1).toList = (strOfNums l0).toList then (if (strOfNums bt195.1).toList = (strOfNums t175).toList then (if 0 ≤ t171 then (if t171 ≤ (t175.length : Int) then (if t171 ≤ (l0.length : Int) then (some ((strOfNums (t175.drop (t171 : Int).toNat)).toList == (strOfNums (l0.drop (t171 : Int).toNat)).toList)) else (none)) else (none)) else (none)) else (some false)) else (some false)) else (some false)) else (some false))) else (some false)) else (some false)) else (some false)) else (some false)) else (some false)) else (some false)))) else (none)) else (none)))) else (if t176 = t172 then (some true) else (if t176 = 2 then (some ((t175.length : Int) == 0)) else (some false)))) = some r := H
  have A7 := mA A70
  clear A70
  by_cases c8 : t176 = 0
  ·rw [if_pos c8] at H
   have c8b0 : (t176 == 0) = true := beq_iff_eq.mpr c8
   have c8b1 : (t176 != 0) = false := bne_eq_false_iff_eq.mpr c8
   clear c8
   replace H := Option.bind_eq_some_iff.mp H
   obtain ⟨⟨t179, t180, t181⟩, A90, H⟩ := H
   replace H : ((draw_Turn.f t175 l1 t170).bind fun bt184 => (if 0 ≤ (l1.length : Int) then (if ((l1.length : Int) : Int).toNat ≤ 35184372088832 then ((draw_Turn.f l0 l1 (List.replicate ((l1.length : Int) : Int).toNat 0)).bind fun bt191 => ((draw_Turn.f bt191.1 l1 l2).bind fun bt195 => (if t172 = 0 then (if t181 = 0 then (if bt184.2 = 0 then (if bt191.2 = 0 then (if bt195.2 = 0 then (if (t175.length : Int) = (l0.length : Int) then ((churnlaw10_same.f k t179 l2).bind fun t199 => (if t199 = true then (if t180 = t171 then (if (strOfNums bt184.1).toList = (strOfNums l0).toList then (if (strOfNums bt195.1).toList = (strOfNums t175).toList then (if 0 ≤ t171 then (if t171 ≤ (t175.length : Int) then (if t171 ≤ (l0.length : Int) then (some ((strOfNums (t175.drop (t171 : Int).toNat)).toList == (strOfNums (l0.drop (t171 : Int).toNat)).toList)) else (none)) else (none)) else (none)) else (some false)) else (some false)) else (some false)) else (some false))) else (some false)) else (some false)) else (some false)) else (some false)) else (some false)) else (some false)))) else (none)) else (none))) = some r := H
   have A9 := mA A90
   clear A90
   replace H := Option.bind_eq_some_iff.mp H
   obtain ⟨⟨t184, t185⟩, A100, H⟩ := H
   replace H : (if 0 ≤ (l1.length : Int) then (if ((l1.length : Int) : Int).toNat ≤ 35184372088832 then ((draw_Turn.f l0 l1 (List.replicate ((l1.length : Int) : Int).toNat 0)).bind fun bt191 => ((draw_Turn.f bt191.1 l1 l2).bind fun bt195 => (if t172 = 0 then (if t181 = 0 then (if t185 = 0 then (if bt191.2 = 0 then (if bt195.2 = 0 then (if (t175.length : Int) = (l0.length : Int) then ((churnlaw10_same.f k t179 l2).bind fun t199 => (if t199 = true then (if t180 = t171 then (if (strOfNums t184).toList = (strOfNums l0).toList then (if (strOfNums bt195.1).toList = (strOfNums t175).toList then (if 0 ≤ t171 then (if t171 ≤ (t175.length : Int) then (if t171 ≤ (l0.length : Int) then (some ((strOfNums (t175.drop (t171 : Int).toNat)).toList == (strOfNums (l0.drop (t171 : Int).toNat)).toList)) else (none)) else (none)) else (none)) else (some false)) else (some false)) else (some false)) else (some false))) else (some false)) else (some false)) else (some false)) else (some false)) else (some false)) else (some false)))) else (none)) else (none)) = some r := H
   have A10 := mA A100
   clear A100
   by_cases c11 : 0 ≤ (l1.length : Int)
   ·rw [if_pos c11] at H
    have c11b0 := eq_true c11
    have c11b1 : decide (0 ≤ (l1.length : Int)) = true := decide_eq_true c11
    clear c11
    by_cases c12 : ((l1.length : Int) : Int).toNat ≤ 35184372088832
    ·rw [if_pos c12] at H
     have c12b0 := eq_true c12
     have c12b1 : decide (((l1.length : Int) : Int).toNat ≤ 35184372088832) = true := decide_eq_true c12
     clear c12
     obtain ⟨y188, hy188⟩ : ∃ y_ : List Int, y_ = (List.replicate ((l1.length : Int) : Int).toNat 0) := ⟨_, rfl⟩
     replace H : ((draw_Turn.f l0 l1 y188).bind fun bt191 => ((draw_Turn.f bt191.1 l1 l2).bind fun bt195 => (if t172 = 0 then (if t181 = 0 then (if t185 = 0 then (if bt191.2 = 0 then (if bt195.2 = 0 then (if (t175.length : Int) = (l0.length : Int) then ((churnlaw10_same.f k t179 l2).bind fun t199 => (if t199 = true then (if t180 = t171 then (if (strOfNums t184).toList = (strOfNums l0).toList then (if (strOfNums bt195.1).toList = (strOfNums t175).toList then (if 0 ≤ t171 then (if t171 ≤ (t175.length : Int) then (if t171 ≤ (l0.length : Int) then (some ((strOfNums (t175.drop (t171 : Int).toNat)).toList == (strOfNums (l0.drop (t171 : Int).toNat)).toList)) else (none)) else (none)) else (none)) else (some false)) else (some false)) else (some false)) else (some false))) else (some false)) else (some false)) else (some false)) else (some false)) else (some false)) else (some false)))) = some r := by first | (rw [hy188]; with_reducible exact H) | (have H2_ := (Option.bind_some _ _).symm.trans H; rw [hy188]; with_reducible exact H2_) | (have H2_ := (Option.bind_some _ _).symm.trans H; with_reducible exact H2_) | with_reducible exact H | (rw [hy188]; exact H) | exact H
     have Ny188 := mA hy188
     clear hy188
     replace H := Option.bind_eq_some_iff.mp H
     obtain ⟨⟨t191, t192⟩, A130, H⟩ := H
     replace H : ((draw_Turn.f t191 l1 l2).bind fun bt195 => (if t172 = 0 then (if t181 = 0 then (if t185 = 0 then (if t192 = 0 then (if bt195.2 = 0 then (if (t175.length : Int) = (l0.length : Int) then ((churnlaw10_same.f k t179 l2).bind fun t199 => (if t199 = true then (if t180 = t171 then (if (strOfNums t184).toList = (strOfNums l0).toList then (if (strOfNums bt195.1).toList = (strOfNums t175).toList then (if 0 ≤ t171 then (if t171 ≤ (t175.length : Int) then (if t171 ≤ (l0.length : Int) then (some ((strOfNums (t175.drop (t171 : Int).toNat)).toList == (strOfNums (l0.drop (t171 : Int).toNat)).toList)) else (none)) else (none)) else (none)) else (some false)) else (some false)) else (some false)) else (some false))) else (some false)) else (some false)) else (some false)) else (some false)) else (some false)) else (some false))) = some r := H
     have A13 := mA A130
     clear A130
     replace H := Option.bind_eq_some_iff.mp H
     obtain ⟨⟨t195, t196⟩, A140, H⟩ := H
     replace H : (if t172 = 0 then (if t181 = 0 then (if t185 = 0 then (if t192 = 0 then (if t196 = 0 then (if (t175.length : Int) = (l0.length : Int) then ((churnlaw10_same.f k t179 l2).bind fun t199 => (if t199 = true then (if t180 = t171 then (if (strOfNums t184).toList = (strOfNums l0).toList then (if (strOfNums t195).toList = (strOfNums t175).toList then (if 0 ≤ t171 then (if t171 ≤ (t175.length : Int) then (if t171 ≤ (l0.length : Int) then (some ((strOfNums (t175.drop (t171 : Int).toNat)).toList == (strOfNums (l0.drop (t171 : Int).toNat)).toList)) else (none)) else (none)) else (none)) else (some false)) else (some false)) else (some false)) else (some false))) else (some false)) else (some false)) else (some false)) else (some false)) else (some false)) else (some false)) = some r := H
     have A14 := mA A140
     clear A140
     by_cases c15 : t172 = 0
     ·rw [if_pos c15] at H
      have c15b0 : (t172 == 0) = true := beq_iff_eq.mpr c15
      have c15b1 : (t172 != 0) = false := bne_eq_false_iff_eq.mpr c15
      clear c15
      by_cases c16 : t181 = 0
      ·rw [if_pos c16] at H
       have c16b0 : (t181 == 0) = true := beq_iff_eq.mpr c16
       have c16b1 : (t181 != 0) = false := bne_eq_false_iff_eq.mpr c16
       clear c16
       by_cases c17 : t185 = 0
       ·rw [if_pos c17] at H
        have c17b0 : (t185 == 0) = true := beq_iff_eq.mpr c17
        have c17b1 : (t185 != 0) = false := bne_eq_false_iff_eq.mpr c17
        clear c17
        by_cases c18 : t192 = 0
        ·rw [if_pos c18] at H
         have c18b0 : (t192 == 0) = true := beq_iff_eq.mpr c18
         have c18b1 : (t192 != 0) = false := bne_eq_false_iff_eq.mpr c18
         clear c18
         by_cases c19 : t196 = 0
         ·rw [if_pos c19] at H
          have c19b0 : (t196 == 0) = true := beq_iff_eq.mpr c19
          have c19b1 : (t196 != 0) = false := bne_eq_false_iff_eq.mpr c19
          clear c19
          by_cases c20 : (t175.length : Int) = (l0.length : Int)
          ·rw [if_pos c20] at H
           have c20b0 : ((t175.length : Int) == (l0.length : Int)) = true := beq_iff_eq.mpr c20
           have c20b1 : ((t175.length : Int) != (l0.length : Int)) = false := bne_eq_false_iff_eq.mpr c20
           have c20b2 : (t175.length == l0.length) = true := by first | simpa using c20 | (simp at c20 ⊢; omega)
           clear c20
           replace H := Option.bind_eq_some_iff.mp H
           obtain ⟨t199, A210, H⟩ := H
           replace H : (if t199 = true then (if t180 = t171 then (if (strOfNums t184).toList = (strOfNums l0).toList then (if (strOfNums t195).toList = (strOfNums t175).toList then (if 0 ≤ t171 then (if t171 ≤ (t175.length : Int) then (if t171 ≤ (l0.length : Int) then (some ((strOfNums (t175.drop (t171 : Int).toNat)).toList == (strOfNums (l0.drop (t171 : Int).toNat)).toList)) else (none)) else (none)) else (none)) else (some false)) else (some false)) else (some false)) else (some false)) = some r := H
           have A21 := mA A210
           clear A210
           by_cases c22 : t199 = true
           ·subst c22
            have H1 : (if t180 = t171 then (if (strOfNums t184).toList = (strOfNums l0).toList then (if (strOfNums t195).toList = (strOfNums t175).toList then (if 0 ≤ t171 then (if t171 ≤ (t175.length : Int) then (if t171 ≤ (l0.length : Int) then (some ((strOfNums (t175.drop (t171 : Int).toNat)).toList == (strOfNums (l0.drop (t171 : Int).toNat)).toList)) else (none)) else (none)) else (none)) else (some false)) else (some false)) else (some false)) = some r := by rw [if_pos rfl] at H; exact H
            clear H
            have H := H1
            clear H1
            by_cases c23 : t180 = t171
            ·rw [if_pos c23] at H
             have c23b0 : (t180 == t171) = true := beq_iff_eq.mpr c23
             have c23b1 : (t180 != t171) = false := bne_eq_false_iff_eq.mpr c23
             clear c23
             by_cases c24 : (strOfNums t184).toList = (strOfNums l0).toList
             ·rw [if_pos c24] at H
              have c24b0 : ((strOfNums t184).toList == (strOfNums l0).toList) = true := beq_iff_eq.mpr c24
              have c24b1 : ((strOfNums t184).toList != (strOfNums l0).toList) = false := bne_eq_false_iff_eq.mpr c24
              clear c24
              by_cases c25 : (strOfNums t195).toList = (strOfNums t175).toList
              ·rw [if_pos c25] at H
               have c25b0 : ((strOfNums t195).toList == (strOfNums t175).toList) = true := beq_iff_eq.mpr c25
               have c25b1 : ((strOfNums t195).toList != (strOfNums t175).toList) = false := bne_eq_false_iff_eq.mpr c25
               clear c25
               by_cases c26 : 0 ≤ t171
               ·rw [if_pos c26] at H
                have c26b0 := eq_true c26
                have c26b1 : decide (0 ≤ t171) = true := decide_eq_true c26
                clear c26
                by_cases c27 : t171 ≤ (t175.length : Int)
                ·rw [if_pos c27] at H
                 have c27b0 := eq_true c27
                 have c27b1 : decide (t171 ≤ (t175.length : Int)) = true := decide_eq_true c27
                 clear c27
                 obtain ⟨y200, hy200⟩ : ∃ y_ : List Int, y_ = (t175.drop (t171 : Int).toNat) := ⟨_, rfl⟩
                 replace H : (if t171 ≤ (l0.length : Int) then (some ((strOfNums y200).toList == (strOfNums (l0.drop (t171 : Int).toNat)).toList)) else (none)) = some r := by first | (rw [hy200]; with_reducible exact H) | (have H2_ := (Option.bind_some _ _).symm.trans H; rw [hy200]; with_reducible exact H2_) | (have H2_ := (Option.bind_some _ _).symm.trans H; with_reducible exact H2_) | with_reducible exact H | (rw [hy200]; exact H) | exact H
                 have Ny200 := mA hy200
                 clear hy200
                 have c28b0 := eq_true (of_decide_eq_true (by first | (with_reducible assumption) | assumption) : 0 ≤ t171)
                 by_cases c29 : t171 ≤ (l0.length : Int)
                 ·rw [if_pos c29] at H
                  have c29b0 := eq_true c29
                  have c29b1 : decide (t171 ≤ (l0.length : Int)) = true := decide_eq_true c29
                  clear c29
                  obtain ⟨y204, hy204⟩ : ∃ y_ : List Int, y_ = (l0.drop (t171 : Int).toNat) := ⟨_, rfl⟩
                  replace H : (some ((strOfNums y200).toList == (strOfNums y204).toList)) = some r := by first | (rw [hy204]; with_reducible exact H) | (have H2_ := (Option.bind_some _ _).symm.trans H; rw [hy204]; with_reducible exact H2_) | (have H2_ := (Option.bind_some _ _).symm.trans H; with_reducible exact H2_) | with_reducible exact H | (rw [hy204]; exact H) | exact H
                  have Ny204 := mA hy204
                  clear hy204
                  obtain rfl := Option.some.inj H
                  simp only [Option.some.injEq, Prod.mk.injEq] at H
                  obtain ⟨rfl⟩ := H
                  go_enter Try.func5, Try.ntmps5
                  try go_wp2_with (first | ((with_reducible refine gate_callee (f := 10) rfl ?_); refine goesL_ (some 21) rfl rfl Try.func10 (by kernel_rfl) rfl #[] rfl (by (try simp only [List.map_toArray, List.map_cons, List.map_nil]); first | done | rfl | (simp only [List.length_drop, List.length_take]; rfl)) ?_; (with_reducible refine (churnlaw10_alive.calls  true _ A4.out).mono ?_); rintro e w30 ⟨rfl, hb⟩; refine ⟨_, rfl, ?_⟩; have n0_ := mA (bS (by repeat (first | (with_reducible first | exact HB.out | apply bA | apply bB | apply bC) | exact HB.out)) hb); clear HB; have HB := n0_; clear n0_; (try clear hb); (try clear hb2); (try clear hk); (try clear hi)) | ((with_reducible refine gate_callee (f := 12) rfl ?_); refine goesL_ (some 26) rfl rfl Try.func12 (by kernel_rfl) rfl #[.slice A0 l0.length c0, .slice A1 l1.length c1] rfl (by (try simp only [List.map_toArray, List.map_cons, List.map_nil]); first | done | rfl | (simp only [List.length_drop, List.length_take]; rfl)) ?_; (with_reducible refine (draw_All.calls _ _ l0 _ _ l1 t170 t171 t172 _ ?side1 ?side2 ?side3 ?side4 A6.out).mono ?_); (case side1 => repeat (first | exact (Kd.C_below HR0.out HB.out) | (with_reducible refine cA ?_ _) | (with_reducible refine cB ?_ _) | (with_reducible refine cC ?_))); (case side2 => exact HC0.out); (case side3 => repeat (first | exact (Kd.C_below HR1.out HB.out) | (with_reducible refine cA ?_ _) | (with_reducible refine cB ?_ _) | (with_reducible refine cC ?_))); (case side4 => exact HC1.out); rintro e w31 ⟨v173, rfl, ho0, hb⟩; refine ⟨_, rfl, ?_⟩; have n0_ := mA (rW ho0 (bZ (by repeat (first | (with_reducible first | exact HB.out | apply bA | apply bB | apply bC) | exact HB.out)))); have n1_ := mA (bS (by repeat (first | (with_reducible first | exact HB.out | apply bA | apply bB | apply bC) | exact HB.out)) hb); clear HB; have HO174 := n0_; have HB := n1_; clear n0_ n1_; (try clear hb); (try clear hb2); (try clear hk); (try clear hi); (try clear ho0)) | ((with_reducible refine gate_callee (f := 15) rfl ?_); refine goesL_ (some 34) rfl rfl Try.func15 (by kernel_rfl) rfl #[.slice A0 l0.length c0, .slice A1 l1.length c1, .slice A2 l2.length c2] rfl (by (try simp only [List.map_toArray, List.map_cons, List.map_nil]); first | done | rfl | (simp only [List.length_drop, List.length_take]; rfl)) ?_; (with_reducible refine (draw_Turn.calls _ _ l0 _ _ l1 _ _ l2 t175 t176 _ ?side1 ?side2 ?side3 ?side4 ?side5 ?side6 A7.out).mono ?_); (case side1 => repeat (first | exact (Kd.C_below HR0.out HB.out) | (with_reducible refine cA ?_ _) | (with_reducible refine cB ?_ _) | (with_reducible refine cC ?_))); (case side2 => exact HC0.out); (case side3 => repeat (first | exact (Kd.C_below HR1.out HB.out) | (with_reducible refine cA ?_ _) | (with_reducible refine cB ?_ _) | (with_reducible refine cC ?_))); (case side4 => exact HC1.out); (case side5 => repeat (first | exact (Kd.C_below HR2.out HB.out) | (with_reducible refine cA ?_ _) | (with_reducible refine cB ?_ _) | (with_reducible refine cC ?_))); (case side6 => exact HC2.out); rintro e w32 ⟨v177, rfl, ho0, hb⟩; refine ⟨_, rfl, ?_⟩; have n0_ := mA (Kd.R_below (by (with_reducible repeat (first | apply rA | apply rB | apply rC)); exact HO174.out) hb); have n1_ := mA (rW ho0 (bZ (by repeat (first | (with_reducible first | exact HB.out | apply bA | apply bB | apply bC) | exact HB.out)))); have n2_ := mA (bS (by repeat (first | (with_reducible first | exact HB.out | apply bA | apply bB | apply bC) | exact HB.out)) hb); clear HO174; clear HB; have HO174 := n0_; have HO178 := n1_; have HB := n2_; clear n0_ n1_ n2_; (try clear hb); (try clear hb2); (try clear hk); (try clear hi); (try clear ho0); obtain ⟨Ao33, co33, eo33⟩ := Kd.R_slice HO178.out; subst eo33) | ((with_reducible refine gate_callee (f := 12) rfl ?_); refine goesL_ (some 54) rfl rfl Try.func12 (by kernel_rfl) rfl #[.slice Ao33 t175.length co33, .slice A1 l1.length c1] rfl (by (try simp only [List.map_toArray, List.map_cons, List.map_nil]); first | done | rfl | (simp only [List.length_drop, List.length_take]; rfl)) ?_; (with_reducible refine (draw_All.calls _ _ t175 _ _ l1 t179 t180 t181 _ ?side1 ?side2 ?side3 ?side4 A9.out).mono ?_); (case side1 => repeat (first | exact (rR HO178.out).2.2 | (with_reducible refine cA ?_ _) | (with_reducible refine cB ?_ _) | (with_reducible refine cC ?_))); (case side2 => exact (rR HO178.out).2.1); (case side3 => repeat (first | exact (Kd.C_below HR1.out HB.out) | (with_reducible refine cA ?_ _) | (with_reducible refine cB ?_ _) | (with_reducible refine cC ?_))); (case side4 => exact HC1.out); rintro e w34 ⟨v182, rfl, ho0, hb⟩; refine ⟨_, rfl, ?_⟩; have n0_ := mA (rE (by (with_reducible repeat (first | apply rA | apply rB | apply rC)); exact HO174.out) (rS ho0) hb); have n1_ := mA (Kd.R_below (by (with_reducible repeat (first | apply rA | apply rB | apply rC)); exact HO178.out) hb); have n2_ := mA (rW (rN ho0 (rL (by (with_reducible repeat (first | apply rA | apply rB | apply rC)); exact HO174.out))) (bZ (by repeat (first | (with_reducible first | exact HB.out | apply bA | apply bB | apply bC) | exact HB.out)))); have n3_ := mA (bS (by repeat (first | (with_reducible first | exact HB.out | apply bA | apply bB | apply bC) | exact HB.out)) hb); clear HO174; clear HO178; clear HB; have HO174 := n0_; have HO178 := n1_; have HO183 := n2_; have HB := n3_; clear n0_ n1_ n2_ n3_; (try clear hb); (try clear hb2); (try clear hk); (try clear hi); (try clear ho0); obtain ⟨Ao35, co35, eo35⟩ := Kd.R_slice HO174.out; subst eo35) | ((with_reducible refine gate_callee (f := 15) rfl ?_); refine goesL_ (some 62) rfl rfl Try.func15 (by kernel_rfl) rfl #[.slice Ao33 t175.length co33, .slice A1 l1.length c1, .slice Ao35 t170.length co35] rfl (by (try simp only [List.map_toArray, List.map_cons, List.map_nil]); first | done | rfl | (simp only [List.length_drop, List.length_take]; rfl)) ?_; (with_reducible refine (draw_Turn.calls _ _ t175 _ _ l1 _ _ t170 t184 t185 _ ?side1 ?side2 ?side3 ?side4 ?side5 ?side6 A10.out).mono ?_); (case side1 => repeat (first | exact (rR HO178.out).2.2 | (with_reducible refine cA ?_ _) | (with_reducible refine cB ?_ _) | (with_reducible refine cC ?_))); (case side2 => exact (rR HO178.out).2.1); (case side3 => repeat (first | exact (Kd.C_below HR1.out HB.out) | (with_reducible refine cA ?_ _) | (with_reducible refine cB ?_ _) | (with_reducible refine cC ?_))); (case side4 => exact HC1.out); (case side5 => repeat (first | exact (rR HO174.out).2.2 | (with_reducible refine cA ?_ _) | (with_reducible refine cB ?_ _) | (with_reducible refine cC ?_))); (case side6 => exact (rR HO174.out).2.1); rintro e w36 ⟨v186, rfl, ho0, hb⟩; refine ⟨_, rfl, ?_⟩; have n0_ := mA (Kd.R_below (by (with_reducible repeat (first | apply rA | apply rB | apply rC)); exact HO174.out) hb); have n1_ := mA (rE (by (with_reducible repeat (first | apply rA | apply rB | apply rC)); exact HO178.out) (rS ho0) hb); have n2_ := mA (Kd.R_below (by (with_reducible repeat (first | apply rA | apply rB | apply rC)); exact HO183.out) hb); have n3_ := mA (rW (rN ho0 (rL (by (with_reducible repeat (first | apply rA | apply rB | apply rC)); exact HO178.out))) (bZ (by repeat (first | (with_reducible first | exact HB.out | apply bA | apply bB | apply bC) | exact HB.out)))); have n4_ := mA (bS (by repeat (first | (with_reducible first | exact HB.out | apply bA | apply bB | apply bC) | exact HB.out)) hb); clear HO174; clear HO178; clear HO183; clear HB; have HO174 := n0_; have HO178 := n1_; have HO183 := n2_; have HO187 := n3_; have HB := n4_; clear n0_ n1_ n2_ n3_ n4_; (try clear hb); (try clear hb2); (try clear hk); (try clear hi); (try clear ho0)) | ((with_reducible refine gate_dst (N := 70) rfl ?_); (try (refine gate_guard (by rfl) ?_; dsimp only)); refine Kd.R_make (Kd.int .i64) _ 3 rfl (N := 70) rfl 23 _ _ rfl (l1.length : Int) rfl rfl Try.underlying23 (.int .i64 0) 8 info3 rfl (by decide) (by omega) 0 (ok := fun _ => True) (okp := fun _ => True) rfl (fun _ hk => hk) trivial (of_decide_eq_true (by first | (with_reducible assumption) | assumption)) (Nat.le_trans (Nat.mul_le_mul_right _ (of_decide_eq_true (by first | (with_reducible assumption) | assumption) : (l1.length : Int).toNat ≤ 35184372088832)) (by omega)) (Below.refl _ _) (Nat.le_refl _) ?_; intro v189 w37 ho38 hb hg_ hnew_; clear hg_ hnew_; (first | rw [← Ny188.out] at ho38 | (simp only [Int.reduceToNat] at ho38; rw [← Ny188.out] at ho38)); have n0_ := mA (rE (by (with_reducible repeat (first | apply rA | apply rB | apply rC)); exact HO174.out) (rS ho38) hb); have n1_ := mA (Kd.R_below (by (with_reducible repeat (first | apply rA | apply rB | apply rC)); exact HO178.out) hb); have n2_ := mA (rE (by (with_reducible repeat (first | apply rA | apply rB | apply rC)); exact HO183.out) (rS ho38) hb); have n3_ := mA (Kd.R_below (by (with_reducible repeat (first | apply rA | apply rB | apply rC)); exact HO187.out) hb); have n4_ := mA (rW (rN (rN ho38 (rL (by (with_reducible repeat (first | apply rA | apply rB | apply rC)); exact HO174.out))) (rL (by (with_reducible repeat (first | apply rA | apply rB | apply rC)); exact HO183.out))) (bZ (by repeat (first | (with_reducible first | exact HB.out | apply bA | apply bB | apply bC) | exact HB.out)))); have n5_ := mA (bS (by repeat (first | (with_reducible first | exact HB.out | apply bA | apply bB | apply bC) | exact HB.out)) hb); clear HO174; clear HO178; clear HO183; clear HO187; clear HB; have HO174 := n0_; have HO178 := n1_; have HO183 := n2_; have HO187 := n3_; have HO190 := n4_; have HB := n5_; clear n0_ n1_ n2_ n3_ n4_ n5_; clear hb ho38; obtain ⟨Ao39, co39, eo39⟩ := Kd.R_slice HO190.out; subst eo39) | ((with_reducible refine gate_callee (f := 15) rfl ?_); refine goesL_ (some 71) rfl rfl Try.func15 (by kernel_rfl) rfl #[.slice A0 l0.length c0, .slice A1 l1.length c1, .slice Ao39 y188.length co39] rfl (by (try simp only [List.map_toArray, List.map_cons, List.map_nil]); first | done | rfl | (simp only [List.length_drop, List.length_take]; rfl)) ?_; (with_reducible refine (draw_Turn.calls _ _ l0 _ _ l1 _ _ y188 t191 t192 _ ?side1 ?side2 ?side3 ?side4 ?side5 ?side6 A13.out).mono ?_); (case side1 => repeat (first | exact (Kd.C_below HR0.out HB.out) | (with_reducible refine cA ?_ _) | (with_reducible refine cB ?_ _) | (with_reducible refine cC ?_))); (case side2 => exact HC0.out); (case side3 => repeat (first | exact (Kd.C_below HR1.out HB.out) | (with_reducible refine cA ?_ _) | (with_reducible refine cB ?_ _) | (with_reducible refine cC ?_))); (case side4 => exact HC1.out); (case side5 => repeat (first | exact (rR HO190.out).2.2 | (with_reducible refine cA ?_ _) | (with_reducible refine cB ?_ _) | (with_reducible refine cC ?_))); (case side6 => exact (rR HO190.out).2.1); rintro e w40 ⟨v193, rfl, ho0, hb⟩; refine ⟨_, rfl, ?_⟩; have n0_ := mA (Kd.R_below (by (with_reducible repeat (first | apply rA | apply rB | apply rC)); exact HO174.out) hb); have n1_ := mA (rE (by (with_reducible repeat (first | apply rA | apply rB | apply rC)); exact HO178.out) (rS ho0) hb); have n2_ := mA (Kd.R_below (by (with_reducible repeat (first | apply rA | apply rB | apply rC)); exact HO183.out) hb); have n3_ := mA (rE (by (with_reducible repeat (first | apply rA | apply rB | apply rC)); exact HO187.out) (rS ho0) hb); have n4_ := mA (Kd.R_below (by (with_reducible repeat (first | apply rA | apply rB | apply rC)); exact HO190.out) hb); have n5_ := mA (rW (rN (rN ho0 (rL (by (with_reducible repeat (first | apply rA | apply rB | apply rC)); exact HO178.out))) (rL (by (with_reducible repeat (first | apply rA | apply rB | apply rC)); exact HO187.out))) (bZ (by repeat (first | (with_reducible first | exact HB.out | apply bA | apply bB | apply bC) | exact HB.out)))); have n6_ := mA (bS (by repeat (first | (with_reducible first | exact HB.out | apply bA | apply bB | apply bC) | exact HB.out)) hb); clear HO174; clear HO178; clear HO183; clear HO187; clear HO190; clear HB; have HO174 := n0_; have HO178 := n1_; have HO183 := n2_; have HO187 := n3_; have HO190 := n4_; have HO194 := n5_; have HB := n6_; clear n0_ n1_ n2_ n3_ n4_ n5_ n6_; (try clear hb); (try clear hb2); (try clear hk); (try clear hi); (try clear ho0); obtain ⟨Ao41, co41, eo41⟩ := Kd.R_slice HO194.out; subst eo41) | ((with_reducible refine gate_callee (f := 15) rfl ?_); refine goesL_ (some 78) rfl rfl Try.func15 (by kernel_rfl) rfl #[.slice Ao41 t191.length co41, .slice A1 l1.length c1, .slice A2 l2.length c2] rfl (by (try simp only [List.map_toArray, List.map_cons, List.map_nil]); first | done | rfl | (simp only [List.length_drop, List.length_take]; rfl)) ?_; (with_reducible refine (draw_Turn.calls _ _ t191 _ _ l1 _ _ l2 t195 t196 _ ?side1 ?side2 ?side3 ?side4 ?side5 ?side6 A14.out).mono ?_); (case side1 => repeat (first | exact (rR HO194.out).2.2 | (with_reducible refine cA ?_ _) | (with_reducible refine cB ?_ _) | (with_reducible refine cC ?_))); (case side2 => exact (rR HO194.out).2.1); (case side3 => repeat (first | exact (Kd.C_below HR1.out HB.out) | (with_reducible refine cA ?_ _) | (with_reducible refine cB ?_ _) | (with_reducible refine cC ?_))); (case side4 => exact HC1.out); (case side5 => repeat (first | exact (Kd.C_below HR2.out HB.out) | (with_reducible refine cA ?_ _) | (with_reducible refine cB ?_ _) | (with_reducible refine cC ?_))); (case side6 => exact HC2.out); rintro e w42 ⟨v197, rfl, ho0, hb⟩; refine ⟨_, rfl, ?_⟩; have n0_ := mA (Kd.R_below (by (with_reducible repeat (first | apply rA | apply rB | apply rC)); exact HO174.out) hb); have n1_ := mA (rE (by (with_reducible repeat (first | apply rA | apply rB | apply rC)); exact HO178.out) (rS ho0) hb); have n2_ := mA (Kd.R_below (by (with_reducible repeat (first | apply rA | apply rB | apply rC)); exact HO183.out) hb); have n3_ := mA (rE (by (with_reducible repeat (first | apply rA | apply rB | apply rC)); exact HO187.out) (rS ho0) hb); have n4_ := mA (Kd.R_below (by (with_reducible repeat (first | apply rA | apply rB | apply rC)); exact HO190.out) hb); have n5_ := mA (rE (by (with_reducible repeat (first | apply rA | apply rB | apply rC)); exact HO194.out) (rS ho0) hb); have n6_ := mA (rW (rN (rN (rN ho0 (rL (by (with_reducible repeat (first | apply rA | apply rB | apply rC)); exact HO178.out))) (rL (by (with_reducible repeat (first | apply rA | apply rB | apply rC)); exact HO187.out))) (rL (by (with_reducible repeat (first | apply rA | apply rB | apply rC)); exact HO194.out))) (bZ (by repeat (first | (with_reducible first | exact HB.out | apply bA | apply bB | apply bC) | exact HB.out)))); have n7_ := mA (bS (by repeat (first | (with_reducible first | exact HB.out | apply bA | apply bB | apply bC) | exact HB.out)) hb); clear HO174; clear HO178; clear HO183; clear HO187; clear HO190; clear HO194; clear HB; have HO174 := n0_; have HO178 := n1_; have HO183 := n2_; have HO187 := n3_; have HO190 := n4_; have HO194 := n5_; have HO198 := n6_; have HB := n7_; clear n0_ n1_ n2_ n3_ n4_ n5_ n6_ n7_; (try clear hb); (try clear hb2); (try clear hk); (try clear hi); (try clear ho0); obtain ⟨Ao43, co43, eo43⟩ := Kd.R_slice HO183.out; subst eo43))
                  have q49 : (t171 : Int) ≤ ((t175.length : Int) : Int) := of_decide_eq_true (by first | (with_reducible assumption) | assumption)
                  obtain ⟨i049, hi049, _, hsz49, _⟩ := info_parts info5
                  have hroom49 : t175.length ≤ co33 := (rR HO178.out).2.1
                  have hC49 : Kd.C (Kd.int .u8) _ Ao33 t175.length t175 := (rR HO178.out).2.2
                  have q049 : (0 : Int) ≤ (t171 : Int) := of_decide_eq_true (by first | (with_reducible assumption) | assumption)
                  have hcut49 := cut_from (P := Try.prog) 22 5 .i64 Try.underlying22 hi049 1 hsz49 Ao33 t175.length co33 t171 q049 q49
                  have hr49 := Kd.C_drop (m := (t171 : Int).toNat) (c := co33) hC49 (by omega) hroom49
                  obtain ⟨A49, hA49⟩ : ∃ A1, A1 = (if co33 = (t171 : Int).toNat then Ao33 else (Ao33 : Option Addr).map (·.add ((t171 : Int).toNat * 1))) := ⟨_, rfl⟩
                  obtain ⟨c49, hc49⟩ : ∃ c1, c1 = co33 - (t171 : Int).toNat := ⟨_, rfl⟩
                  have hy49 : y200.length = t175.length - (t171 : Int).toNat := (by rw [Ny200.out, List.length_drop] <;> omega)
                  rw [show (t175).drop (t171 : Int).toNat = y200 from Ny200.out.symm] at hr49
                  replace hr49 : Kd.C (Kd.int .u8) _ A49 y200.length y200 := (by rw [hA49]; exact hr49)
                  rw [← hy49, ← hA49, ← hc49] at hcut49
                  have HR203 := mA hr49
                  have HC203 := mA (show y200.length ≤ c49 from by rw [hy49, hc49]; exact Nat.sub_le_sub_right hroom49 _)
                  clear hr49 hC49 hroom49 hi049 hsz49 hc49
                  have KY49 := mA hy49
                  have KA49 := mA hA49
                  clear hy49 hA49
                  have KL49 := mA (show (t171 : Int).toNat ≤ t175.length from by omega)
                  replace q49 := eq_true q49
                  have q51 : (t171 : Int) ≤ ((l0.length : Int) : Int) := of_decide_eq_true (by first | (with_reducible assumption) | assumption)
                  obtain ⟨i051, hi051, _, hsz51, _⟩ := info_parts info5
                  have hroom51 : l0.length ≤ c0 := HC0.out
                  have hC51 : Kd.C (Kd.int .u8) _ A0 l0.length l0 := (Kd.C_below HR0.out HB.out)
                  have q051 : (0 : Int) ≤ (t171 : Int) := of_decide_eq_true (by first | (with_reducible assumption) | assumption)
                  have hcut51 := cut_from (P := Try.prog) 22 5 .i64 Try.underlying22 hi051 1 hsz51 A0 l0.length c0 t171 q051 q51
                  have hr51 := Kd.C_drop (m := (t171 : Int).toNat) (c := c0) hC51 (by omega) hroom51
                  obtain ⟨A51, hA51⟩ : ∃ A1, A1 = (if c0 = (t171 : Int).toNat then A0 else (A0 : Option Addr).map (·.add ((t171 : Int).toNat * 1))) := ⟨_, rfl⟩
                  obtain ⟨c51, hc51⟩ : ∃ c1, c1 = c0 - (t171 : Int).toNat := ⟨_, rfl⟩
                  have hy51 : y204.length = l0.length - (t171 : Int).toNat := (by rw [Ny204.out, List.length_drop] <;> omega)
                  rw [show (l0).drop (t171 : Int).toNat = y204 from Ny204.out.symm] at hr51
                  replace hr51 : Kd.C (Kd.int .u8) _ A51 y204.length y204 := (by rw [hA51]; exact hr51)
                  rw [← hy51, ← hA51, ← hc51] at hcut51
                  have HR207 := mA hr51
                  have HC207 := mA (show y204.length ≤ c51 from by rw [hy51, hc51]; exact Nat.sub_le_sub_right hroom51 _)
                  clear hr51 hC51 hroom51 hi051 hsz51 hc51
                  have KY51 := mA hy51
                  have KA51 := mA hA51
                  clear hy51 hA51
                  replace q51 := eq_true q51
                  have hcv_0 := fun m : Nat => own_string (P := Try.prog) Try.underlying22 Try.underlying5 Try.underlying9 (Kd.own_of_R (rB HO187.out m))
                  have hcv_1 := fun m : Nat => own_string (P := Try.prog) Try.underlying22 Try.underlying5 Try.underlying9 (Kd.own_of_R (rB HO198.out m))
                  have hcv_2 := fun m : Nat => own_string (P := Try.prog) Try.underlying22 Try.underlying5 Try.underlying9 (Kd.own_of_R (rB HO178.out m))
                  have hcv_a := fun m : Nat => Kd.C_string (P := Try.prog) (A := A0) (c := c0) Try.underlying22 Try.underlying5 Try.underlying9 (cB (Kd.C_below HR0.out HB.out) m)
                  have hcv_c49 := fun m : Nat => Kd.C_string (P := Try.prog) (A := A49) (c := c49) Try.underlying22 Try.underlying5 Try.underlying9 (cB HR203.out m)
                  have hcv_c51 := fun m : Nat => Kd.C_string (P := Try.prog) (A := A51) (c := c51) Try.underlying22 Try.underlying5 Try.underlying9 (cB HR207.out m)
                  go_quiet (exact (churnlaw10_same.calls k _ _ t179 _ _ l2 true _ (cB (rR HO183.out).2.2 _) (rR HO183.out).2.1 (cB (Kd.C_below HR2.out HB.out) _) HC2.out A21.out).mono (fun e w' h => ⟨h.1, by obtain ⟨nd, rfl⟩ := h.2; exact ⟨_, World.drewN_drewN _ _ _⟩⟩))
                  go_wp2
                  go_ret
                  exact ⟨rfl, bB HB.out _⟩
                 ·rw [if_neg c29] at H
                  exact absurd H (by simp)
                ·rw [if_neg c27] at H
                 exact absurd H (by simp)
               ·rw [if_neg c26] at H
                exact absurd H (by simp)
              ·rw [if_neg c25] at H
               have c25b0 : ((strOfNums t195).toList == (strOfNums t175).toList) = false := beq_eq_false_iff_ne.mpr c25
               have c25b1 : ((strOfNums t195).toList != (strOfNums t175).toList) = true := bne_iff_ne.mpr c25
               obtain rfl := Option.some.inj H
               exact absurd HR_.out (by decide)
             ·rw [if_neg c24] at H
              have c24b0 : ((strOfNums t184).toList == (strOfNums l0).toList) = false := beq_eq_false_iff_ne.mpr c24
              have c24b1 : ((strOfNums t184).toList != (strOfNums l0).toList) = true := bne_iff_ne.mpr c24
              obtain rfl := Option.some.inj H
              exact absurd HR_.out (by decide)
            ·rw [if_neg c23] at H
             have c23b0 : (t180 == t171) = false := beq_eq_false_iff_ne.mpr c23
             have c23b1 : (t180 != t171) = true := bne_iff_ne.mpr c23
             obtain rfl := Option.some.inj H
             exact absurd HR_.out (by decide)
           ·replace c22 := Bool.eq_false_iff.mpr c22
            subst c22
            have H1 : (some false) = some r := by rw [if_neg (show ¬ (false = true) by decide)] at H; exact H
            clear H
            have H := H1
            clear H1
            obtain rfl := Option.some.inj H
            exact absurd HR_.out (by decide)
          ·rw [if_neg c20] at H
           have c20b0 : ((t175.length : Int) == (l0.length : Int)) = false := beq_eq_false_iff_ne.mpr c20
           have c20b1 : ((t175.length : Int) != (l0.length : Int)) = true := bne_iff_ne.mpr c20
           have c20b2 : (t175.length == l0.length) = false := by first | simpa using c20 | (simp at c20 ⊢; omega)
           obtain rfl := Option.some.inj H
           exact absurd HR_.out (by decide)
         ·rw [if_neg c19] at H
          have c19b0 : (t196 == 0) = false := beq_eq_false_iff_ne.mpr c19
          have c19b1 : (t196 != 0) = true := bne_iff_ne.mpr c19
          obtain rfl := Option.some.inj H
          exact absurd HR_.out (by decide)
        ·rw [if_neg c18] at H
         have c18b0 : (t192 == 0) = false := beq_eq_false_iff_ne.mpr c18
         have c18b1 : (t192 != 0) = true := bne_iff_ne.mpr c18
         obtain rfl := Option.some.inj H
         exact absurd HR_.out (by decide)
       ·rw [if_neg c17] at H
        have c17b0 : (t185 == 0) = false := beq_eq_false_iff_ne.mpr c17
        have c17b1 : (t185 != 0) = true := bne_iff_ne.mpr c17
        obtain rfl := Option.some.inj H
        exact absurd HR_.out (by decide)
      ·rw [if_neg c16] at H
       have c16b0 : (t181 == 0) = false := beq_eq_false_iff_ne.mpr c16
       have c16b1 : (t181 != 0) = true := bne_iff_ne.mpr c16
       obtain rfl := Option.some.inj H
       exact absurd HR_.out (by decide)
     ·rw [if_neg c15] at H
      have c15b0 : (t172 == 0) = false := beq_eq_false_iff_ne.mpr c15
      have c15b1 : (t172 != 0) = true := bne_iff_ne.mpr c15
      obtain rfl := Option.some.inj H
      exact absurd HR_.out (by decide)
    ·rw [if_neg c12] at H
     exact absurd H (by simp)
   ·rw [if_neg c11] at H
    exact absurd H (by simp)
  ·rw [if_neg c8] at H
   have c8b0 : (t176 == 0) = false := beq_eq_false_iff_ne.mpr c8
   have c8b1 : (t176 != 0) = true := bne_iff_ne.mpr c8
   by_cases c54 : t176 = t172
   ·rw [if_pos c54] at H
    have c54b0 : (t176 == t172) = true := beq_iff_eq.mpr c54
    have c54b1 : (t176 != t172) = false := bne_eq_false_iff_eq.mpr c54
    clear c54
    obtain rfl := Option.some.inj H
    simp only [Option.some.injEq, Prod.mk.injEq] at H
    obtain ⟨rfl⟩ := H
    go_enter Try.func5, Try.ntmps5
    go_wp2_with (first | ((with_reducible refine gate_callee (f := 10) rfl ?_); refine goesL_ (some 21) rfl rfl Try.func10 (by kernel_rfl) rfl #[] rfl (by (try simp only [List.map_toArray, List.map_cons, List.map_nil]); first | done | rfl | (simp only [List.length_drop, List.length_take]; rfl)) ?_; (with_reducible refine (churnlaw10_alive.calls  true _ A4.out).mono ?_); rintro e w55 ⟨rfl, hb⟩; refine ⟨_, rfl, ?_⟩; have n0_ := mA (bS (by repeat (first | (with_reducible first | exact HB.out | apply bA | apply bB | apply bC) | exact HB.out)) hb); clear HB; have HB := n0_; clear n0_; (try clear hb); (try clear hb2); (try clear hk); (try clear hi)) | ((with_reducible refine gate_callee (f := 12) rfl ?_); refine goesL_ (some 26) rfl rfl Try.func12 (by kernel_rfl) rfl #[.slice A0 l0.length c0, .slice A1 l1.length c1] rfl (by (try simp only [List.map_toArray, List.map_cons, List.map_nil]); first | done | rfl | (simp only [List.length_drop, List.length_take]; rfl)) ?_; (with_reducible refine (draw_All.calls _ _ l0 _ _ l1 t170 t171 t172 _ ?side1 ?side2 ?side3 ?side4 A6.out).mono ?_); (case side1 => repeat (first | exact (Kd.C_below HR0.out HB.out) | (with_reducible refine cA ?_ _) | (with_reducible refine cB ?_ _) | (with_reducible refine cC ?_))); (case side2 => exact HC0.out); (case side3 => repeat (first | exact (Kd.C_below HR1.out HB.out) | (with_reducible refine cA ?_ _) | (with_reducible refine cB ?_ _) | (with_reducible refine cC ?_))); (case side4 => exact HC1.out); rintro e w56 ⟨v173, rfl, ho0, hb⟩; refine ⟨_, rfl, ?_⟩; have n0_ := mA (rW ho0 (bZ (by repeat (first | (with_reducible first | exact HB.out | apply bA | apply bB | apply bC) | exact HB.out)))); have n1_ := mA (bS (by repeat (first | (with_reducible first | exact HB.out | apply bA | apply bB | apply bC) | exact HB.out)) hb); clear HB; have HO174 := n0_; have HB := n1_; clear n0_ n1_; (try clear hb); (try clear hb2); (try clear hk); (try clear hi); (try clear ho0)) | ((with_reducible refine gate_callee (f := 15) rfl ?_); refine goesL_ (some 34) rfl rfl Try.func15 (by kernel_rfl) rfl #[.slice A0 l0.length c0, .slice A1 l1.length c1, .slice A2 l2.length c2] rfl (by (try simp only [List.map_toArray, List.map_cons, List.map_nil]); first | done | rfl | (simp only [List.length_drop, List.length_take]; rfl)) ?_; (with_reducible refine (draw_Turn.calls _ _ l0 _ _ l1 _ _ l2 t175 t176 _ ?side1 ?side2 ?side3 ?side4 ?side5 ?side6 A7.out).mono ?_); (case side1 => repeat (first | exact (Kd.C_below HR0.out HB.out) | (with_reducible refine cA ?_ _) | (with_reducible refine cB ?_ _) | (with_reducible refine cC ?_))); (case side2 => exact HC0.out); (case side3 => repeat (first | exact (Kd.C_below HR1.out HB.out) | (with_reducible refine cA ?_ _) | (with_reducible refine cB ?_ _) | (with_reducible refine cC ?_))); (case side4 => exact HC1.out); (case side5 => repeat (first | exact (Kd.C_below HR2.out HB.out) | (with_reducible refine cA ?_ _) | (with_reducible refine cB ?_ _) | (with_reducible refine cC ?_))); (case side6 => exact HC2.out); rintro e w57 ⟨v177, rfl, ho0, hb⟩; refine ⟨_, rfl, ?_⟩; have n0_ := mA (Kd.R_below (by (with_reducible repeat (first | apply rA | apply rB | apply rC)); exact HO174.out) hb); have n1_ := mA (rW ho0 (bZ (by repeat (first | (with_reducible first | exact HB.out | apply bA | apply bB | apply bC) | exact HB.out)))); have n2_ := mA (bS (by repeat (first | (with_reducible first | exact HB.out | apply bA | apply bB | apply bC) | exact HB.out)) hb); clear HO174; clear HB; have HO174 := n0_; have HO178 := n1_; have HB := n2_; clear n0_ n1_ n2_; (try clear hb); (try clear hb2); (try clear hk); (try clear hi); (try clear ho0)))
    go_ret
    exact ⟨by first | rfl | (simp [errW_none, errW_some] <;> rfl) | (simp [*, errW_none, errW_some] <;> rfl), by repeat (first | (with_reducible first | exact HB.out | apply bA | apply bB | apply bC) | exact HB.out)⟩
   ·rw [if_neg c54] at H
    have c54b0 : (t176 == t172) = false := beq_eq_false_iff_ne.mpr c54
    have c54b1 : (t176 != t172) = true := bne_iff_ne.mpr c54
    by_cases c58 : t176 = 2
    ·rw [if_pos c58] at H
     have c58b0 : (t176 == 2) = true := beq_iff_eq.mpr c58
     have c58b1 : (t176 != 2) = false := bne_eq_false_iff_eq.mpr c58
     clear c58
     obtain rfl := Option.some.inj H
     simp only [Option.some.injEq, Prod.mk.injEq] at H
     obtain ⟨rfl⟩ := H
     go_enter Try.func5, Try.ntmps5
     go_wp2_with (first | ((with_reducible refine gate_callee (f := 10) rfl ?_); refine goesL_ (some 21) rfl rfl Try.func10 (by kernel_rfl) rfl #[] rfl (by (try simp only [List.map_toArray, List.map_cons, List.map_nil]); first | done | rfl | (simp only [List.length_drop, List.length_take]; rfl)) ?_; (with_reducible refine (churnlaw10_alive.calls  true _ A4.out).mono ?_); rintro e w59 ⟨rfl, hb⟩; refine ⟨_, rfl, ?_⟩; have n0_ := mA (bS (by repeat (first | (with_reducible first | exact HB.out | apply bA | apply bB | apply bC) | exact HB.out)) hb); clear HB; have HB := n0_; clear n0_; (try clear hb); (try clear hb2); (try clear hk); (try clear hi)) | ((with_reducible refine gate_callee (f := 12) rfl ?_); refine goesL_ (some 26) rfl rfl Try.func12 (by kernel_rfl) rfl #[.slice A0 l0.length c0, .slice A1 l1.length c1] rfl (by (try simp only [List.map_toArray, List.map_cons, List.map_nil]); first | done | rfl | (simp only [List.length_drop, List.length_take]; rfl)) ?_; (with_reducible refine (draw_All.calls _ _ l0 _ _ l1 t170 t171 t172 _ ?side1 ?side2 ?side3 ?side4 A6.out).mono ?_); (case side1 => repeat (first | exact (Kd.C_below HR0.out HB.out) | (with_reducible refine cA ?_ _) | (with_reducible refine cB ?_ _) | (with_reducible refine cC ?_))); (case side2 => exact HC0.out); (case side3 => repeat (first | exact (Kd.C_below HR1.out HB.out) | (with_reducible refine cA ?_ _) | (with_reducible refine cB ?_ _) | (with_reducible refine cC ?_))); (case side4 => exact HC1.out); rintro e w60 ⟨v173, rfl, ho0, hb⟩; refine ⟨_, rfl, ?_⟩; have n0_ := mA (rW ho0 (bZ (by repeat (first | (with_reducible first | exact HB.out | apply bA | apply bB | apply bC) | exact HB.out)))); have n1_ := mA (bS (by repeat (first | (with_reducible first | exact HB.out | apply bA | apply bB | apply bC) | exact HB.out)) hb); clear HB; have HO174 := n0_; have HB := n1_; clear n0_ n1_; (try clear hb); (try clear hb2); (try clear hk); (try clear hi); (try clear ho0)) | ((with_reducible refine gate_callee (f := 15) rfl ?_); refine goesL_ (some 34) rfl rfl Try.func15 (by kernel_rfl) rfl #[.slice A0 l0.length c0, .slice A1 l1.length c1, .slice A2 l2.length c2] rfl (by (try simp only [List.map_toArray, List.map_cons, List.map_nil]); first | done | rfl | (simp only [List.length_drop, List.length_take]; rfl)) ?_; (with_reducible refine (draw_Turn.calls _ _ l0 _ _ l1 _ _ l2 t175 t176 _ ?side1 ?side2 ?side3 ?side4 ?side5 ?side6 A7.out).mono ?_); (case side1 => repeat (first | exact (Kd.C_below HR0.out HB.out) | (with_reducible refine cA ?_ _) | (with_reducible refine cB ?_ _) | (with_reducible refine cC ?_))); (case side2 => exact HC0.out); (case side3 => repeat (first | exact (Kd.C_below HR1.out HB.out) | (with_reducible refine cA ?_ _) | (with_reducible refine cB ?_ _) | (with_reducible refine cC ?_))); (case side4 => exact HC1.out); (case side5 => repeat (first | exact (Kd.C_below HR2.out HB.out) | (with_reducible refine cA ?_ _) | (with_reducible refine cB ?_ _) | (with_reducible refine cC ?_))); (case side6 => exact HC2.out); rintro e w61 ⟨v177, rfl, ho0, hb⟩; refine ⟨_, rfl, ?_⟩; have n0_ := mA (Kd.R_below (by (with_reducible repeat (first | apply rA | apply rB | apply rC)); exact HO174.out) hb); have n1_ := mA (rW ho0 (bZ (by repeat (first | (with_reducible first | exact HB.out | apply bA | apply bB | apply bC) | exact HB.out)))); have n2_ := mA (bS (by repeat (first | (with_reducible first | exact HB.out | apply bA | apply bB | apply bC) | exact HB.out)) hb); clear HO174; clear HB; have HO174 := n0_; have HO178 := n1_; have HB := n2_; clear n0_ n1_ n2_; (try clear hb); (try clear hb2); (try clear hk); (try clear hi); (try clear ho0); obtain ⟨Ao62, co62, eo62⟩ := Kd.R_slice HO178.out; subst eo62))
     go_ret
     exact ⟨by first | rfl | (simp [errW_none, errW_some] <;> rfl) | (simp [*, errW_none, errW_some] <;> rfl), by repeat (first | (with_reducible first | exact HB.out | apply bA | apply bB | apply bC) | exact HB.out)⟩
    ·rw [if_neg c58] at H
     have c58b0 : (t176 == 2) = false := beq_eq_false_iff_ne.mpr c58
     have c58b1 : (t176 != 2) = true := bne_iff_ne.mpr c58
     obtain rfl := Option.some.inj H
     exact absurd HR_.out (by decide)
 ·replace c5 := Bool.eq_false_iff.mpr c5
  subst c5
  have H1 : (some false) = some r := by rw [if_neg (show ¬ (false = true) by decide)] at H; exact H
  clear H
  have H := H1
  clear H1
  obtain rfl := Option.some.inj H
  exact absurd HR_.out (by decide)

/-- THE ONE PURE STATEMENT of churnlaw10_DrawEven: yours. -/
def churnlaw10_DrawEven.Pure : Prop := ∀ (l0 : List Int) (l1 : List Int) (l2 : List Int), l0.length ≤ maxLen → l0.length * 1 ≤ 140737488351232 → (∀ x ∈ l0, (Lit.int .u8 x).wf = true) → l1.length ≤ maxLen → l1.length * 8 ≤ 140737488351232 → (∀ x ∈ l1, (Lit.int .i64 x).wf = true) → l2.length ≤ maxLen → l2.length * 8 ≤ 140737488351232 → (∀ x ∈ l2, (Lit.int .i64 x).wf = true) → ∃ k, churnlaw10_DrawEven.f k l0 l1 l2 = some true
theorem churnlaw10_DrawEven.walk (P : churnlaw10_DrawEven.Pure) (a0 : Option Addr) (len0 cap0 : Nat) (z0 : List Int) (a1 : Option Addr) (len1 cap1 : Nat) (z1 : List Int) (a2 : Option Addr) (len2 cap2 : Nat) (z2 : List Int) (w : World) (w0 : (a0 = none ∧ len0 = 0 ∧ cap0 = 0 ∧ z0 = []) ∨ ∃ x, a0 = some x ∧ len0 ≤ cap0 ∧ cap0 ≤ maxLen ∧ z0.length = cap0 ∧ (∀ i, i < z0.length → w.cell? (x.add i) = some (.int .u8 (z0.getD i 0))) ∧ ∀ n ∈ z0, (Lit.int .u8 n).wf = true) (y0 : len0 * 1 ≤ 140737488351232) (w1 : (a1 = none ∧ len1 = 0 ∧ cap1 = 0 ∧ z1 = []) ∨ ∃ x, a1 = some x ∧ len1 ≤ cap1 ∧ cap1 ≤ maxLen ∧ z1.length = cap1 ∧ (∀ i, i < z1.length → w.cell? (x.add i) = some (.int .i64 (z1.getD i 0))) ∧ ∀ n ∈ z1, (Lit.int .i64 n).wf = true) (y1 : len1 * 8 ≤ 140737488351232) (w2 : (a2 = none ∧ len2 = 0 ∧ cap2 = 0 ∧ z2 = []) ∨ ∃ x, a2 = some x ∧ len2 ≤ cap2 ∧ cap2 ≤ maxLen ∧ z2.length = cap2 ∧ (∀ i, i < z2.length → w.cell? (x.add i) = some (.int .i64 (z2.getD i 0))) ∧ ∀ n ∈ z2, (Lit.int .i64 n).wf = true) (y2 : len2 * 8 ≤ 140737488351232) :
  Calls Try.prog 5 #[.slice a0 len0 cap0, .slice a1 len1 cap1, .slice a2 len2 cap2] w fun e w' => e = .returned (.bool true) ∧ Below w.heap.size w w' := by
 obtain ⟨l0, rfl, hr0, hm0, hw0, hc0⟩ := ReadsInt.ofRowC w0
 obtain ⟨l1, rfl, hr1, hm1, hw1, hc1⟩ := ReadsInt.ofRowC w1
 obtain ⟨l2, rfl, hr2, hm2, hw2, hc2⟩ := ReadsInt.ofRowC w2
 obtain ⟨k, h⟩ := P l0 l1 l2 hm0 y0 hw0 hm1 y1 hw1 hm2 y2 hw2
 refine (churnlaw10_DrawEven.calls k _ _ l0 _ _ l1 _ _ l2 true w (Kd.C_of_reads (d := (0 : Int)) (h1 := fun _ => rfl) hr0) hc0 (Kd.C_of_reads (d := (0 : Int)) (h1 := fun _ => rfl) hr1) hc1 (Kd.C_of_reads (d := (0 : Int)) (h1 := fun _ => rfl) hr2) hc2 rfl h).mono ?_
 rintro e w' ⟨rfl, hd⟩
 exact ⟨rfl, hd⟩

end Go.Proofs.Ytijnmfdpdjblbaa.Q
