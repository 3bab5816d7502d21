/- Functions of the program as plain Lean functions, each with a proof that its call comes to just these answers, and the row that joins them to the given statement; no condition beside the statement's own. Written for this claim by this session's programs (pf.py, pack.py) over the kit's print. -/
import Derived.Test.YthkcadmjfkcbgaaZFrameFeeds0
import Derived.Test.YthkcadmjfkcbgaaZFrameFeeds1
import Derived.Test.YthkcadmjfkcbgaaZFrameFeeds2
import Derived.Test.YthkcadmjfkcbgaaZFrameFeeds3
import Derived.Test.YthkcadmjfkcbgaaZFrameFeeds4
section
namespace Go.Proofs.Ythkcadmjfkcbgaa.Q
open Go.RowKit Go.Proofs.YthkcadmjfkcbgaaW.PrintWords Go.Proofs.YthkcadmjfkcbgaaW.PrintLast Go.Proofs.YthkcadmjfkcbgaaW.PrintMore
attribute [local go_sem] max2_int min2_int max_two min_two max_three min_three max_four min_four
set_option linter.unusedVariables false
set_option linter.unusedSimpArgs false
def churnlaw06_awake.f (k : Nat)  : Option (Bool) := (frame_Pack.f k 7 1 2 ([] : List (List Int))).bind fun bt157 => ((frame_Read.f bt157.1).bind fun bt161 => (if bt157.2 = 0 then (if bt161.2.2.2.2.2 = 0 then (if (bt157.1.length : Int) = 28 then (if 24 < (bt157.1.length : Int) then (if (rd bt157.1 24) = 26 then (if bt161.1 = 7 then (some (bt161.2.2.1 == 2)) else (some false)) else (some false)) else (none)) else (some false)) else (some false)) else (some false)))
set_option maxHeartbeats 8000000 in
set_option maxRecDepth 100000 in
theorem churnlaw06_awake.calls (k : Nat)  (r : Bool) (w : World) (hr_ : r = true) (h : churnlaw06_awake.f k  = some r) :
    Calls Try.prog 10 #[] w fun e w' => e = .returned (.bool r) ∧ Below w.heap.size w w' := by
  have HR_ := Aside0.mk hr_
  clear hr_
  have hu23 := Try.underlying23
  have hu26 := Try.underlying26
  have HB := Aside0.mk (Below.refl w.heap.size w)
  have H : ((frame_Pack.f k 7 1 2 ([] : List (List Int))).bind fun bt157 => ((frame_Read.f bt157.1).bind fun bt161 => (if bt157.2 = 0 then (if bt161.2.2.2.2.2 = 0 then (if (bt157.1.length : Int) = 28 then (if 24 < (bt157.1.length : Int) then (if (rd bt157.1 24) = 26 then (if bt161.1 = 7 then (some (bt161.2.2.1 == 2)) else (some false)) else (some false)) else (none)) else (some false)) else (some false)) else (some false)))) = some r := h
  clear h
  replace H := Option.bind_eq_some_iff.mp H
  obtain ⟨⟨t157, t160⟩, A10, H⟩ := H
  replace H : ((frame_Read.f t157).bind fun bt161 => (if t160 = 0 then (if bt161.2.2.2.2.2 = 0 then (if (t157.length : Int) = 28 then (if 24 < (t157.length : Int) then (if (rd t157 24) = 26 then (if bt161.1 = 7 then (some (bt161.2.2.1 == 2)) else (some false)) else (some false)) else (none)) else (some false)) else (some false)) else (some false))) = some r := H
  have A1 := Aside0.mk A10
  clear A10
  replace H := Option.bind_eq_some_iff.mp H
  obtain ⟨⟨t161, t162, t163, t164, t167, t168⟩, A20, H⟩ := H
  replace H : (if t160 = 0 then (if t168 = 0 then (if (t157.length : Int) = 28 then (if 24 < (t157.length : Int) then (if (rd t157 24) = 26 then (if t161 = 7 then (some (t163 == 2)) else (some false)) else (some false)) else (none)) else (some false)) else (some false)) else (some false)) = some r := H
  have A2 := Aside0.mk A20
  clear A20
  by_cases c3 : t160 = 0
  · rw [if_pos c3] at H
    have c3b0 : (t160 == 0) = true := beq_iff_eq.mpr c3
    have c3b1 : (t160 != 0) = false := bne_eq_false_iff_eq.mpr c3
    clear c3
    by_cases c4 : t168 = 0
    · rw [if_pos c4] at H
      have c4b0 : (t168 == 0) = true := beq_iff_eq.mpr c4
      have c4b1 : (t168 != 0) = false := bne_eq_false_iff_eq.mpr c4
      clear c4
      by_cases c5 : (t157.length : Int) = 28
      · rw [if_pos c5] at H
        have c5b0 : ((t157.length : Int) == 28) = true := beq_iff_eq.mpr c5
        have c5b1 : ((t157.length : Int) != 28) = false := bne_eq_false_iff_eq.mpr c5
        clear c5
        by_cases c6 : 24 < (t157.length : Int)
        · rw [if_pos c6] at H
          have c6b0 : decide (24 < (t157.length : Int)) = true := decide_eq_true c6
          have c6b1 : decide (24 < t157.length) = true := decide_eq_true (by omega)
          clear c6
          by_cases c7 : (rd t157 24) = 26
          · rw [if_pos c7] at H
            have c7b0 : ((rd t157 24) == 26) = true := beq_iff_eq.mpr c7
            have c7b1 : ((rd t157 24) != 26) = false := bne_eq_false_iff_eq.mpr c7
            clear c7
            by_cases c8 : t161 = 7
            · rw [if_pos c8] at H
              have c8b0 : (t161 == 7) = true := beq_iff_eq.mpr c8
              have c8b1 : (t161 != 7) = false := bne_eq_false_iff_eq.mpr c8
              clear c8
              obtain rfl := Option.some.inj H
              simp only [Option.some.injEq, Prod.mk.injEq] at H
              obtain ⟨rfl⟩ := H
              go_enter Try.func10, Try.ntmps10
              go_wp2_with (first | ((with_reducible refine gate_callee (f := 14) rfl ?_); refine goesL_ (some 9) rfl rfl Try.func14 (by kernel_rfl) rfl #[.agg #[.int .i64 7, .int .i64 1, .int .i64 2, .slice none 0 0]] rfl (by (try simp only [List.map_toArray, List.map_cons, List.map_nil]); first | done | rfl | (simp only [List.length_drop, List.length_take]; rfl)) ?_; (refine (frame_Pack.calls k 7 1 2 _ _ ([] : List (List Int)) t157 t160 _ ?side1 ?side2 A1.out).mono ?_); (case side1 => exact Kd.C_nil _ _); (case side2 => exact Nat.le_refl _); rintro e w9 ⟨v158, rfl, ho0, hb⟩; refine ⟨_, rfl, ?_⟩; have n0_ := Aside0.mk (Kd.R_lower ho0 (below_size (by repeat (first | (with_reducible first | exact HB.out | apply below_alloc | apply pw_below_drewN | apply below_drew1) | exact HB.out)))); have n1_ := Aside0.mk (below_step (by repeat (first | (with_reducible first | exact HB.out | apply below_alloc | apply pw_below_drewN | apply below_drew1) | exact HB.out)) hb); clear HB; have HO159 := n0_; have HB := n1_; clear n0_ n1_; (try clear hb); (try clear hb2); (try clear hk); (try clear hi); (try clear ho0); obtain ⟨Ao10, co10, eo10⟩ := Kd.R_slice HO159.out; subst eo10) | ((with_reducible refine gate_callee (f := 18) rfl ?_); refine goesL_ (some 14) rfl rfl Try.func18 (by kernel_rfl) rfl #[.slice Ao10 t157.length co10] rfl (by (try simp only [List.map_toArray, List.map_cons, List.map_nil]); first | done | rfl | (simp only [List.length_drop, List.length_take]; rfl)) ?_; (with_reducible refine (frame_Read.calls _ _ t157 t161 t162 t163 t164 t167 t168 _ ?side1 ?side2 A2.out).mono ?_); (case side1 => repeat (first | exact (Kd.R_reads' HO159.out).2.2 | (with_reducible refine Kd.C_alloc ?_ _) | (with_reducible refine Kd.C_drewN ?_ _) | (with_reducible refine Kd.C_drew ?_))); (case side2 => exact (Kd.R_reads' HO159.out).2.1); rintro e w11 ⟨v165, rfl, ho0, hb⟩; refine ⟨_, rfl, ?_⟩; have n0_ := Aside0.mk (Kd.R_below (by (with_reducible repeat (first | apply Kd.R_alloc | apply Kd.R_drewN | apply Kd.R_drew)); exact HO159.out) hb); have n1_ := Aside0.mk (Kd.S_lower (Kd.S_new' ho0 (Kd.R_lt (by (with_reducible repeat (first | apply Kd.R_alloc | apply Kd.R_drewN | apply Kd.R_drew)); exact HO159.out))) (below_size (by repeat (first | (with_reducible first | exact HB.out | apply below_alloc | apply pw_below_drewN | apply below_drew1) | exact HB.out)))); have n2_ := Aside0.mk (below_step (by repeat (first | (with_reducible first | exact HB.out | apply below_alloc | apply pw_below_drewN | apply below_drew1) | exact HB.out)) hb); clear HO159; clear HB; have HO159 := n0_; have HO166 := n1_; have HB := n2_; clear n0_ n1_ n2_; (try clear hb); (try clear hb2); (try clear hk); (try clear hi); (try clear ho0)) | ((with_reducible refine gate_dst (N := 3) rfl ?_); (try (refine gate_guard (by rfl) ?_; dsimp only)); refine box_event ?hg (N := 3) ?hd (cs := #[.int .i64 0, .int .i64 0, .int .i64 0, .slice none 0 0]) (t := 26) ?hr ?_; (case hd => rfl); (case hg => rfl); (case hr => first | (go_simp; done) | (go_simp; rfl)); intro gb169 hg w12 hbox hb; have n0_ := Aside0.mk (Kd.R_below (by (with_reducible repeat (first | apply Kd.R_alloc | apply Kd.R_drewN | apply Kd.R_drew)); exact HO159.out) hb); have n1_ := Aside0.mk (Kd.S_below (by (with_reducible repeat (first | apply Kd.S_alloc | apply Kd.S_drewN | apply Kd.S_drew)); exact HO166.out) hb); have n2_ := Aside0.mk (below_step (by repeat (first | (with_reducible first | exact HB.out | apply below_alloc | apply pw_below_drewN | apply below_drew1) | exact HB.out)) hb); have n3_ := Aside0.mk (hbox); have n4_ := Aside0.mk ((by rw [hg]; exact (below_size (by repeat (first | (with_reducible first | exact HB.out | apply below_alloc | apply pw_below_drewN | apply below_drew1) | exact HB.out))) : w.heap.size ≤ gb169)); have n5_ := Aside0.mk ((by rw [hg]; exact (below_size (by repeat (first | (with_reducible first | exact HB.out | apply below_alloc | apply pw_below_drewN | apply below_drew1) | exact HB.out))) : w.heap.size ≤ gb169)); clear HO159; clear HO166; clear HB; have HO159 := n0_; have HO166 := n1_; have HB := n2_; have BK169 := n3_; have GW169 := n4_; have GE169 := n5_; clear n0_ n1_ n2_ n3_ n4_ n5_; clear hb hbox hg; have hcz13_0 : w12.cell? ⟨gb169, 0, none⟩ = some (.int .i64 0) := (blk_cell BK169.out 0).trans rfl; have hcz13_1 : w12.cell? ⟨gb169, 1, none⟩ = some (.int .i64 0) := (blk_cell BK169.out 1).trans rfl; have hcz13_2 : w12.cell? ⟨gb169, 2, none⟩ = some (.int .i64 0) := (blk_cell BK169.out 2).trans rfl; have hcz13_3 : w12.cell? ⟨gb169, 3, none⟩ = some (.slice none 0 0) := (blk_cell BK169.out 3).trans rfl; have hfz13_0 := blk_frozen BK169.out 0; have hfz13_1 := blk_frozen BK169.out 1; have hfz13_2 := blk_frozen BK169.out 2; have hfz13_3 := blk_frozen BK169.out 3; obtain ⟨Ao14, co14, eo14⟩ := Kd.S_slice HO166.out; subst eo14; have p170 : 0 ≤ (24 : Int) := (by omega); have q170 : 24 < (t157.length : Int) := of_decide_eq_true (by first | (with_reducible assumption) | assumption); obtain ⟨ad170, e170, hx170_0⟩ := Kd.at_int (Kd.R_reads' HO159.out).2.2 24 p170 q170; cases e170; (try simp only [show (24 : Int).toNat = 24 from rfl, Nat.reduceMul, Nat.reduceEqDiff, Go.Addr.add, ↓reduceIte] at hx170_0); have qi170 : (24 < t157.length) = True := eq_true (by omega); (try rw [show ((24 : Int)).toNat = 24 from rfl] at hx170_0); have hn170_0 : ad170.block ≠ gb169 := Kd.own_blk (Kd.R_ne HO159.out BK169.out (by decide)); have hn170_1 : ad170.block ≠ gb169 := Kd.own_blk (Kd.R_ne HO159.out BK169.out (by decide)); have hn170_2 : ad170.block ≠ gb169 := Kd.own_blk (Kd.R_ne HO159.out BK169.out (by decide)); have hn170_3 : ad170.block ≠ gb169 := Kd.own_blk (Kd.R_ne HO159.out BK169.out (by decide)); replace hx170_0 := (cell_far (p := ⟨gb169, 0, none⟩) (by first | (rw [add_block]; exact hn170_0) | (show (Addr.add _ _).block ≠ _; rw [add_block]; exact hn170_0) | exact hn170_0) (.int .i64 t161)).trans hx170_0; replace hx170_0 := (cell_far (p := ⟨gb169, 1, none⟩) (by first | (rw [add_block]; exact hn170_1) | (show (Addr.add _ _).block ≠ _; rw [add_block]; exact hn170_1) | exact hn170_1) (.int .i64 t162)).trans hx170_0; replace hx170_0 := (cell_far (p := ⟨gb169, 2, none⟩) (by first | (rw [add_block]; exact hn170_2) | (show (Addr.add _ _).block ≠ _; rw [add_block]; exact hn170_2) | exact hn170_2) (.int .i64 t163)).trans hx170_0; replace hx170_0 := (cell_far (p := ⟨gb169, 3, none⟩) (by first | (rw [add_block]; exact hn170_3) | (show (Addr.add _ _).block ≠ _; rw [add_block]; exact hn170_3) | exact hn170_3) (.slice Ao14 t164.length co14)).trans hx170_0; clear hn170_0; clear hn170_1; clear hn170_2; clear hn170_3; replace p170 := eq_true p170; replace q170 := eq_true q170))
              go_ret
              exact ⟨by first | rfl | (simp [errW_none, errW_some] <;> rfl) | (simp [*, errW_none, errW_some] <;> rfl), by repeat (first | (with_reducible first | exact HB.out | apply below_alloc | apply pw_below_drewN | apply below_drew1 | refine below_set ?_ GE169.out) | exact HB.out)⟩
            · rw [if_neg c8] at H
              have c8b0 : (t161 == 7) = false := beq_eq_false_iff_ne.mpr c8
              have c8b1 : (t161 != 7) = true := bne_iff_ne.mpr c8
              obtain rfl := Option.some.inj H
              exact absurd HR_.out (by decide)
          · rw [if_neg c7] at H
            have c7b0 : ((rd t157 24) == 26) = false := beq_eq_false_iff_ne.mpr c7
            have c7b1 : ((rd t157 24) != 26) = true := bne_iff_ne.mpr c7
            obtain rfl := Option.some.inj H
            exact absurd HR_.out (by decide)
        · rw [if_neg c6] at H
          exact absurd H (by simp)
      · rw [if_neg c5] at H
        have c5b0 : ((t157.length : Int) == 28) = false := beq_eq_false_iff_ne.mpr c5
        have c5b1 : ((t157.length : Int) != 28) = true := bne_iff_ne.mpr c5
        obtain rfl := Option.some.inj H
        exact absurd HR_.out (by decide)
    · rw [if_neg c4] at H
      have c4b0 : (t168 == 0) = false := beq_eq_false_iff_ne.mpr c4
      have c4b1 : (t168 != 0) = true := bne_iff_ne.mpr c4
      obtain rfl := Option.some.inj H
      exact absurd HR_.out (by decide)
  · rw [if_neg c3] at H
    have c3b0 : (t160 == 0) = false := beq_eq_false_iff_ne.mpr c3
    have c3b1 : (t160 != 0) = true := bne_iff_ne.mpr c3
    obtain rfl := Option.some.inj H
    exact absurd HR_.out (by decide)
def churnlaw06_great.l0 : Nat → Int → List (List Int) → Int → Int → Option (Bool)
  | 0, _, _, _, _ => none
  | k + 1, x3, x6, x7, x8 => if x8 < x7 then (if 0 ≤ x8 then (if x8 < (x6.length : Int) then (if (wrap64 (x3 + (wrap64 (((rd_L1 x6 x8).length : Int) + 1)))) > 2097152 then (some true) else (churnlaw06_great.l0 k (wrap64 (x3 + (wrap64 (((rd_L1 x6 x8).length : Int) + 1)))) x6 x7 (wrap64 (x8 + 1)))) else (none)) else (none)) else (some false)
def churnlaw06_great.f (k : Nat) (l0 : List (List Int)) : Option (Bool) := churnlaw06_great.l0 k 0 l0 (l0.length : Int) 0
set_option maxHeartbeats 8000000 in
set_option maxRecDepth 100000 in
theorem churnlaw06_great.calls (k : Nat) (A0 : Option Addr) (c0 : Nat) (l0 : List (List Int)) (r : Bool) (w : World) (hr0 : Kd.C (Kd.slice 5 (Kd.int .u8)) w A0 l0.length l0) (hc0 : l0.length ≤ c0) (h : churnlaw06_great.f k l0 = some r) :
    Calls Try.prog 11 #[.slice A0 l0.length c0] w fun e w' => e = .returned (.bool r) ∧ Drawn0 w w' := by
  have HR0 := Aside0.mk hr0
  have HC0 := Aside0.mk hc0
  clear hr0 hc0
  have H : (churnlaw06_great.l0 k 0 l0 (l0.length : Int) 0) = some r := h
  clear h
  have H' := Aside0.mk H
  clear H
  go_enter Try.func11, Try.ntmps11
  go_wp2
  go_loopg [3, 8] k (fun kq v3 v8 w' => ∃ (x3_1 : Int) (x8_1 : Int), v3 = .int .i64 x3_1 ∧ v8 = .int .i64 x8_1 ∧ Aside0 (churnlaw06_great.l0 kq x3_1 l0 (l0.length : Int) x8_1 = some r) ∧ Aside0 (kq ≤ k) ∧ Drawn0 w w')
  case atStart => exact ⟨(0), (0), (by first | rfl | (simp; done) | (simp [*]; done)), (by first | rfl | (simp; done) | (simp [*]; done)), H', ⟨Nat.le_refl _⟩, by repeat (first | exact Drawn0.refl _ | apply Drawn0.step)⟩
  case round =>
    clear H'
    try clear c1
    obtain ⟨x3_1, x8_1, rfl, rfl, HA, HK1, ⟨m1, rfl⟩⟩ := hrel
    cases gk with
    | zero => exact absurd HA.out (by simp [churnlaw06_great.l0])
    | succ k1 =>
      have H := HA.out
      clear HA
      simp only [churnlaw06_great.l0] at H
      by_cases c2 : x8_1 < (l0.length : Int)
      · rw [if_pos c2] at H
        have c2b0 : decide (x8_1 < (l0.length : Int)) = true := decide_eq_true c2
        clear c2
        by_cases c3 : 0 ≤ x8_1
        · rw [if_pos c3] at H
          have c3b0 : decide (0 ≤ x8_1) = true := decide_eq_true c3
          clear c3
          by_cases c4 : x8_1 < (l0.length : Int)
          · rw [if_pos c4] at H
            have c4b0 : decide (x8_1 < (l0.length : Int)) = true := decide_eq_true c4
            clear c4
            by_cases c5 : (wrap64 (x3_1 + (wrap64 (((rd_L1 l0 x8_1).length : Int) + 1)))) > 2097152
            · rw [if_pos c5] at H
              have c5b0 : decide (2097152 < (wrap64 (x3_1 + (wrap64 (((rd_L1 l0 x8_1).length : Int) + 1))))) = true := decide_eq_true c5
              clear c5
              obtain rfl := Option.some.inj H
              simp only [Option.some.injEq, Prod.mk.injEq] at H
              obtain ⟨rfl⟩ := H
              have p171 : 0 ≤ (x8_1 : Int) := of_decide_eq_true (by first | (with_reducible assumption) | assumption)
              have q171 : x8_1 < (l0.length : Int) := of_decide_eq_true (by first | (with_reducible assumption) | assumption)
              obtain ⟨ad171, A171_0, c171_0, e171, hx171_0, hl171_0, hi171_0⟩ := at_L1 HR0.out x8_1 p171 q171
              cases e171
              have HR171_0 := Aside0.mk hi171_0
              have HC171_0 := Aside0.mk hl171_0
              clear hi171_0 hl171_0
              replace p171 := eq_true p171
              replace q171 := eq_true q171
              go_wp2
              go_ret
              exact ⟨by first | rfl | (simp; done) | (simp [*]; done), by repeat (first | exact Drawn0.refl _ | apply Drawn0.step)⟩
            · rw [if_neg c5] at H
              have c5b0 : decide (2097152 < (wrap64 (x3_1 + (wrap64 (((rd_L1 l0 x8_1).length : Int) + 1))))) = false := decide_eq_false c5
              clear c5
              have H' := Aside0.mk H
              clear H
              have p171 : 0 ≤ (x8_1 : Int) := of_decide_eq_true (by first | (with_reducible assumption) | assumption)
              have q171 : x8_1 < (l0.length : Int) := of_decide_eq_true (by first | (with_reducible assumption) | assumption)
              obtain ⟨ad171, A171_0, c171_0, e171, hx171_0, hl171_0, hi171_0⟩ := at_L1 HR0.out x8_1 p171 q171
              cases e171
              have HR171_0 := Aside0.mk hi171_0
              have HC171_0 := Aside0.mk hl171_0
              clear hi171_0 hl171_0
              replace p171 := eq_true p171
              replace q171 := eq_true q171
              go_wp2
              go_roundg k1
              case measure => have := HK1.out; omega
              case rel => exact ⟨(wrap64 (x3_1 + (wrap64 (((rd_L1 l0 x8_1).length : Int) + 1)))), (wrap64 (x8_1 + 1)), (by first | rfl | (simp; done) | (simp [*]; done)), (by first | rfl | (simp; done) | (simp [*]; done)), H', ⟨by have := HK1.out; omega⟩, by repeat (first | exact Drawn0.refl _ | apply Drawn0.step)⟩
          · rw [if_neg c4] at H
            exact absurd H (by simp)
        · rw [if_neg c3] at H
          exact absurd H (by simp)
      · rw [if_neg c2] at H
        have c2b0 : decide (x8_1 < (l0.length : Int)) = false := decide_eq_false c2
        clear c2
        obtain rfl := Option.some.inj H
        simp only [Option.some.injEq, Prod.mk.injEq] at H
        obtain ⟨rfl⟩ := H
        go_wp2
        go_ret
        exact ⟨by first | rfl | (simp; done) | (simp [*]; done), by repeat (first | exact Drawn0.refl _ | apply Drawn0.step)⟩
def churnlaw06_same.f (l0 : List Int) (l1 : List Int) : Option (Bool) := some ((strOfNums l0).toList == (strOfNums l1).toList)
set_option maxHeartbeats 8000000 in
set_option maxRecDepth 100000 in
theorem churnlaw06_same.calls (A0 : Option Addr) (c0 : Nat) (l0 : List Int) (A1 : Option Addr) (c1 : Nat) (l1 : List Int) (r : Bool) (w : World) (hr0 : Kd.C (Kd.int .u8) w A0 l0.length l0) (hc0 : l0.length ≤ c0) (hr1 : Kd.C (Kd.int .u8) w A1 l1.length l1) (hc1 : l1.length ≤ c1) (h : churnlaw06_same.f l0 l1 = some r) :
    Calls Try.prog 15 #[.slice A0 l0.length c0, .slice A1 l1.length c1] w fun e w' => e = .returned (.bool r) ∧ Drawn0 w w' := by
  have HR0 := Aside0.mk hr0
  have HC0 := Aside0.mk hc0
  clear hr0 hc0
  have HR1 := Aside0.mk hr1
  have HC1 := Aside0.mk hc1
  clear hr1 hc1
  have H : (some ((strOfNums l0).toList == (strOfNums l1).toList)) = some r := h
  clear h
  obtain rfl := Option.some.inj H
  simp only [Option.some.injEq, Prod.mk.injEq] at H
  obtain ⟨rfl⟩ := H
  have hcv3 := Kd.C_string (P := Try.prog) (A := A0) (c := c0) Try.underlying30 Try.underlying5 Try.underlying9 HR0.out
  have hcv4 := Kd.C_string (P := Try.prog) (A := A1) (c := c1) Try.underlying30 Try.underlying5 Try.underlying9 HR1.out
  go_enter Try.func15, Try.ntmps15
  go_wp2
  go_ret
  exact ⟨by first | rfl | (simp; done) | (simp [*]; done), by repeat (first | exact Drawn0.refl _ | apply Drawn0.step)⟩
end Go.Proofs.Ythkcadmjfkcbgaa.Q
end
section
set_option linter.unusedVariables false
set_option linter.unusedSimpArgs false
namespace Go.Proofs.Ythkcadmjfkcbgaa.Q
open Go.RowKit Go.Proofs.YthkcadmjfkcbgaaW.PrintWords Go.Proofs.YthkcadmjfkcbgaaW.PrintLast Go.Proofs.YthkcadmjfkcbgaaW.PrintMore Go.Proofs.Ythkcadmjfkcbgaa.Pl
def enc (R E L : Int) (cs : List (List Int)) : List Int := (((([67, 72, 82, 78, 1, L] ++ be cs.length 2) ++ be R 8) ++ be E 8))
def fitsF (R E L : Int) : Bool := decide (0 ≤ L ∧ L ≤ 8 ∧ 0 ≤ R ∧ R ≤ 4611686018427387903 ∧ 0 ≤ E ∧ E ≤ 4611686018427387904)
def packF (R E L : Int) (cs : List (List Int)) : List Int × Int :=
  if fitsF R E L = true then (if cs.length > 256 then ([], 63) else packL (enc R E L cs) cs) else ([], 62)
theorem enc_len (R E L : Int) (cs : List (List Int)) : (enc R E L cs).length = 24 := by simp [enc, be_len]
theorem u64nn (x : Int) (h0 : 0 ≤ x) (h1 : x < 9223372036854775808) : IntKind.u64.wrap x = x := by
  have h : (2 : Int) ^ 64 = 18446744073709551616 := by decide
  exact wru64' x h0 (by rw [h]; omega)
theorem enc_bys (R E L : Int) (cs : List (List Int)) (h0 : 0 ≤ L) (h1 : L ≤ 8) : Bys (enc R E L cs) := by
  refine (((Bys.append ?_ (be_bys _ _)).append (be_bys _ _)).append (be_bys _ _))
  intro x hx
  simp at hx
  omega
theorem pack_l0 (cs : List (List Int)) (hcs : ∀ c ∈ cs, Bys c) (hn : cs.length ≤ 256) : ∀ (d i : Nat) (p : List Int), i + d = cs.length → Bys p → p.length + 322 * d ≤ 1000000 →
    Ev (fun k => frame_Pack.l0 k p cs (cs.length : Int) (i : Int)) (packL p (cs.drop i))
  | 0, i, p, hi, hp, hl => by
    refine Ev.step (f := fun k => ((frame_sum_add.f k 1 0 p).bind fun bt139 => ((frame_sum_foot.f bt139.1 bt139.2).bind fun t141 => ((frame_number.f k p (IntKind.u64.wrap (t141)) 4).bind fun t142 => (some (t142, 0)))))) (fun k => by simp only [frame_Pack.l0]; rw [if_neg (by omega)]) ?_
    rw [List.drop_of_length_le (by omega)]
    obtain ⟨a, b, c, d⟩ := sumL_range p 1 0 (by omega) (by omega) (by omega) (by omega)
    have hf := footV_range p
    refine ev_bind (sum_ev p hp (by omega)) (ev_bind0 (foot_eq _ _ a b c d) (ev_bind (a := p ++ be (footV p) 4) ?_ (ev_some (by simp [packL, encC]))))
    have e : IntKind.u64.wrap ((sumL 1 0 p).2 * 65536 + (sumL 1 0 p).1) = footV p := u64nn _ hf.1 (by have := hf.2; unfold footV at this; omega)
    rw [e]
    exact number_ev p (footV p) 4 (by omega) (by omega)
  | d + 1, i, p, hi, hp, hl => by
    have hlt : i < cs.length := by omega
    rw [drop_L cs i hlt]
    by_cases h320 : cs[i].length = 320
    · rw [packL_cons _ _ _ h320]
      refine Ev.step (f := fun k => (frame_number.f k p 320 2).bind fun t133 => (if t133.length + (cs[i]).length < 140737488355328 then (frame_Pack.l0 k (t133 ++ cs[i]) cs (cs.length : Int) ((i + 1 : Nat) : Int)) else (none))) (fun k => ?_) ?_
      · simp only [frame_Pack.l0]
        rw [if_pos (by omega), if_pos (by omega), if_pos (by omega), rdL_nat cs i hlt, if_pos (by omega), show wrap64 ((i : Int) + 1) = ((i + 1 : Nat) : Int) from by rw [w64 (by omega) (by omega)]; rfl]
      · refine ev_bind (number_ev p 320 2 (by omega) (by omega)) (ev_pos (by simp [be_len]; omega) (pack_l0 cs hcs hn d (i + 1) _ (by omega) ((hp.append (be_bys _ _)).append (hcs _ (List.getElem_mem hlt))) ?_))
        simp only [List.length_append, be_len, h320]; omega
    · refine Ev.step (f := fun k => some ([], 64)) (fun k => ?_) (ev_some ?_)
      · simp only [frame_Pack.l0]
        rw [if_pos (by omega), if_pos (by omega), if_pos (by omega), rdL_nat cs i hlt, if_neg (by omega)]
      · unfold packL
        rw [if_neg (by rw [List.all_cons, decide_eq_false h320]; simp)]
theorem fits_eq (R E L : Int) : frame_fits.f R E L = some (fitsF R E L) := by
  unfold frame_fits.f fitsF
  by_cases h1 : L ≥ 0
  · rw [if_pos h1]
    by_cases h2 : L ≤ 8
    · rw [if_pos h2]
      by_cases h3 : R ≥ 0
      · rw [if_pos h3]
        by_cases h4 : R ≤ 4611686018427387903
        · rw [if_pos h4]
          by_cases h5 : E ≥ 0
          · rw [if_pos h5]
            congr 1
            by_cases h6 : E ≤ 4611686018427387904
            · rw [decide_eq_true h6, decide_eq_true ⟨h1, h2, h3, h4, h5, h6⟩]
            · rw [decide_eq_false h6, decide_eq_false (by omega)]
          · rw [if_neg h5, decide_eq_false (by omega)]
        · rw [if_neg h4, decide_eq_false (by omega)]
      · rw [if_neg h3, decide_eq_false (by omega)]
    · rw [if_neg h2, decide_eq_false (by omega)]
  · rw [if_neg h1, decide_eq_false (by omega)]
theorem pack_ev (R E L : Int) (cs : List (List Int)) (hcs : ∀ c ∈ cs, Bys c) (hR : -9223372036854775808 ≤ R ∧ R ≤ 9223372036854775807) (hc : cs.length ≤ 9223372036854775807) : Ev (fun k => frame_Pack.f k R E L cs) (packF R E L cs) := by
  unfold frame_Pack.f packF
  refine ev_bind0 (fits_eq R E L) ?_
  cases hf : fitsF R E L with
  | false =>
    simp only [Bool.false_eq_true, if_false]
    exact Ev.now _
  | true =>
    have hfi : 0 ≤ L ∧ L ≤ 8 ∧ 0 ≤ R ∧ R ≤ 4611686018427387903 ∧ 0 ≤ E ∧ E ≤ 4611686018427387904 := by unfold fitsF at hf; exact of_decide_eq_true hf
    refine ev_pos rfl ?_
    rw [if_pos rfl]
    by_cases h256 : cs.length > 256
    · rw [if_pos h256]
      exact ev_pos (by omega) (Ev.now _)
    · rw [if_neg h256]
      have w1 : wrap64 ((wrap64 (24 + (wrap64 ((cs.length : Int) * 322)))) + 4) = 28 + (cs.length : Int) * 322 := by
        rw [show wrap64 ((cs.length : Int) * 322) = (cs.length : Int) * 322 from w64 (by omega) (by omega), show wrap64 (24 + (cs.length : Int) * 322) = 24 + (cs.length : Int) * 322 from w64 (by omega) (by omega), w64 (by omega) (by omega)]
        omega
      rw [w1]
      refine ev_neg (by omega) (ev_pos (by omega) (ev_pos (by omega) (ev_bind0 rfl (ev_pos (by simp) (ev_bind0 rfl (ev_bind0 rfl (ev_pos (by simp [bytesOf]) ?_)))))))
      have e0 : ([] : List Int) ++ bytesOf (⟨#[67, 72, 82, 78]⟩ : ByteArray) ++ [1, L % 256] = [67, 72, 82, 78, 1, L] := by
        rw [show L % 256 = L from by omega]; rfl
      rw [e0, u64nn (cs.length : Int) (by omega) (by omega), u64nn R (by omega) (by omega), u64nn E (by omega) (by omega)]
      have b0 : Bys ([67, 72, 82, 78, 1, L] : List Int) := by intro x hx; simp at hx; omega
      refine ev_bind (number_ev _ _ 2 (by omega) (by simp)) (ev_bind (number_ev _ _ 8 (by omega) (by simp [be_len])) (ev_bind (number_ev _ _ 8 (by omega) (by simp [be_len])) ?_))
      have := pack_l0 cs hcs (by omega) cs.length 0 (enc R E L cs) (by omega) (enc_bys R E L cs (by omega) (by omega)) (by rw [enc_len]; omega)
      rw [List.drop_zero] at this
      exact this
theorem bys_all {l : List Int} (h : Bys l) : (l.all fun x => decide (0 ≤ x ∧ x ≤ 255)) = true := List.all_eq_true.2 fun x hx => decide_eq_true (h x hx)
theorem Read_eq (l : List Int) (h : Bys l) (hl : l.length ≤ 140737488355328) : frame_Read.f l = some (rdF l) := by
  unfold frame_Read.f
  rw [if_pos ⟨bys_all h, hl⟩]
theorem awake_ev : Ev (fun k => churnlaw06_awake.f k) true := by
  unfold churnlaw06_awake.f
  have hp : packF 7 1 2 [] = ([67, 72, 82, 78, 1, 2, 0, 0, 0, 0, 0, 0, 0, 0, 0, 7, 0, 0, 0, 0, 0, 0, 0, 1, 26, 196, 1, 55], 0) := by decide +kernel
  have hr : rdF [67, 72, 82, 78, 1, 2, 0, 0, 0, 0, 0, 0, 0, 0, 0, 7, 0, 0, 0, 0, 0, 0, 0, 1, 26, 196, 1, 55] = (7, 1, 2, [], 0, 0) := by decide +kernel
  have h := pack_ev 7 1 2 [] (by simp) (by omega) (by simp)
  rw [hp] at h
  refine ev_bind h (ev_bind0 (Read_eq _ (by intro x hx; simp at hx; omega) (by simp)) ?_)
  rw [hr]
  exact ev_pos rfl (ev_pos rfl (ev_pos rfl (ev_pos (by decide) (ev_pos rfl (ev_pos rfl (Ev.now _))))))
end Go.Proofs.Ythkcadmjfkcbgaa.Q
end
section
namespace Go.Proofs.Ythkcadmjfkcbgaa.Q
open Go.RowKit Go.Proofs.YthkcadmjfkcbgaaW.PrintWords Go.Proofs.YthkcadmjfkcbgaaW.PrintLast Go.Proofs.YthkcadmjfkcbgaaW.PrintMore
attribute [local go_sem] max2_int min2_int max_two min_two max_three min_three max_four min_four
set_option linter.unusedVariables false
set_option linter.unusedSimpArgs false
def churnlaw06_sameCells.l0 : Nat → List (List Int) → List (List Int) → Int → Int → Option (Bool)
  | 0, _, _, _, _ => none
  | k + 1, x0, x1, x12, x13 => if x13 < x12 then (if 0 ≤ x13 then (if x13 < (x0.length : Int) then (if x13 < (x1.length : Int) then ((churnlaw06_same.f (rd_L1 x0 x13) (rd_L1 x1 x13)).bind fun t231 => (if t231 = true then (churnlaw06_sameCells.l0 k x0 x1 x12 (wrap64 (x13 + 1))) else (some false))) else (none)) else (none)) else (none)) else (some true)
def churnlaw06_sameCells.f (k : Nat) (l0 : List (List Int)) (l1 : List (List Int)) : Option (Bool) := if (l0.length : Int) = (l1.length : Int) then (churnlaw06_sameCells.l0 k l0 l1 (l0.length : Int) 0) else (some false)
set_option maxHeartbeats 8000000 in
set_option maxRecDepth 100000 in
theorem churnlaw06_sameCells.calls (k : Nat) (A0 : Option Addr) (c0 : Nat) (l0 : List (List Int)) (A1 : Option Addr) (c1 : Nat) (l1 : List (List Int)) (r : Bool) (w : World) (hr0 : Kd.C (Kd.slice 5 (Kd.int .u8)) w A0 l0.length l0) (hc0 : l0.length ≤ c0) (hr1 : Kd.C (Kd.slice 5 (Kd.int .u8)) w A1 l1.length l1) (hc1 : l1.length ≤ c1) (h : churnlaw06_sameCells.f k l0 l1 = some r) :
    Calls Try.prog 24 #[.slice A0 l0.length c0, .slice A1 l1.length c1] w fun e w' => e = .returned (.bool r) ∧ Drawn0 w w' := by
  have HR0 := Aside0.mk hr0
  have HC0 := Aside0.mk hc0
  clear hr0 hc0
  have HR1 := Aside0.mk hr1
  have HC1 := Aside0.mk hc1
  clear hr1 hc1
  have H : (if (l0.length : Int) = (l1.length : Int) then (churnlaw06_sameCells.l0 k l0 l1 (l0.length : Int) 0) else (some false)) = some r := h
  clear h
  by_cases c3 : (l0.length : Int) = (l1.length : Int)
  · rw [if_pos c3] at H
    have c3b0 : ((l0.length : Int) == (l1.length : Int)) = true := beq_iff_eq.mpr c3
    have c3b1 : ((l0.length : Int) != (l1.length : Int)) = false := bne_eq_false_iff_eq.mpr c3
    have c3b2 : (l0.length == l1.length) = true := by first | simpa using c3 | (simp at c3 ⊢; omega)
    clear c3
    have H' := Aside0.mk H
    clear H
    go_enter Try.func24, Try.ntmps24
    go_wp2
    repeat (go_quiet (fail); try go_wp2)
    go_loopg [13] k (fun kq v13 w' => ∃ (x13_1 : Int), v13 = .int .i64 x13_1 ∧ Aside0 (churnlaw06_sameCells.l0 kq l0 l1 (l0.length : Int) x13_1 = some r) ∧ Aside0 (kq ≤ k) ∧ Drawn0 w w')
    case atStart => exact ⟨(0), (by first | rfl | (simp; done) | (simp [*]; done)), H', ⟨Nat.le_refl _⟩, by repeat (first | exact Drawn0.refl _ | apply Drawn0.step)⟩
    case round =>
      clear H'
      try clear c1
      try clear c2
      try clear p2
      try clear c3
      try clear c3b0
      try clear c3b1
      try clear c3b2
      obtain ⟨x13_1, rfl, HA, HK1, ⟨m1, rfl⟩⟩ := hrel
      cases gk with
      | zero => exact absurd HA.out (by simp [churnlaw06_sameCells.l0])
      | succ k1 =>
        have H := HA.out
        clear HA
        simp only [churnlaw06_sameCells.l0] at H
        by_cases c4 : x13_1 < (l0.length : Int)
        · rw [if_pos c4] at H
          have c4b0 : decide (x13_1 < (l0.length : Int)) = true := decide_eq_true c4
          clear c4
          by_cases c5 : 0 ≤ x13_1
          · rw [if_pos c5] at H
            have c5b0 : decide (0 ≤ x13_1) = true := decide_eq_true c5
            clear c5
            by_cases c6 : x13_1 < (l0.length : Int)
            · rw [if_pos c6] at H
              have c6b0 : decide (x13_1 < (l0.length : Int)) = true := decide_eq_true c6
              clear c6
              by_cases c7 : x13_1 < (l1.length : Int)
              · rw [if_pos c7] at H
                have c7b0 : decide (x13_1 < (l1.length : Int)) = true := decide_eq_true c7
                clear c7
                replace H := Option.bind_eq_some_iff.mp H
                obtain ⟨t231, A80, H⟩ := H
                replace H : (if t231 = true then (churnlaw06_sameCells.l0 k1 l0 l1 (l0.length : Int) (wrap64 (x13_1 + 1))) else (some false)) = some r := H
                have A8 := Aside0.mk A80
                clear A80
                by_cases c9 : t231 = true
                · subst c9
                  have H1 : (churnlaw06_sameCells.l0 k1 l0 l1 (l0.length : Int) (wrap64 (x13_1 + 1))) = some r := by rw [if_pos rfl] at H; exact H
                  clear H
                  have H := H1
                  clear H1
                  have H' := Aside0.mk H
                  clear H
                  have p229 : 0 ≤ (x13_1 : Int) := of_decide_eq_true (by first | (with_reducible assumption) | assumption)
                  have q229 : x13_1 < (l0.length : Int) := of_decide_eq_true (by first | (with_reducible assumption) | assumption)
                  obtain ⟨ad229, A229_0, c229_0, e229, hx229_0, hl229_0, hi229_0⟩ := at_L1 HR0.out x13_1 p229 q229
                  cases e229
                  have HR229_0 := Aside0.mk hi229_0
                  have HC229_0 := Aside0.mk hl229_0
                  clear hi229_0 hl229_0
                  replace p229 := eq_true p229
                  replace q229 := eq_true q229
                  have p230 : 0 ≤ (x13_1 : Int) := of_decide_eq_true (by first | (with_reducible assumption) | assumption)
                  have q230 : x13_1 < (l1.length : Int) := of_decide_eq_true (by first | (with_reducible assumption) | assumption)
                  obtain ⟨ad230, A230_0, c230_0, e230, hx230_0, hl230_0, hi230_0⟩ := at_L1 HR1.out x13_1 p230 q230
                  cases e230
                  have HR230_0 := Aside0.mk hi230_0
                  have HC230_0 := Aside0.mk hl230_0
                  clear hi230_0 hl230_0
                  replace p230 := eq_true p230
                  replace q230 := eq_true q230
                  go_wp2_with (first | (go_at_call 15; (with_reducible refine (churnlaw06_same.calls _ _ (rd_L1 l0 x13_1) _ _ (rd_L1 l1 x13_1) true _ ?side1 ?side2 ?side3 ?side4 A8.out).mono ?_); (case side1 => repeat (first | exact HR229_0.out | (with_reducible refine Kd.C_alloc ?_ _) | (with_reducible refine Kd.C_drewN ?_ _) | (with_reducible refine Kd.C_drew ?_))); (case side2 => exact HC229_0.out); (case side3 => repeat (first | exact HR230_0.out | (with_reducible refine Kd.C_alloc ?_ _) | (with_reducible refine Kd.C_drewN ?_ _) | (with_reducible refine Kd.C_drew ?_))); (case side4 => exact HC230_0.out); rintro e w' ⟨rfl, ⟨nd, rfl⟩⟩; (try first | exact ⟨rfl, _, World.drewN_drewN _ _ _⟩ | exact ⟨rfl, _, Eq.trans (World.drewN_drewN _ _ _) (congrArg (World.drewN _) (Nat.add_assoc _ _ _))⟩)))
                  repeat (go_quiet (first | (go_at_call 15; (with_reducible refine (churnlaw06_same.calls _ _ (rd_L1 l0 x13_1) _ _ (rd_L1 l1 x13_1) true _ ?side1 ?side2 ?side3 ?side4 A8.out).mono ?_); (case side1 => repeat (first | exact HR229_0.out | (with_reducible refine Kd.C_alloc ?_ _) | (with_reducible refine Kd.C_drewN ?_ _) | (with_reducible refine Kd.C_drew ?_))); (case side2 => exact HC229_0.out); (case side3 => repeat (first | exact HR230_0.out | (with_reducible refine Kd.C_alloc ?_ _) | (with_reducible refine Kd.C_drewN ?_ _) | (with_reducible refine Kd.C_drew ?_))); (case side4 => exact HC230_0.out); rintro e w' ⟨rfl, ⟨nd, rfl⟩⟩; (try first | exact ⟨rfl, _, World.drewN_drewN _ _ _⟩ | exact ⟨rfl, _, Eq.trans (World.drewN_drewN _ _ _) (congrArg (World.drewN _) (Nat.add_assoc _ _ _))⟩))); try go_wp2_with (first | (go_at_call 15; (with_reducible refine (churnlaw06_same.calls _ _ (rd_L1 l0 x13_1) _ _ (rd_L1 l1 x13_1) true _ ?side1 ?side2 ?side3 ?side4 A8.out).mono ?_); (case side1 => repeat (first | exact HR229_0.out | (with_reducible refine Kd.C_alloc ?_ _) | (with_reducible refine Kd.C_drewN ?_ _) | (with_reducible refine Kd.C_drew ?_))); (case side2 => exact HC229_0.out); (case side3 => repeat (first | exact HR230_0.out | (with_reducible refine Kd.C_alloc ?_ _) | (with_reducible refine Kd.C_drewN ?_ _) | (with_reducible refine Kd.C_drew ?_))); (case side4 => exact HC230_0.out); rintro e w' ⟨rfl, ⟨nd, rfl⟩⟩; (try first | exact ⟨rfl, _, World.drewN_drewN _ _ _⟩ | exact ⟨rfl, _, Eq.trans (World.drewN_drewN _ _ _) (congrArg (World.drewN _) (Nat.add_assoc _ _ _))⟩))))
                  go_roundg k1
                  case measure => have := HK1.out; omega
                  case rel => exact ⟨(wrap64 (x13_1 + 1)), (by first | rfl | (simp; done) | (simp [*]; done)), H', ⟨by have := HK1.out; omega⟩, by repeat (first | exact Drawn0.refl _ | apply Drawn0.step)⟩
                · replace c9 := Bool.eq_false_iff.mpr c9
                  subst c9
                  have H1 : (some false) = some r := by rw [if_neg (show ¬ (false = true) by decide)] at H; exact H
                  clear H
                  have H := H1
                  clear H1
                  obtain rfl := Option.some.inj H
                  simp only [Option.some.injEq, Prod.mk.injEq] at H
                  obtain ⟨rfl⟩ := H
                  have p229 : 0 ≤ (x13_1 : Int) := of_decide_eq_true (by first | (with_reducible assumption) | assumption)
                  have q229 : x13_1 < (l0.length : Int) := of_decide_eq_true (by first | (with_reducible assumption) | assumption)
                  obtain ⟨ad229, A229_0, c229_0, e229, hx229_0, hl229_0, hi229_0⟩ := at_L1 HR0.out x13_1 p229 q229
                  cases e229
                  have HR229_0 := Aside0.mk hi229_0
                  have HC229_0 := Aside0.mk hl229_0
                  clear hi229_0 hl229_0
                  replace p229 := eq_true p229
                  replace q229 := eq_true q229
                  have p230 : 0 ≤ (x13_1 : Int) := of_decide_eq_true (by first | (with_reducible assumption) | assumption)
                  have q230 : x13_1 < (l1.length : Int) := of_decide_eq_true (by first | (with_reducible assumption) | assumption)
                  obtain ⟨ad230, A230_0, c230_0, e230, hx230_0, hl230_0, hi230_0⟩ := at_L1 HR1.out x13_1 p230 q230
                  cases e230
                  have HR230_0 := Aside0.mk hi230_0
                  have HC230_0 := Aside0.mk hl230_0
                  clear hi230_0 hl230_0
                  replace p230 := eq_true p230
                  replace q230 := eq_true q230
                  go_wp2_with (first | (go_at_call 15; (with_reducible refine (churnlaw06_same.calls _ _ (rd_L1 l0 x13_1) _ _ (rd_L1 l1 x13_1) false _ ?side1 ?side2 ?side3 ?side4 A8.out).mono ?_); (case side1 => repeat (first | exact HR229_0.out | (with_reducible refine Kd.C_alloc ?_ _) | (with_reducible refine Kd.C_drewN ?_ _) | (with_reducible refine Kd.C_drew ?_))); (case side2 => exact HC229_0.out); (case side3 => repeat (first | exact HR230_0.out | (with_reducible refine Kd.C_alloc ?_ _) | (with_reducible refine Kd.C_drewN ?_ _) | (with_reducible refine Kd.C_drew ?_))); (case side4 => exact HC230_0.out); rintro e w' ⟨rfl, ⟨nd, rfl⟩⟩; (try first | exact ⟨rfl, _, World.drewN_drewN _ _ _⟩ | exact ⟨rfl, _, Eq.trans (World.drewN_drewN _ _ _) (congrArg (World.drewN _) (Nat.add_assoc _ _ _))⟩)))
                  repeat (go_quiet (first | (go_at_call 15; (with_reducible refine (churnlaw06_same.calls _ _ (rd_L1 l0 x13_1) _ _ (rd_L1 l1 x13_1) false _ ?side1 ?side2 ?side3 ?side4 A8.out).mono ?_); (case side1 => repeat (first | exact HR229_0.out | (with_reducible refine Kd.C_alloc ?_ _) | (with_reducible refine Kd.C_drewN ?_ _) | (with_reducible refine Kd.C_drew ?_))); (case side2 => exact HC229_0.out); (case side3 => repeat (first | exact HR230_0.out | (with_reducible refine Kd.C_alloc ?_ _) | (with_reducible refine Kd.C_drewN ?_ _) | (with_reducible refine Kd.C_drew ?_))); (case side4 => exact HC230_0.out); rintro e w' ⟨rfl, ⟨nd, rfl⟩⟩; (try first | exact ⟨rfl, _, World.drewN_drewN _ _ _⟩ | exact ⟨rfl, _, Eq.trans (World.drewN_drewN _ _ _) (congrArg (World.drewN _) (Nat.add_assoc _ _ _))⟩))); try go_wp2_with (first | (go_at_call 15; (with_reducible refine (churnlaw06_same.calls _ _ (rd_L1 l0 x13_1) _ _ (rd_L1 l1 x13_1) false _ ?side1 ?side2 ?side3 ?side4 A8.out).mono ?_); (case side1 => repeat (first | exact HR229_0.out | (with_reducible refine Kd.C_alloc ?_ _) | (with_reducible refine Kd.C_drewN ?_ _) | (with_reducible refine Kd.C_drew ?_))); (case side2 => exact HC229_0.out); (case side3 => repeat (first | exact HR230_0.out | (with_reducible refine Kd.C_alloc ?_ _) | (with_reducible refine Kd.C_drewN ?_ _) | (with_reducible refine Kd.C_drew ?_))); (case side4 => exact HC230_0.out); rintro e w' ⟨rfl, ⟨nd, rfl⟩⟩; (try first | exact ⟨rfl, _, World.drewN_drewN _ _ _⟩ | exact ⟨rfl, _, Eq.trans (World.drewN_drewN _ _ _) (congrArg (World.drewN _) (Nat.add_assoc _ _ _))⟩))))
                  go_ret
                  exact ⟨by first | rfl | (simp; done) | (simp [*]; done), by repeat (first | exact Drawn0.refl _ | apply Drawn0.step)⟩
              · rw [if_neg c7] at H
                exact absurd H (by simp)
            · rw [if_neg c6] at H
              exact absurd H (by simp)
          · rw [if_neg c5] at H
            exact absurd H (by simp)
        · rw [if_neg c4] at H
          have c4b0 : decide (x13_1 < (l0.length : Int)) = false := decide_eq_false c4
          clear c4
          obtain rfl := Option.some.inj H
          simp only [Option.some.injEq, Prod.mk.injEq] at H
          obtain ⟨rfl⟩ := H
          go_wp2
          repeat (go_quiet (fail); try go_wp2)
          go_ret
          exact ⟨by first | rfl | (simp; done) | (simp [*]; done), by repeat (first | exact Drawn0.refl _ | apply Drawn0.step)⟩
  · rw [if_neg c3] at H
    have c3b0 : ((l0.length : Int) == (l1.length : Int)) = false := beq_eq_false_iff_ne.mpr c3
    have c3b1 : ((l0.length : Int) != (l1.length : Int)) = true := bne_iff_ne.mpr c3
    have c3b2 : (l0.length == l1.length) = false := by first | simpa using c3 | (simp at c3 ⊢; omega)
    obtain rfl := Option.some.inj H
    simp only [Option.some.injEq, Prod.mk.injEq] at H
    obtain ⟨rfl⟩ := H
    go_enter Try.func24, Try.ntmps24
    go_wp2
    repeat (go_quiet (fail); try go_wp2)
    go_ret
    exact ⟨by first | rfl | (simp; done) | (simp [*]; done), by repeat (first | exact Drawn0.refl _ | apply Drawn0.step)⟩
end Go.Proofs.Ythkcadmjfkcbgaa.Q
end
