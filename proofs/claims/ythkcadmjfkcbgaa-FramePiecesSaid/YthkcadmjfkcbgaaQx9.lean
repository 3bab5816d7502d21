/- Functions of the program as plain Lean functions, each with a proof that its call comes to just these answers, or the row that joins them to the given statement; no condition beside the statement's own. Written for this claim by pf.py, this session's program over the kit's print. -/
import Derived.Test.YthkcadmjfkcbgaaQx0
import Derived.Test.YthkcadmjfkcbgaaQx5
import Derived.Test.YthkcadmjfkcbgaaQx8
namespace Go.Proofs.Ythkcadmjfkcbgaa.Q
open Go.RowKit Go.Proofs.YthkcadmjfkcbgaaW.PrintWords Go.Proofs.YthkcadmjfkcbgaaW.PrintLast Go.Proofs.YthkcadmjfkcbgaaW.PrintMore
attribute [local go_sem] max2_int min2_int max_two min_two max_three min_three max_four min_four   -- for this text's walks alone
set_option linter.unusedVariables false
set_option linter.unusedSimpArgs false

/-! ### churnlaw06_awake: function 10 -/
def churnlaw06_awake.f (k : Nat)  : Option (Bool) := (frame_Pack.f k 7 1 2 ([] : List (List Int))).bind fun bt157 => ((frame_Read.f bt157.1).bind fun bt161 => (if bt157.2 = 0 then (if bt161.2.2.2.2.2 = 0 then (if (bt157.1.length : Int) = 28 then (if 24 < (bt157.1.length : Int) then (if (rd bt157.1 24) = 26 then (if bt161.1 = 7 then (some (bt161.2.2.1 == 2)) else (some false)) else (some false)) else (none)) else (some false)) else (some false)) else (some false)))
theorem churnlaw06_awake.mono : ∀ k, LeO (churnlaw06_awake.f k ) (churnlaw06_awake.f (k + 1) ) := by
  intro  k
  unfold churnlaw06_awake.f
  repeat' first
      | (with_reducible exact frame_Pack.mono _ _ _ _ _)
      | (with_reducible exact LeO.refl _)
      | (with_reducible exact LeO.none _)
      | (with_reducible refine LeO.ite ?_ ?_)
      | (with_reducible refine LeO.bind ?_ (fun _ => ?_))
      | exact frame_Pack.mono _ _ _ _ _
      | exact LeO.none _
      | refine LeO.ite ?_ ?_
      | refine LeO.bind ?_ (fun _ => ?_)
set_option maxHeartbeats 8000000 in
set_option maxRecDepth 100000 in
theorem churnlaw06_awake.calls (k : Nat)  (r : Bool) (w : World) (hr_ : r = true) (h : churnlaw06_awake.f k  = some r) :
    Calls Try.prog 10 #[] w fun e w' => e = .returned (.bool r) ∧ Below w.heap.size w w' := by
  have HR_ := Aside0.mk hr_
  clear hr_
  have hu23 := Try.underlying23
  have hu26 := Try.underlying26
  have HB := Aside0.mk (Below.refl w.heap.size w)
  have H : ((frame_Pack.f k 7 1 2 ([] : List (List Int))).bind fun bt157 => ((frame_Read.f bt157.1).bind fun bt161 => (if bt157.2 = 0 then (if bt161.2.2.2.2.2 = 0 then (if (bt157.1.length : Int) = 28 then (if 24 < (bt157.1.length : Int) then (if (rd bt157.1 24) = 26 then (if bt161.1 = 7 then (some (bt161.2.2.1 == 2)) else (some false)) else (some false)) else (none)) else (some false)) else (some false)) else (some false)))) = some r := h
  clear h
  replace H := Option.bind_eq_some_iff.mp H
  obtain ⟨⟨t157, t160⟩, A10, H⟩ := H
  replace H : ((frame_Read.f t157).bind fun bt161 => (if t160 = 0 then (if bt161.2.2.2.2.2 = 0 then (if (t157.length : Int) = 28 then (if 24 < (t157.length : Int) then (if (rd t157 24) = 26 then (if bt161.1 = 7 then (some (bt161.2.2.1 == 2)) else (some false)) else (some false)) else (none)) else (some false)) else (some false)) else (some false))) = some r := H
  have A1 := Aside0.mk A10
  clear A10
  replace H := Option.bind_eq_some_iff.mp H
  obtain ⟨⟨t161, t162, t163, t164, t167, t168⟩, A20, H⟩ := H
  replace H : (if t160 = 0 then (if t168 = 0 then (if (t157.length : Int) = 28 then (if 24 < (t157.length : Int) then (if (rd t157 24) = 26 then (if t161 = 7 then (some (t163 == 2)) else (some false)) else (some false)) else (none)) else (some false)) else (some false)) else (some false)) = some r := H
  have A2 := Aside0.mk A20
  clear A20
  by_cases c3 : t160 = 0
  · rw [if_pos c3] at H
    have c3b0 : (t160 == 0) = true := beq_iff_eq.mpr c3
    have c3b1 : (t160 != 0) = false := bne_eq_false_iff_eq.mpr c3
    clear c3
    by_cases c4 : t168 = 0
    · rw [if_pos c4] at H
      have c4b0 : (t168 == 0) = true := beq_iff_eq.mpr c4
      have c4b1 : (t168 != 0) = false := bne_eq_false_iff_eq.mpr c4
      clear c4
      by_cases c5 : (t157.length : Int) = 28
      · rw [if_pos c5] at H
        have c5b0 : ((t157.length : Int) == 28) = true := beq_iff_eq.mpr c5
        have c5b1 : ((t157.length : Int) != 28) = false := bne_eq_false_iff_eq.mpr c5
        clear c5
        by_cases c6 : 24 < (t157.length : Int)
        · rw [if_pos c6] at H
          have c6b0 : decide (24 < (t157.length : Int)) = true := decide_eq_true c6
          have c6b1 : decide (24 < t157.length) = true := decide_eq_true (by omega)
          clear c6
          by_cases c7 : (rd t157 24) = 26
          · rw [if_pos c7] at H
            have c7b0 : ((rd t157 24) == 26) = true := beq_iff_eq.mpr c7
            have c7b1 : ((rd t157 24) != 26) = false := bne_eq_false_iff_eq.mpr c7
            clear c7
            by_cases c8 : t161 = 7
            · rw [if_pos c8] at H
              have c8b0 : (t161 == 7) = true := beq_iff_eq.mpr c8
              have c8b1 : (t161 != 7) = false := bne_eq_false_iff_eq.mpr c8
              clear c8
              obtain rfl := Option.some.inj H
              simp only [Option.some.injEq, Prod.mk.injEq] at H
              obtain ⟨rfl⟩ := H
              go_enter Try.func10, Try.ntmps10
              go_wp2_with (first | ((with_reducible refine gate_callee (f := 14) rfl ?_); refine goesL_ (some 9) rfl rfl Try.func14 (by kernel_rfl) rfl #[.agg #[.int .i64 7, .int .i64 1, .int .i64 2, .slice none 0 0]] rfl (by (try simp only [List.map_toArray, List.map_cons, List.map_nil]); first | done | rfl | (simp only [List.length_drop, List.length_take]; rfl)) ?_; (refine (frame_Pack.calls k 7 1 2 _ _ ([] : List (List Int)) t157 t160 _ ?side1 ?side2 A1.out).mono ?_); (case side1 => exact Kd.C_nil _ _); (case side2 => exact Nat.le_refl _); rintro e w9 ⟨v158, rfl, ho0, hb⟩; refine ⟨_, rfl, ?_⟩; have n0_ := Aside0.mk (Kd.R_lower ho0 (below_size (by repeat (first | (with_reducible first | exact HB.out | apply below_alloc | apply pw_below_drewN | apply below_drew1) | exact HB.out)))); have n1_ := Aside0.mk (below_step (by repeat (first | (with_reducible first | exact HB.out | apply below_alloc | apply pw_below_drewN | apply below_drew1) | exact HB.out)) hb); clear HB; have HO159 := n0_; have HB := n1_; clear n0_ n1_; (try clear hb); (try clear hb2); (try clear hk); (try clear hi); (try clear ho0); obtain ⟨Ao10, co10, eo10⟩ := Kd.R_slice HO159.out; subst eo10) | ((with_reducible refine gate_callee (f := 18) rfl ?_); refine goesL_ (some 14) rfl rfl Try.func18 (by kernel_rfl) rfl #[.slice Ao10 t157.length co10] rfl (by (try simp only [List.map_toArray, List.map_cons, List.map_nil]); first | done | rfl | (simp only [List.length_drop, List.length_take]; rfl)) ?_; (with_reducible refine (frame_Read.calls _ _ t157 t161 t162 t163 t164 t167 t168 _ ?side1 ?side2 A2.out).mono ?_); (case side1 => repeat (first | exact (Kd.R_reads' HO159.out).2.2 | (with_reducible refine Kd.C_alloc ?_ _) | (with_reducible refine Kd.C_drewN ?_ _) | (with_reducible refine Kd.C_drew ?_))); (case side2 => exact (Kd.R_reads' HO159.out).2.1); rintro e w11 ⟨v165, rfl, ho0, hb⟩; refine ⟨_, rfl, ?_⟩; have n0_ := Aside0.mk (Kd.R_below (by (with_reducible repeat (first | apply Kd.R_alloc | apply Kd.R_drewN | apply Kd.R_drew)); exact HO159.out) hb); have n1_ := Aside0.mk (Kd.S_lower (Kd.S_new' ho0 (Kd.R_lt (by (with_reducible repeat (first | apply Kd.R_alloc | apply Kd.R_drewN | apply Kd.R_drew)); exact HO159.out))) (below_size (by repeat (first | (with_reducible first | exact HB.out | apply below_alloc | apply pw_below_drewN | apply below_drew1) | exact HB.out)))); have n2_ := Aside0.mk (below_step (by repeat (first | (with_reducible first | exact HB.out | apply below_alloc | apply pw_below_drewN | apply below_drew1) | exact HB.out)) hb); clear HO159; clear HB; have HO159 := n0_; have HO166 := n1_; have HB := n2_; clear n0_ n1_ n2_; (try clear hb); (try clear hb2); (try clear hk); (try clear hi); (try clear ho0)) | ((with_reducible refine gate_dst (N := 3) rfl ?_); (try (refine gate_guard (by rfl) ?_; dsimp only)); refine box_event ?hg (N := 3) ?hd (cs := #[.int .i64 0, .int .i64 0, .int .i64 0, .slice none 0 0]) (t := 26) ?hr ?_; (case hd => rfl); (case hg => rfl); (case hr => first | (go_simp; done) | (go_simp; rfl)); intro gb169 hg w12 hbox hb; have n0_ := Aside0.mk (Kd.R_below (by (with_reducible repeat (first | apply Kd.R_alloc | apply Kd.R_drewN | apply Kd.R_drew)); exact HO159.out) hb); have n1_ := Aside0.mk (Kd.S_below (by (with_reducible repeat (first | apply Kd.S_alloc | apply Kd.S_drewN | apply Kd.S_drew)); exact HO166.out) hb); have n2_ := Aside0.mk (below_step (by repeat (first | (with_reducible first | exact HB.out | apply below_alloc | apply pw_below_drewN | apply below_drew1) | exact HB.out)) hb); have n3_ := Aside0.mk (hbox); have n4_ := Aside0.mk ((by rw [hg]; exact (below_size (by repeat (first | (with_reducible first | exact HB.out | apply below_alloc | apply pw_below_drewN | apply below_drew1) | exact HB.out))) : w.heap.size ≤ gb169)); have n5_ := Aside0.mk ((by rw [hg]; exact (below_size (by repeat (first | (with_reducible first | exact HB.out | apply below_alloc | apply pw_below_drewN | apply below_drew1) | exact HB.out))) : w.heap.size ≤ gb169)); clear HO159; clear HO166; clear HB; have HO159 := n0_; have HO166 := n1_; have HB := n2_; have BK169 := n3_; have GW169 := n4_; have GE169 := n5_; clear n0_ n1_ n2_ n3_ n4_ n5_; clear hb hbox hg; have hcz13_0 : w12.cell? ⟨gb169, 0, none⟩ = some (.int .i64 0) := (blk_cell BK169.out 0).trans rfl; have hcz13_1 : w12.cell? ⟨gb169, 1, none⟩ = some (.int .i64 0) := (blk_cell BK169.out 1).trans rfl; have hcz13_2 : w12.cell? ⟨gb169, 2, none⟩ = some (.int .i64 0) := (blk_cell BK169.out 2).trans rfl; have hcz13_3 : w12.cell? ⟨gb169, 3, none⟩ = some (.slice none 0 0) := (blk_cell BK169.out 3).trans rfl; have hfz13_0 := blk_frozen BK169.out 0; have hfz13_1 := blk_frozen BK169.out 1; have hfz13_2 := blk_frozen BK169.out 2; have hfz13_3 := blk_frozen BK169.out 3; obtain ⟨Ao14, co14, eo14⟩ := Kd.S_slice HO166.out; subst eo14; have p170 : 0 ≤ (24 : Int) := (by omega); have q170 : 24 < (t157.length : Int) := of_decide_eq_true (by first | (with_reducible assumption) | assumption); obtain ⟨ad170, e170, hx170_0⟩ := Kd.at_int (Kd.R_reads' HO159.out).2.2 24 p170 q170; cases e170; (try simp only [show (24 : Int).toNat = 24 from rfl, Nat.reduceMul, Nat.reduceEqDiff, Go.Addr.add, ↓reduceIte] at hx170_0); have qi170 : (24 < t157.length) = True := eq_true (by omega); (try rw [show ((24 : Int)).toNat = 24 from rfl] at hx170_0); have hn170_0 : ad170.block ≠ gb169 := Kd.own_blk (Kd.R_ne HO159.out BK169.out (by decide)); have hn170_1 : ad170.block ≠ gb169 := Kd.own_blk (Kd.R_ne HO159.out BK169.out (by decide)); have hn170_2 : ad170.block ≠ gb169 := Kd.own_blk (Kd.R_ne HO159.out BK169.out (by decide)); have hn170_3 : ad170.block ≠ gb169 := Kd.own_blk (Kd.R_ne HO159.out BK169.out (by decide)); replace hx170_0 := (cell_far (p := ⟨gb169, 0, none⟩) (by first | (rw [add_block]; exact hn170_0) | (show (Addr.add _ _).block ≠ _; rw [add_block]; exact hn170_0) | exact hn170_0) (.int .i64 t161)).trans hx170_0; replace hx170_0 := (cell_far (p := ⟨gb169, 1, none⟩) (by first | (rw [add_block]; exact hn170_1) | (show (Addr.add _ _).block ≠ _; rw [add_block]; exact hn170_1) | exact hn170_1) (.int .i64 t162)).trans hx170_0; replace hx170_0 := (cell_far (p := ⟨gb169, 2, none⟩) (by first | (rw [add_block]; exact hn170_2) | (show (Addr.add _ _).block ≠ _; rw [add_block]; exact hn170_2) | exact hn170_2) (.int .i64 t163)).trans hx170_0; replace hx170_0 := (cell_far (p := ⟨gb169, 3, none⟩) (by first | (rw [add_block]; exact hn170_3) | (show (Addr.add _ _).block ≠ _; rw [add_block]; exact hn170_3) | exact hn170_3) (.slice Ao14 t164.length co14)).trans hx170_0; clear hn170_0; clear hn170_1; clear hn170_2; clear hn170_3; replace p170 := eq_true p170; replace q170 := eq_true q170))
              go_ret
              exact ⟨by first | rfl | (simp [errW_none, errW_some] <;> rfl) | (simp [*, errW_none, errW_some] <;> rfl), by repeat (first | (with_reducible first | exact HB.out | apply below_alloc | apply pw_below_drewN | apply below_drew1 | refine below_set ?_ GE169.out) | exact HB.out)⟩
            · rw [if_neg c8] at H
              have c8b0 : (t161 == 7) = false := beq_eq_false_iff_ne.mpr c8
              have c8b1 : (t161 != 7) = true := bne_iff_ne.mpr c8
              obtain rfl := Option.some.inj H
              exact absurd HR_.out (by decide)
          · rw [if_neg c7] at H
            have c7b0 : ((rd t157 24) == 26) = false := beq_eq_false_iff_ne.mpr c7
            have c7b1 : ((rd t157 24) != 26) = true := bne_iff_ne.mpr c7
            obtain rfl := Option.some.inj H
            exact absurd HR_.out (by decide)
        · rw [if_neg c6] at H
          exact absurd H (by simp)
      · rw [if_neg c5] at H
        have c5b0 : ((t157.length : Int) == 28) = false := beq_eq_false_iff_ne.mpr c5
        have c5b1 : ((t157.length : Int) != 28) = true := bne_iff_ne.mpr c5
        obtain rfl := Option.some.inj H
        exact absurd HR_.out (by decide)
    · rw [if_neg c4] at H
      have c4b0 : (t168 == 0) = false := beq_eq_false_iff_ne.mpr c4
      have c4b1 : (t168 != 0) = true := bne_iff_ne.mpr c4
      obtain rfl := Option.some.inj H
      exact absurd HR_.out (by decide)
  · rw [if_neg c3] at H
    have c3b0 : (t160 == 0) = false := beq_eq_false_iff_ne.mpr c3
    have c3b1 : (t160 != 0) = true := bne_iff_ne.mpr c3
    obtain rfl := Option.some.inj H
    exact absurd HR_.out (by decide)

end Go.Proofs.Ythkcadmjfkcbgaa.Q
