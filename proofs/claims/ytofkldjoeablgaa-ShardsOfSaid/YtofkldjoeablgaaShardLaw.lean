/- The law's call: every shard is the document's, from 0 to below their number. -/
import Derived.Test.YtofkldjoeablgaaShard
set_option linter.unusedVariables false
set_option linter.unusedSimpArgs false
namespace Go.Proofs.Ytofkldjoeablgaa.Q
open Go.RowKit Go.Proofs.YtofkldjoeablgaaW.PrintWords Go.Proofs.YtofkldjoeablgaaW.PrintLast Go.Proofs.YtofkldjoeablgaaW.PrintMore
attribute [local go_sem] max2_int min2_int max_two min_two max_three min_three max_four min_four
set_option maxRecDepth 100000 in
set_option maxHeartbeats 8000000 in
theorem law_calls (t0 t1 t2 t3 t4 t5 t6 t7 t8 t9 t10 t11 t12 t13 t14 t15 n : Int) (w : World) (h1 : shardF [t0, t1, t2, t3, t4, t5, t6, t7] n = shardR [t0, t1, t2, t3, t4, t5, t6, t7] n) (h2 : 0 ≤ shardF [t0, t1, t2, t3, t4, t5, t6, t7] n) (h3 : shardF [t0, t1, t2, t3, t4, t5, t6, t7] n < mx n 1) :
    Calls Try.prog 3 #[.agg #[.int .u8 t0, .int .u8 t1, .int .u8 t2, .int .u8 t3, .int .u8 t4, .int .u8 t5, .int .u8 t6, .int .u8 t7, .int .u8 t8, .int .u8 t9, .int .u8 t10, .int .u8 t11, .int .u8 t12, .int .u8 t13, .int .u8 t14, .int .u8 t15], .int .i64 n] w fun e w' => e = .returned (.bool true) ∧ Below w.heap.size w w' := by
  have hb1 : shardF [0, 0, 0, 0, 0, 0, 0, 5] 4 = 1 := by decide +kernel
  have hS := shard_calls 0 0 0 0 0 0 0 5 0 0 0 0 0 0 0 0 4
  rw [hb1] at hS
  obtain ⟨s, hs⟩ : ∃ s, shardF [t0, t1, t2, t3, t4, t5, t6, t7] n = s := ⟨_, rfl⟩
  have hT := shard_calls t0 t1 t2 t3 t4 t5 t6 t7 t8 t9 t10 t11 t12 t13 t14 t15 n
  have hR := shardref_calls t0 t1 t2 t3 t4 t5 t6 t7 t8 t9 t10 t11 t12 t13 t14 t15 n
  rw [← h1, hs] at hR
  rw [hs] at hT h2 h3
  clear h1
  have HB := Aside0.mk (Below.refl w.heap.size w)
  go_enter Try.func3, Try.ntmps3
  have HT := Aside0.mk hT
  have HR := Aside0.mk hR
  clear hT hR
  go_wp2_with ((with_reducible refine gate_dst (N := 2) rfl ?_); refine box_event ?hg (N := 2) ?hd (cs := #[.int .u8 t0, .int .u8 t1, .int .u8 t2, .int .u8 t3, .int .u8 t4, .int .u8 t5, .int .u8 t6, .int .u8 t7, .int .u8 t8, .int .u8 t9, .int .u8 t10, .int .u8 t11, .int .u8 t12, .int .u8 t13, .int .u8 t14, .int .u8 t15]) (t := 22) ?hr ?_; (case hd => rfl); (case hg => rfl); (case hr => first | (go_simp; done) | (go_simp; rfl)); intro gb1 hg1 w1 hbox1 hb1; have B1 := Aside0.mk hbox1; have HB1 := Aside0.mk hb1; clear hbox1 hb1 hg1)
  refine (hS _).mono ?_
  rintro e w2 ⟨rfl, hb2⟩
  have B2 := Aside0.mk (blk_below B1.out hb2)
  have HB2 := Aside0.mk (below_step HB1.out hb2)
  clear hb2 hS B1 HB1
  have zw2_0 : w2.cell? ⟨gb1, 0, none⟩ = some (.int .u8 t0) := (blk_cell B2.out 0).trans rfl
  have zw2_1 : w2.cell? ⟨gb1, 1, none⟩ = some (.int .u8 t1) := (blk_cell B2.out 1).trans rfl
  have zw2_2 : w2.cell? ⟨gb1, 2, none⟩ = some (.int .u8 t2) := (blk_cell B2.out 2).trans rfl
  have zw2_3 : w2.cell? ⟨gb1, 3, none⟩ = some (.int .u8 t3) := (blk_cell B2.out 3).trans rfl
  have zw2_4 : w2.cell? ⟨gb1, 4, none⟩ = some (.int .u8 t4) := (blk_cell B2.out 4).trans rfl
  have zw2_5 : w2.cell? ⟨gb1, 5, none⟩ = some (.int .u8 t5) := (blk_cell B2.out 5).trans rfl
  have zw2_6 : w2.cell? ⟨gb1, 6, none⟩ = some (.int .u8 t6) := (blk_cell B2.out 6).trans rfl
  have zw2_7 : w2.cell? ⟨gb1, 7, none⟩ = some (.int .u8 t7) := (blk_cell B2.out 7).trans rfl
  have zw2_8 : w2.cell? ⟨gb1, 8, none⟩ = some (.int .u8 t8) := (blk_cell B2.out 8).trans rfl
  have zw2_9 : w2.cell? ⟨gb1, 9, none⟩ = some (.int .u8 t9) := (blk_cell B2.out 9).trans rfl
  have zw2_10 : w2.cell? ⟨gb1, 10, none⟩ = some (.int .u8 t10) := (blk_cell B2.out 10).trans rfl
  have zw2_11 : w2.cell? ⟨gb1, 11, none⟩ = some (.int .u8 t11) := (blk_cell B2.out 11).trans rfl
  have zw2_12 : w2.cell? ⟨gb1, 12, none⟩ = some (.int .u8 t12) := (blk_cell B2.out 12).trans rfl
  have zw2_13 : w2.cell? ⟨gb1, 13, none⟩ = some (.int .u8 t13) := (blk_cell B2.out 13).trans rfl
  have zw2_14 : w2.cell? ⟨gb1, 14, none⟩ = some (.int .u8 t14) := (blk_cell B2.out 14).trans rfl
  have zw2_15 : w2.cell? ⟨gb1, 15, none⟩ = some (.int .u8 t15) := (blk_cell B2.out 15).trans rfl
  go_wp2_with (fail)
  refine (HT.out _).mono ?_
  rintro e w3 ⟨rfl, hb3⟩
  have B3 := Aside0.mk (blk_below B2.out hb3)
  have HB3 := Aside0.mk (below_step HB2.out hb3)
  clear zw2_0 zw2_1 zw2_2 zw2_3 zw2_4 zw2_5 zw2_6 zw2_7 zw2_8 zw2_9 zw2_10 zw2_11 zw2_12 zw2_13 zw2_14 zw2_15
  clear hb3 HT B2 HB2
  have zw3_0 : w3.cell? ⟨gb1, 0, none⟩ = some (.int .u8 t0) := (blk_cell B3.out 0).trans rfl
  have zw3_1 : w3.cell? ⟨gb1, 1, none⟩ = some (.int .u8 t1) := (blk_cell B3.out 1).trans rfl
  have zw3_2 : w3.cell? ⟨gb1, 2, none⟩ = some (.int .u8 t2) := (blk_cell B3.out 2).trans rfl
  have zw3_3 : w3.cell? ⟨gb1, 3, none⟩ = some (.int .u8 t3) := (blk_cell B3.out 3).trans rfl
  have zw3_4 : w3.cell? ⟨gb1, 4, none⟩ = some (.int .u8 t4) := (blk_cell B3.out 4).trans rfl
  have zw3_5 : w3.cell? ⟨gb1, 5, none⟩ = some (.int .u8 t5) := (blk_cell B3.out 5).trans rfl
  have zw3_6 : w3.cell? ⟨gb1, 6, none⟩ = some (.int .u8 t6) := (blk_cell B3.out 6).trans rfl
  have zw3_7 : w3.cell? ⟨gb1, 7, none⟩ = some (.int .u8 t7) := (blk_cell B3.out 7).trans rfl
  have zw3_8 : w3.cell? ⟨gb1, 8, none⟩ = some (.int .u8 t8) := (blk_cell B3.out 8).trans rfl
  have zw3_9 : w3.cell? ⟨gb1, 9, none⟩ = some (.int .u8 t9) := (blk_cell B3.out 9).trans rfl
  have zw3_10 : w3.cell? ⟨gb1, 10, none⟩ = some (.int .u8 t10) := (blk_cell B3.out 10).trans rfl
  have zw3_11 : w3.cell? ⟨gb1, 11, none⟩ = some (.int .u8 t11) := (blk_cell B3.out 11).trans rfl
  have zw3_12 : w3.cell? ⟨gb1, 12, none⟩ = some (.int .u8 t12) := (blk_cell B3.out 12).trans rfl
  have zw3_13 : w3.cell? ⟨gb1, 13, none⟩ = some (.int .u8 t13) := (blk_cell B3.out 13).trans rfl
  have zw3_14 : w3.cell? ⟨gb1, 14, none⟩ = some (.int .u8 t14) := (blk_cell B3.out 14).trans rfl
  have zw3_15 : w3.cell? ⟨gb1, 15, none⟩ = some (.int .u8 t15) := (blk_cell B3.out 15).trans rfl
  go_wp2_with (fail)
  refine (HR.out _).mono ?_
  rintro e w4 ⟨rfl, hb4⟩
  have HB4 := Aside0.mk (below_step HB3.out hb4)
  clear zw3_0 zw3_1 zw3_2 zw3_3 zw3_4 zw3_5 zw3_6 zw3_7 zw3_8 zw3_9 zw3_10 zw3_11 zw3_12 zw3_13 zw3_14 zw3_15
  clear hb4 HR B3 HB3
  have e1 : (s == s) = true := by simp
  have e2 : decide (0 ≤ s) = true := decide_eq_true h2
  have e4 : 1 ≤ n → decide (s < n) = true := fun h => decide_eq_true (by unfold mx at h3; split at h3 <;> omega)
  have e5 : ¬ 1 ≤ n → decide (s < 1) = true := fun h => decide_eq_true (by unfold mx at h3; split at h3 <;> omega)
  have HE := Aside0.mk (And.intro e4 e5)
  clear h2 h3 e4 e5
  go_wp2_with (fail)
  all_goals go_ret
  all_goals refine ⟨?_, HB4.out⟩
  all_goals first | (have a := HE.out.1 (by omega); simp only [a]; done) | (have a := HE.out.2 (by omega); simp only [a]; done) | (have a := HE.out.1 (by omega); simp [a]; done) | (have a := HE.out.2 (by omega); simp [a]; done)
end Go.Proofs.Ytofkldjoeablgaa.Q
