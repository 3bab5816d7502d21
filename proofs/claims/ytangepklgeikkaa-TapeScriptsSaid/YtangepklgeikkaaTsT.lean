/- Take's refusals answer nothing: printed by pf/tsgen.py out of the contract's stub. -/
import Derived.Test.YtangepklgeikkaaTsP
import Derived.Test.YtangepklgeikkaaQx2
set_option linter.unusedVariables false
set_option linter.unusedSimpArgs false
namespace Go.Proofs.Ytangepklgeikkaa.Q
open Go.RowKit Go.Proofs.YtangepklgeikkaaW.PrintWords Go.Proofs.YtangepklgeikkaaW.PrintLast Go.Proofs.YtangepklgeikkaaW.PrintMore Go.Proofs.Ytangepklgeikkaa.Pl
set_option maxHeartbeats 1000000 in
set_option maxRecDepth 100000 in
theorem ts_refuse_neg (s : ByteArray) (u n : Int) (w : World) (h0 : n < 0) :
    Calls Try.prog 13 #[.agg #[.string s, .int .i64 u], .int .i64 n] w fun e w' => e = .returned (.tuple #[.slice none 0 0, .agg #[.string (⟨#[]⟩ : ByteArray), .int .i64 0], .int .i64 2]) ∧ Below w.heap.size w w' := by
  have hu25 := Try.underlying25
  have c1 : decide (n < 0) = true := decide_eq_true h0
  clear h0
  have HB := Aside0.mk (Below.refl w.heap.size w)
  go_enter Try.func13, Try.ntmps13
  go_wp2_with (first
    | ((with_reducible refine gate_dst (N := 2) rfl ?_); refine box_event ?hg (N := 2) ?hd (cs := #[.string s, .int .i64 u]) (t := 25) ?hr ?_; (case hd => rfl); (case hg => rfl); (case hr => first | (go_simp; done) | (go_simp; rfl)); intro gb1 hg1 w1 hbox1 hb1; have B1 := Aside0.mk hbox1; have G1 := Aside0.mk (show w.heap.size ≤ gb1 by omega); have HB1 := Aside0.mk (below_step HB.out hb1); clear HB hb1 hbox1 hg1)
    | ((with_reducible refine gate_dst (N := 5) rfl ?_); refine box_event ?hg (N := 5) ?hd (cs := #[.string (⟨#[]⟩ : ByteArray), .int .i64 0]) (t := 25) ?hr ?_; (case hd => rfl); (case hg => rfl); (case hr => first | (go_simp; done) | (go_simp; rfl)); intro gb2 hg2 w2 hbox2 hb2; have B1' := Aside0.mk (blk_below B1.out hb2); have NE := Aside0.mk (show gb1 ≠ gb2 by have := blk_lt B1.out; omega); have B2 := Aside0.mk hbox2; have G2 := Aside0.mk (show w.heap.size ≤ gb2 by have := HB1.out.size; omega); have HB2 := Aside0.mk (below_step HB1.out hb2); clear B1 HB1 hb2 hbox2 hg2; have za0 : w2.cell? ⟨gb1, 0, none⟩ = some (.string s) := (blk_cell B1'.out 0).trans rfl; have za1 : w2.cell? ⟨gb1, 1, none⟩ = some (.int .i64 u) := (blk_cell B1'.out 1).trans rfl; have zb0 : w2.cell? ⟨gb2, 0, none⟩ = some (.string (⟨#[]⟩ : ByteArray)) := (blk_cell B2.out 0).trans rfl; have zb1 : w2.cell? ⟨gb2, 1, none⟩ = some (.int .i64 0) := (blk_cell B2.out 1).trans rfl; have zf0 := blk_frozen B2.out 0; have zf1 := blk_frozen B2.out 1))
  refine bodyPost_ret (results_list (rs := [.tmp 4, .cell 5 25, .tmp 6]) rfl (by simp) (.tmp (.cell gb2 25 #[.string (⟨#[]⟩ : ByteArray), .int .i64 0] (0, 0) _ rfl (blk_put (cs := #[.string (⟨#[]⟩ : ByteArray), .int .i64 0]) (blk_put (cs := #[.string (⟨#[]⟩ : ByteArray), .int .i64 0]) B2.out 0 _ rfl) 1 _ rfl) Try.underlying25 rfl (by kernel_rfl) (.tmp .nil)))) rfl ?_
  exact ⟨rfl, below_set (below_set HB2.out G2.out) G2.out⟩
set_option maxHeartbeats 1000000 in
set_option maxRecDepth 100000 in
theorem ts_refuse_more (s : ByteArray) (u n : Int) (w : World) (h0 : ¬ n < 0) (h1 : n > wrap64 ((s.size : Int) - u)) :
    Calls Try.prog 13 #[.agg #[.string s, .int .i64 u], .int .i64 n] w fun e w' => e = .returned (.tuple #[.slice none 0 0, .agg #[.string (⟨#[]⟩ : ByteArray), .int .i64 0], .int .i64 3]) ∧ Below w.heap.size w w' := by
  have hu25 := Try.underlying25
  obtain ⟨y, hy⟩ : ∃ y, wrap64 ((s.size : Int) - u) = y := ⟨_, rfl⟩
  rw [hy] at h1
  have c1 : decide (n < 0) = false := decide_eq_false h0
  have c2 : decide (n > y) = true := decide_eq_true h1
  clear h0 h1
  have HY := Aside0.mk hy
  clear hy
  have HB := Aside0.mk (Below.refl w.heap.size w)
  go_enter Try.func13, Try.ntmps13
  go_wp2_with (first
    | ((with_reducible refine gate_dst (N := 2) rfl ?_); refine box_event ?hg (N := 2) ?hd (cs := #[.string s, .int .i64 u]) (t := 25) ?hr ?_; (case hd => rfl); (case hg => rfl); (case hr => first | (go_simp; done) | (go_simp; rfl)); intro gb1 hg1 w1 hbox1 hb1; have B1 := Aside0.mk hbox1; have G1 := Aside0.mk (show w.heap.size ≤ gb1 by omega); have HB1 := Aside0.mk (below_step HB.out hb1); clear HB hb1 hbox1 hg1)
    | ((with_reducible refine gate_dst (N := 5) rfl ?_); refine box_event ?hg (N := 5) ?hd (cs := #[.string (⟨#[]⟩ : ByteArray), .int .i64 0]) (t := 25) ?hr ?_; (case hd => rfl); (case hg => rfl); (case hr => first | (go_simp; done) | (go_simp; rfl)); intro gb2 hg2 w2 hbox2 hb2; have B1' := Aside0.mk (blk_below B1.out hb2); have NE := Aside0.mk (show gb1 ≠ gb2 by have := blk_lt B1.out; omega); have B2 := Aside0.mk hbox2; have G2 := Aside0.mk (show w.heap.size ≤ gb2 by have := HB1.out.size; omega); have HB2 := Aside0.mk (below_step HB1.out hb2); clear B1 HB1 hb2 hbox2 hg2; have za0 : w2.cell? ⟨gb1, 0, none⟩ = some (.string s) := (blk_cell B1'.out 0).trans rfl; have za1 : w2.cell? ⟨gb1, 1, none⟩ = some (.int .i64 u) := (blk_cell B1'.out 1).trans rfl; have zb0 : w2.cell? ⟨gb2, 0, none⟩ = some (.string (⟨#[]⟩ : ByteArray)) := (blk_cell B2.out 0).trans rfl; have zb1 : w2.cell? ⟨gb2, 1, none⟩ = some (.int .i64 0) := (blk_cell B2.out 1).trans rfl; have zf0 := blk_frozen B2.out 0; have zf1 := blk_frozen B2.out 1)
    | (go_at_call 15; refine (tape_Tape_Left.calls s u y _ (by unfold tape_Tape_Left.f; rw [HY.out])).mono ?_; rintro e w3 ⟨rfl, hb3⟩; have B3 := Aside0.mk (blk_below B1'.out hb3); have B4 := Aside0.mk (blk_below B2.out hb3); have HB3 := Aside0.mk (below_step HB2.out hb3); clear za0 za1 hb3 B1' B2 HB2; have za0 : w3.cell? ⟨gb1, 0, none⟩ = some (.string s) := (blk_cell B3.out 0).trans rfl; have za1 : w3.cell? ⟨gb1, 1, none⟩ = some (.int .i64 u) := (blk_cell B3.out 1).trans rfl; clear zb0 zb1 zf0 zf1; have zb0 : w3.cell? ⟨gb2, 0, none⟩ = some (.string (⟨#[]⟩ : ByteArray)) := (blk_cell B4.out 0).trans rfl; have zb1 : w3.cell? ⟨gb2, 1, none⟩ = some (.int .i64 0) := (blk_cell B4.out 1).trans rfl; have zf0 := blk_frozen B4.out 0; have zf1 := blk_frozen B4.out 1))
  refine bodyPost_ret (results_list (rs := [.tmp 4, .cell 5 25, .tmp 6]) rfl (by simp) (.tmp (.cell gb2 25 #[.string (⟨#[]⟩ : ByteArray), .int .i64 0] (0, 0) _ rfl (blk_put (cs := #[.string (⟨#[]⟩ : ByteArray), .int .i64 0]) (blk_put (cs := #[.string (⟨#[]⟩ : ByteArray), .int .i64 0]) B4.out 0 _ rfl) 1 _ rfl) Try.underlying25 rfl (by kernel_rfl) (.tmp .nil)))) rfl ?_
  exact ⟨rfl, below_set (below_set HB3.out G2.out) G2.out⟩
end Go.Proofs.Ytangepklgeikkaa.Q
