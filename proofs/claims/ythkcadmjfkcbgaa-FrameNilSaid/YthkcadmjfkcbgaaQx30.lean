/- Functions of the program as plain Lean functions, each with a proof that its call comes to just these answers, or the row that joins them to the given statement; no condition beside the statement's own. Written for this claim by pf.py, this session's program over the kit's print. -/
import Derived.Test.YthkcadmjfkcbgaaQx0
import Derived.Test.YthkcadmjfkcbgaaQx8
import Derived.Test.YthkcadmjfkcbgaaQx9
namespace Go.Proofs.Ythkcadmjfkcbgaa.Q
open Go.RowKit Go.Proofs.YthkcadmjfkcbgaaW.PrintWords Go.Proofs.YthkcadmjfkcbgaaW.PrintLast Go.Proofs.YthkcadmjfkcbgaaW.PrintMore
attribute [local go_sem] max2_int min2_int max_two min_two max_three min_three max_four min_four   -- for this text's walks alone
set_option linter.unusedVariables false
set_option linter.unusedSimpArgs false

/-! ### churnlaw06_FrameNil: function 9 -/
/- own text -/
section
open Go.Proofs.Ythkcadmjfkcbgaa.Pl
theorem put_nil (v : Value) (w : World) : Calls Try.prog 22 #[.pointer none, v] w fun e w' => e = .returned (.tuple #[.slice none 0 0, .int .i64 2]) ∧ w' = w := by
  have hnil := fun W : World => run_eql_pointer_nil (P := Try.prog) W 46 none (by kernel_rfl)
  simp only [Option.isNone] at hnil
  go_enter Try.func22, Try.ntmps22
  go_wp2_with (fail)
  go_step3
  go_wp2_with (fail)
  simp only [Exit.noGoto_ret]
  go_ret2
  exact ⟨rfl, rfl⟩
theorem end_nil (w : World) : Calls Try.prog 27 #[.pointer none] w fun e w' => e = .returned (.tuple #[.int .i64 0, .int .i64 2]) ∧ w' = w := by
  have hnil := fun W : World => run_eql_pointer_nil (P := Try.prog) W 46 none (by kernel_rfl)
  simp only [Option.isNone] at hnil
  go_enter Try.func27, Try.ntmps27
  go_wp2
  go_ret2
  exact ⟨rfl, rfl⟩
theorem header_nil (w : World) : Calls Try.prog 26 #[.pointer none] w fun e w' => e = .returned (.tuple #[.agg #[.int .i64 0, .int .i64 0, .int .i64 0], .bool false]) ∧ Below w.heap.size w w' := by
  have hnil := fun W : World => run_eql_pointer_nil (P := Try.prog) W 46 none (by kernel_rfl)
  simp only [Option.isNone] at hnil
  have hu23 := Try.underlying23
  have HB := Aside0.mk (Below.refl w.heap.size w)
  go_enter Try.func26, Try.ntmps26
  go_wp2_with ((with_reducible refine gate_dst (N := 2) rfl ?_); refine box_event ?hg (N := 2) ?hd (cs := #[.int .i64 0, .int .i64 0, .int .i64 0]) (t := 23) ?hr ?_; (case hd => rfl); (case hg => rfl); (case hr => first | (go_simp; done) | (go_simp; rfl)); intro gb hgb w1 hbox hb1; have BX := Aside0.mk hbox; have GB := Aside0.mk (show w.heap.size ≤ gb by omega); have HB1 := Aside0.mk (below_step HB.out hb1); have zb0 := (blk_cell hbox 0).trans rfl; have zb1 := (blk_cell hbox 1).trans rfl; have zb2 := (blk_cell hbox 2).trans rfl; have zf0 := blk_frozen hbox 0; have zf1 := blk_frozen hbox 1; have zf2 := blk_frozen hbox 2; clear hgb hbox hb1)
  refine bodyPost_ret (results_list (rs := [.cell 2 23, .tmp 3]) rfl (by simp) (.cell gb 23 #[.int .i64 0, .int .i64 0, .int .i64 0] (0, 0) _ rfl ?blk Try.underlying23 rfl (by kernel_rfl) (.tmp .nil))) rfl ?_
  case blk => (apply sethT; (repeat (first | (with_reducible exact BX.out) | (with_reducible refine blk_drewN ?_ _) | (with_reducible refine blk_drew ?_) | (with_reducible apply blk_set))); rfl)
  exact ⟨rfl, by repeat (first | (with_reducible exact HB1.out) | (with_reducible refine below_set ?_ GB.out) | (with_reducible refine below_drew ?_) | (with_reducible refine pw_below_drewN ?_ _))⟩
theorem header_calls (W : World) (base g : Nat) (s : FS) (v : Value) (h : FeedAt W base g s v) : Calls Try.prog 26 #[.pointer (some ⟨g, 0, none⟩)] W fun e w' => e = .returned (.tuple #[.agg #[.int .i64 s.fhead.1, .int .i64 s.fhead.2.1, .int .i64 s.fhead.2.2.1], .bool s.fhead.2.2.2]) ∧ Below W.heap.size W w' := by
  have hnil := fun W : World => run_eql_pointer_nil (P := Try.prog) W 46 (some ⟨g, 0, none⟩) (by kernel_rfl)
  simp only [Option.isNone] at hnil
  have hu23 := Try.underlying23
  have hu76 := Try.underlying76
  have HB := Aside0.mk (Below.refl W.heap.size W)
  obtain ⟨fd, pos, st, left, R, E, L, a, b, er, pl⟩ := s
  have HF := Aside0.mk h.1
  have hgl := blk_lt h.1
  clear h
  by_cases hs : st < 6
  · have c1 : decide (st < 6) = true := decide_eq_true hs
    have e1 : FS.fhead ⟨fd, pos, st, left, R, E, L, a, b, er, pl⟩ = (0, 0, 0, false) := by simp [FS.fhead, hs]
    rw [e1]
    clear hs e1
    go_enter Try.func26, Try.ntmps26
    go_wp2_with ((with_reducible refine gate_dst (N := 2) rfl ?_); refine box_event ?hg (N := 2) ?hd (cs := #[.int .i64 0, .int .i64 0, .int .i64 0]) (t := 23) ?hr ?_; (case hd => rfl); (case hg => rfl); (case hr => first | (go_simp; done) | (go_simp; rfl)); intro gb hgb w1 hbox hb1; have BX := Aside0.mk hbox; have GB := Aside0.mk (show W.heap.size ≤ gb by omega); have HB1 := Aside0.mk (below_step HB.out hb1); have zb0 := (blk_cell hbox 0).trans rfl; have zb1 := (blk_cell hbox 1).trans rfl; have zb2 := (blk_cell hbox 2).trans rfl; have zf0 := blk_frozen hbox 0; have zf1 := blk_frozen hbox 1; have zf2 := blk_frozen hbox 2; have Z := feed_cells (blk_below HF.out hb1); obtain ⟨⟨z0, z1, z2, z3, z4, z5, z6, z7, z8, z9, z10⟩, f0, f1, f2, f3, f4, f5, f6, f7, f8, f9, f10⟩ := Z; clear hgb hbox hb1)
    refine bodyPost_ret (results_list (rs := [.cell 2 23, .tmp 3]) rfl (by simp) (.cell gb 23 #[.int .i64 0, .int .i64 0, .int .i64 0] (0, 0) _ rfl ?blk Try.underlying23 rfl (by kernel_rfl) (.tmp .nil))) rfl ?_
    case blk => (apply sethT; (repeat (first | (with_reducible exact BX.out) | (with_reducible refine blk_drewN ?_ _) | (with_reducible refine blk_drew ?_) | (with_reducible apply blk_set))); rfl)
    exact ⟨rfl, by repeat (first | (with_reducible exact HB1.out) | (with_reducible refine below_set ?_ GB.out) | (with_reducible refine below_drew ?_) | (with_reducible refine pw_below_drewN ?_ _))⟩
  · have c1 : decide (st < 6) = false := decide_eq_false hs
    have e1 : FS.fhead ⟨fd, pos, st, left, R, E, L, a, b, er, pl⟩ = (R, E, L, true) := by simp [FS.fhead, hs]
    rw [e1]
    clear hs e1
    go_enter Try.func26, Try.ntmps26
    go_wp2_with ((with_reducible refine gate_dst (N := 2) rfl ?_); refine box_event ?hg (N := 2) ?hd (cs := #[.int .i64 0, .int .i64 0, .int .i64 0]) (t := 23) ?hr ?_; (case hd => rfl); (case hg => rfl); (case hr => first | (go_simp; done) | (go_simp; rfl)); intro gb hgb w1 hbox hb1; have BX := Aside0.mk hbox; have GB := Aside0.mk (show W.heap.size ≤ gb by omega); have HB1 := Aside0.mk (below_step HB.out hb1); have zb0 := (blk_cell hbox 0).trans rfl; have zb1 := (blk_cell hbox 1).trans rfl; have zb2 := (blk_cell hbox 2).trans rfl; have zf0 := blk_frozen hbox 0; have zf1 := blk_frozen hbox 1; have zf2 := blk_frozen hbox 2; have Z := feed_cells (blk_below HF.out hb1); obtain ⟨⟨z0, z1, z2, z3, z4, z5, z6, z7, z8, z9, z10⟩, f0, f1, f2, f3, f4, f5, f6, f7, f8, f9, f10⟩ := Z; clear hgb hbox hb1)
    refine bodyPost_ret (results_list (rs := [.cell 2 23, .tmp 3]) rfl (by simp) (.cell gb 23 #[.int .i64 R, .int .i64 E, .int .i64 L] (0, 0) _ rfl ?blk Try.underlying23 rfl (by kernel_rfl) (.tmp .nil))) rfl ?_
    case blk => (apply sethT; (repeat (first | (with_reducible exact BX.out) | (with_reducible refine blk_drewN ?_ _) | (with_reducible refine blk_drew ?_) | (with_reducible apply blk_set))); rfl)
    exact ⟨rfl, by repeat (first | (with_reducible exact HB1.out) | (with_reducible refine below_set ?_ GB.out) | (with_reducible refine below_drew ?_) | (with_reducible refine pw_below_drewN ?_ _))⟩
theorem awake_now : churnlaw06_awake.f 100 = some true := by decide +kernel
end
def churnlaw06_FrameNil.f (l0 : List Int) : Option (Bool) := some true
set_option maxHeartbeats 1000000 in
set_option maxRecDepth 100000 in
theorem churnlaw06_FrameNil.calls (A0 : Option Addr) (c0 : Nat) (l0 : List Int) (r : Bool) (w : World) (hr0 : Kd.C (Kd.int .u8) w A0 l0.length l0) (hc0 : l0.length ≤ c0) (hr_ : r = true) (h : churnlaw06_FrameNil.f l0 = some r) :
    Calls Try.prog 9 #[.slice A0 l0.length c0] w fun e w' => e = .returned (.bool r) ∧ Below w.heap.size w w' := by
  subst hr_
  clear h hr0 hc0
  have hu23 := Try.underlying23
  have HB := Aside0.mk (Below.refl w.heap.size w)
  go_enter Try.func9, Try.ntmps9
  go_wp2_with (first
    | (go_at_call 10; (refine (churnlaw06_awake.calls 100 true w rfl awake_now).mono ?_); rintro e w1 ⟨rfl, hb1⟩; have HB1 := Aside0.mk hb1; clear hb1)
    | (go_at_call 22; (refine (put_nil _ _).mono ?_); rintro e w2 ⟨rfl, rfl⟩)
    | (go_at_call 26; (refine (header_nil _).mono ?_); rintro e w3 ⟨rfl, hb3⟩; have HB3 := Aside0.mk (below_then HB1.out HB1.out.size hb3); clear hb3)
    | ((with_reducible refine gate_dst (N := 6) rfl ?_); refine box_event ?hg (N := 6) ?hd (cs := #[.int .i64 0, .int .i64 0, .int .i64 0]) (t := 23) ?hr ?_; (case hd => rfl); (case hg => rfl); (case hr => first | (go_simp; done) | (go_simp; rfl)); intro gb hgb w4 hbox hb4; have BX := Aside0.mk hbox; have GB := Aside0.mk (show w.heap.size ≤ gb by have := HB3.out.size; omega); have HB4 := Aside0.mk (below_then HB3.out HB3.out.size hb4); have zb0 := (blk_cell hbox 0).trans rfl; have zb1 := (blk_cell hbox 1).trans rfl; have zb2 := (blk_cell hbox 2).trans rfl; have zf0 := blk_frozen hbox 0; have zf1 := blk_frozen hbox 1; have zf2 := blk_frozen hbox 2; clear hgb hbox hb4)
    | (go_at_call 27; (refine (end_nil _).mono ?_); rintro e w5 ⟨rfl, rfl⟩))
  go_ret
  exact ⟨rfl, by repeat (first | (with_reducible exact HB4.out) | (with_reducible refine below_set ?_ GB.out) | (with_reducible refine below_drew ?_) | (with_reducible refine pw_below_drewN ?_ _))⟩

end Go.Proofs.Ythkcadmjfkcbgaa.Q
