/- Functions of the program as plain Lean functions, each with a proof that its call comes to just these answers, and the row that joins them to the given statement; no condition beside the statement's own. Written for this claim by this session's programs (pf.py, pack.py) over the kit's print. -/
import Derived.Test.YthkcadmjfkcbgaaZFrameFeeds0
import Derived.Test.YthkcadmjfkcbgaaZFrameFeeds1
import Derived.Test.YthkcadmjfkcbgaaZFrameFeeds2
import Derived.Test.YthkcadmjfkcbgaaZFrameFeeds3
import Derived.Test.YthkcadmjfkcbgaaZFrameFeeds4
import Derived.Test.YthkcadmjfkcbgaaZFrameFeeds5
import Derived.Test.YthkcadmjfkcbgaaZFrameFeeds6
section
namespace Go.Proofs.Ythkcadmjfkcbgaa.Q
open Go.RowKit Go.Proofs.YthkcadmjfkcbgaaW.PrintWords Go.Proofs.YthkcadmjfkcbgaaW.PrintLast Go.Proofs.YthkcadmjfkcbgaaW.PrintMore
attribute [local go_sem] max2_int min2_int max_two min_two max_three min_three max_four min_four
set_option linter.unusedVariables false
set_option linter.unusedSimpArgs false
mutual
def churnref06_Judge.l0 : Nat → List Int → Int → List Int → Int → Bool → Int → Int → Int → Int → Int → Option (Bool × Int × Int × Int × (List (List Int)) × Int × Int)
  | 0, _, _, _, _, _, _, _, _, _, _ => none
  | k + 1, x0, x4, x5, x6, x309000, x309001, x309002, x309003, x309005, x309006 => if x6 < (x5.length : Int) then (if 0 ≤ x6 then (if (x0.length : Int) < (rd x5 x6) then (some (x309000, x309001, x309002, x309003, ([] : List (List Int)), (x0.length : Int), 67)) else ((churnref06_wrong.f k x0 x4).bind fun t313 => (if t313 = 0 then (churnref06_Judge.l0 k x0 (rd x5 x6) x5 (wrap64 (x6 + 1)) x309000 x309001 x309002 x309003 x309005 x309006) else (some (x309000, x309001, x309002, x309003, ([] : List (List Int)), x4, t313))))) else (none)) else ((churnref06_read.f k x0 8 8).bind fun t315 => ((churnref06_read.f k x0 16 8).bind fun t316 => (if 5 < (x0.length : Int) then ((churnref06_read.f k x0 6 2).bind fun t318 => (churnref06_Judge.l1 k x0 x4 t318 0 true t315 t316 (wrap64 (rd x0 5)) ([] : List (List Int)) x309005 x309006)) else (none))))
def churnref06_Judge.l1 : Nat → List Int → Int → Int → Int → Bool → Int → Int → Int → List (List Int) → Int → Int → Option (Bool × Int × Int × Int × (List (List Int)) × Int × Int)
  | 0, _, _, _, _, _, _, _, _, _, _, _ => none
  | k + 1, x0, x4, x8, x9, x309000, x309001, x309002, x309003, x309004, x309005, x309006 => if x9 < x8 then (if (x0.length : Int) ≥ (wrap64 (x4 + 2)) then ((churnref06_read.f k x0 x4 2).bind fun t328 => (churnref06_Judge.j2 k x0 x4 x8 x9 (t328 != 320) x309000 x309001 x309002 x309003 x309004 x309005 x309006)) else (churnref06_Judge.j2 k x0 x4 x8 x9 false x309000 x309001 x309002 x309003 x309004 x309005 x309006)) else ((churnref06_ended.f k x0 x4 x309000 x309001 x309002 x309003 x309004 x309005 x309006).bind fun bt319 => (some (bt319.1, bt319.2.1, bt319.2.2.1, bt319.2.2.2.1, bt319.2.2.2.2.1, bt319.2.2.2.2.2.1, bt319.2.2.2.2.2.2)))
def churnref06_Judge.j2 : Nat → List Int → Int → Int → Int → Bool → Bool → Int → Int → Int → List (List Int) → Int → Int → Option (Bool × Int × Int × Int × (List (List Int)) × Int × Int)
  | 0, _, _, _, _, _, _, _, _, _, _, _, _ => none
  | k + 1, x0, x4, x8, x9, x71, x309000, x309001, x309002, x309003, x309004, x309005, x309006 => if x71 = true then (some (x309000, x309001, x309002, x309003, x309004, x4, 64)) else (if (x0.length : Int) < (wrap64 ((wrap64 (x4 + 2)) + 320)) then (some (x309000, x309001, x309002, x309003, x309004, (x0.length : Int), 67)) else (if 0 ≤ (wrap64 (x4 + 2)) then (if (wrap64 (x4 + 2)) ≤ (wrap64 ((wrap64 (x4 + 2)) + 320)) then (if (wrap64 ((wrap64 (x4 + 2)) + 320)) ≤ (x0.length : Int) then ((churnref06_copied.f ((x0.take ((wrap64 ((wrap64 (x4 + 2)) + 320)) : Int).toNat).drop ((wrap64 (x4 + 2)) : Int).toNat)).bind fun t333 => (if x309004.length < 5864062014805 then (churnref06_Judge.l1 k x0 (wrap64 ((wrap64 (x4 + 2)) + 320)) x8 (wrap64 (x9 + 1)) x309000 x309001 x309002 x309003 (x309004 ++ [t333]) x309005 x309006) else (none))) else (none)) else (none)) else (none)))
end
def churnref06_Judge.f (k : Nat) (l0 : List Int) : Option (Bool × Int × Int × Int × (List (List Int)) × Int × Int) := churnref06_Judge.l0 k l0 0 (([4, 5, 6, 8, 16, 24] : List Int)) 0 false 0 0 0 0 0
def churnref06_Judge.T16 : Bool × List (List Nat × List Nat) := (true, [([], []), ([0], [0]), ([], []), ([2, 1], [2]), ([], []), ([4], [4]), ([5], [5]), ([6], [6]), ([1, 3, 7], [1, 3, 7]), ([0, 1, 2, 3, 4, 5, 6, 7, 8], []), ([9, 8, 3, 0, 1, 2, 3, 4, 5, 6, 7, 8], [8, 9])])
def churnref06_Judge.B16 : List Nat := [0, 1, 0, 7, 0, 16, 48, 112, 255, 511, 1023]
theorem churnref06_Judge.tab16 : rtab .any (opsOf Try.f34 16) = churnref06_Judge.T16 := by kernel_rfl
theorem churnref06_Judge.bits16 : waitsOk churnref06_Judge.T16.2 churnref06_Judge.B16 = true := by kernel_rfl
def churnref06_Judge.T27 : Bool × List (List Nat × List Nat) := (true, [([], []), ([0], [0]), ([], []), ([], []), ([3], [3]), ([], []), ([5], [5]), ([6], [6]), ([2, 4, 7], [2, 4, 7]), ([8], [8]), ([9], [9]), ([1, 10, 9], [1, 10]), ([0, 1, 2, 3, 4, 5, 6, 7, 8, 9, 10, 11], []), ([12, 11, 11, 0, 1, 2, 3, 4, 5, 6, 7, 8, 9, 10, 11], [11, 12])])
def churnref06_Judge.B27 : List Nat := [0, 1, 0, 0, 8, 0, 32, 96, 252, 508, 1020, 2047, 4095, 8191]
theorem churnref06_Judge.tab27 : rtab .any (opsOf Try.f34 27) = churnref06_Judge.T27 := by kernel_rfl
theorem churnref06_Judge.bits27 : waitsOk churnref06_Judge.T27.2 churnref06_Judge.B27 = true := by kernel_rfl
set_option maxHeartbeats 8000000 in
set_option maxRecDepth 100000 in
theorem churnref06_Judge.calls (k : Nat) (A0 : Option Addr) (c0 : Nat) (l0 : List Int) (r1 : Bool) (r2 : Int) (r3 : Int) (r4 : Int) (r5 : List (List Int)) (r6 : Int) (r7 : Int) (w : World) (hr0 : Kd.C (Kd.int .u8) w A0 l0.length l0) (hc0 : l0.length ≤ c0) (h : churnref06_Judge.f k l0 = some (r1, r2, r3, r4, r5, r6, r7)) :
    Calls Try.prog 34 #[.slice A0 l0.length c0] w fun e w' => ∃ v4_ : Value, e = .returned (.agg #[.bool r1, .int .i64 r2, .int .i64 r3, .int .i64 r4, v4_, .int .i64 r6, .int .i64 r7]) ∧ Kd.V (Kd.slice 5 (Kd.int .u8)) 30 w' w.heap.size (fun k_ => (w.heap.size ≤ k_)) v4_ r5 ∧ Below w.heap.size w w' := by
  have hu73 := Try.underlying73
  have hu23 := Try.underlying23
  have HR0 := Aside0.mk hr0
  have HC0 := Aside0.mk hc0
  clear hr0 hc0
  have HB := Aside0.mk (Below.refl w.heap.size w)
  have H : (churnref06_Judge.l0 k l0 0 (([4, 5, 6, 8, 16, 24] : List Int)) 0 false 0 0 0 0 0) = some (r1, r2, r3, r4, r5, r6, r7) := h
  clear h
  obtain ⟨y309, hy309⟩ : ∃ y_ : List Int, y_ = (([4, 5, 6, 8, 16, 24] : List Int)) := ⟨_, rfl⟩
  replace H : (churnref06_Judge.l0 k l0 0 y309 0 false 0 0 0 0 0) = some (r1, r2, r3, r4, r5, r6, r7) := by first | (rw [hy309]; with_reducible exact H) | (have H2_ := (Option.bind_some _ _).symm.trans H; rw [hy309]; with_reducible exact H2_) | (have H2_ := (Option.bind_some _ _).symm.trans H; with_reducible exact H2_) | with_reducible exact H | (rw [hy309]; exact H) | exact H
  have Ny309 := Aside0.mk hy309
  clear hy309
  have H' := Aside0.mk H
  clear H
  go_enter Try.func34, Try.ntmps34
  go_wp2_with (first | ((with_reducible refine gate_dst (N := 2) rfl ?_); refine box_event ?hg (N := 2) ?hd (cs := #[.bool false, .int .i64 0, .int .i64 0, .int .i64 0, .slice none 0 0, .int .i64 0, .int .i64 0]) (t := 73) ?hr ?_; (case hd => rfl); (case hg => rfl); (case hr => first | (go_simp; done) | (go_simp; rfl)); intro gb307 hg w2 hbox hb; have n0_ := Aside0.mk (below_step (by repeat (first | (with_reducible first | exact HB.out | apply below_alloc | apply pw_below_drewN | apply below_drew1) | exact HB.out)) hb); have n1_ := Aside0.mk (hbox); have n2_ := Aside0.mk ((by rw [hg]; exact (below_size (by repeat (first | (with_reducible first | exact HB.out | apply below_alloc | apply pw_below_drewN | apply below_drew1) | exact HB.out))) : w.heap.size ≤ gb307)); have n3_ := Aside0.mk ((by rw [hg]; exact (below_size (by repeat (first | (with_reducible first | exact HB.out | apply below_alloc | apply pw_below_drewN | apply below_drew1) | exact HB.out))) : w.heap.size ≤ gb307)); clear HB; have HB := n0_; have BK307 := n1_; have GW307 := n2_; have GE307 := n3_; clear n0_ n1_ n2_ n3_; clear hb hbox hg) | ((with_reducible refine gate_dst (N := 3) rfl ?_); refine box_event ?hg (N := 3) ?hd (cs := #[.bool false, .int .i64 0, .int .i64 0, .int .i64 0, .slice none 0 0, .int .i64 0, .int .i64 0]) (t := 73) ?hr ?_; (case hd => rfl); (case hg => rfl); (case hr => first | (go_simp; done) | (go_simp; rfl)); intro gb308 hg w3 hbox hb; have n0_ := Aside0.mk (blk_below (g := gb307) (o := .cells #[.bool false, .int .i64 0, .int .i64 0, .int .i64 0, .slice none 0 0, .int .i64 0, .int .i64 0] 73 (0, 0)) (by (with_reducible repeat (first | refine blk_drewN ?_ _ | refine blk_drew ?_ | refine blk_alloc ?_ _)); exact BK307.out) hb); have n1_ := Aside0.mk (below_step (by repeat (first | (with_reducible first | exact HB.out | apply below_alloc | apply pw_below_drewN | apply below_drew1 | refine below_set ?_ GE307.out) | exact HB.out)) hb); have n2_ := Aside0.mk (hbox); have n3_ := Aside0.mk ((by rw [hg]; exact (below_size (by repeat (first | (with_reducible first | exact HB.out | apply below_alloc | apply pw_below_drewN | apply below_drew1 | refine below_set ?_ GE307.out) | exact HB.out))) : w.heap.size ≤ gb308)); have n4_ := Aside0.mk ((by rw [hg]; exact (below_size (by repeat (first | (with_reducible first | exact HB.out | apply below_alloc | apply pw_below_drewN | apply below_drew1 | refine below_set ?_ GE307.out) | exact HB.out))) : w.heap.size ≤ gb308)); have n5_ := Aside0.mk ((by rw [hg]; exact Nat.ne_of_lt (blk_lt (g := gb307) (o := .cells #[.bool false, .int .i64 0, .int .i64 0, .int .i64 0, .slice none 0 0, .int .i64 0, .int .i64 0] 73 (0, 0)) (by (with_reducible repeat (first | refine blk_drewN ?_ _ | refine blk_drew ?_ | refine blk_alloc ?_ _)); exact BK307.out)) : gb307 ≠ gb308)); have n6_ := Aside0.mk ((by rw [hg]; exact Nat.ne_of_gt (blk_lt (g := gb307) (o := .cells #[.bool false, .int .i64 0, .int .i64 0, .int .i64 0, .slice none 0 0, .int .i64 0, .int .i64 0] 73 (0, 0)) (by (with_reducible repeat (first | refine blk_drewN ?_ _ | refine blk_drew ?_ | refine blk_alloc ?_ _)); exact BK307.out)) : gb308 ≠ gb307)); clear BK307; clear HB; have BK307 := n0_; have HB := n1_; have BK308 := n2_; have GW308 := n3_; have GE308 := n4_; have NB307_308 := n5_; have NB308_307 := n6_; clear n0_ n1_ n2_ n3_ n4_ n5_ n6_; clear hb hbox hg) | ((with_reducible refine gate_dst (N := 10) rfl ?_); refine Kd.R_lit (Kd.int .i64) _ 3 ?hg (N := 10) ?hd (xs := ([4, 5, 6, 8, 16, 24] : List Int)) (inner := [.int .i64 4, .int .i64 5, .int .i64 6, .int .i64 8, .int .i64 16, .int .i64 24]) (ok := fun _ => True) (okp := fun _ => True) ?hr ?hp (fun _ hk => hk) trivial (Below.refl _ _) (Nat.le_refl _) (by simp) ?_; (case hd => rfl); (case hg => rfl); (case hr => first | (go_simp; done) | (go_simp; rfl)); (case hp => exact (Reps.one (show Kd.M (Kd.int .i64) _ _ _ 4 [.int .i64 4] from rfl) (Reps.one (show Kd.M (Kd.int .i64) _ _ _ 5 [.int .i64 5] from rfl) (Reps.one (show Kd.M (Kd.int .i64) _ _ _ 6 [.int .i64 6] from rfl) (Reps.one (show Kd.M (Kd.int .i64) _ _ _ 8 [.int .i64 8] from rfl) (Reps.one (show Kd.M (Kd.int .i64) _ _ _ 16 [.int .i64 16] from rfl) (Reps.one (show Kd.M (Kd.int .i64) _ _ _ 24 [.int .i64 24] from rfl) (Reps.none _ _)))))))); intro v310 w4 ho5 hb hg_ hnew_; clear hg_ hnew_; (first | rw [← Ny309.out] at ho5 | (simp only [Int.reduceToNat] at ho5; rw [← Ny309.out] at ho5)); have n0_ := Aside0.mk (Kd.R_lower (Kd.R_newM (M := fun k_ => (w.heap.size ≤ k_)) ho5 (below_size (by repeat (first | (with_reducible first | exact HB.out | apply below_alloc | apply pw_below_drewN | apply below_drew1 | refine below_set ?_ GE307.out | refine below_set ?_ GE308.out) | exact HB.out))) (fun k_ h_ => h_)) (below_size (by repeat (first | (with_reducible first | exact HB.out | apply below_alloc | apply pw_below_drewN | apply below_drew1 | refine below_set ?_ GE307.out | refine below_set ?_ GE308.out) | exact HB.out)))); have n1_ := Aside0.mk (blk_below (g := gb307) (o := .cells #[.bool false, .int .i64 0, .int .i64 0, .int .i64 0, .slice none 0 0, .int .i64 0, .int .i64 0] 73 (0, 0)) (by (with_reducible repeat (first | refine blk_drewN ?_ _ | refine blk_drew ?_ | refine blk_alloc ?_ _)); exact BK307.out) hb); have n2_ := Aside0.mk (blk_below (g := gb308) (o := .cells #[.bool false, .int .i64 0, .int .i64 0, .int .i64 0, .slice none 0 0, .int .i64 0, .int .i64 0] 73 (0, 0)) (by (with_reducible repeat (first | refine blk_drewN ?_ _ | refine blk_drew ?_ | refine blk_alloc ?_ _)); exact BK308.out) hb); have n3_ := Aside0.mk (below_step (by repeat (first | (with_reducible first | exact HB.out | apply below_alloc | apply pw_below_drewN | apply below_drew1 | refine below_set ?_ GE307.out | refine below_set ?_ GE308.out) | exact HB.out)) hb); clear BK307; clear BK308; clear HB; have HO311 := n0_; have BK307 := n1_; have BK308 := n2_; have HB := n3_; clear n0_ n1_ n2_ n3_; clear hb ho5))
  go_loopg [4, 6] k (fun kq v4 v6 w' => ∃ (x4_1 : Int) (x6_1 : Int) (x308000_1 : Bool) (x308001_1 : Int) (x308002_1 : Int) (x308003_1 : Int) (x308005_1 : Int) (x308006_1 : Int) (x309005_1 : Int) (x309006_1 : Int), v4 = .int .i64 x4_1 ∧ v6 = .int .i64 x6_1 ∧ Aside0 (churnref06_Judge.l0 kq l0 x4_1 y309 x6_1 false 0 0 0 x309005_1 x309006_1 = some (r1, r2, r3, r4, r5, r6, r7)) ∧ Aside0 (kq ≤ k) ∧ Aside0 (Kd.R (Kd.int .i64) 3 w' w.heap.size (fun k_ => (w.heap.size ≤ k_)) v310 y309) ∧ Aside0 (w'.heap[gb307]? = some (.cells #[.bool x308000_1, .int .i64 x308001_1, .int .i64 x308002_1, .int .i64 x308003_1, (.slice none 0 0), .int .i64 x308005_1, .int .i64 x308006_1] 73 (0, 0))) ∧ Aside0 (w'.heap[gb308]? = some (.cells #[.bool false, .int .i64 0, .int .i64 0, .int .i64 0, (.slice none 0 0), .int .i64 x309005_1, .int .i64 x309006_1] 73 (0, 0))) ∧ Aside0 (Below w.heap.size w w'))
  case atStart => exact ⟨(0), (0), (false), (0), (0), (0), (0), (0), (0), (0), (by first | rfl | (simp; done) | (simp [*]; done)), (by first | rfl | (simp; done) | (simp [*]; done)), H', ⟨Nat.le_refl _⟩, ⟨by (with_reducible repeat (first | apply Kd.R_alloc | apply Kd.R_drewN | apply Kd.R_drew)); exact Kd.R_mono HO311.out (fun _ hk => hk.1)⟩, ⟨by (with_reducible repeat (first | refine blk_drewN ?_ _ | refine blk_drew ?_ | refine blk_alloc ?_ _)); exact BK307.out⟩, ⟨by (with_reducible repeat (first | refine blk_drewN ?_ _ | refine blk_drew ?_ | refine blk_alloc ?_ _)); exact BK308.out⟩, ⟨by repeat (first | (with_reducible first | exact HB.out | apply below_alloc | apply pw_below_drewN | apply below_drew1 | refine below_set ?_ GE307.out | refine below_set ?_ GE308.out) | exact HB.out)⟩⟩
  case round =>
    clear H'
    try clear p2
    try clear c3
    (try clear BK307)
    (try clear BK308)
    obtain ⟨x4_1, x6_1, x308000_1, x308001_1, x308002_1, x308003_1, x308005_1, x308006_1, x309005_1, x309006_1, rfl, rfl, HA, HK1, HO_5, BK307, BK308, HB⟩ := hrel
    cases gk with
    | zero => exact absurd HA.out (by simp [churnref06_Judge.l0])
    | succ k1 =>
      have H := HA.out
      clear HA
      simp only [churnref06_Judge.l0] at H
      by_cases c6 : x6_1 < (y309.length : Int)
      · rw [if_pos c6] at H
        have c6b0 : decide (x6_1 < (y309.length : Int)) = true := decide_eq_true c6
        clear c6
        by_cases c7 : 0 ≤ x6_1
        · rw [if_pos c7] at H
          have c7b0 : decide (0 ≤ x6_1) = true := decide_eq_true c7
          clear c7
          by_cases c8 : (l0.length : Int) < (rd y309 x6_1)
          · rw [if_pos c8] at H
            have c8b0 : decide ((l0.length : Int) < (rd y309 x6_1)) = true := decide_eq_true c8
            clear c8
            simp only [Option.some.injEq, Prod.mk.injEq] at H
            obtain ⟨rfl, rfl, rfl, rfl, rfl, rfl, rfl⟩ := H
            obtain ⟨Ao9, co9, eo9⟩ := Kd.R_slice HO_5.out
            subst eo9
            have p312 : 0 ≤ (x6_1 : Int) := of_decide_eq_true (by first | (with_reducible assumption) | assumption)
            have q312 : x6_1 < (y309.length : Int) := of_decide_eq_true (by first | (with_reducible assumption) | assumption)
            obtain ⟨ad312, e312, hx312_0⟩ := Kd.at_int (Kd.R_reads' HO_5.out).2.2 x6_1 p312 q312
            cases e312
            replace p312 := eq_true p312
            replace q312 := eq_true q312
            have hnb10 := NB308_307.out
            have hnc10 := NB307_308.out
            have hcz11_0 : wr.cell? ⟨gb308, 0, none⟩ = some (.bool false) := (blk_cell BK308.out 0).trans rfl
            have hcz11_1 : wr.cell? ⟨gb308, 1, none⟩ = some (.int .i64 0) := (blk_cell BK308.out 1).trans rfl
            have hcz11_2 : wr.cell? ⟨gb308, 2, none⟩ = some (.int .i64 0) := (blk_cell BK308.out 2).trans rfl
            have hcz11_3 : wr.cell? ⟨gb308, 3, none⟩ = some (.int .i64 0) := (blk_cell BK308.out 3).trans rfl
            have hcz11_4 : wr.cell? ⟨gb308, 4, none⟩ = some (.slice none 0 0) := (blk_cell BK308.out 4).trans rfl
            have hcz11_5 : wr.cell? ⟨gb308, 5, none⟩ = some (.int .i64 x309005_1) := (blk_cell BK308.out 5).trans rfl
            have hcz11_6 : wr.cell? ⟨gb308, 6, none⟩ = some (.int .i64 x309006_1) := (blk_cell BK308.out 6).trans rfl
            have hfz11_0 := blk_frozen BK308.out 0
            have hfz11_1 := blk_frozen BK308.out 1
            have hfz11_2 := blk_frozen BK308.out 2
            have hfz11_3 := blk_frozen BK308.out 3
            have hfz11_4 := blk_frozen BK308.out 4
            have hfz11_5 := blk_frozen BK308.out 5
            have hfz11_6 := blk_frozen BK308.out 6
            have hcz12_0 : wr.cell? ⟨gb307, 0, none⟩ = some (.bool x308000_1) := (blk_cell BK307.out 0).trans rfl
            have hcz12_1 : wr.cell? ⟨gb307, 1, none⟩ = some (.int .i64 x308001_1) := (blk_cell BK307.out 1).trans rfl
            have hcz12_2 : wr.cell? ⟨gb307, 2, none⟩ = some (.int .i64 x308002_1) := (blk_cell BK307.out 2).trans rfl
            have hcz12_3 : wr.cell? ⟨gb307, 3, none⟩ = some (.int .i64 x308003_1) := (blk_cell BK307.out 3).trans rfl
            have hcz12_4 : wr.cell? ⟨gb307, 4, none⟩ = some (.slice none 0 0) := (blk_cell BK307.out 4).trans rfl
            have hcz12_5 : wr.cell? ⟨gb307, 5, none⟩ = some (.int .i64 x308005_1) := (blk_cell BK307.out 5).trans rfl
            have hcz12_6 : wr.cell? ⟨gb307, 6, none⟩ = some (.int .i64 x308006_1) := (blk_cell BK307.out 6).trans rfl
            have hfz12_0 := blk_frozen BK307.out 0
            have hfz12_1 := blk_frozen BK307.out 1
            have hfz12_2 := blk_frozen BK307.out 2
            have hfz12_3 := blk_frozen BK307.out 3
            have hfz12_4 := blk_frozen BK307.out 4
            have hfz12_5 := blk_frozen BK307.out 5
            have hfz12_6 := blk_frozen BK307.out 6
            go_wp2
            refine bodyPost_ret (results_cell_row rfl _ _ gb307 73 #[.bool false, .int .i64 0, .int .i64 0, .int .i64 0, .slice none 0 0, .int .i64 (l0.length : Int), .int .i64 67] (0, 0) _ rfl (by (with_reducible repeat (first | refine blk_drewN ?_ _ | refine blk_drew ?_ | refine blk_alloc ?_ _)); refine blk_put (cs := #[.bool false, .int .i64 0, .int .i64 0, .int .i64 0, .slice none 0 0, .int .i64 (l0.length : Int), .int .i64 x308006_1]) ?_ 6 _ rfl; (with_reducible repeat (first | refine blk_drewN ?_ _ | refine blk_drew ?_ | refine blk_alloc ?_ _)); refine blk_put (cs := #[.bool false, .int .i64 0, .int .i64 0, .int .i64 0, .slice none 0 0, .int .i64 x308005_1, .int .i64 x308006_1]) ?_ 5 _ rfl; (with_reducible repeat (first | refine blk_drewN ?_ _ | refine blk_drew ?_ | refine blk_alloc ?_ _)); refine blk_put (cs := #[.bool false, .int .i64 0, .int .i64 0, .int .i64 0, .slice none 0 0, .int .i64 x308005_1, .int .i64 x308006_1]) ?_ 4 _ rfl; (with_reducible repeat (first | refine blk_drewN ?_ _ | refine blk_drew ?_ | refine blk_alloc ?_ _)); refine blk_put (cs := #[.bool false, .int .i64 0, .int .i64 0, .int .i64 x308003_1, .slice none 0 0, .int .i64 x308005_1, .int .i64 x308006_1]) ?_ 3 _ rfl; (with_reducible repeat (first | refine blk_drewN ?_ _ | refine blk_drew ?_ | refine blk_alloc ?_ _)); refine blk_put (cs := #[.bool false, .int .i64 0, .int .i64 x308002_1, .int .i64 x308003_1, .slice none 0 0, .int .i64 x308005_1, .int .i64 x308006_1]) ?_ 2 _ rfl; (with_reducible repeat (first | refine blk_drewN ?_ _ | refine blk_drew ?_ | refine blk_alloc ?_ _)); refine blk_put (cs := #[.bool false, .int .i64 x308001_1, .int .i64 x308002_1, .int .i64 x308003_1, .slice none 0 0, .int .i64 x308005_1, .int .i64 x308006_1]) ?_ 1 _ rfl; (with_reducible repeat (first | refine blk_drewN ?_ _ | refine blk_drew ?_ | refine blk_alloc ?_ _)); refine blk_put (cs := #[.bool x308000_1, .int .i64 x308001_1, .int .i64 x308002_1, .int .i64 x308003_1, .slice none 0 0, .int .i64 x308005_1, .int .i64 x308006_1]) ?_ 0 _ rfl; (with_reducible repeat (first | refine blk_drewN ?_ _ | refine blk_drew ?_ | refine blk_alloc ?_ _)); refine blk_far ?_ NB307_308.out _; (with_reducible repeat (first | refine blk_drewN ?_ _ | refine blk_drew ?_ | refine blk_alloc ?_ _)); refine blk_far ?_ NB307_308.out _; (with_reducible repeat (first | refine blk_drewN ?_ _ | refine blk_drew ?_ | refine blk_alloc ?_ _)); exact BK307.out) Try.underlying73 rfl (by kernel_rfl)) rfl ?_
            exact ⟨_, by first | rfl | (simp [errW_none, errW_some] <;> rfl) | (simp [*, errW_none, errW_some] <;> rfl), Kd.S_V (by first | exact Kd.S_nil _ _ _ w.heap.size _ | exact Kd.N_nil _ _ _ _ _ | exact Kd.V_nil _ _ _ _ _ | exact Kd.Q_nil _ _ _ _ _ | exact Kd.R_nil _ _ _ _ _), by repeat (first | (with_reducible first | exact HB.out | apply below_alloc | apply pw_below_drewN | apply below_drew1 | refine below_set ?_ GE307.out | refine below_set ?_ GE308.out) | exact HB.out)⟩
          · rw [if_neg c8] at H
            have c8b0 : decide ((l0.length : Int) < (rd y309 x6_1)) = false := decide_eq_false c8
            clear c8
            replace H := Option.bind_eq_some_iff.mp H
            obtain ⟨t313, A130, H⟩ := H
            replace H : (if t313 = 0 then (churnref06_Judge.l0 k1 l0 (rd y309 x6_1) y309 (wrap64 (x6_1 + 1)) false 0 0 0 x309005_1 x309006_1) else (some (false, 0, 0, 0, ([] : List (List Int)), x4_1, t313))) = some (r1, r2, r3, r4, r5, r6, r7) := H
            have A13 := Aside0.mk A130
            clear A130
            by_cases c14 : t313 = 0
            · rw [if_pos c14] at H
              have c14b0 : (t313 == 0) = true := beq_iff_eq.mpr c14
              have c14b1 : (t313 != 0) = false := bne_eq_false_iff_eq.mpr c14
              clear c14
              have H' := Aside0.mk H
              clear H
              obtain ⟨Ao15, co15, eo15⟩ := Kd.R_slice HO_5.out
              subst eo15
              have p312 : 0 ≤ (x6_1 : Int) := of_decide_eq_true (by first | (with_reducible assumption) | assumption)
              have q312 : x6_1 < (y309.length : Int) := of_decide_eq_true (by first | (with_reducible assumption) | assumption)
              obtain ⟨ad312, e312, hx312_0⟩ := Kd.at_int (Kd.R_reads' HO_5.out).2.2 x6_1 p312 q312
              cases e312
              replace p312 := eq_true p312
              replace q312 := eq_true q312
              go_wp2_with (first | ((with_reducible refine gate_callee (f := 38) rfl ?_); refine goesL_ (some 31) rfl rfl Try.func38 (by kernel_rfl) rfl #[.slice A0 l0.length c0, .int .i64 x4_1] rfl (by (try simp only [List.map_toArray, List.map_cons, List.map_nil]); first | done | rfl | (simp only [List.length_drop, List.length_take]; rfl)) ?_; (with_reducible refine (churnref06_wrong.calls k1 _ _ l0 x4_1 t313 _ ?side1 ?side2 A13.out).mono ?_); (case side1 => repeat (first | exact (Kd.C_below HR0.out HB.out) | (with_reducible refine Kd.C_alloc ?_ _) | (with_reducible refine Kd.C_drewN ?_ _) | (with_reducible refine Kd.C_drew ?_))); (case side2 => exact HC0.out); rintro e w' ⟨rfl, ⟨nd, rfl⟩⟩; refine ⟨_, rfl, ?_⟩; have p314 : 0 ≤ (x6_1 : Int) := of_decide_eq_true (by first | (with_reducible assumption) | assumption); have q314 : x6_1 < (y309.length : Int) := of_decide_eq_true (by first | (with_reducible assumption) | assumption); obtain ⟨ad314, e314, hx314_0⟩ := Kd.at_int (Kd.R_reads' HO_5.out).2.2 x6_1 p314 q314; obtain rfl : ad312 = ad314 := (by injection e314); replace p314 := eq_true p314; replace q314 := eq_true q314))
              go_roundg k1
              case measure => have := HK1.out; omega
              case rel => exact ⟨(rd y309 x6_1), (wrap64 (x6_1 + 1)), (x308000_1), (x308001_1), (x308002_1), (x308003_1), (x308005_1), (x308006_1), (x309005_1), (x309006_1), (by first | rfl | (simp; done) | (simp [*]; done)), (by first | rfl | (simp; done) | (simp [*]; done)), H', ⟨by have := HK1.out; omega⟩, ⟨by (with_reducible repeat (first | apply Kd.R_alloc | apply Kd.R_drewN | apply Kd.R_drew)); exact HO_5.out⟩, ⟨by (with_reducible repeat (first | refine blk_drewN ?_ _ | refine blk_drew ?_ | refine blk_alloc ?_ _)); exact BK307.out⟩, ⟨by (with_reducible repeat (first | refine blk_drewN ?_ _ | refine blk_drew ?_ | refine blk_alloc ?_ _)); exact BK308.out⟩, ⟨by repeat (first | (with_reducible first | exact HB.out | apply below_alloc | apply pw_below_drewN | apply below_drew1 | refine below_set ?_ GE307.out | refine below_set ?_ GE308.out) | exact HB.out)⟩⟩
            · rw [if_neg c14] at H
              have c14b0 : (t313 == 0) = false := beq_eq_false_iff_ne.mpr c14
              have c14b1 : (t313 != 0) = true := bne_iff_ne.mpr c14
              simp only [Option.some.injEq, Prod.mk.injEq] at H
              obtain ⟨rfl, rfl, rfl, rfl, rfl, rfl, rfl⟩ := H
              obtain ⟨Ao16, co16, eo16⟩ := Kd.R_slice HO_5.out
              subst eo16
              have p312 : 0 ≤ (x6_1 : Int) := of_decide_eq_true (by first | (with_reducible assumption) | assumption)
              have q312 : x6_1 < (y309.length : Int) := of_decide_eq_true (by first | (with_reducible assumption) | assumption)
              obtain ⟨ad312, e312, hx312_0⟩ := Kd.at_int (Kd.R_reads' HO_5.out).2.2 x6_1 p312 q312
              cases e312
              replace p312 := eq_true p312
              replace q312 := eq_true q312
              go_wp2_with (first | ((with_reducible refine gate_callee (f := 38) rfl ?_); refine goesL_ (some 31) rfl rfl Try.func38 (by kernel_rfl) rfl #[.slice A0 l0.length c0, .int .i64 x4_1] rfl (by (try simp only [List.map_toArray, List.map_cons, List.map_nil]); first | done | rfl | (simp only [List.length_drop, List.length_take]; rfl)) ?_; (with_reducible refine (churnref06_wrong.calls k1 _ _ l0 x4_1 t313 _ ?side1 ?side2 A13.out).mono ?_); (case side1 => repeat (first | exact (Kd.C_below HR0.out HB.out) | (with_reducible refine Kd.C_alloc ?_ _) | (with_reducible refine Kd.C_drewN ?_ _) | (with_reducible refine Kd.C_drew ?_))); (case side2 => exact HC0.out); rintro e w' ⟨rfl, ⟨nd, rfl⟩⟩; refine ⟨_, rfl, ?_⟩; (try (rw [drewN_self wr]; generalize hq_ : World.drewN wr _ = wr; have n0_ : Aside0 (Kd.R (Kd.int .i64) 3 wr w.heap.size (fun k_ => (w.heap.size ≤ k_)) (.slice (some ad312) y309.length co16) y309) := ⟨by rw [← hq_]; exact (by (with_reducible repeat (first | apply Kd.R_alloc | apply Kd.R_drewN | apply Kd.R_drew)); exact HO_5.out)⟩; have n1_ : Aside0 (wr.heap[gb307]? = some (.cells #[.bool x308000_1, .int .i64 x308001_1, .int .i64 x308002_1, .int .i64 x308003_1, .slice none 0 0, .int .i64 x308005_1, .int .i64 x308006_1] 73 (0, 0))) := ⟨by rw [← hq_]; exact (by (with_reducible repeat (first | refine blk_drewN ?_ _ | refine blk_drew ?_ | refine blk_alloc ?_ _)); exact BK307.out)⟩; have n2_ : Aside0 (wr.heap[gb308]? = some (.cells #[.bool false, .int .i64 0, .int .i64 0, .int .i64 0, .slice none 0 0, .int .i64 x309005_1, .int .i64 x309006_1] 73 (0, 0))) := ⟨by rw [← hq_]; exact (by (with_reducible repeat (first | refine blk_drewN ?_ _ | refine blk_drew ?_ | refine blk_alloc ?_ _)); exact BK308.out)⟩; have n3_ : Aside0 (Below w.heap.size w wr) := ⟨by rw [← hq_]; exact (by repeat (first | (with_reducible first | exact HB.out | apply below_alloc | apply pw_below_drewN | apply below_drew1 | refine below_set ?_ GE307.out | refine below_set ?_ GE308.out) | exact HB.out))⟩; clear HO_5 BK307 BK308 HB hq_; have HO_5 := n0_; have BK307 := n1_; have BK308 := n2_; have HB := n3_; clear n0_ n1_ n2_ n3_)); have hnb17 := NB308_307.out; have hnc17 := NB307_308.out; have hcz18_0 : wr.cell? ⟨gb308, 0, none⟩ = some (.bool false) := (blk_cell BK308.out 0).trans rfl; have hcz18_1 : wr.cell? ⟨gb308, 1, none⟩ = some (.int .i64 0) := (blk_cell BK308.out 1).trans rfl; have hcz18_2 : wr.cell? ⟨gb308, 2, none⟩ = some (.int .i64 0) := (blk_cell BK308.out 2).trans rfl; have hcz18_3 : wr.cell? ⟨gb308, 3, none⟩ = some (.int .i64 0) := (blk_cell BK308.out 3).trans rfl; have hcz18_4 : wr.cell? ⟨gb308, 4, none⟩ = some (.slice none 0 0) := (blk_cell BK308.out 4).trans rfl; have hcz18_5 : wr.cell? ⟨gb308, 5, none⟩ = some (.int .i64 x309005_1) := (blk_cell BK308.out 5).trans rfl; have hcz18_6 : wr.cell? ⟨gb308, 6, none⟩ = some (.int .i64 x309006_1) := (blk_cell BK308.out 6).trans rfl; have hfz18_0 := blk_frozen BK308.out 0; have hfz18_1 := blk_frozen BK308.out 1; have hfz18_2 := blk_frozen BK308.out 2; have hfz18_3 := blk_frozen BK308.out 3; have hfz18_4 := blk_frozen BK308.out 4; have hfz18_5 := blk_frozen BK308.out 5; have hfz18_6 := blk_frozen BK308.out 6; have hcz19_0 : wr.cell? ⟨gb307, 0, none⟩ = some (.bool x308000_1) := (blk_cell BK307.out 0).trans rfl; have hcz19_1 : wr.cell? ⟨gb307, 1, none⟩ = some (.int .i64 x308001_1) := (blk_cell BK307.out 1).trans rfl; have hcz19_2 : wr.cell? ⟨gb307, 2, none⟩ = some (.int .i64 x308002_1) := (blk_cell BK307.out 2).trans rfl; have hcz19_3 : wr.cell? ⟨gb307, 3, none⟩ = some (.int .i64 x308003_1) := (blk_cell BK307.out 3).trans rfl; have hcz19_4 : wr.cell? ⟨gb307, 4, none⟩ = some (.slice none 0 0) := (blk_cell BK307.out 4).trans rfl; have hcz19_5 : wr.cell? ⟨gb307, 5, none⟩ = some (.int .i64 x308005_1) := (blk_cell BK307.out 5).trans rfl; have hcz19_6 : wr.cell? ⟨gb307, 6, none⟩ = some (.int .i64 x308006_1) := (blk_cell BK307.out 6).trans rfl; have hfz19_0 := blk_frozen BK307.out 0; have hfz19_1 := blk_frozen BK307.out 1; have hfz19_2 := blk_frozen BK307.out 2; have hfz19_3 := blk_frozen BK307.out 3; have hfz19_4 := blk_frozen BK307.out 4; have hfz19_5 := blk_frozen BK307.out 5; have hfz19_6 := blk_frozen BK307.out 6))
              refine bodyPost_ret (results_cell_row rfl _ _ gb307 73 #[.bool false, .int .i64 0, .int .i64 0, .int .i64 0, .slice none 0 0, .int .i64 x4_1, .int .i64 t313] (0, 0) _ rfl (by (with_reducible repeat (first | refine blk_drewN ?_ _ | refine blk_drew ?_ | refine blk_alloc ?_ _)); refine blk_put (cs := #[.bool false, .int .i64 0, .int .i64 0, .int .i64 0, .slice none 0 0, .int .i64 x4_1, .int .i64 x308006_1]) ?_ 6 _ rfl; (with_reducible repeat (first | refine blk_drewN ?_ _ | refine blk_drew ?_ | refine blk_alloc ?_ _)); refine blk_put (cs := #[.bool false, .int .i64 0, .int .i64 0, .int .i64 0, .slice none 0 0, .int .i64 x308005_1, .int .i64 x308006_1]) ?_ 5 _ rfl; (with_reducible repeat (first | refine blk_drewN ?_ _ | refine blk_drew ?_ | refine blk_alloc ?_ _)); refine blk_put (cs := #[.bool false, .int .i64 0, .int .i64 0, .int .i64 0, .slice none 0 0, .int .i64 x308005_1, .int .i64 x308006_1]) ?_ 4 _ rfl; (with_reducible repeat (first | refine blk_drewN ?_ _ | refine blk_drew ?_ | refine blk_alloc ?_ _)); refine blk_put (cs := #[.bool false, .int .i64 0, .int .i64 0, .int .i64 x308003_1, .slice none 0 0, .int .i64 x308005_1, .int .i64 x308006_1]) ?_ 3 _ rfl; (with_reducible repeat (first | refine blk_drewN ?_ _ | refine blk_drew ?_ | refine blk_alloc ?_ _)); refine blk_put (cs := #[.bool false, .int .i64 0, .int .i64 x308002_1, .int .i64 x308003_1, .slice none 0 0, .int .i64 x308005_1, .int .i64 x308006_1]) ?_ 2 _ rfl; (with_reducible repeat (first | refine blk_drewN ?_ _ | refine blk_drew ?_ | refine blk_alloc ?_ _)); refine blk_put (cs := #[.bool false, .int .i64 x308001_1, .int .i64 x308002_1, .int .i64 x308003_1, .slice none 0 0, .int .i64 x308005_1, .int .i64 x308006_1]) ?_ 1 _ rfl; (with_reducible repeat (first | refine blk_drewN ?_ _ | refine blk_drew ?_ | refine blk_alloc ?_ _)); refine blk_put (cs := #[.bool x308000_1, .int .i64 x308001_1, .int .i64 x308002_1, .int .i64 x308003_1, .slice none 0 0, .int .i64 x308005_1, .int .i64 x308006_1]) ?_ 0 _ rfl; (with_reducible repeat (first | refine blk_drewN ?_ _ | refine blk_drew ?_ | refine blk_alloc ?_ _)); refine blk_far ?_ NB307_308.out _; (with_reducible repeat (first | refine blk_drewN ?_ _ | refine blk_drew ?_ | refine blk_alloc ?_ _)); refine blk_far ?_ NB307_308.out _; (with_reducible repeat (first | refine blk_drewN ?_ _ | refine blk_drew ?_ | refine blk_alloc ?_ _)); exact BK307.out) Try.underlying73 rfl (by kernel_rfl)) rfl ?_
              exact ⟨_, by first | rfl | (simp [errW_none, errW_some] <;> rfl) | (simp [*, errW_none, errW_some] <;> rfl), Kd.S_V (by first | exact Kd.S_nil _ _ _ w.heap.size _ | exact Kd.N_nil _ _ _ _ _ | exact Kd.V_nil _ _ _ _ _ | exact Kd.Q_nil _ _ _ _ _ | exact Kd.R_nil _ _ _ _ _), by repeat (first | (with_reducible first | exact HB.out | apply below_alloc | apply pw_below_drewN | apply below_drew1 | refine below_set ?_ GE307.out | refine below_set ?_ GE308.out) | exact HB.out)⟩
        · rw [if_neg c7] at H
          exact absurd H (by simp)
      · rw [if_neg c6] at H
        have c6b0 : decide (x6_1 < (y309.length : Int)) = false := decide_eq_false c6
        clear c6
        replace H := Option.bind_eq_some_iff.mp H
        obtain ⟨t315, A200, H⟩ := H
        replace H : ((churnref06_read.f k1 l0 16 8).bind fun t316 => (if 5 < (l0.length : Int) then ((churnref06_read.f k1 l0 6 2).bind fun t318 => (churnref06_Judge.l1 k1 l0 x4_1 t318 0 true t315 t316 (wrap64 (rd l0 5)) ([] : List (List Int)) x309005_1 x309006_1)) else (none))) = some (r1, r2, r3, r4, r5, r6, r7) := H
        have A20 := Aside0.mk A200
        clear A200
        replace H := Option.bind_eq_some_iff.mp H
        obtain ⟨t316, A210, H⟩ := H
        replace H : (if 5 < (l0.length : Int) then ((churnref06_read.f k1 l0 6 2).bind fun t318 => (churnref06_Judge.l1 k1 l0 x4_1 t318 0 true t315 t316 (wrap64 (rd l0 5)) ([] : List (List Int)) x309005_1 x309006_1)) else (none)) = some (r1, r2, r3, r4, r5, r6, r7) := H
        have A21 := Aside0.mk A210
        clear A210
        by_cases c22 : 5 < (l0.length : Int)
        · rw [if_pos c22] at H
          have c22b0 : decide (5 < (l0.length : Int)) = true := decide_eq_true c22
          have c22b1 : decide (5 < l0.length) = true := decide_eq_true (by omega)
          clear c22
          replace H := Option.bind_eq_some_iff.mp H
          obtain ⟨t318, A230, H⟩ := H
          replace H : (churnref06_Judge.l1 k1 l0 x4_1 t318 0 true t315 t316 (wrap64 (rd l0 5)) ([] : List (List Int)) x309005_1 x309006_1) = some (r1, r2, r3, r4, r5, r6, r7) := H
          have A23 := Aside0.mk A230
          clear A230
          have H' := Aside0.mk H
          clear H
          obtain ⟨Ao24, co24, eo24⟩ := Kd.R_slice HO_5.out
          subst eo24
          have hnb25 := NB308_307.out
          have hnc25 := NB307_308.out
          have hcz26_0 : wr.cell? ⟨gb308, 0, none⟩ = some (.bool false) := (blk_cell BK308.out 0).trans rfl
          have hcz26_1 : wr.cell? ⟨gb308, 1, none⟩ = some (.int .i64 0) := (blk_cell BK308.out 1).trans rfl
          have hcz26_2 : wr.cell? ⟨gb308, 2, none⟩ = some (.int .i64 0) := (blk_cell BK308.out 2).trans rfl
          have hcz26_3 : wr.cell? ⟨gb308, 3, none⟩ = some (.int .i64 0) := (blk_cell BK308.out 3).trans rfl
          have hcz26_4 : wr.cell? ⟨gb308, 4, none⟩ = some (.slice none 0 0) := (blk_cell BK308.out 4).trans rfl
          have hcz26_5 : wr.cell? ⟨gb308, 5, none⟩ = some (.int .i64 x309005_1) := (blk_cell BK308.out 5).trans rfl
          have hcz26_6 : wr.cell? ⟨gb308, 6, none⟩ = some (.int .i64 x309006_1) := (blk_cell BK308.out 6).trans rfl
          have hfz26_0 := blk_frozen BK308.out 0
          have hfz26_1 := blk_frozen BK308.out 1
          have hfz26_2 := blk_frozen BK308.out 2
          have hfz26_3 := blk_frozen BK308.out 3
          have hfz26_4 := blk_frozen BK308.out 4
          have hfz26_5 := blk_frozen BK308.out 5
          have hfz26_6 := blk_frozen BK308.out 6
          try go_wp2
          have n0_ : Aside0 (Kd.R (Kd.int .i64) 3 (wr.setCell ⟨gb308, 0, none⟩ (.bool true)) w.heap.size (fun k_ => (w.heap.size ≤ k_)) (.slice Ao24 y309.length co24) y309) := ⟨by (with_reducible repeat (first | apply Kd.R_alloc | apply Kd.R_drewN | apply Kd.R_drew)); exact Kd.R_mono (Kd.R_far (p := ⟨gb308, 0, none⟩) (Kd.R_types HO_5.out BK308.out (by decide)) (fun _ hk => hk.2) (.bool true)) (fun _ hk => hk.1)⟩
          have n1_ : Aside0 ((wr.setCell ⟨gb308, 0, none⟩ (.bool true)).heap[gb307]? = some (.cells #[.bool x308000_1, .int .i64 x308001_1, .int .i64 x308002_1, .int .i64 x308003_1, .slice none 0 0, .int .i64 x308005_1, .int .i64 x308006_1] 73 (0, 0))) := ⟨by (with_reducible repeat (first | refine blk_drewN ?_ _ | refine blk_drew ?_ | refine blk_alloc ?_ _)); refine blk_far ?_ NB307_308.out _; (with_reducible repeat (first | refine blk_drewN ?_ _ | refine blk_drew ?_ | refine blk_alloc ?_ _)); exact BK307.out⟩
          have n2_ : Aside0 ((wr.setCell ⟨gb308, 0, none⟩ (.bool true)).heap[gb308]? = some (.cells #[.bool true, .int .i64 0, .int .i64 0, .int .i64 0, .slice none 0 0, .int .i64 x309005_1, .int .i64 x309006_1] 73 (0, 0))) := ⟨by (with_reducible repeat (first | refine blk_drewN ?_ _ | refine blk_drew ?_ | refine blk_alloc ?_ _)); refine blk_put (cs := #[.bool false, .int .i64 0, .int .i64 0, .int .i64 0, .slice none 0 0, .int .i64 x309005_1, .int .i64 x309006_1]) ?_ 0 _ rfl; (with_reducible repeat (first | refine blk_drewN ?_ _ | refine blk_drew ?_ | refine blk_alloc ?_ _)); exact BK308.out⟩
          have n3_ : Aside0 (Below w.heap.size w (wr.setCell ⟨gb308, 0, none⟩ (.bool true))) := ⟨by repeat (first | (with_reducible first | exact HB.out | apply below_alloc | apply pw_below_drewN | apply below_drew1 | refine below_set ?_ GE307.out | refine below_set ?_ GE308.out) | exact HB.out)⟩
          (try clear HO_5)
          (try clear BK307)
          (try clear BK308)
          (try clear HB)
          generalize (wr.setCell ⟨gb308, 0, none⟩ (.bool true)) = w27 at n0_ n1_ n2_ n3_ ⊢
          have HO_5 := n0_
          have BK307 := n1_
          have BK308 := n2_
          have HB := n3_
          clear n0_ n1_ n2_ n3_
          have n0_ := Aside0.mk (Kd.R_drew HO_5.out)
          have n1_ := Aside0.mk (blk_drew BK307.out)
          have n2_ := Aside0.mk (blk_drew BK308.out)
          have n3_ := Aside0.mk (below_drew1 HB.out)
          clear HO_5
          clear BK307
          clear BK308
          clear HB
          have HO_5 := n0_
          have BK307 := n1_
          have BK308 := n2_
          have HB := n3_
          clear n0_ n1_ n2_ n3_
          have p317 : 0 ≤ (5 : Int) := (by omega)
          have q317 : 5 < (l0.length : Int) := of_decide_eq_true (by first | (with_reducible assumption) | assumption)
          obtain ⟨ad317, e317, hx317_0⟩ := Kd.at_int HR0.out 5 p317 q317
          have hw317_0 := hx317_0
          (try rw [show ((5 : Int)).toNat = 5 from rfl] at hw317_0)
          (try rw [show 5 * 1 = 5 from rfl] at hw317_0)
          (try simp only [Nat.reduceMul, Nat.reduceEqDiff, Go.Addr.add, ↓reduceIte] at hw317_0)
          cases e317
          (try simp only [show (5 : Int).toNat = 5 from rfl, Nat.reduceMul, Nat.reduceEqDiff, Go.Addr.add, ↓reduceIte] at hx317_0)
          have qi317 : (5 < l0.length) = True := eq_true (by omega)
          (try rw [show ((5 : Int)).toNat = 5 from rfl] at hx317_0)
          (try (replace hx317_0 := (HB.out.cell (World.block_lt_of_cell? w _ hx317_0)).trans hx317_0))
          replace p317 := eq_true p317
          replace q317 := eq_true q317
          refine start_ (n := 11) (S := fun w' => w'.cell? ⟨ad317.block, ad317.off + 5, none⟩ = some (.int .u8 (rd l0 5))) (ds := []) #[false, false, false, false, false, false, false, false, false, false, false] (by kernel_rfl) rfl rfl (((HB.out.cell (World.block_lt_of_cell? w _ hw317_0)).trans hw317_0)) (fun hHeld => ?_); refine with_tabW churnref06_Judge.tab16 churnref06_Judge.bits16 (fun HT_ HW_ => ?_)
          generalize w27.drew = w28 at HO_5 BK307 BK308 HB hx317_0 hHeld ⊢
          refine pure_ (i := 0) (N := some 44) (v := ?_) (a' := ?_) #[true, false, false, false, false, false, false, false, false, false, false] rfl rfl (any_of HT_.out (by kernel_rfl)) (fun _ _ _ h => h) (Or.inl ⟨by rfl, ?_⟩) ?_ ?_
          rotate_left
          · intro w'
            go_simp
            with_reducible rfl
          rotate_left
          · simp only [Act.put, List.setIfInBounds_toArray, List.set_cons_zero, List.set_cons_succ, i64_w, i32_w]
            rfl
          refine pure_ (i := 2) (N := some 46) (v := ?_) (a' := ?_) #[true, false, true, false, false, false, false, false, false, false, false] rfl rfl (any_of HT_.out (by kernel_rfl)) (fun _ _ _ h => h) (Or.inl ⟨by rfl, ?_⟩) ?_ ?_
          rotate_left
          · intro w'
            go_simp
            with_reducible rfl
          rotate_left
          · simp only [Act.put, List.setIfInBounds_toArray, List.set_cons_zero, List.set_cons_succ, i64_w, i32_w]
            rfl
          refine pure_ (i := 4) (N := some 48) (v := ?_) (a' := ?_) #[true, false, true, false, true, false, false, false, false, false, false] rfl rfl (any_of HT_.out (by kernel_rfl)) (fun _ _ _ h => h) (Or.inl ⟨by rfl, ?_⟩) ?_ ?_
          rotate_left
          · intro w'
            go_simp
            with_reducible rfl
          rotate_left
          · simp only [Act.put, List.setIfInBounds_toArray, List.set_cons_zero, List.set_cons_succ, i64_w, i32_w]
            rfl
          refine pure_ (i := 5) (N := some 49) (v := ?_) (a' := ?_) #[true, false, true, false, true, true, false, false, false, false, false] rfl rfl (any_of HT_.out (by kernel_rfl)) (fun _ _ _ h => h) (Or.inl ⟨by rfl, ?_⟩) ?_ ?_
          rotate_left
          · intro w'
            go_simp
            with_reducible rfl
          rotate_left
          · simp only [Act.put, List.setIfInBounds_toArray, List.set_cons_zero, List.set_cons_succ, i64_w, i32_w]
            rfl
          refine take_ (i := 6) (N := some 50) (v := ?_) (a' := ?_) #[true, false, true, false, true, true, true, false, false, false, false] rfl rfl (take_ofW HT_.out HW_.out (by kernel_rfl)) (fun _ _ _ h => h) (Or.inl ⟨by rfl, ?_⟩) hHeld ?_ ?_
          rotate_left
          · intro w' s0
            go_simp
            with_reducible rfl
          rotate_left
          · simp only [Act.put, List.setIfInBounds_toArray, List.set_cons_zero, List.set_cons_succ, i64_w, i32_w]
            rfl
          refine pure_ (i := 7) (N := some 51) (v := ?_) (a' := ?_) #[true, false, true, false, true, true, true, true, false, false, false] rfl rfl (any_of HT_.out (by kernel_rfl)) (fun _ _ _ h => h) (Or.inl ⟨by rfl, ?_⟩) ?_ ?_
          rotate_left
          · intro w'
            go_simp
            with_reducible rfl
          rotate_left
          · simp only [Act.put, List.setIfInBounds_toArray, List.set_cons_zero, List.set_cons_succ, i64_w, i32_w]
            rfl
          refine one_ (i := 1) (N := some 45) #[true, true, true, false, true, true, true, true, false, false, false] rfl rfl (one_of HT_.out (by kernel_rfl)) (by decide) (fun K hK => ?_)
          refine goes_ Try.func39 (by kernel_rfl) rfl #[.slice (some ad317) l0.length c0, .int .i64 8, .int .i64 8] (by rfl) rfl rfl (by (try simp only [List.map_toArray, List.map_cons, List.map_nil]); first | done | rfl | (simp only [List.length_drop, List.length_take]; rfl)) ?_
          with_reducible refine (churnref06_read.calls k1 _ _ l0 8 8 t315 _ ?side1 ?side2 A20.out).mono ?_
          (case side1 => repeat (first | exact (Kd.C_below HR0.out HB.out) | (with_reducible refine Kd.C_alloc ?_ _) | (with_reducible refine Kd.C_drewN ?_ _) | (with_reducible refine Kd.C_drew ?_)))
          (case side2 => exact HC0.out)
          rintro e w' ⟨rfl, ⟨nd, rfl⟩⟩
          refine ⟨_, rfl, ?_⟩
          refine hK.out _ _ (((HB.out.cell (World.block_lt_of_cell? w _ hw317_0)).trans hw317_0)) (fun hHeld => ?_)
          clear hK K
          refine norm_ (a' := ?_) ?_ ?_
          rotate_left
          · show Act.put _ (some 45) _ = _
            simp only [Act.put, List.setIfInBounds_toArray, List.set_cons_zero, List.set_cons_succ, i64_w, i32_w]
            rfl
          refine one_ (i := 3) (N := some 47) #[true, true, true, true, true, true, true, true, false, false, false] rfl rfl (one_of HT_.out (by kernel_rfl)) (by decide) (fun K hK => ?_)
          refine goes_ Try.func39 (by kernel_rfl) rfl #[.slice (some ad317) l0.length c0, .int .i64 16, .int .i64 8] (by rfl) rfl rfl (by (try simp only [List.map_toArray, List.map_cons, List.map_nil]); first | done | rfl | (simp only [List.length_drop, List.length_take]; rfl)) ?_
          with_reducible refine (churnref06_read.calls k1 _ _ l0 16 8 t316 _ ?side1 ?side2 A21.out).mono ?_
          (case side1 => repeat (first | exact (Kd.C_below HR0.out (by repeat (first | (with_reducible first | exact HB.out | apply below_alloc | apply pw_below_drewN | apply below_drew1 | refine below_set ?_ GE307.out | refine below_set ?_ GE308.out) | exact HB.out))) | (with_reducible refine Kd.C_alloc ?_ _) | (with_reducible refine Kd.C_drewN ?_ _) | (with_reducible refine Kd.C_drew ?_)))
          (case side2 => exact HC0.out)
          rintro e w' ⟨rfl, ⟨nd, rfl⟩⟩
          refine ⟨_, rfl, ?_⟩
          refine hK.out _ _ (((HB.out.cell (World.block_lt_of_cell? w _ hw317_0)).trans hw317_0)) (fun hHeld => ?_)
          clear hK K
          refine norm_ (a' := ?_) ?_ ?_
          rotate_left
          · show Act.put _ (some 47) _ = _
            simp only [Act.put, List.setIfInBounds_toArray, List.set_cons_zero, List.set_cons_succ, i64_w, i32_w]
            rfl
          refine pure_ (i := 8) (N := some 52) (v := ?_) (a' := ?_) #[true, true, true, true, true, true, true, true, true, false, false] rfl rfl (any_of HT_.out (by kernel_rfl)) (fun _ _ _ h => h) (Or.inl ⟨by rfl, ?_⟩) ?_ ?_
          rotate_left
          · intro w'
            go_simp
            with_reducible rfl
          rotate_left
          · simp only [Act.put, List.setIfInBounds_toArray, List.set_cons_zero, List.set_cons_succ, i64_w, i32_w]
            rfl
          refine pure_ (i := 9) (N := some 53) (v := ?_) (a' := ?_) #[true, true, true, true, true, true, true, true, true, true, false] rfl rfl (any_of HT_.out (by kernel_rfl)) (fun _ _ _ h => h) (Or.inl ⟨by rfl, ?_⟩) ?_ ?_
          rotate_left
          · intro w'
            go_simp
            with_reducible rfl
          rotate_left
          · simp only [Act.put, List.setIfInBounds_toArray, List.set_cons_zero, List.set_cons_succ, i64_w, i32_w]
            rfl
          refine one_ (i := 10) (N := none) #[true, true, true, true, true, true, true, true, true, true, true] rfl rfl (one_of HT_.out (by kernel_rfl)) (by decide) (fun K hK => ?_)
          have hs29 : w28.cell? ⟨gb308, 1, none⟩ = some (.int .i64 0) := (blk_cell BK308.out 1).trans rfl
          have hfs29 := blk_frozen BK308.out 1
          have hns29_0 := NB307_308.out
          have hms29_0 := NB308_307.out
          have hs30 : w28.cell? ⟨gb308, 2, none⟩ = some (.int .i64 0) := (blk_cell BK308.out 2).trans rfl
          have hfs30 := blk_frozen BK308.out 2
          have hns30_0 := NB307_308.out
          have hms30_0 := NB308_307.out
          have hs31 : w28.cell? ⟨gb308, 3, none⟩ = some (.int .i64 0) := (blk_cell BK308.out 3).trans rfl
          have hfs31 := blk_frozen BK308.out 3
          have hns31_0 := NB307_308.out
          have hms31_0 := NB308_307.out
          refine skip_ (w1 := ?_) (by rfl) rfl ?_ ?_
          rotate_left
          · go_simp
            rfl
          refine hK.out _ _ (((cell_far (p := ⟨gb308, _, none⟩) (by first | exact Nat.ne_of_lt (Nat.lt_of_lt_of_le (by have := World.block_lt_of_cell? _ _ hw317_0; first | rwa [add_block] at this | exact this) GW308.out) | (rw [add_block]; exact Nat.ne_of_lt (Nat.lt_of_lt_of_le (by have := World.block_lt_of_cell? _ _ hw317_0; first | rwa [add_block] at this | exact this) GW308.out)) | (show (Addr.add _ _).block ≠ _; rw [add_block]; exact Nat.ne_of_lt (Nat.lt_of_lt_of_le (by have := World.block_lt_of_cell? _ _ hw317_0; first | rwa [add_block] at this | exact this) GW308.out)) | (dsimp only; exact Nat.ne_of_lt (Nat.lt_of_lt_of_le (by have := World.block_lt_of_cell? _ _ hw317_0; first | rwa [add_block] at this | exact this) GW308.out))) _).trans (((cell_far (p := ⟨gb308, _, none⟩) (by first | exact Nat.ne_of_lt (Nat.lt_of_lt_of_le (by have := World.block_lt_of_cell? _ _ hw317_0; first | rwa [add_block] at this | exact this) GW308.out) | (rw [add_block]; exact Nat.ne_of_lt (Nat.lt_of_lt_of_le (by have := World.block_lt_of_cell? _ _ hw317_0; first | rwa [add_block] at this | exact this) GW308.out)) | (show (Addr.add _ _).block ≠ _; rw [add_block]; exact Nat.ne_of_lt (Nat.lt_of_lt_of_le (by have := World.block_lt_of_cell? _ _ hw317_0; first | rwa [add_block] at this | exact this) GW308.out)) | (dsimp only; exact Nat.ne_of_lt (Nat.lt_of_lt_of_le (by have := World.block_lt_of_cell? _ _ hw317_0; first | rwa [add_block] at this | exact this) GW308.out))) _).trans (((cell_far (p := ⟨gb308, _, none⟩) (by first | exact Nat.ne_of_lt (Nat.lt_of_lt_of_le (by have := World.block_lt_of_cell? _ _ hw317_0; first | rwa [add_block] at this | exact this) GW308.out) | (rw [add_block]; exact Nat.ne_of_lt (Nat.lt_of_lt_of_le (by have := World.block_lt_of_cell? _ _ hw317_0; first | rwa [add_block] at this | exact this) GW308.out)) | (show (Addr.add _ _).block ≠ _; rw [add_block]; exact Nat.ne_of_lt (Nat.lt_of_lt_of_le (by have := World.block_lt_of_cell? _ _ hw317_0; first | rwa [add_block] at this | exact this) GW308.out)) | (dsimp only; exact Nat.ne_of_lt (Nat.lt_of_lt_of_le (by have := World.block_lt_of_cell? _ _ hw317_0; first | rwa [add_block] at this | exact this) GW308.out))) _).trans (hHeld))))))) (fun hHeld => ?_)
          clear hK K
          refine done_ (done_of HT_.out (by kernel_rfl)) ?_
          try go_wp2_with (first | ((with_reducible refine gate_callee (f := 39) rfl ?_); refine goesL_ (some 55) rfl rfl Try.func39 (by kernel_rfl) rfl #[.slice (some ad317) l0.length c0, .int .i64 6, .int .i64 2] rfl (by (try simp only [List.map_toArray, List.map_cons, List.map_nil]); first | done | rfl | (simp only [List.length_drop, List.length_take]; rfl)) ?_; (with_reducible refine (churnref06_read.calls k1 _ _ l0 6 2 t318 _ ?side1 ?side2 A23.out).mono ?_); (case side1 => exact Kd.C_below HR0.out (by repeat (first | (with_reducible first | exact HB.out | apply below_alloc | apply pw_below_drewN | apply below_drew1 | refine below_set ?_ GE307.out | refine below_set ?_ GE308.out) | exact HB.out))); (case side2 => exact HC0.out); rintro e w' ⟨rfl, ⟨nd, rfl⟩⟩; refine ⟨_, rfl, ?_⟩))
          go_loopg [4, 9] k1 (fun kq v4 v9 w' => ∃ (x4_2 : Int) (x9_2 : Int) (x308000_2 : Bool) (x308001_2 : Int) (x308002_2 : Int) (x308003_2 : Int) (x308005_2 : Int) (x308006_2 : Int) (x309004_2 : List (List Int)) (x309005_2 : Int) (x309006_2 : Int) (u309004 : Value), v4 = .int .i64 x4_2 ∧ v9 = .int .i64 x9_2 ∧ Aside0 (churnref06_Judge.l1 kq l0 x4_2 t318 x9_2 true t315 t316 (wrap64 (rd l0 5)) x309004_2 x309005_2 x309006_2 = some (r1, r2, r3, r4, r5, r6, r7)) ∧ Aside0 (kq ≤ k1) ∧ Aside0 (Kd.S (Kd.slice 5 (Kd.int .u8)) 30 w' w.heap.size (fun k_ => (w.heap.size ≤ k_)) u309004 x309004_2) ∧ Aside0 (w'.heap[gb307]? = some (.cells #[.bool x308000_2, .int .i64 x308001_2, .int .i64 x308002_2, .int .i64 x308003_2, (.slice none 0 0), .int .i64 x308005_2, .int .i64 x308006_2] 73 (0, 0))) ∧ Aside0 (w'.heap[gb308]? = some (.cells #[.bool true, .int .i64 t315, .int .i64 t316, .int .i64 (wrap64 (rd l0 5)), u309004, .int .i64 x309005_2, .int .i64 x309006_2] 73 (0, 0))) ∧ Aside0 (Below w.heap.size w w'))
          case atStart => exact ⟨(x4_1), (0), (x308000_1), (x308001_1), (x308002_1), (x308003_1), (x308005_1), (x308006_1), (([] : List (List Int))), (x309005_1), (x309006_1), (.slice none 0 0), (by first | rfl | (simp; done) | (simp [*]; done)), (by first | rfl | (simp; done) | (simp [*]; done)), H', ⟨Nat.le_refl _⟩, ⟨by first | exact Kd.S_nil _ _ _ _ _ | exact Kd.N_nil _ _ _ _ _ | exact Kd.V_nil _ _ _ _ _ | exact Kd.Q_nil _ _ _ _ _ | exact Kd.R_nil _ _ _ _ _⟩, ⟨by (with_reducible repeat (first | refine blk_drewN ?_ _ | refine blk_drew ?_ | refine blk_alloc ?_ _)); refine blk_far ?_ NB307_308.out _; (with_reducible repeat (first | refine blk_drewN ?_ _ | refine blk_drew ?_ | refine blk_alloc ?_ _)); refine blk_far ?_ NB307_308.out _; (with_reducible repeat (first | refine blk_drewN ?_ _ | refine blk_drew ?_ | refine blk_alloc ?_ _)); refine blk_far ?_ NB307_308.out _; (with_reducible repeat (first | refine blk_drewN ?_ _ | refine blk_drew ?_ | refine blk_alloc ?_ _)); exact BK307.out⟩, ⟨by (with_reducible repeat (first | refine blk_drewN ?_ _ | refine blk_drew ?_ | refine blk_alloc ?_ _)); refine blk_put (cs := #[.bool true, .int .i64 t315, .int .i64 t316, .int .i64 0, .slice none 0 0, .int .i64 x309005_1, .int .i64 x309006_1]) ?_ 3 _ rfl; (with_reducible repeat (first | refine blk_drewN ?_ _ | refine blk_drew ?_ | refine blk_alloc ?_ _)); refine blk_put (cs := #[.bool true, .int .i64 t315, .int .i64 0, .int .i64 0, .slice none 0 0, .int .i64 x309005_1, .int .i64 x309006_1]) ?_ 2 _ rfl; (with_reducible repeat (first | refine blk_drewN ?_ _ | refine blk_drew ?_ | refine blk_alloc ?_ _)); refine blk_put (cs := #[.bool true, .int .i64 0, .int .i64 0, .int .i64 0, .slice none 0 0, .int .i64 x309005_1, .int .i64 x309006_1]) ?_ 1 _ rfl; (with_reducible repeat (first | refine blk_drewN ?_ _ | refine blk_drew ?_ | refine blk_alloc ?_ _)); exact BK308.out⟩, ⟨by repeat (first | (with_reducible first | exact HB.out | apply below_alloc | apply pw_below_drewN | apply below_drew1 | refine below_set ?_ GE307.out | refine below_set ?_ GE308.out) | exact HB.out)⟩⟩
          case round =>
            clear H'
            try clear c1
            try clear c2
            try clear p2
            try clear c3
            try clear p3
            try clear q3
            try clear hx3
            try clear qi3
            try clear c6
            try clear c6b0
            try clear p6
            try clear c7
            try clear c7b0
            try clear c8
            try clear c8b0
            try clear c10
            try clear c14
            try clear c14b0
            try clear c14b1
            try clear c17
            try clear c22
            try clear c22b0
            try clear c22b1
            try clear c25
            try clear p31
            try clear q31
            try clear hx31
            try clear qi31
            try clear hcz11_0
            try clear hcz11_1
            try clear hcz11_2
            try clear hcz11_3
            try clear hcz11_4
            try clear hcz11_5
            try clear hcz11_6
            try clear hcz12_0
            try clear hcz12_1
            try clear hcz12_2
            try clear hcz12_3
            try clear hcz12_4
            try clear hcz12_5
            try clear hcz12_6
            try clear hcz18_0
            try clear hcz18_1
            try clear hcz18_2
            try clear hcz18_3
            try clear hcz18_4
            try clear hcz18_5
            try clear hcz18_6
            try clear hcz19_0
            try clear hcz19_1
            try clear hcz19_2
            try clear hcz19_3
            try clear hcz19_4
            try clear hcz19_5
            try clear hcz19_6
            try clear hcz26_0
            try clear hcz26_1
            try clear hcz26_2
            try clear hcz26_3
            try clear hcz26_4
            try clear hcz26_5
            try clear hcz26_6
            try clear hfz11_0
            try clear hfz11_1
            try clear hfz11_2
            try clear hfz11_3
            try clear hfz11_4
            try clear hfz11_5
            try clear hfz11_6
            try clear hfz12_0
            try clear hfz12_1
            try clear hfz12_2
            try clear hfz12_3
            try clear hfz12_4
            try clear hfz12_5
            try clear hfz12_6
            try clear hfz18_0
            try clear hfz18_1
            try clear hfz18_2
            try clear hfz18_3
            try clear hfz18_4
            try clear hfz18_5
            try clear hfz18_6
            try clear hfz19_0
            try clear hfz19_1
            try clear hfz19_2
            try clear hfz19_3
            try clear hfz19_4
            try clear hfz19_5
            try clear hfz19_6
            try clear hfz26_0
            try clear hfz26_1
            try clear hfz26_2
            try clear hfz26_3
            try clear hfz26_4
            try clear hfz26_5
            try clear hfz26_6
            try clear hx312_0
            try clear hx314_0
            try clear hx317_0
            try clear p2
            try clear p312
            try clear p314
            try clear p317
            try clear q312
            try clear q314
            try clear q317
            (try clear BK307)
            (try clear BK308)
            obtain ⟨x4_2, x9_2, x308000_2, x308001_2, x308002_2, x308003_2, x308005_2, x308006_2, x309004_2, x309005_2, x309006_2, u309004, rfl, rfl, HA, HK2, HO_309004, BK307, BK308, HB⟩ := hrel
            cases gk with
            | zero => exact absurd HA.out (by simp [churnref06_Judge.l1])
            | succ k2 =>
              have H := HA.out
              clear HA
              simp only [churnref06_Judge.l1] at H
              by_cases c32 : x9_2 < t318
              · rw [if_pos c32] at H
                have c32b0 : decide (x9_2 < t318) = true := decide_eq_true c32
                clear c32
                have HC33 := Aside0.mk H
                clear H
                go_upto_region 21 with (fail)
                go_cut [71] (fun v71 wc => ∃ (kq : Nat) (x71_32 : Bool), v71 = .bool x71_32 ∧ Aside0 (churnref06_Judge.j2 kq l0 x4_2 t318 x9_2 x71_32 true t315 t316 (wrap64 (rd l0 5)) x309004_2 x309005_2 x309006_2 = some (r1, r2, r3, r4, r5, r6, r7)) ∧ Aside0 (kq ≤ k2) ∧ Aside0 (Kd.S (Kd.slice 5 (Kd.int .u8)) 30 wc w.heap.size (fun k_ => (w.heap.size ≤ k_)) u309004 x309004_2) ∧ Aside0 (wc.heap[gb307]? = some (.cells #[.bool x308000_2, .int .i64 x308001_2, .int .i64 x308002_2, .int .i64 x308003_2, (.slice none 0 0), .int .i64 x308005_2, .int .i64 x308006_2] 73 (0, 0))) ∧ Aside0 (wc.heap[gb308]? = some (.cells #[.bool true, .int .i64 t315, .int .i64 t316, .int .i64 (wrap64 (rd l0 5)), u309004, .int .i64 x309005_2, .int .i64 x309006_2] 73 (0, 0))) ∧ Aside0 (Below w.heap.size w wc))
                case first =>
                  have H := HC33.out
                  clear HC33
                  by_cases c34 : (l0.length : Int) ≥ (wrap64 (x4_2 + 2))
                  · rw [if_pos c34] at H
                    have c34b0 : decide ((wrap64 (x4_2 + 2)) ≤ (l0.length : Int)) = true := decide_eq_true c34
                    clear c34
                    (first | rw [c34b0] | (simp only [i64_w, i32_w]; rw [c34b0]) | skip)
                    replace H := Option.bind_eq_some_iff.mp H
                    obtain ⟨t328, A350, H⟩ := H
                    replace H : (churnref06_Judge.j2 k2 l0 x4_2 t318 x9_2 (t328 != 320) true t315 t316 (wrap64 (rd l0 5)) x309004_2 x309005_2 x309006_2) = some (r1, r2, r3, r4, r5, r6, r7) := H
                    have A35 := Aside0.mk A350
                    clear A350
                    have H' := Aside0.mk H
                    clear H
                    go_wp2_with (first | (go_at_call 39; (with_reducible refine (churnref06_read.calls k2 _ _ l0 x4_2 2 t328 _ ?side1 ?side2 A35.out).mono ?_); (case side1 => repeat (first | exact (Kd.C_below HR0.out HB.out) | (with_reducible refine Kd.C_alloc ?_ _) | (with_reducible refine Kd.C_drewN ?_ _) | (with_reducible refine Kd.C_drew ?_))); (case side2 => exact HC0.out); rintro e w' ⟨rfl, ⟨nd, rfl⟩⟩))
                    go_meet
                    case rel => exact ⟨_, ((t328 != 320)), (by first | rfl | (simp; done) | (simp [*]; done)), H', ⟨by have := HK1.out; have := HK2.out; first | omega | exact Nat.le_refl _⟩, ⟨by (with_reducible repeat (first | apply Kd.S_alloc | apply Kd.S_drewN | apply Kd.S_drew)); exact HO_309004.out⟩, ⟨by (with_reducible repeat (first | refine blk_drewN ?_ _ | refine blk_drew ?_ | refine blk_alloc ?_ _)); exact BK307.out⟩, ⟨by (with_reducible repeat (first | refine blk_drewN ?_ _ | refine blk_drew ?_ | refine blk_alloc ?_ _)); exact BK308.out⟩, ⟨by repeat (first | (with_reducible first | exact HB.out | apply below_alloc | apply pw_below_drewN | apply below_drew1 | refine below_set ?_ GE307.out | refine below_set ?_ GE308.out) | exact HB.out)⟩⟩
                  · rw [if_neg c34] at H
                    have c34b0 : decide ((wrap64 (x4_2 + 2)) ≤ (l0.length : Int)) = false := decide_eq_false c34
                    clear c34
                    (first | rw [c34b0] | (simp only [i64_w, i32_w]; rw [c34b0]) | skip)
                    have H' := Aside0.mk H
                    clear H
                    go_wp2
                    go_meet
                    case rel => exact ⟨_, (false), (by first | rfl | (simp; done) | (simp [*]; done)), H', ⟨by have := HK1.out; have := HK2.out; first | omega | exact Nat.le_refl _⟩, ⟨by (with_reducible repeat (first | apply Kd.S_alloc | apply Kd.S_drewN | apply Kd.S_drew)); exact HO_309004.out⟩, ⟨by (with_reducible repeat (first | refine blk_drewN ?_ _ | refine blk_drew ?_ | refine blk_alloc ?_ _)); exact BK307.out⟩, ⟨by (with_reducible repeat (first | refine blk_drewN ?_ _ | refine blk_drew ?_ | refine blk_alloc ?_ _)); exact BK308.out⟩, ⟨by repeat (first | (with_reducible first | exact HB.out | apply below_alloc | apply pw_below_drewN | apply below_drew1 | refine below_set ?_ GE307.out | refine below_set ?_ GE308.out) | exact HB.out)⟩⟩
                case rest =>
                  clear HC33
                  try clear c1
                  try clear c2
                  try clear p2
                  try clear c3
                  try clear p3
                  try clear q3
                  try clear hx3
                  try clear qi3
                  try clear c6
                  try clear c6b0
                  try clear p6
                  try clear c7
                  try clear c7b0
                  try clear c8
                  try clear c8b0
                  try clear c10
                  try clear c14
                  try clear c14b0
                  try clear c14b1
                  try clear c17
                  try clear c22
                  try clear c22b0
                  try clear c22b1
                  try clear c25
                  try clear p31
                  try clear q31
                  try clear hx31
                  try clear qi31
                  try clear c32
                  try clear c32b0
                  try clear c34
                  try clear c34b0
                  try clear hcz11_0
                  try clear hcz11_1
                  try clear hcz11_2
                  try clear hcz11_3
                  try clear hcz11_4
                  try clear hcz11_5
                  try clear hcz11_6
                  try clear hcz12_0
                  try clear hcz12_1
                  try clear hcz12_2
                  try clear hcz12_3
                  try clear hcz12_4
                  try clear hcz12_5
                  try clear hcz12_6
                  try clear hcz18_0
                  try clear hcz18_1
                  try clear hcz18_2
                  try clear hcz18_3
                  try clear hcz18_4
                  try clear hcz18_5
                  try clear hcz18_6
                  try clear hcz19_0
                  try clear hcz19_1
                  try clear hcz19_2
                  try clear hcz19_3
                  try clear hcz19_4
                  try clear hcz19_5
                  try clear hcz19_6
                  try clear hcz26_0
                  try clear hcz26_1
                  try clear hcz26_2
                  try clear hcz26_3
                  try clear hcz26_4
                  try clear hcz26_5
                  try clear hcz26_6
                  try clear hfz11_0
                  try clear hfz11_1
                  try clear hfz11_2
                  try clear hfz11_3
                  try clear hfz11_4
                  try clear hfz11_5
                  try clear hfz11_6
                  try clear hfz12_0
                  try clear hfz12_1
                  try clear hfz12_2
                  try clear hfz12_3
                  try clear hfz12_4
                  try clear hfz12_5
                  try clear hfz12_6
                  try clear hfz18_0
                  try clear hfz18_1
                  try clear hfz18_2
                  try clear hfz18_3
                  try clear hfz18_4
                  try clear hfz18_5
                  try clear hfz18_6
                  try clear hfz19_0
                  try clear hfz19_1
                  try clear hfz19_2
                  try clear hfz19_3
                  try clear hfz19_4
                  try clear hfz19_5
                  try clear hfz19_6
                  try clear hfz26_0
                  try clear hfz26_1
                  try clear hfz26_2
                  try clear hfz26_3
                  try clear hfz26_4
                  try clear hfz26_5
                  try clear hfz26_6
                  try clear hx312_0
                  try clear hx314_0
                  try clear hx317_0
                  try clear p2
                  try clear p3
                  try clear p31
                  try clear p312
                  try clear p314
                  try clear p317
                  try clear p6
                  try clear q3
                  try clear q31
                  try clear q312
                  try clear q314
                  try clear q317
                  obtain ⟨kq, x71_32, rfl, HA, HJ32, HO_309004, BK307, BK308, HB⟩ := hcut
                  cases kq with
                  | zero => exact absurd HA.out (by simp [churnref06_Judge.j2])
                  | succ kj32 =>
                    have H := HA.out
                    clear HA
                    simp only [churnref06_Judge.j2] at H
                    by_cases c36 : x71_32 = true
                    · subst c36
                      have H1 : (some (true, t315, t316, (wrap64 (rd l0 5)), x309004_2, x4_2, 64)) = some (r1, r2, r3, r4, r5, r6, r7) := by rw [if_pos rfl] at H; exact H
                      clear H
                      have H := H1
                      clear H1
                      simp only [Option.some.injEq, Prod.mk.injEq] at H
                      obtain ⟨rfl, rfl, rfl, rfl, rfl, rfl, rfl⟩ := H
                      have hnb37 := NB308_307.out
                      have hnc37 := NB307_308.out
                      have hcz38_0 : wc.cell? ⟨gb308, 0, none⟩ = some (.bool true) := (blk_cell BK308.out 0).trans rfl
                      have hcz38_1 : wc.cell? ⟨gb308, 1, none⟩ = some (.int .i64 t315) := (blk_cell BK308.out 1).trans rfl
                      have hcz38_2 : wc.cell? ⟨gb308, 2, none⟩ = some (.int .i64 t316) := (blk_cell BK308.out 2).trans rfl
                      have hcz38_3 : wc.cell? ⟨gb308, 3, none⟩ = some (.int .i64 (wrap64 (rd l0 5))) := (blk_cell BK308.out 3).trans rfl
                      have hcz38_4 : wc.cell? ⟨gb308, 4, none⟩ = some (u309004) := (blk_cell BK308.out 4).trans rfl
                      have hcz38_5 : wc.cell? ⟨gb308, 5, none⟩ = some (.int .i64 x309005_2) := (blk_cell BK308.out 5).trans rfl
                      have hcz38_6 : wc.cell? ⟨gb308, 6, none⟩ = some (.int .i64 x309006_2) := (blk_cell BK308.out 6).trans rfl
                      have hfz38_0 := blk_frozen BK308.out 0
                      have hfz38_1 := blk_frozen BK308.out 1
                      have hfz38_2 := blk_frozen BK308.out 2
                      have hfz38_3 := blk_frozen BK308.out 3
                      have hfz38_4 := blk_frozen BK308.out 4
                      have hfz38_5 := blk_frozen BK308.out 5
                      have hfz38_6 := blk_frozen BK308.out 6
                      have hcz39_0 : wc.cell? ⟨gb307, 0, none⟩ = some (.bool x308000_2) := (blk_cell BK307.out 0).trans rfl
                      have hcz39_1 : wc.cell? ⟨gb307, 1, none⟩ = some (.int .i64 x308001_2) := (blk_cell BK307.out 1).trans rfl
                      have hcz39_2 : wc.cell? ⟨gb307, 2, none⟩ = some (.int .i64 x308002_2) := (blk_cell BK307.out 2).trans rfl
                      have hcz39_3 : wc.cell? ⟨gb307, 3, none⟩ = some (.int .i64 x308003_2) := (blk_cell BK307.out 3).trans rfl
                      have hcz39_4 : wc.cell? ⟨gb307, 4, none⟩ = some (.slice none 0 0) := (blk_cell BK307.out 4).trans rfl
                      have hcz39_5 : wc.cell? ⟨gb307, 5, none⟩ = some (.int .i64 x308005_2) := (blk_cell BK307.out 5).trans rfl
                      have hcz39_6 : wc.cell? ⟨gb307, 6, none⟩ = some (.int .i64 x308006_2) := (blk_cell BK307.out 6).trans rfl
                      have hfz39_0 := blk_frozen BK307.out 0
                      have hfz39_1 := blk_frozen BK307.out 1
                      have hfz39_2 := blk_frozen BK307.out 2
                      have hfz39_3 := blk_frozen BK307.out 3
                      have hfz39_4 := blk_frozen BK307.out 4
                      have hfz39_5 := blk_frozen BK307.out 5
                      have hfz39_6 := blk_frozen BK307.out 6
                      obtain ⟨Ao40, co40, eo40⟩ := Kd.S_slice HO_309004.out
                      subst eo40
                      go_wp2
                      refine bodyPost_ret (results_cell_row rfl _ _ gb307 73 #[.bool true, .int .i64 t315, .int .i64 t316, .int .i64 (wrap64 (rd l0 5)), .slice Ao40 x309004_2.length co40, .int .i64 x4_2, .int .i64 64] (0, 0) _ rfl (by (with_reducible repeat (first | refine blk_drewN ?_ _ | refine blk_drew ?_ | refine blk_alloc ?_ _)); refine blk_put (cs := #[.bool true, .int .i64 t315, .int .i64 t316, .int .i64 (wrap64 (rd l0 5)), .slice Ao40 x309004_2.length co40, .int .i64 x4_2, .int .i64 x308006_2]) ?_ 6 _ rfl; (with_reducible repeat (first | refine blk_drewN ?_ _ | refine blk_drew ?_ | refine blk_alloc ?_ _)); refine blk_put (cs := #[.bool true, .int .i64 t315, .int .i64 t316, .int .i64 (wrap64 (rd l0 5)), .slice Ao40 x309004_2.length co40, .int .i64 x308005_2, .int .i64 x308006_2]) ?_ 5 _ rfl; (with_reducible repeat (first | refine blk_drewN ?_ _ | refine blk_drew ?_ | refine blk_alloc ?_ _)); refine blk_put (cs := #[.bool true, .int .i64 t315, .int .i64 t316, .int .i64 (wrap64 (rd l0 5)), .slice none 0 0, .int .i64 x308005_2, .int .i64 x308006_2]) ?_ 4 _ rfl; (with_reducible repeat (first | refine blk_drewN ?_ _ | refine blk_drew ?_ | refine blk_alloc ?_ _)); refine blk_put (cs := #[.bool true, .int .i64 t315, .int .i64 t316, .int .i64 x308003_2, .slice none 0 0, .int .i64 x308005_2, .int .i64 x308006_2]) ?_ 3 _ rfl; (with_reducible repeat (first | refine blk_drewN ?_ _ | refine blk_drew ?_ | refine blk_alloc ?_ _)); refine blk_put (cs := #[.bool true, .int .i64 t315, .int .i64 x308002_2, .int .i64 x308003_2, .slice none 0 0, .int .i64 x308005_2, .int .i64 x308006_2]) ?_ 2 _ rfl; (with_reducible repeat (first | refine blk_drewN ?_ _ | refine blk_drew ?_ | refine blk_alloc ?_ _)); refine blk_put (cs := #[.bool true, .int .i64 x308001_2, .int .i64 x308002_2, .int .i64 x308003_2, .slice none 0 0, .int .i64 x308005_2, .int .i64 x308006_2]) ?_ 1 _ rfl; (with_reducible repeat (first | refine blk_drewN ?_ _ | refine blk_drew ?_ | refine blk_alloc ?_ _)); refine blk_put (cs := #[.bool x308000_2, .int .i64 x308001_2, .int .i64 x308002_2, .int .i64 x308003_2, .slice none 0 0, .int .i64 x308005_2, .int .i64 x308006_2]) ?_ 0 _ rfl; (with_reducible repeat (first | refine blk_drewN ?_ _ | refine blk_drew ?_ | refine blk_alloc ?_ _)); refine blk_far ?_ NB307_308.out _; (with_reducible repeat (first | refine blk_drewN ?_ _ | refine blk_drew ?_ | refine blk_alloc ?_ _)); refine blk_far ?_ NB307_308.out _; (with_reducible repeat (first | refine blk_drewN ?_ _ | refine blk_drew ?_ | refine blk_alloc ?_ _)); exact BK307.out) Try.underlying73 rfl (by kernel_rfl)) rfl ?_
                      exact ⟨_, by first | rfl | (simp [errW_none, errW_some] <;> rfl) | (simp [*, errW_none, errW_some] <;> rfl), Kd.S_V (by (with_reducible repeat (first | apply Kd.S_alloc | apply Kd.S_drewN | apply Kd.S_drew)); exact Kd.S_mono (Kd.S_far (p := ⟨gb307, 6, none⟩) (Kd.S_far (p := ⟨gb307, 5, none⟩) (Kd.S_far (p := ⟨gb307, 4, none⟩) (Kd.S_far (p := ⟨gb307, 3, none⟩) (Kd.S_far (p := ⟨gb307, 2, none⟩) (Kd.S_far (p := ⟨gb307, 1, none⟩) (Kd.S_far (p := ⟨gb307, 0, none⟩) (Kd.S_far (p := ⟨gb308, 6, none⟩) (Kd.S_far (p := ⟨gb308, 5, none⟩) (Kd.S_types (Kd.S_types HO_309004.out BK308.out (by decide)) BK307.out (by decide)) (fun _ hk => hk.1.2) (.int .i64 x4_2)) (fun _ hk => hk.1.2) (.int .i64 64)) (fun _ hk => hk.2) (.bool true)) (fun _ hk => hk.2) (.int .i64 t315)) (fun _ hk => hk.2) (.int .i64 t316)) (fun _ hk => hk.2) (.int .i64 (wrap64 (rd l0 5)))) (fun _ hk => hk.2) (.slice Ao40 x309004_2.length co40)) (fun _ hk => hk.2) (.int .i64 x4_2)) (fun _ hk => hk.2) (.int .i64 64)) (fun _ hk => hk.1.1)), by repeat (first | (with_reducible first | exact HB.out | apply below_alloc | apply pw_below_drewN | apply below_drew1 | refine below_set ?_ GE307.out | refine below_set ?_ GE308.out) | exact HB.out)⟩
                    · replace c36 := Bool.eq_false_iff.mpr c36
                      subst c36
                      have H1 : (if (l0.length : Int) < (wrap64 ((wrap64 (x4_2 + 2)) + 320)) then (some (true, t315, t316, (wrap64 (rd l0 5)), x309004_2, (l0.length : Int), 67)) else (if 0 ≤ (wrap64 (x4_2 + 2)) then (if (wrap64 (x4_2 + 2)) ≤ (wrap64 ((wrap64 (x4_2 + 2)) + 320)) then (if (wrap64 ((wrap64 (x4_2 + 2)) + 320)) ≤ (l0.length : Int) then ((churnref06_copied.f ((l0.take ((wrap64 ((wrap64 (x4_2 + 2)) + 320)) : Int).toNat).drop ((wrap64 (x4_2 + 2)) : Int).toNat)).bind fun t333 => (if x309004_2.length < 5864062014805 then (churnref06_Judge.l1 kj32 l0 (wrap64 ((wrap64 (x4_2 + 2)) + 320)) t318 (wrap64 (x9_2 + 1)) true t315 t316 (wrap64 (rd l0 5)) (x309004_2 ++ [t333]) x309005_2 x309006_2) else (none))) else (none)) else (none)) else (none))) = some (r1, r2, r3, r4, r5, r6, r7) := by rw [if_neg (show ¬ (false = true) by decide)] at H; exact H
                      clear H
                      have H := H1
                      clear H1
                      by_cases c41 : (l0.length : Int) < (wrap64 ((wrap64 (x4_2 + 2)) + 320))
                      · rw [if_pos c41] at H
                        have c41b0 : decide ((l0.length : Int) < (wrap64 ((wrap64 (x4_2 + 2)) + 320))) = true := decide_eq_true c41
                        clear c41
                        simp only [Option.some.injEq, Prod.mk.injEq] at H
                        obtain ⟨rfl, rfl, rfl, rfl, rfl, rfl, rfl⟩ := H
                        have hnb42 := NB308_307.out
                        have hnc42 := NB307_308.out
                        have hcz43_0 : wc.cell? ⟨gb308, 0, none⟩ = some (.bool true) := (blk_cell BK308.out 0).trans rfl
                        have hcz43_1 : wc.cell? ⟨gb308, 1, none⟩ = some (.int .i64 t315) := (blk_cell BK308.out 1).trans rfl
                        have hcz43_2 : wc.cell? ⟨gb308, 2, none⟩ = some (.int .i64 t316) := (blk_cell BK308.out 2).trans rfl
                        have hcz43_3 : wc.cell? ⟨gb308, 3, none⟩ = some (.int .i64 (wrap64 (rd l0 5))) := (blk_cell BK308.out 3).trans rfl
                        have hcz43_4 : wc.cell? ⟨gb308, 4, none⟩ = some (u309004) := (blk_cell BK308.out 4).trans rfl
                        have hcz43_5 : wc.cell? ⟨gb308, 5, none⟩ = some (.int .i64 x309005_2) := (blk_cell BK308.out 5).trans rfl
                        have hcz43_6 : wc.cell? ⟨gb308, 6, none⟩ = some (.int .i64 x309006_2) := (blk_cell BK308.out 6).trans rfl
                        have hfz43_0 := blk_frozen BK308.out 0
                        have hfz43_1 := blk_frozen BK308.out 1
                        have hfz43_2 := blk_frozen BK308.out 2
                        have hfz43_3 := blk_frozen BK308.out 3
                        have hfz43_4 := blk_frozen BK308.out 4
                        have hfz43_5 := blk_frozen BK308.out 5
                        have hfz43_6 := blk_frozen BK308.out 6
                        have hcz44_0 : wc.cell? ⟨gb307, 0, none⟩ = some (.bool x308000_2) := (blk_cell BK307.out 0).trans rfl
                        have hcz44_1 : wc.cell? ⟨gb307, 1, none⟩ = some (.int .i64 x308001_2) := (blk_cell BK307.out 1).trans rfl
                        have hcz44_2 : wc.cell? ⟨gb307, 2, none⟩ = some (.int .i64 x308002_2) := (blk_cell BK307.out 2).trans rfl
                        have hcz44_3 : wc.cell? ⟨gb307, 3, none⟩ = some (.int .i64 x308003_2) := (blk_cell BK307.out 3).trans rfl
                        have hcz44_4 : wc.cell? ⟨gb307, 4, none⟩ = some (.slice none 0 0) := (blk_cell BK307.out 4).trans rfl
                        have hcz44_5 : wc.cell? ⟨gb307, 5, none⟩ = some (.int .i64 x308005_2) := (blk_cell BK307.out 5).trans rfl
                        have hcz44_6 : wc.cell? ⟨gb307, 6, none⟩ = some (.int .i64 x308006_2) := (blk_cell BK307.out 6).trans rfl
                        have hfz44_0 := blk_frozen BK307.out 0
                        have hfz44_1 := blk_frozen BK307.out 1
                        have hfz44_2 := blk_frozen BK307.out 2
                        have hfz44_3 := blk_frozen BK307.out 3
                        have hfz44_4 := blk_frozen BK307.out 4
                        have hfz44_5 := blk_frozen BK307.out 5
                        have hfz44_6 := blk_frozen BK307.out 6
                        obtain ⟨Ao45, co45, eo45⟩ := Kd.S_slice HO_309004.out
                        subst eo45
                        go_wp2
                        refine bodyPost_ret (results_cell_row rfl _ _ gb307 73 #[.bool true, .int .i64 t315, .int .i64 t316, .int .i64 (wrap64 (rd l0 5)), .slice Ao45 x309004_2.length co45, .int .i64 (l0.length : Int), .int .i64 67] (0, 0) _ rfl (by (with_reducible repeat (first | refine blk_drewN ?_ _ | refine blk_drew ?_ | refine blk_alloc ?_ _)); refine blk_put (cs := #[.bool true, .int .i64 t315, .int .i64 t316, .int .i64 (wrap64 (rd l0 5)), .slice Ao45 x309004_2.length co45, .int .i64 (l0.length : Int), .int .i64 x308006_2]) ?_ 6 _ rfl; (with_reducible repeat (first | refine blk_drewN ?_ _ | refine blk_drew ?_ | refine blk_alloc ?_ _)); refine blk_put (cs := #[.bool true, .int .i64 t315, .int .i64 t316, .int .i64 (wrap64 (rd l0 5)), .slice Ao45 x309004_2.length co45, .int .i64 x308005_2, .int .i64 x308006_2]) ?_ 5 _ rfl; (with_reducible repeat (first | refine blk_drewN ?_ _ | refine blk_drew ?_ | refine blk_alloc ?_ _)); refine blk_put (cs := #[.bool true, .int .i64 t315, .int .i64 t316, .int .i64 (wrap64 (rd l0 5)), .slice none 0 0, .int .i64 x308005_2, .int .i64 x308006_2]) ?_ 4 _ rfl; (with_reducible repeat (first | refine blk_drewN ?_ _ | refine blk_drew ?_ | refine blk_alloc ?_ _)); refine blk_put (cs := #[.bool true, .int .i64 t315, .int .i64 t316, .int .i64 x308003_2, .slice none 0 0, .int .i64 x308005_2, .int .i64 x308006_2]) ?_ 3 _ rfl; (with_reducible repeat (first | refine blk_drewN ?_ _ | refine blk_drew ?_ | refine blk_alloc ?_ _)); refine blk_put (cs := #[.bool true, .int .i64 t315, .int .i64 x308002_2, .int .i64 x308003_2, .slice none 0 0, .int .i64 x308005_2, .int .i64 x308006_2]) ?_ 2 _ rfl; (with_reducible repeat (first | refine blk_drewN ?_ _ | refine blk_drew ?_ | refine blk_alloc ?_ _)); refine blk_put (cs := #[.bool true, .int .i64 x308001_2, .int .i64 x308002_2, .int .i64 x308003_2, .slice none 0 0, .int .i64 x308005_2, .int .i64 x308006_2]) ?_ 1 _ rfl; (with_reducible repeat (first | refine blk_drewN ?_ _ | refine blk_drew ?_ | refine blk_alloc ?_ _)); refine blk_put (cs := #[.bool x308000_2, .int .i64 x308001_2, .int .i64 x308002_2, .int .i64 x308003_2, .slice none 0 0, .int .i64 x308005_2, .int .i64 x308006_2]) ?_ 0 _ rfl; (with_reducible repeat (first | refine blk_drewN ?_ _ | refine blk_drew ?_ | refine blk_alloc ?_ _)); refine blk_far ?_ NB307_308.out _; (with_reducible repeat (first | refine blk_drewN ?_ _ | refine blk_drew ?_ | refine blk_alloc ?_ _)); refine blk_far ?_ NB307_308.out _; (with_reducible repeat (first | refine blk_drewN ?_ _ | refine blk_drew ?_ | refine blk_alloc ?_ _)); exact BK307.out) Try.underlying73 rfl (by kernel_rfl)) rfl ?_
                        exact ⟨_, by first | rfl | (simp [errW_none, errW_some] <;> rfl) | (simp [*, errW_none, errW_some] <;> rfl), Kd.S_V (by (with_reducible repeat (first | apply Kd.S_alloc | apply Kd.S_drewN | apply Kd.S_drew)); exact Kd.S_mono (Kd.S_far (p := ⟨gb307, 6, none⟩) (Kd.S_far (p := ⟨gb307, 5, none⟩) (Kd.S_far (p := ⟨gb307, 4, none⟩) (Kd.S_far (p := ⟨gb307, 3, none⟩) (Kd.S_far (p := ⟨gb307, 2, none⟩) (Kd.S_far (p := ⟨gb307, 1, none⟩) (Kd.S_far (p := ⟨gb307, 0, none⟩) (Kd.S_far (p := ⟨gb308, 6, none⟩) (Kd.S_far (p := ⟨gb308, 5, none⟩) (Kd.S_types (Kd.S_types HO_309004.out BK308.out (by decide)) BK307.out (by decide)) (fun _ hk => hk.1.2) (.int .i64 (l0.length : Int))) (fun _ hk => hk.1.2) (.int .i64 67)) (fun _ hk => hk.2) (.bool true)) (fun _ hk => hk.2) (.int .i64 t315)) (fun _ hk => hk.2) (.int .i64 t316)) (fun _ hk => hk.2) (.int .i64 (wrap64 (rd l0 5)))) (fun _ hk => hk.2) (.slice Ao45 x309004_2.length co45)) (fun _ hk => hk.2) (.int .i64 (l0.length : Int))) (fun _ hk => hk.2) (.int .i64 67)) (fun _ hk => hk.1.1)), by repeat (first | (with_reducible first | exact HB.out | apply below_alloc | apply pw_below_drewN | apply below_drew1 | refine below_set ?_ GE307.out | refine below_set ?_ GE308.out) | exact HB.out)⟩
                      · rw [if_neg c41] at H
                        have c41b0 : decide ((l0.length : Int) < (wrap64 ((wrap64 (x4_2 + 2)) + 320))) = false := decide_eq_false c41
                        clear c41
                        obtain ⟨ji46, hji46⟩ : ∃ j_ : Int, (wrap64 (x4_2 + 2)) = j_ := ⟨_, rfl⟩
                        replace H : (if 0 ≤ (ji46) then (if (ji46) ≤ (wrap64 ((ji46) + 320)) then (if (wrap64 ((ji46) + 320)) ≤ (l0.length : Int) then ((churnref06_copied.f ((l0.take ((wrap64 ((ji46) + 320)) : Int).toNat).drop ((ji46) : Int).toNat)).bind fun t333 => (if x309004_2.length < 5864062014805 then (churnref06_Judge.l1 kj32 l0 (wrap64 ((ji46) + 320)) t318 (wrap64 (x9_2 + 1)) true t315 t316 (wrap64 (rd l0 5)) (x309004_2 ++ [t333]) x309005_2 x309006_2) else (none))) else (none)) else (none)) else (none)) = some (r1, r2, r3, r4, r5, r6, r7) := by first | (rw [hji46] at H; exact H) | (simp only [hji46] at H ⊢; exact H)
                        (try rw [hji46] at c41b0)
                        have hji46w : (IntKind.i64.wrap (x4_2 + 2)) = ji46 := (i64_w _).trans hji46
                        by_cases c47 : 0 ≤ (ji46)
                        · rw [if_pos c47] at H
                          have c47b0 := eq_true c47
                          have c47b1 : decide (0 ≤ (ji46)) = true := decide_eq_true c47
                          clear c47
                          by_cases c48 : (ji46) ≤ (wrap64 ((ji46) + 320))
                          · rw [if_pos c48] at H
                            have c48b0 := eq_true c48
                            have c48b1 : decide ((ji46) ≤ (wrap64 ((ji46) + 320))) = true := decide_eq_true c48
                            by_cases c49 : (wrap64 ((ji46) + 320)) ≤ (l0.length : Int)
                            · rw [if_pos c49] at H
                              have c49b0 := eq_true c49
                              have c49b1 : decide ((wrap64 ((ji46) + 320)) ≤ (l0.length : Int)) = true := decide_eq_true c49
                              obtain ⟨y329, hy329⟩ : ∃ y_ : List Int, y_ = ((l0.take ((wrap64 ((ji46) + 320)) : Int).toNat).drop ((ji46) : Int).toNat) := ⟨_, rfl⟩
                              replace H : ((churnref06_copied.f y329).bind fun t333 => (if x309004_2.length < 5864062014805 then (churnref06_Judge.l1 kj32 l0 (wrap64 ((ji46) + 320)) t318 (wrap64 (x9_2 + 1)) true t315 t316 (wrap64 (rd l0 5)) (x309004_2 ++ [t333]) x309005_2 x309006_2) else (none))) = some (r1, r2, r3, r4, r5, r6, r7) := by first | (rw [hy329]; with_reducible exact H) | (have H2_ := (Option.bind_some _ _).symm.trans H; rw [hy329]; with_reducible exact H2_) | (have H2_ := (Option.bind_some _ _).symm.trans H; with_reducible exact H2_) | with_reducible exact H | (rw [hy329]; exact H) | exact H
                              have Ny329 := Aside0.mk hy329
                              clear hy329
                              replace H := Option.bind_eq_some_iff.mp H
                              obtain ⟨t333, A500, H⟩ := H
                              replace H : (if x309004_2.length < 5864062014805 then (churnref06_Judge.l1 kj32 l0 (wrap64 ((ji46) + 320)) t318 (wrap64 (x9_2 + 1)) true t315 t316 (wrap64 (rd l0 5)) (x309004_2 ++ [t333]) x309005_2 x309006_2) else (none)) = some (r1, r2, r3, r4, r5, r6, r7) := H
                              have A50 := Aside0.mk A500
                              clear A500
                              by_cases c51 : x309004_2.length < 5864062014805
                              · rw [if_pos c51] at H
                                have LMc51 := Aside0.mk c51
                                clear c51
                                obtain ⟨y336, hy336⟩ : ∃ y_ : List (List Int), y_ = (x309004_2 ++ [t333]) := ⟨_, rfl⟩
                                replace H : (churnref06_Judge.l1 kj32 l0 (wrap64 ((ji46) + 320)) t318 (wrap64 (x9_2 + 1)) true t315 t316 (wrap64 (rd l0 5)) y336 x309005_2 x309006_2) = some (r1, r2, r3, r4, r5, r6, r7) := by first | (rw [hy336]; with_reducible exact H) | (have H2_ := (Option.bind_some _ _).symm.trans H; rw [hy336]; with_reducible exact H2_) | (have H2_ := (Option.bind_some _ _).symm.trans H; with_reducible exact H2_) | with_reducible exact H | (rw [hy336]; exact H) | exact H
                                have Ny336 := Aside0.mk hy336
                                clear hy336
                                have H' := Aside0.mk H
                                clear H
                                try go_wp2
                                have n0_ := Aside0.mk (Kd.S_drew HO_309004.out)
                                have n1_ := Aside0.mk (blk_drew BK307.out)
                                have n2_ := Aside0.mk (blk_drew BK308.out)
                                have n3_ := Aside0.mk (below_drew1 HB.out)
                                clear HO_309004
                                clear BK307
                                clear BK308
                                clear HB
                                have HO_309004 := n0_
                                have BK307 := n1_
                                have BK308 := n2_
                                have HB := n3_
                                clear n0_ n1_ n2_ n3_
                                have q53 : ((wrap64 ((ji46) + 320)) : Int) ≤ ((l0.length : Int) : Int) := of_decide_eq_true (by first | (with_reducible assumption) | assumption)
                                obtain ⟨i053, hi053, _, hsz53, _⟩ := info_parts info5
                                have hroom53 : l0.length ≤ c0 := HC0.out
                                have hC53 : Kd.C (Kd.int .u8) _ (some ad317) l0.length l0 := HR0.out
                                have ql53 : ((ji46) : Int) ≤ ((wrap64 ((ji46) + 320)) : Int) := of_decide_eq_true (by first | (with_reducible assumption) | assumption)
                                have q053 : (0 : Int) ≤ ((ji46) : Int) := of_decide_eq_true (by first | (with_reducible assumption) | assumption)
                                have hcut53 := cut_mid (P := Try.prog) 30 5 .i64 .i64 Try.underlying30 hi053 1 hsz53 (some ad317) l0.length c0 (ji46) (wrap64 ((ji46) + 320)) q053 ql53 q53 hroom53
                                have hr53 := Kd.C_mid (lo := ((ji46) : Int).toNat) (hi := ((wrap64 ((ji46) + 320)) : Int).toNat) (c := c0) hC53 (by omega) (by omega) hroom53
                                obtain ⟨A53, hA53⟩ : ∃ A1, A1 = (if c0 = ((ji46) : Int).toNat then (some ad317) else ((some ad317) : Option Addr).map (·.add (((ji46) : Int).toNat * 1))) := ⟨_, rfl⟩
                                obtain ⟨c53, hc53⟩ : ∃ c1, c1 = c0 - ((ji46) : Int).toNat := ⟨_, rfl⟩
                                have hy53 : y329.length = ((wrap64 ((ji46) + 320)) : Int).toNat - ((ji46) : Int).toNat := (by rw [Ny329.out, List.length_drop, List.length_take] <;> omega)
                                rw [show ((l0).take ((wrap64 ((ji46) + 320)) : Int).toNat).drop ((ji46) : Int).toNat = y329 from Ny329.out.symm] at hr53
                                replace hr53 : Kd.C (Kd.int .u8) _ A53 y329.length y329 := (by rw [hA53]; exact hr53)
                                rw [← hy53, ← hA53, ← hc53] at hcut53
                                have HR332 := Aside0.mk hr53
                                have HC332 := Aside0.mk (show y329.length ≤ c53 from by rw [hy53, hc53]; exact Nat.sub_le_sub_right (Nat.le_trans (by omega) hroom53) _)
                                clear hr53 hC53 hroom53 hi053 hsz53 hc53
                                have KY53 := Aside0.mk hy53
                                have KA53 := Aside0.mk hA53
                                clear hy53 hA53
                                replace q53 := eq_true q53
                                refine start_ (n := 14) (S := fun w' => w'.cell? ⟨gb308, 0, none⟩ = some (.bool true) ∧ w'.cell? ⟨gb308, 1, none⟩ = some (.int .i64 t315) ∧ w'.cell? ⟨gb308, 2, none⟩ = some (.int .i64 t316) ∧ w'.cell? ⟨gb308, 3, none⟩ = some (.int .i64 (wrap64 (rd l0 5))) ∧ w'.cell? ⟨gb308, 4, none⟩ = some (u309004) ∧ w'.cell? ⟨gb308, 5, none⟩ = some (.int .i64 x309005_2) ∧ w'.cell? ⟨gb308, 6, none⟩ = some (.int .i64 x309006_2)) (ds := [13]) #[false, false, false, false, false, false, false, false, false, false, false, false, false, false] (by kernel_rfl) rfl rfl ⟨(blk_cell BK308.out 0).trans rfl, (blk_cell BK308.out 1).trans rfl, (blk_cell BK308.out 2).trans rfl, (blk_cell BK308.out 3).trans rfl, (blk_cell BK308.out 4).trans rfl, (blk_cell BK308.out 5).trans rfl, (blk_cell BK308.out 6).trans rfl⟩ (fun hHeld => ?_); refine with_tabW churnref06_Judge.tab27 churnref06_Judge.bits27 (fun HT_ HW_ => ?_)
                                generalize wc.drew = w52 at HO_309004 BK307 BK308 HB HR332 hHeld ⊢
                                refine pure_ (i := 0) (N := some 87) (v := ?_) (a' := ?_) #[true, false, false, false, false, false, false, false, false, false, false, false, false, false] rfl rfl (any_of HT_.out (by kernel_rfl)) (fun _ _ _ h => h) (Or.inl ⟨by rfl, ?_⟩) ?_ ?_
                                rotate_left
                                · intro w'
                                  go_simp
                                  with_reducible rfl
                                rotate_left
                                · simp only [Act.put, List.setIfInBounds_toArray, List.set_cons_zero, List.set_cons_succ, i64_w, i32_w]
                                  rfl
                                refine pure_ (i := 2) (N := some 89) (v := ?_) (a' := ?_) #[true, false, true, false, false, false, false, false, false, false, false, false, false, false] rfl rfl (any_of HT_.out (by kernel_rfl)) (fun _ _ _ h => h) (Or.inl ⟨by rfl, ?_⟩) ?_ ?_
                                rotate_left
                                · intro w'
                                  go_simp
                                  with_reducible rfl
                                rotate_left
                                · simp only [Act.put, List.setIfInBounds_toArray, List.set_cons_zero, List.set_cons_succ, i64_w, i32_w]
                                  rfl
                                refine pure_ (i := 3) (N := some 90) (v := ?_) (a' := ?_) #[true, false, true, true, false, false, false, false, false, false, false, false, false, false] rfl rfl (any_of HT_.out (by kernel_rfl)) (fun _ _ _ h => h) (Or.inl ⟨by rfl, ?_⟩) ?_ ?_
                                rotate_left
                                · intro w'
                                  go_simp
                                  with_reducible rfl
                                rotate_left
                                · simp only [Act.put, List.setIfInBounds_toArray, List.set_cons_zero, List.set_cons_succ, i64_w, i32_w]
                                  rfl
                                refine pure_ (i := 4) (N := some 91) (v := ?_) (a' := ?_) #[true, false, true, true, true, false, false, false, false, false, false, false, false, false] rfl rfl (any_of HT_.out (by kernel_rfl)) (fun _ _ _ h => h) (Or.inl ⟨by rfl, ?_⟩) ?_ ?_
                                rotate_left
                                · intro w'
                                  go_simp
                                  with_reducible rfl
                                rotate_left
                                · simp only [Act.put, List.setIfInBounds_toArray, List.set_cons_zero, List.set_cons_succ, i64_w, i32_w]
                                  rfl
                                refine pure_ (i := 5) (N := some 92) (v := ?_) (a' := ?_) #[true, false, true, true, true, true, false, false, false, false, false, false, false, false] rfl rfl (any_of HT_.out (by kernel_rfl)) (fun _ _ _ h => h) (Or.inl ⟨by rfl, ?_⟩) ?_ ?_
                                rotate_left
                                · intro w'
                                  go_simp
                                  with_reducible rfl
                                rotate_left
                                · simp only [Act.put, List.setIfInBounds_toArray, List.set_cons_zero, List.set_cons_succ, i64_w, i32_w]
                                  rfl
                                refine pure_ (i := 6) (N := some 93) (v := ?_) (a' := ?_) #[true, false, true, true, true, true, true, false, false, false, false, false, false, false] rfl rfl (any_of HT_.out (by kernel_rfl)) (fun _ _ _ h => h) (Or.inl ⟨by rfl, ?_⟩) ?_ ?_
                                rotate_left
                                · intro w'
                                  go_simp
                                  with_reducible rfl
                                rotate_left
                                · simp only [Act.put, List.setIfInBounds_toArray, List.set_cons_zero, List.set_cons_succ, i64_w, i32_w]
                                  rfl
                                refine pure_ (i := 7) (N := some 94) (v := ?_) (a' := ?_) #[true, false, true, true, true, true, true, true, false, false, false, false, false, false] rfl rfl (any_of HT_.out (by kernel_rfl)) (fun _ _ _ h => h) (Or.inl ⟨by rfl, ?_⟩) ?_ ?_
                                rotate_left
                                · intro w'
                                  go_simp
                                  with_reducible rfl
                                rotate_left
                                · simp only [Act.put, List.setIfInBounds_toArray, List.set_cons_zero, List.set_cons_succ, i64_w, i32_w]
                                  rfl
                                refine pure_ (i := 8) (N := some 95) (v := ?_) (a' := ?_) #[true, false, true, true, true, true, true, true, true, false, false, false, false, false] rfl rfl (any_of HT_.out (by kernel_rfl)) (fun _ _ _ h => h) (Or.inl ⟨by rfl, ?_⟩) ?_ ?_
                                rotate_left
                                · intro w'
                                  go_simp
                                  with_reducible rfl
                                rotate_left
                                · simp only [Act.put, List.setIfInBounds_toArray, List.set_cons_zero, List.set_cons_succ, i64_w, i32_w]
                                  rfl
                                refine take_ (i := 1) (N := some 88) (v := ?_) (a' := ?_) #[true, true, true, true, true, true, true, true, true, false, false, false, false, false] rfl rfl (take_ofW HT_.out HW_.out (by kernel_rfl)) (fun _ _ _ h => h) (Or.inl ⟨by rfl, ?_⟩) hHeld ?_ ?_
                                rotate_left
                                · rintro w' ⟨s0, s1, s2, s3, s4, s5, s6⟩
                                  go_simp
                                  with_reducible rfl
                                rotate_left
                                · simp only [Act.put, List.setIfInBounds_toArray, List.set_cons_zero, List.set_cons_succ, i64_w, i32_w]
                                  rfl
                                refine one_ (i := 9) (N := some 96) #[true, true, true, true, true, true, true, true, true, true, false, false, false, false] rfl rfl (one_of HT_.out (by kernel_rfl)) (by decide) (fun K hK => ?_)
                                refine goes_ Try.func40 (by kernel_rfl) rfl #[.slice A53 y329.length c53] (by rfl) rfl rfl (by (try simp only [List.map_toArray, List.map_cons, List.map_nil]); first | done | rfl | (simp only [List.length_drop, List.length_take]; rfl)) ?_
                                with_reducible refine (churnref06_copied.calls _ _ y329 t333 _ ?side1 ?side2 A50.out).mono ?_
                                (case side1 => repeat (first | exact (Kd.C_below HR332.out HB.out) | (with_reducible refine Kd.C_alloc ?_ _) | (with_reducible refine Kd.C_drewN ?_ _) | (with_reducible refine Kd.C_drew ?_)))
                                (case side2 => exact HC332.out)
                                rintro e w54 ⟨v334, rfl, ho0, hb⟩
                                refine ⟨_, rfl, ?_⟩
                                have n0_ := Aside0.mk (Kd.S_elder' (by (with_reducible repeat (first | apply Kd.S_alloc | apply Kd.S_drewN | apply Kd.S_drew)); exact HO_309004.out) (Kd.R_base ho0) hb)
                                have n1_ := Aside0.mk (Kd.R_lower (Kd.R_newM (M := fun k_ => (w.heap.size ≤ k_)) ho0 (below_size (by repeat (first | (with_reducible first | exact HB.out | apply below_alloc | apply pw_below_drewN | apply below_drew1 | refine below_set ?_ GE307.out | refine below_set ?_ GE308.out) | exact HB.out))) (fun k_ h_ => h_)) (below_size (by repeat (first | (with_reducible first | exact HB.out | apply below_alloc | apply pw_below_drewN | apply below_drew1 | refine below_set ?_ GE307.out | refine below_set ?_ GE308.out) | exact HB.out))))
                                have n2_ := Aside0.mk (blk_below (g := gb307) (o := .cells #[.bool x308000_2, .int .i64 x308001_2, .int .i64 x308002_2, .int .i64 x308003_2, .slice none 0 0, .int .i64 x308005_2, .int .i64 x308006_2] 73 (0, 0)) (by (with_reducible repeat (first | refine blk_drewN ?_ _ | refine blk_drew ?_ | refine blk_alloc ?_ _)); exact BK307.out) hb)
                                have n3_ := Aside0.mk (blk_below (g := gb308) (o := .cells #[.bool true, .int .i64 t315, .int .i64 t316, .int .i64 (wrap64 (rd l0 5)), u309004, .int .i64 x309005_2, .int .i64 x309006_2] 73 (0, 0)) (by (with_reducible repeat (first | refine blk_drewN ?_ _ | refine blk_drew ?_ | refine blk_alloc ?_ _)); exact BK308.out) hb)
                                have n4_ := Aside0.mk (below_step (by repeat (first | (with_reducible first | exact HB.out | apply below_alloc | apply pw_below_drewN | apply below_drew1 | refine below_set ?_ GE307.out | refine below_set ?_ GE308.out) | exact HB.out)) hb)
                                clear HO_309004
                                clear BK307
                                clear BK308
                                clear HB
                                have HO_309004 := n0_
                                have HO335 := n1_
                                have BK307 := n2_
                                have BK308 := n3_
                                have HB := n4_
                                clear n0_ n1_ n2_ n3_ n4_
                                (try clear hb)
                                (try clear hb2)
                                (try clear hk)
                                (try clear hi)
                                (try clear ho0)
                                obtain ⟨Ao56, co56, eo56⟩ := Kd.R_slice HO335.out
                                (first | subst eo56 | (injection eo56 with f1_ f2_ f3_; have f4_ := f1_.symm; have f5_ := f3_.symm; clear f1_ f2_ f3_; subst f4_; subst f5_))
                                refine hK.out _ _ ⟨(blk_cell BK308.out 0).trans rfl, (blk_cell BK308.out 1).trans rfl, (blk_cell BK308.out 2).trans rfl, (blk_cell BK308.out 3).trans rfl, (blk_cell BK308.out 4).trans rfl, (blk_cell BK308.out 5).trans rfl, (blk_cell BK308.out 6).trans rfl⟩ (fun hHeld => ?_)
                                clear hK K
                                refine norm_ (a' := ?_) ?_ ?_
                                rotate_left
                                · show Act.put _ (some 96) _ = _
                                  simp only [Act.put, List.setIfInBounds_toArray, List.set_cons_zero, List.set_cons_succ, i64_w, i32_w]
                                  rfl
                                refine one_ (i := 10) (N := some 97) #[true, true, true, true, true, true, true, true, true, true, true, false, false, false] rfl rfl (one_of HT_.out (by kernel_rfl)) (by decide) (fun K hK => ?_)
                                refine value_ (w1 := ?_) (v := ?_) (by rfl) rfl ?_ ?_
                                rotate_left 2
                                · go_simp
                                  constructor
                                  · rfl
                                  · rfl
                                refine hK.out _ _ ⟨(blk_cell (blk_alloc BK308.out _) 0).trans rfl, (blk_cell (blk_alloc BK308.out _) 1).trans rfl, (blk_cell (blk_alloc BK308.out _) 2).trans rfl, (blk_cell (blk_alloc BK308.out _) 3).trans rfl, (blk_cell (blk_alloc BK308.out _) 4).trans rfl, (blk_cell (blk_alloc BK308.out _) 5).trans rfl, (blk_cell (blk_alloc BK308.out _) 6).trans rfl⟩ (fun hHeld => ?_)
                                clear hK K
                                refine norm_ (a' := ?_) ?_ ?_
                                rotate_left
                                · show Act.put _ (some 97) _ = _
                                  simp only [Act.put, List.setIfInBounds_toArray, List.set_cons_zero, List.set_cons_succ, i64_w, i32_w]
                                  rfl
                                refine one_ (i := 11) (N := some 98) #[true, true, true, true, true, true, true, true, true, true, true, true, false, false] rfl rfl (one_of HT_.out (by kernel_rfl)) (by decide) (fun K hK => ?_)
                                refine Kd.S_append_step (Kd.slice 5 (Kd.int .u8)) (w0 := w) w.heap.size (by rfl) (.tmp 88) (.tmp 97) 24 30 (.slice none 0 0) 24 rfl Try.underlying24 info30 rfl (by decide) (by omega) u309004 x309004_2 t333 [.slice Ao56 t333.length co56] (fun k_ => (w.heap.size ≤ k_)) (fun k_ => some k_ = (.slice Ao56 t333.length co56 : Value).ownBlock) rfl rfl ?aP (fun k_ hk_ => ((Kd.R_mono (ok' := fun k_ => ((fun k_ => (w.heap.size ≤ k_))) k_ ∧ some k_ ≠ (u309004 : Value).ownBlock) (Kd.R_apart' (HO335.out) (Kd.S_typed HO_309004.out) (by decide)) (fun k_ hk => ⟨hk.1.1, hk.2⟩))).1 k_ hk_.symm) ?aF ?aO ?aB ?aS ?aL ?_
                                (case aP => exact Kd.M_row (Kd.R_mono (Kd.R_tight rfl (Kd.R_mono (ok' := fun k_ => ((fun k_ => (w.heap.size ≤ k_))) k_ ∧ some k_ ≠ (u309004 : Value).ownBlock) (Kd.R_apart' (HO335.out) (Kd.S_typed HO_309004.out) (by decide)) (fun k_ hk => ⟨hk.1.1, hk.2⟩))) (fun _ h_ => h_)))
                                (case aB => exact (by repeat (first | (with_reducible first | exact HB.out | apply below_alloc | apply pw_below_drewN | apply below_drew1 | refine below_set ?_ GE307.out | refine below_set ?_ GE308.out) | exact HB.out)))
                                (case aF => exact (fun k_ hk => (Nat.le_trans (below_size (by repeat (first | (with_reducible first | exact HB.out | apply below_alloc | apply pw_below_drewN | apply below_drew1 | refine below_set ?_ GE307.out | refine below_set ?_ GE308.out) | exact HB.out))) hk)))
                                (case aO => exact (by (with_reducible repeat (first | apply Kd.S_alloc | apply Kd.S_drewN | apply Kd.S_drew)); exact Kd.S_mono HO_309004.out (fun k_ hk => ⟨hk.1, fun e_ => hk.2 e_⟩)))
                                (case aS => exact (below_size (by repeat (first | (with_reducible first | exact HB.out | apply below_alloc | apply pw_below_drewN | apply below_drew1 | refine below_set ?_ GE307.out | refine below_set ?_ GE308.out) | exact HB.out))))
                                (case aL => have := LMc51.out; omega)
                                intro v337 w55 ho hb hg hat
                                rw [← Ny336.out] at ho
                                have n0_ := Aside0.mk (blk_grown (g := gb307) (o := .cells #[.bool x308000_2, .int .i64 x308001_2, .int .i64 x308002_2, .int .i64 x308003_2, .slice none 0 0, .int .i64 x308005_2, .int .i64 x308006_2] 73 (0, 0)) (by (with_reducible repeat (first | refine blk_drewN ?_ _ | refine blk_drew ?_ | refine blk_alloc ?_ _)); exact BK307.out) hg (Kd.S_ne HO_309004.out BK307.out (by decide)))
                                have n1_ := Aside0.mk (blk_grown (g := gb308) (o := .cells #[.bool true, .int .i64 t315, .int .i64 t316, .int .i64 (wrap64 (rd l0 5)), u309004, .int .i64 x309005_2, .int .i64 x309006_2] 73 (0, 0)) (by (with_reducible repeat (first | refine blk_drewN ?_ _ | refine blk_drew ?_ | refine blk_alloc ?_ _)); exact BK308.out) hg (Kd.S_ne HO_309004.out BK308.out (by decide)))
                                have n2_ := Aside0.mk (hb)
                                have n3_ := Aside0.mk (ho)
                                clear BK307
                                clear BK308
                                clear HB
                                clear HO_309004
                                clear HO335
                                have BK307 := n0_
                                have BK308 := n1_
                                have HB := n2_
                                have HO338 := n3_
                                clear n0_ n1_ n2_ n3_
                                clear ho hb hg hat
                                obtain ⟨Ao57, co57, eo57⟩ := Kd.S_slice HO338.out
                                (first | subst eo57 | (injection eo57 with f1_ f2_ f3_; have f4_ := f1_.symm; have f5_ := f3_.symm; clear f1_ f2_ f3_; subst f4_; subst f5_))
                                refine hK.out _ _ ⟨(blk_cell BK308.out 0).trans rfl, (blk_cell BK308.out 1).trans rfl, (blk_cell BK308.out 2).trans rfl, (blk_cell BK308.out 3).trans rfl, (blk_cell BK308.out 4).trans rfl, (blk_cell BK308.out 5).trans rfl, (blk_cell BK308.out 6).trans rfl⟩ (fun hHeld => ?_)
                                clear hK K
                                refine norm_ (a' := ?_) ?_ ?_
                                rotate_left
                                · show Act.put _ (some 98) _ = _
                                  simp only [Act.put, List.setIfInBounds_toArray, List.set_cons_zero, List.set_cons_succ, i64_w, i32_w]
                                  rfl
                                refine pure_ (i := 12) (N := some 99) (v := ?_) (a' := ?_) #[true, true, true, true, true, true, true, true, true, true, true, true, true, false] rfl rfl (any_of HT_.out (by kernel_rfl)) (fun _ _ _ h => h) (Or.inl ⟨by rfl, ?_⟩) ?_ ?_
                                rotate_left
                                · intro w'
                                  go_simp
                                  with_reducible rfl
                                rotate_left
                                · simp only [Act.put, List.setIfInBounds_toArray, List.set_cons_zero, List.set_cons_succ, i64_w, i32_w]
                                  rfl
                                refine last_ (i := 13) (N := none) #[true, true, true, true, true, true, true, true, true, true, true, true, true, true] rfl rfl (one_of HT_.out (by kernel_rfl)) (by decide) (fun K hK => ?_)
                                have hs58 : w55.cell? ⟨gb308, 4, none⟩ = some (u309004) := (blk_cell BK308.out 4).trans rfl
                                have hfs58 := blk_frozen BK308.out 4
                                have hns58_0 := NB307_308.out
                                have hms58_0 := NB308_307.out
                                refine skip_ (w1 := ?_) (by rfl) rfl ?_ ?_
                                rotate_left
                                · go_simp
                                  rfl
                                refine hK.out _ _ ?_
                                clear hK K
                                refine done_ (done_of HT_.out (by kernel_rfl)) ?_
                                try go_wp2
                                go_roundg kj32
                                case measure => have := HK1.out; have := HK2.out; have := HJ32.out; omega
                                case rel => exact ⟨(wrap64 ((ji46) + 320)), (wrap64 (x9_2 + 1)), (x308000_2), (x308001_2), (x308002_2), (x308003_2), (x308005_2), (x308006_2), (y336), (x309005_2), (x309006_2), (.slice Ao57 y336.length co57), (by first | rfl | (simp; done) | (simp only [← hji46] <;> (first | rfl | simp)) | (simp [*]; done)), (by first | rfl | (simp; done) | (simp [*]; done)), H', ⟨by have := HK1.out; have := HK2.out; have := HJ32.out; omega⟩, ⟨by (with_reducible repeat (first | apply Kd.S_alloc | apply Kd.S_drewN | apply Kd.S_drew)); exact Kd.S_mono (Kd.S_far (p := ⟨gb308, 4, none⟩) (Kd.S_types HO338.out BK308.out (by decide)) (fun _ hk => hk.2) (.slice Ao57 y336.length co57)) (fun _ hk => hk.1)⟩, ⟨by (with_reducible repeat (first | refine blk_drewN ?_ _ | refine blk_drew ?_ | refine blk_alloc ?_ _)); refine blk_far ?_ NB307_308.out _; (with_reducible repeat (first | refine blk_drewN ?_ _ | refine blk_drew ?_ | refine blk_alloc ?_ _)); exact BK307.out⟩, ⟨by (with_reducible repeat (first | refine blk_drewN ?_ _ | refine blk_drew ?_ | refine blk_alloc ?_ _)); refine blk_put (cs := #[.bool true, .int .i64 t315, .int .i64 t316, .int .i64 (wrap64 (rd l0 5)), u309004, .int .i64 x309005_2, .int .i64 x309006_2]) ?_ 4 _ rfl; (with_reducible repeat (first | refine blk_drewN ?_ _ | refine blk_drew ?_ | refine blk_alloc ?_ _)); exact BK308.out⟩, ⟨by repeat (first | (with_reducible first | exact HB.out | apply below_alloc | apply pw_below_drewN | apply below_drew1 | refine below_set ?_ GE307.out | refine below_set ?_ GE308.out) | exact HB.out)⟩⟩
                              · rw [if_neg c51] at H
                                exact absurd H (by simp)
                            · rw [if_neg c49] at H
                              exact absurd H (by simp)
                          · rw [if_neg c48] at H
                            exact absurd H (by simp)
                        · rw [if_neg c47] at H
                          exact absurd H (by simp)
              · rw [if_neg c32] at H
                have c32b0 : decide (x9_2 < t318) = false := decide_eq_false c32
                clear c32
                replace H := Option.bind_eq_some_iff.mp H
                obtain ⟨⟨t319, t320, t321, t322, t323, t326, t327⟩, A590, H⟩ := H
                replace H : (some (t319, t320, t321, t322, t323, t326, t327)) = some (r1, r2, r3, r4, r5, r6, r7) := H
                have A59 := Aside0.mk A590
                clear A590
                simp only [Option.some.injEq, Prod.mk.injEq] at H
                obtain ⟨rfl, rfl, rfl, rfl, rfl, rfl, rfl⟩ := H
                have hnb60 := NB308_307.out
                have hnc60 := NB307_308.out
                have hcz61_0 : wr.cell? ⟨gb308, 0, none⟩ = some (.bool true) := (blk_cell BK308.out 0).trans rfl
                have hcz61_1 : wr.cell? ⟨gb308, 1, none⟩ = some (.int .i64 t315) := (blk_cell BK308.out 1).trans rfl
                have hcz61_2 : wr.cell? ⟨gb308, 2, none⟩ = some (.int .i64 t316) := (blk_cell BK308.out 2).trans rfl
                have hcz61_3 : wr.cell? ⟨gb308, 3, none⟩ = some (.int .i64 (wrap64 (rd l0 5))) := (blk_cell BK308.out 3).trans rfl
                have hcz61_4 : wr.cell? ⟨gb308, 4, none⟩ = some (u309004) := (blk_cell BK308.out 4).trans rfl
                have hcz61_5 : wr.cell? ⟨gb308, 5, none⟩ = some (.int .i64 x309005_2) := (blk_cell BK308.out 5).trans rfl
                have hcz61_6 : wr.cell? ⟨gb308, 6, none⟩ = some (.int .i64 x309006_2) := (blk_cell BK308.out 6).trans rfl
                have hfz61_0 := blk_frozen BK308.out 0
                have hfz61_1 := blk_frozen BK308.out 1
                have hfz61_2 := blk_frozen BK308.out 2
                have hfz61_3 := blk_frozen BK308.out 3
                have hfz61_4 := blk_frozen BK308.out 4
                have hfz61_5 := blk_frozen BK308.out 5
                have hfz61_6 := blk_frozen BK308.out 6
                obtain ⟨Ao62, co62, eo62⟩ := Kd.S_slice HO_309004.out
                subst eo62
                go_wp2_with (first | ((with_reducible refine gate_callee (f := 41) rfl ?_); refine goesL_ (some 106) rfl rfl Try.func41 (by kernel_rfl) rfl #[.slice (some ad317) l0.length c0, .int .i64 x4_2, .agg #[.bool true, .int .i64 t315, .int .i64 t316, .int .i64 (wrap64 (rd l0 5)), .slice Ao62 x309004_2.length co62, .int .i64 x309005_2, .int .i64 x309006_2]] rfl (by (try simp only [List.map_toArray, List.map_cons, List.map_nil]); first | done | rfl | (simp only [List.length_drop, List.length_take]; rfl)) ?_; (with_reducible refine (churnref06_ended.calls k2 _ _ l0 x4_2 true t315 t316 (wrap64 (rd l0 5)) (fun k_ => (((w.heap.size ≤ k_) ∧ k_ ≠ gb307) ∧ k_ ≠ gb308)) _ _ x309004_2 x309005_2 x309006_2 t319 t320 t321 t322 t323 t326 t327 _ ?side1 ?side2 ?side3 A59.out).mono ?_); (case side1 => repeat (first | exact (Kd.C_below HR0.out HB.out) | (with_reducible refine Kd.C_alloc ?_ _) | (with_reducible refine Kd.C_drewN ?_ _) | (with_reducible refine Kd.C_drew ?_))); (case side2 => exact HC0.out); (case side3 => exact Kd.S_V (Kd.S_types (Kd.S_types (HO_309004.out) BK307.out (by decide)) BK308.out (by decide))); rintro e w63 ⟨v324, rfl, ho0, hb⟩; refine ⟨_, rfl, ?_⟩; have n0_ := Aside0.mk (Kd.S_below (by (with_reducible repeat (first | apply Kd.S_alloc | apply Kd.S_drewN | apply Kd.S_drew)); exact HO_309004.out) hb); have n1_ := Aside0.mk (Kd.V_lower (Kd.V_mono (ok' := fun k_ => (w.heap.size ≤ k_) ∧ k_ ≠ gb307 ∧ k_ ≠ gb308) ho0 (fun k_ hk_ => ⟨Or.elim hk_ (fun hs_ => hs_.1.1) (fun hn_ => (Nat.le_trans (below_size (by repeat (first | (with_reducible first | exact HB.out | apply below_alloc | apply pw_below_drewN | apply below_drew1 | refine below_set ?_ GE307.out | refine below_set ?_ GE308.out) | exact HB.out))) hn_)), Or.elim hk_ (fun hs_ => hs_.1.2) (fun hn_ => (Kd.freshB (g := gb307) (o := .cells #[.bool x308000_2, .int .i64 x308001_2, .int .i64 x308002_2, .int .i64 x308003_2, .slice none 0 0, .int .i64 x308005_2, .int .i64 x308006_2] 73 (0, 0)) (by (with_reducible repeat (first | refine blk_drewN ?_ _ | refine blk_drew ?_ | refine blk_alloc ?_ _)); exact BK307.out) k_ hn_)), Or.elim hk_ (fun hs_ => hs_.2) (fun hn_ => (Kd.freshB (g := gb308) (o := .cells #[.bool true, .int .i64 t315, .int .i64 t316, .int .i64 (wrap64 (rd l0 5)), .slice Ao62 x309004_2.length co62, .int .i64 x309005_2, .int .i64 x309006_2] 73 (0, 0)) (by (with_reducible repeat (first | refine blk_drewN ?_ _ | refine blk_drew ?_ | refine blk_alloc ?_ _)); exact BK308.out) k_ hn_))⟩)) (below_size (by repeat (first | (with_reducible first | exact HB.out | apply below_alloc | apply pw_below_drewN | apply below_drew1 | refine below_set ?_ GE307.out | refine below_set ?_ GE308.out) | exact HB.out)))); have n2_ := Aside0.mk (blk_below (g := gb307) (o := .cells #[.bool x308000_2, .int .i64 x308001_2, .int .i64 x308002_2, .int .i64 x308003_2, .slice none 0 0, .int .i64 x308005_2, .int .i64 x308006_2] 73 (0, 0)) (by (with_reducible repeat (first | refine blk_drewN ?_ _ | refine blk_drew ?_ | refine blk_alloc ?_ _)); exact BK307.out) hb); have n3_ := Aside0.mk (blk_below (g := gb308) (o := .cells #[.bool true, .int .i64 t315, .int .i64 t316, .int .i64 (wrap64 (rd l0 5)), .slice Ao62 x309004_2.length co62, .int .i64 x309005_2, .int .i64 x309006_2] 73 (0, 0)) (by (with_reducible repeat (first | refine blk_drewN ?_ _ | refine blk_drew ?_ | refine blk_alloc ?_ _)); exact BK308.out) hb); have n4_ := Aside0.mk (below_step (by repeat (first | (with_reducible first | exact HB.out | apply below_alloc | apply pw_below_drewN | apply below_drew1 | refine below_set ?_ GE307.out | refine below_set ?_ GE308.out) | exact HB.out)) hb); clear HO_309004; clear BK307; clear BK308; clear HB; have HO_309004 := n0_; have HO325 := n1_; have BK307 := n2_; have BK308 := n3_; have HB := n4_; clear n0_ n1_ n2_ n3_ n4_; (try clear hb); (try clear hb2); (try clear hk); (try clear hi); (try clear ho0); have hcz64_0 : w63.cell? ⟨gb307, 0, none⟩ = some (.bool x308000_2) := (blk_cell BK307.out 0).trans rfl; have hcz64_1 : w63.cell? ⟨gb307, 1, none⟩ = some (.int .i64 x308001_2) := (blk_cell BK307.out 1).trans rfl; have hcz64_2 : w63.cell? ⟨gb307, 2, none⟩ = some (.int .i64 x308002_2) := (blk_cell BK307.out 2).trans rfl; have hcz64_3 : w63.cell? ⟨gb307, 3, none⟩ = some (.int .i64 x308003_2) := (blk_cell BK307.out 3).trans rfl; have hcz64_4 : w63.cell? ⟨gb307, 4, none⟩ = some (.slice none 0 0) := (blk_cell BK307.out 4).trans rfl; have hcz64_5 : w63.cell? ⟨gb307, 5, none⟩ = some (.int .i64 x308005_2) := (blk_cell BK307.out 5).trans rfl; have hcz64_6 : w63.cell? ⟨gb307, 6, none⟩ = some (.int .i64 x308006_2) := (blk_cell BK307.out 6).trans rfl; have hfz64_0 := blk_frozen BK307.out 0; have hfz64_1 := blk_frozen BK307.out 1; have hfz64_2 := blk_frozen BK307.out 2; have hfz64_3 := blk_frozen BK307.out 3; have hfz64_4 := blk_frozen BK307.out 4; have hfz64_5 := blk_frozen BK307.out 5; have hfz64_6 := blk_frozen BK307.out 6; obtain ⟨Ao65, co65, eo65⟩ := Kd.V_slice HO325.out; subst eo65))
                refine bodyPost_ret (results_cell_row rfl _ _ gb307 73 #[.bool t319, .int .i64 t320, .int .i64 t321, .int .i64 t322, .slice Ao65 t323.length co65, .int .i64 t326, .int .i64 t327] (0, 0) _ rfl (by (with_reducible repeat (first | refine blk_drewN ?_ _ | refine blk_drew ?_ | refine blk_alloc ?_ _)); refine blk_put (cs := #[.bool t319, .int .i64 t320, .int .i64 t321, .int .i64 t322, .slice Ao65 t323.length co65, .int .i64 t326, .int .i64 x308006_2]) ?_ 6 _ rfl; (with_reducible repeat (first | refine blk_drewN ?_ _ | refine blk_drew ?_ | refine blk_alloc ?_ _)); refine blk_put (cs := #[.bool t319, .int .i64 t320, .int .i64 t321, .int .i64 t322, .slice Ao65 t323.length co65, .int .i64 x308005_2, .int .i64 x308006_2]) ?_ 5 _ rfl; (with_reducible repeat (first | refine blk_drewN ?_ _ | refine blk_drew ?_ | refine blk_alloc ?_ _)); refine blk_put (cs := #[.bool t319, .int .i64 t320, .int .i64 t321, .int .i64 t322, .slice none 0 0, .int .i64 x308005_2, .int .i64 x308006_2]) ?_ 4 _ rfl; (with_reducible repeat (first | refine blk_drewN ?_ _ | refine blk_drew ?_ | refine blk_alloc ?_ _)); refine blk_put (cs := #[.bool t319, .int .i64 t320, .int .i64 t321, .int .i64 x308003_2, .slice none 0 0, .int .i64 x308005_2, .int .i64 x308006_2]) ?_ 3 _ rfl; (with_reducible repeat (first | refine blk_drewN ?_ _ | refine blk_drew ?_ | refine blk_alloc ?_ _)); refine blk_put (cs := #[.bool t319, .int .i64 t320, .int .i64 x308002_2, .int .i64 x308003_2, .slice none 0 0, .int .i64 x308005_2, .int .i64 x308006_2]) ?_ 2 _ rfl; (with_reducible repeat (first | refine blk_drewN ?_ _ | refine blk_drew ?_ | refine blk_alloc ?_ _)); refine blk_put (cs := #[.bool t319, .int .i64 x308001_2, .int .i64 x308002_2, .int .i64 x308003_2, .slice none 0 0, .int .i64 x308005_2, .int .i64 x308006_2]) ?_ 1 _ rfl; (with_reducible repeat (first | refine blk_drewN ?_ _ | refine blk_drew ?_ | refine blk_alloc ?_ _)); refine blk_put (cs := #[.bool x308000_2, .int .i64 x308001_2, .int .i64 x308002_2, .int .i64 x308003_2, .slice none 0 0, .int .i64 x308005_2, .int .i64 x308006_2]) ?_ 0 _ rfl; (with_reducible repeat (first | refine blk_drewN ?_ _ | refine blk_drew ?_ | refine blk_alloc ?_ _)); exact BK307.out) Try.underlying73 rfl (by kernel_rfl)) rfl ?_
                exact ⟨_, by first | rfl | (simp [errW_none, errW_some] <;> rfl) | (simp [*, errW_none, errW_some] <;> rfl), by (with_reducible repeat (first | apply Kd.V_alloc | apply Kd.V_drewN | apply Kd.V_drew)); exact Kd.V_mono (Kd.V_far (p := ⟨gb307, 6, none⟩) (Kd.V_far (p := ⟨gb307, 5, none⟩) (Kd.V_far (p := ⟨gb307, 4, none⟩) (Kd.V_far (p := ⟨gb307, 3, none⟩) (Kd.V_far (p := ⟨gb307, 2, none⟩) (Kd.V_far (p := ⟨gb307, 1, none⟩) (Kd.V_far (p := ⟨gb307, 0, none⟩) (Kd.V_mono HO325.out (fun k_ hk => (⟨hk, hk.2.1⟩ : _ ∧ k_ ≠ gb307))) (fun _ hk => hk.2) (.bool t319)) (fun _ hk => hk.2) (.int .i64 t320)) (fun _ hk => hk.2) (.int .i64 t321)) (fun _ hk => hk.2) (.int .i64 t322)) (fun _ hk => hk.2) (.slice Ao65 t323.length co65)) (fun _ hk => hk.2) (.int .i64 t326)) (fun _ hk => hk.2) (.int .i64 t327)) (fun _ hk => hk.1.1), by repeat (first | (with_reducible first | exact HB.out | apply below_alloc | apply pw_below_drewN | apply below_drew1 | refine below_set ?_ GE307.out | refine below_set ?_ GE308.out) | exact HB.out)⟩
        · rw [if_neg c22] at H
          exact absurd H (by simp)
end Go.Proofs.Ythkcadmjfkcbgaa.Q
end
section
set_option linter.unusedVariables false
set_option linter.unusedSimpArgs false
namespace Go.Proofs.Ythkcadmjfkcbgaa.Q
open Go.RowKit Go.Proofs.YthkcadmjfkcbgaaW.PrintWords Go.Proofs.YthkcadmjfkcbgaaW.PrintLast Go.Proofs.YthkcadmjfkcbgaaW.PrintMore Go.Proofs.Ythkcadmjfkcbgaa.Pl
abbrev JO := Bool × Int × Int × Int × List (List Int) × Int × Int
def jd (p : FS × List (List Int)) (cs : List (List Int)) : JO := (p.1.fhead.2.2.2, p.1.fhead.1, p.1.fhead.2.1, p.1.fhead.2.2.1, cs ++ p.2, p.1.fend.1, p.1.fend.2)
theorem fin_bad {s s' : FS} {e : Int} (h : s.jud = (s', e)) (he : e ≠ 0) : s.fin = { s' with er := e, pl := s'.pos - s'.fd.length } := by
  unfold FS.fin
  rw [h]
  exact if_neg he
theorem short_out (s : FS) (h0 : s.er = 0) (hfd : s.fd = []) (l : List Int) (hl : (l.length : Int) < fsz s.st) (h9 : s.st < 9) (cs : List (List Int)) :
    jd (s.run l) cs = if s.st < 6 then (false, 0, 0, 0, cs, s.pos + l.length, 67) else (true, s.R, s.E, s.L, cs, s.pos + l.length, 67) := by
  rw [FS.run_short l s h0 (by rw [hfd]; simpa using hl)]
  by_cases h6 : s.st < 6 <;> simp [jd, FS.fend, FS.fhead, FS.fill, h0, h6, h9]
theorem bad_out (s : FS) (h0 : s.er = 0) (hfd : s.fd = []) (l : List Int) (n : Nat) (hn : fsz s.st = n) (hl : n ≤ l.length) (h7 : s.st ≠ 7) {s' : FS} {e : Int} (hj : (s.fill (l.take n)).jud = (s', e)) (he : e ≠ 0) (cs : List (List Int)) :
    jd (s.run l) cs = if s'.st < 6 then (false, 0, 0, 0, cs, s'.pos - s'.fd.length, e) else (true, s'.R, s'.E, s'.L, cs, s'.pos - s'.fd.length, e) := by
  rw [run_field s h0 hfd l n hn hl, if_neg h7, fin_bad hj he, FS.run_err _ _ he]
  simp only [jd, FS.fend, FS.fhead, List.append_nil]
  rw [if_pos he]
  split <;> rfl
theorem next_out (s : FS) (h0 : s.er = 0) (hfd : s.fd = []) (l : List Int) (n : Nat) (hn : fsz s.st = n) (hl : n ≤ l.length) (h7 : s.st ≠ 7) (cs : List (List Int)) : jd (s.run l) cs = jd ((s.fill (l.take n)).fin.run (l.drop n)) cs := by
  rw [run_field s h0 hfd l n hn hl, if_neg h7]
  rfl
theorem cell_out (s : FS) (h0 : s.er = 0) (hfd : s.fd = []) (l : List Int) (n : Nat) (hn : fsz s.st = n) (hl : n ≤ l.length) (h7 : s.st = 7) (cs : List (List Int)) : jd (s.run l) cs = jd ((s.fill (l.take n)).fin.run (l.drop n)) (cs ++ [l.take n]) := by
  rw [run_field s h0 hfd l n hn hl, if_pos h7]
  simp [jd]
def seg (l : List Int) (at_ n : Nat) : List Int := (l.drop at_).take n
theorem seg_len {l : List Int} {at_ n : Nat} (h : at_ + n ≤ l.length) : (seg l at_ n).length = n := by simp [seg]; omega
theorem seg_bys {l : List Int} (h : Bys l) (at_ n : Nat) : Bys (seg l at_ n) := fun x hx => h x (List.mem_of_mem_drop (List.mem_of_mem_take hx))
theorem take_seg (l : List Int) (at_ n : Nat) : l.take (at_ + n) = l.take at_ ++ seg l at_ n := by rw [seg, List.take_add]
theorem seg_rd {l : List Int} {at_ n i : Nat} (h : at_ + n ≤ l.length) (hi : i < n) : rd (seg l at_ n) (i : Int) = rd l ((at_ + i : Nat) : Int) := by
  simp only [rd, Int.toNat_natCast, List.getD_eq_getElem?_getD, seg]
  rw [List.getElem?_take, if_pos hi, List.getElem?_drop]
theorem seg_snoc {l : List Int} {at_ n : Nat} (h : at_ + n < l.length) : seg l at_ (n + 1) = seg l at_ n ++ [rd l ((at_ + n : Nat) : Int)] := by
  have e : rd l ((at_ + n : Nat) : Int) = l[at_ + n] := rd_lt l _ h
  rw [seg, seg, List.take_add_one, List.getElem?_drop, List.getElem?_eq_getElem h, e]
  rfl
theorem numF_snoc (l : List Int) (c v : Int) : numF v (l ++ [c]) = numF v l * 256 + c := by simp [numF]
theorem numL_snoc (l : List Int) (c : Int) : numL (l ++ [c]) = numL l * 256 + c := numF_snoc l c 0
theorem numF_ge : ∀ (l : List Int) (v : Int), Bys l → 0 ≤ v → v ≤ numF v l
  | [], v, _, _ => Int.le_refl _
  | c :: l, v, hb, h0 => by
    have b := hb c List.mem_cons_self
    have := numF_ge l (v * 256 + c) hb.tail (by omega)
    show v ≤ numF (v * 256 + c) l
    omega
theorem numF_app (l m : List Int) (v : Int) : numF v (l ++ m) = numF (numF v l) m := by simp [numF, List.foldl_append]
def rdz (x : Int) : Int := if x ≥ 9223372036854775808 then -1 else x
theorem rread_l0 (l : List Int) (hb : Bys l) (hl : l.length ≤ 140737488355328) (at_ n : Nat) (hn : n ≤ 8) (ha : at_ + n ≤ l.length) : ∀ (d i : Nat) (v : Int), i + d = n → v = numL (seg l at_ i) → v < 9223372036854775808 →
    Ev (fun k => churnref06_read.l0 k l (at_ : Int) (n : Int) v ((at_ + i : Nat) : Int)) (rdz (numL (seg l at_ n)))
  | 0, i, v, hi, hv, hlt => by
    obtain rfl : i = n := by omega
    refine Ev.step (f := fun _ => some v) (fun k => ?_) (ev_some ?_)
    · rw [churnref06_read.l0, if_neg]
      rw [w64 (x := (at_ : Int) + (i : Int)) (by omega) (by omega)]
      omega
    · rw [rdz, ← hv, if_neg (by omega)]
  | d + 1, i, v, hi, hv, hlt => by
    have hw : wrap64 ((at_ : Int) + (n : Int)) = ((at_ + n : Nat) : Int) := by rw [w64 (by omega) (by omega)]; rfl
    have hc : ((at_ + i : Nat) : Int) < ((at_ + n : Nat) : Int) := by omega
    have h0 : 0 ≤ v := by rw [hv]; exact (numL_range _ (seg_bys hb at_ i)).1
    have hr := hb.rd ((at_ + i : Nat) : Int)
    have hs := seg_snoc (l := l) (at_ := at_) (n := i) (by omega)
    have hx : v * 256 + rd l ((at_ + i : Nat) : Int) = numL (seg l at_ (i + 1)) := by rw [hs, numL_snoc, ← hv]
    by_cases hbig : v ≥ 36028797018963968
    · refine Ev.step (f := fun _ => some (-1)) (fun k => ?_) (ev_some ?_)
      · rw [churnref06_read.l0, hw, if_pos hc, if_pos hbig]
      · have e : seg l at_ n = seg l at_ (i + 1) ++ seg l (at_ + (i + 1)) d := by
          rw [show n = (i + 1) + d by omega, seg, seg, seg, List.take_add, List.drop_drop]
        have h1 := numF_ge (seg l (at_ + (i + 1)) d) (numL (seg l at_ (i + 1))) (seg_bys hb _ _) (numL_range _ (seg_bys hb _ _)).1
        have h2 : numL (seg l at_ n) = numF (numL (seg l at_ (i + 1))) (seg l (at_ + (i + 1)) d) := by rw [e]; exact numF_app _ _ 0
        rw [rdz, if_pos (by rw [h2]; omega)]
    · have h1 : (0 : Int) ≤ ((at_ + i : Nat) : Int) := Int.natCast_nonneg _
      have h2 : ((at_ + i : Nat) : Int) < (l.length : Int) := by omega
      have e1 : wrap64 (v * 256) = v * 256 := w64 (by omega) (by omega)
      have e2 : wrap64 (rd l ((at_ + i : Nat) : Int)) = rd l ((at_ + i : Nat) : Int) := w64 (by omega) (by omega)
      have e3 : wrap64 (v * 256 + rd l ((at_ + i : Nat) : Int)) = v * 256 + rd l ((at_ + i : Nat) : Int) := w64 (by omega) (by omega)
      have e4 : wrap64 (((at_ + i : Nat) : Int) + 1) = ((at_ + (i + 1) : Nat) : Int) := by rw [w64 (by omega) (by omega)]; omega
      refine Ev.step (f := fun k => churnref06_read.l0 k l (at_ : Int) (n : Int) (v * 256 + rd l ((at_ + i : Nat) : Int)) ((at_ + (i + 1) : Nat) : Int)) (fun k => ?_) (rread_l0 l hb hl at_ n hn ha d (i + 1) _ (by omega) hx ?_)
      · rw [churnref06_read.l0, hw, if_pos hc, if_neg hbig, if_pos h1, if_pos h2, e1, e2, e3, e4]
      · omega
theorem rread_ev (l : List Int) (hb : Bys l) (hl : l.length ≤ 140737488355328) (at_ n : Nat) (hn : n ≤ 8) (ha : at_ + n ≤ l.length) : Ev (fun k => churnref06_read.f k l (at_ : Int) (n : Int)) (rdz (numL (seg l at_ n))) := by
  have := rread_l0 l hb hl at_ n hn ha n 0 0 (by omega) (by simp [seg, numL]) (by omega)
  exact this
theorem rread2 (l : List Int) (hb : Bys l) (hl : l.length ≤ 140737488355328) (at_ : Nat) (ha : at_ + 2 ≤ l.length) : Ev (fun k => churnref06_read.f k l (at_ : Int) 2) (numL (seg l at_ 2)) := by
  have h := rread_ev l hb hl at_ 2 (by omega) ha
  have hr := numL_range (seg l at_ 2) (seg_bys hb _ _)
  rw [seg_len ha] at hr
  rw [rdz, if_neg (by have := hr.2; simp at this; omega)] at h
  exact h
end Go.Proofs.Ythkcadmjfkcbgaa.Q
end
section
set_option linter.unusedVariables false
set_option linter.unusedSimpArgs false
namespace Go.Proofs.Ythkcadmjfkcbgaa.Q
open Go.RowKit Go.Proofs.YthkcadmjfkcbgaaW.PrintWords Go.Proofs.YthkcadmjfkcbgaaW.PrintLast Go.Proofs.YthkcadmjfkcbgaaW.PrintMore Go.Proofs.Ythkcadmjfkcbgaa.Pl
def SS (l : List Int) (at_ : Nat) (st left R E L : Int) : FS := mkS (at_ : Int) st left R E L (sumL 1 0 (l.take at_)).1 (sumL 1 0 (l.take at_)).2 0
theorem sum_seg (l : List Int) (at_ n : Nat) : sumL (sumL 1 0 (l.take at_)).1 (sumL 1 0 (l.take at_)).2 (seg l at_ n) = sumL 1 0 (l.take (at_ + n)) := by rw [take_seg, sumL_append]
def JL (l : List Int) (at_ i : Int) (k : Nat) : Option JO := churnref06_Judge.l0 k l at_ [4, 5, 6, 8, 16, 24] i false 0 0 0 0 0
theorem j_stage (l : List Int) (at_ nx i : Nat) (hi : i < 6) (hrd : rd [4, 5, 6, 8, 16, 24] (i : Int) = (nx : Int)) (r : JO) (hs : l.length < nx → r = (false, 0, 0, 0, [], (l.length : Int), 67))
    (hn : nx ≤ l.length → ∃ e : Int, Ev (fun k => churnref06_wrong.f k l (at_ : Int)) e ∧ (e ≠ 0 → r = (false, 0, 0, 0, [], (at_ : Int), e)) ∧ (e = 0 → Ev (JL l (nx : Int) ((i + 1 : Nat) : Int)) r)) : Ev (JL l (at_ : Int) (i : Int)) r := by
  have e6 : ((([4, 5, 6, 8, 16, 24] : List Int).length : Nat) : Int) = 6 := rfl
  have c1 : (i : Int) < ((([4, 5, 6, 8, 16, 24] : List Int).length : Nat) : Int) := by rw [e6]; omega
  have c2 : (0 : Int) ≤ (i : Int) := by omega
  have e3 : wrap64 ((i : Int) + 1) = ((i + 1 : Nat) : Int) := by rw [w64 (by omega) (by omega)]; rfl
  by_cases h : l.length < nx
  · refine Ev.step (f := fun _ => some r) (fun k => ?_) (Ev.now _)
    rw [JL, churnref06_Judge.l0, if_pos c1, if_pos c2, hrd, if_pos (by omega), hs h]
  · obtain ⟨e, hw, hb, hg⟩ := hn (by omega)
    refine Ev.step (f := fun k => (churnref06_wrong.f k l (at_ : Int)).bind fun t313 => (if t313 = 0 then JL l (nx : Int) ((i + 1 : Nat) : Int) k else some (false, 0, 0, 0, [], (at_ : Int), t313))) (fun k => ?_) (ev_bind hw ?_)
    · rw [JL, churnref06_Judge.l0, if_pos c1, if_pos c2, hrd, if_neg (by omega), e3]
      rfl
    · by_cases h0 : e = 0
      · exact ev_pos h0 (hg h0)
      · exact ev_neg h0 (ev_some (hb h0).symm)
section
variable (l : List Int) (at_ n : Nat) (st left R E L : Int)
theorem ss_short (hn : fsz st = n) (ha : at_ ≤ l.length) (hs : l.length < at_ + n) (h9 : st < 9) (cs : List (List Int)) :
    jd ((SS l at_ st left R E L).run (l.drop at_)) cs = if st < 6 then (false, 0, 0, 0, cs, (l.length : Int), 67) else (true, R, E, L, cs, (l.length : Int), 67) := by
  have e : (at_ : Int) + ((l.drop at_).length : Int) = (l.length : Int) := by rw [List.length_drop]; omega
  rw [short_out (SS l at_ st left R E L) rfl rfl (l.drop at_) (by show _ < fsz st; rw [hn, List.length_drop]; omega) h9]
  show (if st < 6 then (false, 0, 0, 0, cs, (at_ : Int) + ((l.drop at_).length : Int), 67) else (true, R, E, L, cs, (at_ : Int) + ((l.drop at_).length : Int), 67)) = _
  rw [e]
def FL (l : List Int) (at_ n : Nat) (st left R E L : Int) : FS := ⟨seg l at_ n, ((at_ + n : Nat) : Int), st, left, R, E, L, (sumL 1 0 (l.take at_)).1, (sumL 1 0 (l.take at_)).2, 0, 0⟩
theorem ss_fill (h : at_ + n ≤ l.length) : (SS l at_ st left R E L).fill ((l.drop at_).take n) = FL l at_ n st left R E L := by
  have e := seg_len h
  unfold seg at e
  simp [SS, mkS, FS.fill, FL, seg]
  omega
theorem ss_bad (hn : fsz st = n) (h : at_ + n ≤ l.length) (h7 : st ≠ 7) {s' : FS} {e : Int} (hj : (FL l at_ n st left R E L).jud = (s', e)) (he : e ≠ 0) (hp : s'.pos = ((at_ + n : Nat) : Int)) (hf : s'.fd.length = n) (cs : List (List Int)) :
    jd ((SS l at_ st left R E L).run (l.drop at_)) cs = if s'.st < 6 then (false, 0, 0, 0, cs, (at_ : Int), e) else (true, s'.R, s'.E, s'.L, cs, (at_ : Int), e) := by
  rw [bad_out (SS l at_ st left R E L) rfl rfl (l.drop at_) n hn (by simp; omega) h7 (by rw [ss_fill _ _ _ _ _ _ _ _ h]; exact hj) he, hp, hf, show ((at_ + n : Nat) : Int) - (n : Int) = (at_ : Int) by omega]
theorem ss_fin {s' left' R' E' L' : Int} (h : at_ + n ≤ l.length) (hj : (FL l at_ n st left R E L).jud = (⟨seg l at_ n, ((at_ + n : Nat) : Int), s', left', R', E', L', (sumL (sumL 1 0 (l.take at_)).1 (sumL 1 0 (l.take at_)).2 (seg l at_ n)).1, (sumL (sumL 1 0 (l.take at_)).1 (sumL 1 0 (l.take at_)).2 (seg l at_ n)).2, 0, 0⟩, 0)) :
    ((SS l at_ st left R E L).fill ((l.drop at_).take n)).fin = SS l (at_ + n) s' left' R' E' L' := by
  rw [sum_seg] at hj
  rw [ss_fill _ _ _ _ _ _ _ _ h, fin_ok hj]
  rfl
theorem ss_next {s' left' R' E' L' : Int} (hn : fsz st = n) (h : at_ + n ≤ l.length) (h7 : st ≠ 7) (hj : (FL l at_ n st left R E L).jud = (⟨seg l at_ n, ((at_ + n : Nat) : Int), s', left', R', E', L', (sumL (sumL 1 0 (l.take at_)).1 (sumL 1 0 (l.take at_)).2 (seg l at_ n)).1, (sumL (sumL 1 0 (l.take at_)).1 (sumL 1 0 (l.take at_)).2 (seg l at_ n)).2, 0, 0⟩, 0)) (cs : List (List Int)) :
    jd ((SS l at_ st left R E L).run (l.drop at_)) cs = jd ((SS l (at_ + n) s' left' R' E' L').run (l.drop (at_ + n))) cs := by
  rw [next_out (SS l at_ st left R E L) rfl rfl (l.drop at_) n hn (by simp; omega) h7, ss_fin _ _ _ _ _ _ _ _ h hj, List.drop_drop]
theorem ss_cell {s' left' R' E' L' : Int} (hn : fsz st = n) (h : at_ + n ≤ l.length) (h7 : st = 7) (hj : (FL l at_ n st left R E L).jud = (⟨seg l at_ n, ((at_ + n : Nat) : Int), s', left', R', E', L', (sumL (sumL 1 0 (l.take at_)).1 (sumL 1 0 (l.take at_)).2 (seg l at_ n)).1, (sumL (sumL 1 0 (l.take at_)).1 (sumL 1 0 (l.take at_)).2 (seg l at_ n)).2, 0, 0⟩, 0)) (cs : List (List Int)) :
    jd ((SS l at_ st left R E L).run (l.drop at_)) cs = jd ((SS l (at_ + n) s' left' R' E' L').run (l.drop (at_ + n))) (cs ++ [seg l at_ n]) := by
  rw [cell_out (SS l at_ st left R E L) rfl rfl (l.drop at_) n hn (by simp; omega) h7, ss_fin _ _ _ _ _ _ _ _ h hj, List.drop_drop]
  rfl
end
section
variable (l : List Int) (hb : Bys l) (hl : l.length ≤ 140737488355000) (left R E L : Int)
theorem rd_one (l : List Int) (at_ : Nat) (h : at_ + 1 ≤ l.length) : rd (seg l at_ 1) 0 = rd l (at_ : Int) := seg_rd (i := 0) h (by omega)
include hb in
theorem st_0 (h : 4 ≤ l.length → Ev (JL l 4 1) (jd ((SS l 4 1 left R E L).run (l.drop 4)) [])) : Ev (JL l 0 0) (jd ((SS l 0 0 left R E L).run (l.drop 0)) []) := by
  refine j_stage l 0 4 0 (by omega) rfl _ (fun hs => ss_short l 0 4 0 left R E L rfl (by omega) (by omega) (by omega) []) (fun hn => ?_)
  have hw : Ev (fun k => churnref06_wrong.f k l 0) (if seg l 0 4 = [67, 72, 82, 78] then 0 else 60) := by
    refine ev_pos rfl (ev_pos (by omega) ?_)
    by_cases q : seg l 0 4 = [67, 72, 82, 78]
    · rw [if_pos q]
      exact ev_pos ((magic_iff (fun x hx => hb x (List.mem_of_mem_take hx))).2 q) (ev_some rfl)
    · rw [if_neg q]
      exact ev_neg (fun hq => q ((magic_iff (fun x hx => hb x (List.mem_of_mem_take hx))).1 hq)) (ev_some rfl)
  by_cases q : seg l 0 4 = [67, 72, 82, 78]
  · rw [if_pos q] at hw
    refine ⟨0, hw, fun he => absurd rfl he, fun _ => ?_⟩
    rw [ss_next l 0 4 0 left R E L rfl (by omega) (by omega) ((jud_0 _ _ _ _ _ _ _ _ _ _).trans (if_pos q)) []]
    exact h hn
  · rw [if_neg q] at hw
    refine ⟨60, hw, fun _ => ?_, fun he => by omega⟩
    rw [ss_bad l 0 4 0 left R E L rfl (by omega) (by omega) ((jud_0 _ _ _ _ _ _ _ _ _ _).trans (if_neg q)) (by omega) rfl (seg_len (by omega)) []]
    rfl
theorem st_1 (h4 : 4 ≤ l.length) (h : 5 ≤ l.length → Ev (JL l 5 2) (jd ((SS l 5 2 left R E L).run (l.drop 5)) [])) : Ev (JL l 4 1) (jd ((SS l 4 1 left R E L).run (l.drop 4)) []) := by
  refine j_stage l 4 5 1 (by omega) rfl _ (fun hs => ss_short l 4 1 1 left R E L rfl (by omega) (by omega) (by omega) []) (fun hn => ?_)
  have hw : ∀ r, (rd l 4 = 1 → r = 0) → (¬ rd l 4 = 1 → r = 61) → Ev (fun k => churnref06_wrong.f k l 4) r := fun r h1 h2 => by
    refine ev_neg (by decide) (ev_pos rfl (ev_pos (by omega) ?_))
    by_cases q : rd l 4 = 1
    · exact ev_pos q (ev_some (h1 q).symm)
    · exact ev_neg q (ev_some (h2 q).symm)
  have hr := rd_one l 4 (by omega)
  by_cases q : rd l 4 = 1
  · refine ⟨0, hw 0 (fun _ => rfl) (fun n => absurd q n), fun he => absurd rfl he, fun _ => ?_⟩
    rw [ss_next l 4 1 1 left R E L rfl (by omega) (by omega) ((jud_1 _ _ _ _ _ _ _ _ _ _).trans (if_pos (hr.trans q))) []]
    exact h hn
  · refine ⟨61, hw 61 (fun p => absurd p q) (fun _ => rfl), fun _ => ?_, fun he => by omega⟩
    rw [ss_bad l 4 1 1 left R E L rfl (by omega) (by omega) ((jud_1 _ _ _ _ _ _ _ _ _ _).trans (if_neg (fun p => q (hr.symm.trans p)))) (by omega) rfl (seg_len (by omega)) []]
    rfl
theorem st_2 (h5 : 5 ≤ l.length) (h : 6 ≤ l.length → ¬ rd l 5 > 8 → Ev (JL l 6 3) (jd ((SS l 6 3 left R E (rd l 5)).run (l.drop 6)) [])) : Ev (JL l 5 2) (jd ((SS l 5 2 left R E L).run (l.drop 5)) []) := by
  refine j_stage l 5 6 2 (by omega) rfl _ (fun hs => ss_short l 5 1 2 left R E L rfl (by omega) (by omega) (by omega) []) (fun hn => ?_)
  have hw : ∀ r, (rd l 5 > 8 → r = 62) → (¬ rd l 5 > 8 → r = 0) → Ev (fun k => churnref06_wrong.f k l 5) r := fun r h1 h2 => by
    refine ev_neg (by decide) (ev_neg (by decide) (ev_pos rfl (ev_pos (by omega) ?_)))
    by_cases q : rd l 5 > 8
    · exact ev_pos q (ev_some (h1 q).symm)
    · exact ev_neg q (ev_some (h2 q).symm)
  have hr := rd_one l 5 (by omega)
  have hj := jud_2 (seg l 5 1) ((5 + 1 : Nat) : Int) left R E L (sumL 1 0 (l.take 5)).1 (sumL 1 0 (l.take 5)).2 0 0
  rw [hr] at hj
  by_cases q : rd l 5 > 8
  · refine ⟨62, hw 62 (fun _ => rfl) (fun p => absurd q p), fun _ => ?_, fun he => by omega⟩
    rw [ss_bad l 5 1 2 left R E L rfl (by omega) (by omega) (hj.trans (if_pos q)) (by omega) rfl (seg_len (by omega)) []]
    rfl
  · refine ⟨0, hw 0 (fun p => absurd p q) (fun _ => rfl), fun he => absurd rfl he, fun _ => ?_⟩
    rw [ss_next l 5 1 2 left R E L rfl (by omega) (by omega) (hj.trans (if_neg q)) []]
    exact h hn q
include hb hl
theorem st_3 (h6 : 6 ≤ l.length) (h : 8 ≤ l.length → ¬ numL (seg l 6 2) > 256 → Ev (JL l 8 4) (jd ((SS l 8 4 (numL (seg l 6 2)) R E L).run (l.drop 8)) [])) : Ev (JL l 6 3) (jd ((SS l 6 3 left R E L).run (l.drop 6)) []) := by
  refine j_stage l 6 8 3 (by omega) rfl _ (fun hs => ss_short l 6 2 3 left R E L rfl (by omega) (by omega) (by omega) []) (fun hn => ?_)
  have hw : ∀ r, (numL (seg l 6 2) > 256 → r = 63) → (¬ numL (seg l 6 2) > 256 → r = 0) → Ev (fun k => churnref06_wrong.f k l 6) r := fun r h1 h2 => by
    refine ev_neg (by decide) (ev_neg (by decide) (ev_neg (by decide) (ev_pos rfl (ev_bind (rread2 l hb (by omega) 6 (by omega)) ?_))))
    by_cases q : numL (seg l 6 2) > 256
    · exact ev_pos q (ev_some (h1 q).symm)
    · exact ev_neg q (ev_some (h2 q).symm)
  by_cases q : numL (seg l 6 2) > 256
  · refine ⟨63, hw 63 (fun _ => rfl) (fun p => absurd q p), fun _ => ?_, fun he => by omega⟩
    rw [ss_bad l 6 2 3 left R E L rfl (by omega) (by omega) ((jud_3 _ _ _ _ _ _ _ _ _ _).trans (if_pos q)) (by omega) rfl (seg_len (by omega)) []]
    rfl
  · refine ⟨0, hw 0 (fun p => absurd p q) (fun _ => rfl), fun he => absurd rfl he, fun _ => ?_⟩
    rw [ss_next l 6 2 3 left R E L rfl (by omega) (by omega) ((jud_3 _ _ _ _ _ _ _ _ _ _).trans (if_neg q)) []]
    exact h hn q
theorem st_4 (h8 : 8 ≤ l.length) (h : 16 ≤ l.length → ¬ numL (seg l 8 8) > 4611686018427387903 → Ev (JL l 16 5) (jd ((SS l 16 5 left (wrap64 (numL (seg l 8 8))) E L).run (l.drop 16)) [])) : Ev (JL l 8 4) (jd ((SS l 8 4 left R E L).run (l.drop 8)) []) := by
  refine j_stage l 8 16 4 (by omega) rfl _ (fun hs => ss_short l 8 8 4 left R E L rfl (by omega) (by omega) (by omega) []) (fun hn => ?_)
  have hr := (numL_range (seg l 8 8) (seg_bys hb _ _)).1
  have hw : ∀ r, (numL (seg l 8 8) > 4611686018427387903 → r = 62) → (¬ numL (seg l 8 8) > 4611686018427387903 → r = 0) → Ev (fun k => churnref06_wrong.f k l 8) r := fun r h1 h2 => by
    refine ev_neg (by decide) (ev_neg (by decide) (ev_neg (by decide) (ev_neg (by decide) (ev_pos rfl (ev_bind (rread_ev l hb (by omega) 8 8 (by omega) (by omega)) ?_)))))
    by_cases q2 : numL (seg l 8 8) ≥ 9223372036854775808
    · rw [rdz, if_pos q2]
      exact ev_pos (by omega) (ev_some (h1 (by omega)).symm)
    · rw [rdz, if_neg q2]
      refine ev_neg (by omega) ?_
      by_cases q : numL (seg l 8 8) > 4611686018427387903
      · exact ev_pos (by omega) (ev_some (h1 q).symm)
      · exact ev_neg (by omega) (ev_some (h2 q).symm)
  by_cases q : numL (seg l 8 8) > 4611686018427387903
  · refine ⟨62, hw 62 (fun _ => rfl) (fun p => absurd q p), fun _ => ?_, fun he => by omega⟩
    rw [ss_bad l 8 8 4 left R E L rfl (by omega) (by omega) ((jud_4 _ _ _ _ _ _ _ _ _ _).trans (if_pos q)) (by omega) rfl (seg_len (by omega)) []]
    rfl
  · refine ⟨0, hw 0 (fun p => absurd p q) (fun _ => rfl), fun he => absurd rfl he, fun _ => ?_⟩
    rw [ss_next l 8 8 4 left R E L rfl (by omega) (by omega) ((jud_4 _ _ _ _ _ _ _ _ _ _).trans (if_neg q)) []]
    exact h hn q
theorem st_5 (h16 : 16 ≤ l.length) (h : 24 ≤ l.length → ¬ numL (seg l 16 8) > 4611686018427387904 → Ev (JL l 24 6) (jd ((SS l 24 (if left = 0 then 8 else 6) left R (wrap64 (numL (seg l 16 8))) L).run (l.drop 24)) [])) : Ev (JL l 16 5) (jd ((SS l 16 5 left R E L).run (l.drop 16)) []) := by
  refine j_stage l 16 24 5 (by omega) rfl _ (fun hs => ss_short l 16 8 5 left R E L rfl (by omega) (by omega) (by omega) []) (fun hn => ?_)
  have hr := (numL_range (seg l 16 8) (seg_bys hb _ _)).1
  have hw : ∀ r, (numL (seg l 16 8) > 4611686018427387904 → r = 62) → (¬ numL (seg l 16 8) > 4611686018427387904 → r = 0) → Ev (fun k => churnref06_wrong.f k l 16) r := fun r h1 h2 => by
    refine ev_neg (by decide) (ev_neg (by decide) (ev_neg (by decide) (ev_neg (by decide) (ev_neg (by decide) (ev_pos rfl (ev_bind (rread_ev l hb (by omega) 16 8 (by omega) (by omega)) ?_))))))
    by_cases q2 : numL (seg l 16 8) ≥ 9223372036854775808
    · rw [rdz, if_pos q2]
      exact ev_pos (by omega) (ev_some (h1 (by omega)).symm)
    · rw [rdz, if_neg q2]
      refine ev_neg (by omega) ?_
      by_cases q : numL (seg l 16 8) > 4611686018427387904
      · exact ev_pos (by omega) (ev_some (h1 q).symm)
      · exact ev_neg (by omega) (ev_some (h2 q).symm)
  by_cases q : numL (seg l 16 8) > 4611686018427387904
  · refine ⟨62, hw 62 (fun _ => rfl) (fun p => absurd q p), fun _ => ?_, fun he => by omega⟩
    rw [ss_bad l 16 8 5 left R E L rfl (by omega) (by omega) ((jud_5 _ _ _ _ _ _ _ _ _ _).trans (if_pos q)) (by omega) rfl (seg_len (by omega)) []]
    rfl
  · refine ⟨0, hw 0 (fun p => absurd p q) (fun _ => rfl), fun he => absurd rfl he, fun _ => ?_⟩
    rw [ss_next l 16 8 5 left R E L rfl (by omega) (by omega) ((jud_5 _ _ _ _ _ _ _ _ _ _).trans (if_neg q)) []]
    exact h hn q
end
end Go.Proofs.Ythkcadmjfkcbgaa.Q
end
section
set_option linter.unusedVariables false
set_option linter.unusedSimpArgs false
namespace Go.Proofs.Ythkcadmjfkcbgaa.Q
open Go.RowKit Go.Proofs.YthkcadmjfkcbgaaW.PrintWords Go.Proofs.YthkcadmjfkcbgaaW.PrintLast Go.Proofs.YthkcadmjfkcbgaaW.PrintMore Go.Proofs.Ythkcadmjfkcbgaa.Pl
section
variable (l : List Int) (hb : Bys l) (hl : l.length ≤ 140737488355000) (R E L : Int)
include hb hl
theorem ended_ev (at_ : Nat) (ha : at_ ≤ l.length) (cs : List (List Int)) : Ev (fun k => churnref06_ended.f k l (at_ : Int) true R E L cs 0 0) (jd ((SS l at_ 8 0 R E L).run (l.drop at_)) cs) := by
  have e4 : wrap64 ((at_ : Int) + 4) = ((at_ + 4 : Nat) : Int) := by rw [w64 (by omega) (by omega)]; rfl
  unfold churnref06_ended.f
  rw [e4]
  by_cases h4 : l.length < at_ + 4
  · refine ev_pos (by omega) (ev_some ?_)
    rw [ss_short l at_ 4 8 0 R E L rfl ha h4 (by omega) cs, if_neg (by omega)]
  · refine ev_neg (by omega) (ev_pos (by omega) (ev_pos (by omega) ?_))
    have ht : l.take ((at_ : Int)).toNat = l.take at_ := by rw [Int.toNat_natCast]
    rw [ht]
    refine ev_bind (rfoot_ev (l.take at_) (fun x hx => hb x (List.mem_of_mem_take hx)) (by rw [List.length_take]; omega)) (ev_pos (by omega) (ev_pos (by omega) ?_))
    have hseg : (l.take (((at_ + 4 : Nat) : Int)).toNat).drop ((at_ : Int)).toNat = seg l at_ 4 := by
      rw [Int.toNat_natCast, Int.toNat_natCast, List.drop_take, show at_ + 4 - at_ = 4 by omega, seg]
    rw [hseg]
    have hsb := seg_bys hb at_ 4
    have hsl : (seg l at_ 4).length = 4 := seg_len (by omega)
    have hfr := footV_range (l.take at_)
    have hiff : (strOfNums (seg l at_ 4)).toList = (strOfNums (be (footV (l.take at_)) 4)).toList ↔ numL (seg l at_ 4) = footV (l.take at_) := by
      constructor
      · intro h
        rw [str_inj hsb (be_bys _ 4) h]
        exact numL_be _ 4 hfr.1 (by have := hfr.2; simp; omega)
      · intro h
        rw [← h, be_numL (seg l at_ 4) 4 hsl hsb]
    have hj := jud_8 (seg l at_ 4) ((at_ + 4 : Nat) : Int) 0 R E L (sumL 1 0 (l.take at_)).1 (sumL 1 0 (l.take at_)).2 0 0
    by_cases q : numL (seg l at_ 4) = footV (l.take at_)
    · refine ev_pos (hiff.2 q) ?_
      have hn := next_out (SS l at_ 8 0 R E L) rfl rfl (l.drop at_) 4 rfl (by simp; omega) (by show (8 : Int) ≠ 7; omega) cs
      rw [ss_fill _ _ _ _ _ _ _ _ (by omega), show (FL l at_ 4 8 0 R E L).fin = _ from fin_ok (hj.trans (if_pos q)), List.drop_drop] at hn
      rw [hn]
      by_cases hm : at_ + 4 < l.length
      · refine ev_pos (by omega) (ev_some ?_)
        have hlen : 1 ≤ (l.drop (at_ + 4)).length := by simp; omega
        rw [bad_out _ rfl rfl (l.drop (at_ + 4)) 1 rfl hlen (by show (9 : Int) ≠ 7; omega) (jud_9 _ _ _ _ _ _ _ _ _ _) (by omega) cs]
        have hone : (([] : List Int) ++ (l.drop (at_ + 4)).take 1).length = 1 := by simp; omega
        show _ = (if (9 : Int) < 6 then _ else (true, R, E, L, cs, (((at_ + 4 : Nat) : Int) + (((l.drop (at_ + 4)).take 1).length : Int)) - ((([] : List Int) ++ (l.drop (at_ + 4)).take 1).length : Int), 66))
        rw [if_neg (by omega), hone, show ((l.drop (at_ + 4)).take 1).length = 1 from by simpa using hone]
        simp only [Prod.mk.injEq, true_and, and_true]
        omega
      · refine ev_neg (by omega) (ev_some ?_)
        rw [List.drop_of_length_le (by omega)]
        simp [FS.run, jd, FS.fend, FS.fhead]
    · refine ev_neg (fun h => q (hiff.1 h)) (ev_some ?_)
      rw [ss_bad l at_ 4 8 0 R E L rfl (by omega) (by omega) (hj.trans (if_neg q)) (by omega) rfl hsl cs]
      rfl
theorem cells_ev (n : Nat) : ∀ (d i at_ : Nat) (cs : List (List Int)), i + d = n → at_ ≤ l.length → cs.length = i → n ≤ 256 →
    Ev (fun k => churnref06_Judge.l1 k l (at_ : Int) (n : Int) (i : Int) true R E L cs 0 0) (jd ((SS l at_ (if (d : Int) = 0 then 8 else 6) (d : Int) R E L).run (l.drop at_)) cs)
  | 0, i, at_, cs, hi, ha, hc, hn => by
    refine Ev.step (f := fun k => (churnref06_ended.f k l (at_ : Int) true R E L cs 0 0).bind fun bt319 => some (bt319.1, bt319.2.1, bt319.2.2.1, bt319.2.2.2.1, bt319.2.2.2.2.1, bt319.2.2.2.2.2.1, bt319.2.2.2.2.2.2)) (fun k => ?_) (ev_bind (ended_ev l hb hl R E L at_ ha cs) (ev_some rfl))
    rw [churnref06_Judge.l1, if_neg (by omega)]
  | d + 1, i, at_, cs, hi, ha, hc, hn => by
    have hne : ¬ (((d + 1 : Nat) : Int) = 0) := by omega
    rw [if_neg hne]
    have c0 : (i : Int) < (n : Int) := by omega
    have e2 : wrap64 ((at_ : Int) + 2) = ((at_ + 2 : Nat) : Int) := by rw [w64 (by omega) (by omega)]; rfl
    have e3 : wrap64 (((at_ + 2 : Nat) : Int) + 320) = ((at_ + 2 + 320 : Nat) : Int) := by rw [w64 (by omega) (by omega)]; rfl
    have e5 : wrap64 ((i : Int) + 1) = ((i + 1 : Nat) : Int) := by rw [w64 (by omega) (by omega)]; rfl
    by_cases h2 : l.length < at_ + 2
    · refine Ev.step (f := fun k => churnref06_Judge.j2 k l (at_ : Int) (n : Int) (i : Int) false true R E L cs 0 0) (fun k => ?_) (Ev.step (f := fun _ => some (true, R, E, L, cs, (l.length : Int), 67)) (fun k => ?_) (ev_some ?_))
      · rw [churnref06_Judge.l1, if_pos c0, e2, if_neg (by omega)]
      · rw [churnref06_Judge.j2, if_neg Bool.false_ne_true, e2, e3, if_pos (by omega)]
      · rw [ss_short l at_ 2 6 ((d + 1 : Nat) : Int) R E L rfl ha h2 (by omega) cs, if_neg (by omega)]
    · have hread := rread2 l hb (by omega) at_ (by omega)
      have hj := jud_6 (seg l at_ 2) ((at_ + 2 : Nat) : Int) ((d + 1 : Nat) : Int) R E L (sumL 1 0 (l.take at_)).1 (sumL 1 0 (l.take at_)).2 0 0
      refine Ev.step (f := fun k => (churnref06_read.f k l (at_ : Int) 2).bind fun t328 => churnref06_Judge.j2 k l (at_ : Int) (n : Int) (i : Int) (t328 != 320) true R E L cs 0 0) (fun k => ?_) (ev_bind hread ?_)
      · rw [churnref06_Judge.l1, if_pos c0, e2, if_pos (by omega)]
      by_cases q : numL (seg l at_ 2) = 320
      · have eb : (numL (seg l at_ 2) != 320) = false := by simp [q]
        rw [eb, ss_next l at_ 2 6 ((d + 1 : Nat) : Int) R E L rfl (by omega) (by omega) (hj.trans (if_pos q)) cs]
        by_cases h3 : l.length < at_ + 2 + 320
        · refine Ev.step (f := fun _ => some (true, R, E, L, cs, (l.length : Int), 67)) (fun k => ?_) (ev_some ?_)
          · rw [churnref06_Judge.j2, if_neg Bool.false_ne_true, e2, e3, if_pos (by omega)]
          · rw [ss_short l (at_ + 2) 320 7 ((d + 1 : Nat) : Int) R E L rfl (by omega) h3 (by omega) cs, if_neg (by omega)]
        · have hseg : (l.take (((at_ + 2 + 320 : Nat) : Int)).toNat).drop (((at_ + 2 : Nat) : Int)).toNat = seg l (at_ + 2) 320 := by
            rw [Int.toNat_natCast, Int.toNat_natCast, List.drop_take, show at_ + 2 + 320 - (at_ + 2) = 320 by omega, seg]
          have hsl : (seg l (at_ + 2) 320).length = 320 := seg_len (by omega)
          have hcp : churnref06_copied.f (seg l (at_ + 2) 320) = some (seg l (at_ + 2) 320) := by
            unfold churnref06_copied.f
            rw [if_pos (by rw [hsl]; simp)]
            rfl
          refine Ev.step (f := fun k => churnref06_Judge.l1 k l ((at_ + 2 + 320 : Nat) : Int) (n : Int) ((i + 1 : Nat) : Int) true R E L (cs ++ [seg l (at_ + 2) 320]) 0 0) (fun k => ?_) ?_
          · rw [churnref06_Judge.j2, if_neg Bool.false_ne_true, e2, e3, if_neg (by omega), if_pos (by omega), if_pos (by omega), if_pos (by omega), hseg, hcp, Option.bind_some, if_pos (by omega), e5]
          · rw [ss_cell l (at_ + 2) 320 7 ((d + 1 : Nat) : Int) R E L rfl (by omega) rfl (jud_7 _ _ _ _ _ _ _ _ _ _) cs, show (((d + 1 : Nat) : Int) - 1) = (d : Int) by omega]
            exact cells_ev n d (i + 1) (at_ + 2 + 320) _ (by omega) (by omega) (by simp [hc]) hn
      · have eb : (numL (seg l at_ 2) != 320) = true := by simp [q]
        rw [eb]
        refine Ev.step (f := fun _ => some (true, R, E, L, cs, (at_ : Int), 64)) (fun k => ?_) (ev_some ?_)
        · rw [churnref06_Judge.j2, if_pos rfl]
        · rw [ss_bad l at_ 2 6 ((d + 1 : Nat) : Int) R E L rfl (by omega) (by omega) (hj.trans (if_neg q)) (by omega) rfl (seg_len (by omega)) cs]
          rfl
end
theorem judge_ev (l : List Int) (hb : Bys l) (hl : l.length ≤ 140737488355000) : Ev (fun k => churnref06_Judge.f k l) (jd (FS.init.run l) []) := by
  have h : Ev (JL l 0 0) (jd ((SS l 0 0 0 0 0 0).run (l.drop 0)) []) := by
    refine st_0 l hb 0 0 0 0 (fun h4 => st_1 l 0 0 0 0 h4 (fun h5 => st_2 l 0 0 0 0 h5 (fun h6 q2 => st_3 l hb hl 0 0 0 _ h6 (fun h8 q3 => st_4 l hb hl _ 0 0 _ h8 (fun h16 q4 => st_5 l hb hl _ _ 0 _ h16 (fun h24 q5 => ?_))))))
    have r8 := (numL_range (seg l 8 8) (seg_bys hb _ _)).1
    have r16 := (numL_range (seg l 16 8) (seg_bys hb _ _)).1
    have r6 := (numL_range (seg l 6 2) (seg_bys hb _ _)).1
    have r5 := hb.rd 5
    obtain ⟨n, hn⟩ := Int.eq_ofNat_of_zero_le r6
    have w8 : wrap64 (numL (seg l 8 8)) = numL (seg l 8 8) := w64 (by omega) (by omega)
    have w16 : wrap64 (numL (seg l 16 8)) = numL (seg l 16 8) := w64 (by omega) (by omega)
    have w5 : wrap64 (rd l 5) = rd l 5 := w64 (by omega) (by omega)
    have z8 : rdz (numL (seg l 8 8)) = numL (seg l 8 8) := by rw [rdz, if_neg (by omega)]
    have z16 : rdz (numL (seg l 16 8)) = numL (seg l 16 8) := by rw [rdz, if_neg (by omega)]
    have v8 := rread_ev l hb (by omega) 8 8 (by omega) (by omega)
    have v16 := rread_ev l hb (by omega) 16 8 (by omega) (by omega)
    have v6 := rread2 l hb (by omega) 6 (by omega)
    rw [z8] at v8
    rw [z16] at v16
    rw [w8, w16, hn]
    rw [hn] at v6 q3
    have hc := cells_ev l hb hl (numL (seg l 8 8)) (numL (seg l 16 8)) (rd l 5) n n 0 24 [] (by omega) h24 rfl (by omega)
    refine Ev.step (f := fun k => (churnref06_read.f k l 8 8).bind fun t315 => (churnref06_read.f k l 16 8).bind fun t316 => if 5 < (l.length : Int) then (churnref06_read.f k l 6 2).bind fun t318 => churnref06_Judge.l1 k l 24 t318 0 true t315 t316 (wrap64 (rd l 5)) [] 0 0 else none) (fun k => ?_) (ev_bind v8 (ev_bind v16 (ev_pos (by omega) (ev_bind v6 ?_))))
    · rw [JL, churnref06_Judge.l0, if_neg (by decide)]
    · rw [w5]
      exact hc
  exact h
end Go.Proofs.Ythkcadmjfkcbgaa.Q
end
section
set_option linter.unusedVariables false
set_option linter.unusedSimpArgs false
namespace Go.Proofs.Ythkcadmjfkcbgaa.Q
open Go.RowKit Go.Proofs.YthkcadmjfkcbgaaW.PrintWords Go.Proofs.YthkcadmjfkcbgaaW.PrintLast Go.Proofs.YthkcadmjfkcbgaaW.PrintMore Go.Proofs.Ythkcadmjfkcbgaa.Pl
section
variable {W W1 : World} {base T n cl : Nat} {k : IntKind} {g v v1 : Value} {xs ys x y zs : List Int} {ok ok' : Nat → Prop} {Al : Option Addr}
theorem apt_addr (h : Kd.R (Kd.int k) T W base ok v xs) (h1 : Kd.R (Kd.int k) T W1 base ok' v1 ys) (e : v1.ownBlock = v.ownBlock) : ∃ A n c n' c', v = .slice A n c ∧ v1 = .slice A n' c' := by
  obtain ⟨A, c, rfl, -⟩ := Kd.R_reads h
  obtain ⟨A', c', rfl, -⟩ := Kd.R_reads h1
  refine ⟨A, xs.length, c, ys.length, c', rfl, ?_⟩
  cases A with
  | none => cases A' with
    | none => rfl
    | some b => simp [Value.ownBlock] at e
  | some a => cases A' with
    | none => simp [Value.ownBlock] at e
    | some b =>
      obtain ⟨p, rfl⟩ := Kd.R_head h
      obtain ⟨q, rfl⟩ := Kd.R_head h1
      simp only [Value.ownBlock, Option.some.injEq] at e
      rw [e]
structure LG (k : IntKind) (W : World) (base T : Nat) (Al : Option Addr) (g : Value) (x y : List Int) : Prop where
  row : Kd.R (Kd.int k) T W base (fun _ => True) g (x ++ y)
  was : (∃ n c, g = .slice Al n c) ∨ Kd.F (Kd.int k) W (fun b => some b ≠ g.ownBlock ∧ Al.map (·.block) = some b) Al x.length x
theorem LG.start (h : Kd.R (Kd.int k) T W base ok (.slice Al n cl) x) : LG k W base T Al (.slice Al n cl) x [] :=
  ⟨by rw [List.append_nil]; exact Kd.R_mono h (fun _ _ => trivial), .inl ⟨_, _, rfl⟩⟩
theorem LG.app (h : LG k W base T Al g x y) (hr : Kd.R (Kd.int k) T W1 base (fun _ => True) v1 ((x ++ y) ++ zs)) (hg : W.grownBy W1 g.ownBlock) (hc : v1.ownBlock = g.ownBlock ∨ (v1.ownBlock = some W.heap.size ∧ W.grownBy W1 none)) : LG k W1 base T Al v1 x (y ++ zs) := by
  refine ⟨by rw [← List.append_assoc]; exact hr, ?_⟩
  rcases hc with e | ⟨e, hn⟩
  · rcases h.was with ⟨n, c, rfl⟩ | hF
    · obtain ⟨A, n1, c1, n2, c2, e1, e2⟩ := apt_addr h.row hr e
      injection e1 with e1
      exact .inl ⟨n2, c2, by rw [e2, e1]⟩
    · refine .inr (Kd.F_mono (Kd.F_grown hF hg (fun b hb => hb.1)) (fun b hb => ⟨by rw [e]; exact hb.1, hb.2⟩))
  · rcases h.was with ⟨n, c, rfl⟩ | hF
    · have hF := Kd.R_F (Kd.R_tight rfl h.row)
      obtain rfl := (Kd.R_reads' h.row).1
      have hF := Kd.F_take (m := x.length) (Kd.F_bound hF) (by simp)
      rw [List.take_left] at hF
      refine .inr (Kd.F_mono (Kd.F_grown hF hn (fun b hb => by simp)) (fun b hb => ⟨?_, ?_⟩))
      · rw [e]; intro x; injection x with x; have := hb.2; omega
      · have h1 := hb.1
        cases Al with
        | none => simp [Value.ownBlock] at h1
        | some a => simp only [Value.ownBlock, Option.some.injEq] at h1; simp [h1]
    · refine .inr (Kd.F_mono (Kd.F_grown (Kd.F_bound hF) hn (fun b hb => by simp)) (fun b hb => ⟨?_, hb.1.2⟩))
      rw [e]; intro x; injection x with x; have := hb.2; omega
theorem LG.step (h : LG k W base T Al g x y) (hs : ∀ b, (some b = g.ownBlock ∨ Al.map (·.block) = some b) → b < W.heap.size → W1.heap[b]? = W.heap[b]?) : LG k W1 base T Al g x y := by
  refine ⟨Kd.R_mono (Kd.R_step (Kd.R_tight rfl h.row) (fun b hb hlt => hs b (.inl hb) hlt)) (fun _ _ => trivial), ?_⟩
  rcases h.was with h1 | hF
  · exact .inl h1
  · exact .inr (Kd.F_step hF (fun b hb hlt => hs b (.inr hb.2) hlt))
theorem LG.reads (h : LG k W base T Al g x y) : Kd.C (Kd.int k) W Al x.length x := by
  rcases h.was with ⟨n, c, rfl⟩ | hF
  · have hF := Kd.R_F h.row
    obtain rfl := (Kd.R_reads' h.row).1
    have hF := Kd.F_take (m := x.length) hF (by simp)
    rw [List.take_left] at hF
    exact Kd.F_now hF
  · exact Kd.F_now hF
end
section
variable {W W1 : World} {base T T2 n cl : Nat} {k : IntKind} {ok : Nat → Prop} {A : Option Addr} {xs : List (List Int)}
structure Lists (k : IntKind) (W : World) (base T : Nat) (okr : Nat → Prop) (ls : List Value) (xs : List (List Int)) : Prop where
  len : ls.length = xs.length
  row : ∀ (j : Nat) (v : Value) (x : List Int), ls[j]? = some v → xs[j]? = some x → Kd.R (Kd.int k) T W base okr v x
  two : ∀ (i j : Nat) (u v : Value), i ≠ j → ls[i]? = some u → ls[j]? = some v → ∀ b, u.ownBlock = some b → v.ownBlock ≠ some b
theorem lists_of (h : Kd.S (Kd.slice T (Kd.int k)) T2 W base ok (.slice A n cl) xs) :
    ∃ ls : List Value, Lists k W base T (fun b => ok b ∧ some b ≠ (Value.slice A n cl).ownBlock) ls xs ∧ n = xs.length ∧ ∀ (j : Nat) (v : Value), ls[j]? = some v → ∃ g, A = some ⟨g, 0, none⟩ ∧ W.cell? ⟨g, j, none⟩ = some v := by
  have hn := (Kd.S_reads' h).1
  obtain ⟨f, h0, inner, ho, hr⟩ := h
  rw [List.length_zipIdx] at ho
  have hl : inner.length = xs.length := by have h := ho.1; have h : inner.length = xs.length * 1 := h; omega
  have hat : ∀ (j : Nat) (v : Value) (x : List Int), inner[j]? = some v → xs[j]? = some x → Kd.R (Kd.int k) T W base (fun b => (ok b ∧ some b ≠ (Value.slice A n cl).ownBlock) ∧ f b = j) v x := by
    intro j v x hv hx
    obtain ⟨u, e, hu⟩ := hr.2 j (x, j) (Kd.zip_at hx)
    have e : (inner.drop (j * 1)).take 1 = [u] := e
    have hu : Kd.R (Kd.int k) T W base (fun b => (ok b ∧ some b ≠ (Value.slice A n cl).ownBlock) ∧ f b = j) u x := hu
    have e2 : inner[j]? = some u := by
      have := congrArg (fun l : List Value => l[0]?) e
      rw [Nat.mul_one] at this
      simpa [List.getElem?_take, List.getElem?_drop] using this
    rw [hv] at e2
    injection e2 with e2
    rw [e2]
    exact hu
  refine ⟨inner, ⟨hl, fun j v x hv hx => Kd.R_mono (hat j v x hv hx) (fun b hb => hb.1), ?_⟩, hn, ?_⟩
  · intro i j u v hij hu hv b hb hb2
    have hi : i < xs.length := by rw [← hl]; exact (List.getElem?_eq_some_iff.1 hu).1
    have hj : j < xs.length := by rw [← hl]; exact (List.getElem?_eq_some_iff.1 hv).1
    have h1 := (hat i u _ hu (List.getElem?_eq_getElem hi)).1 b hb
    have h2 := (hat j v _ hv (List.getElem?_eq_getElem hj)).1 b hb2
    exact hij (h1.2.symm.trans h2.2)
  · intro j v hv
    have hj : j < xs.length := by rw [← hl]; exact (List.getElem?_eq_some_iff.1 hv).1
    rcases ho.2 with ⟨_, e0⟩ | ⟨g, cap, cur, e, -, hb, -, -, -, ht⟩
    · omega
    · injection e with e
      refine ⟨g, e, (blk_cell hb j).trans ?_⟩
      rw [← ht] at hv
      rw [List.getElem?_take] at hv
      split at hv
      · simpa using hv
      · cases hv
theorem Lists.put {okr : Nat → Prop} {ls : List Value} {i j g c m : Nat} {x : List Int} {z : Int} (h : Lists k W base T okr ls xs) (hv : ls[i]? = some (.slice (some ⟨g, 0, none⟩) m c)) (hx : xs[i]? = some x) :
    Lists k (W.setCell ⟨g, j, none⟩ (.int k z)) base T okr ls (xs.set i (x.set j z)) ∧ W.grownBy (W.setCell ⟨g, j, none⟩ (.int k z)) (some g) := by
  have hR := h.row i _ x hv hx
  obtain ⟨hp, hg⟩ := Kd.R_putg hR (j : Int) z
  simp only [Int.toNat_natCast] at hp hg
  refine ⟨⟨by rw [List.length_set]; exact h.len, ?_, h.two⟩, hg⟩
  intro j' v' x' hv' hx'
  by_cases e : j' = i
  · subst e
    rw [hv] at hv'
    injection hv' with hv'
    have hi := (List.getElem?_eq_some_iff.1 hx).1
    rw [List.getElem?_set_self hi] at hx'
    injection hx' with hx'
    rw [← hv', ← hx']
    exact hp
  · rw [List.getElem?_set_ne (fun e2 => e e2.symm)] at hx'
    refine Kd.R_grown2 (h.row j' v' x' hv' hx') rfl hg ?_
    intro b hb hb2
    exact h.two j' i v' _ e hv' hv b hb2.symm (by injection hb with hb; rw [← hb]; rfl)
structure Ap1 (k : IntKind) (w W : World) (base T : Nat) (okr : Nat → Prop) (A : Option Addr) (ls : List Value) (xs ys : List (List Int)) (mk : Nat → Int) (i t : Nat) : Prop where
  below : Below base w W
  lists : Lists k W base T okr ls ys
  lens : ∀ j : Nat, (ys.getD j []).length = (xs.getD j []).length
  done : ∀ j : Nat, j < i → ys.getD j [] = List.replicate (xs.getD j []).length (mk j)
  part : (ys.getD i []).take t = List.replicate t (mk i)
  outer : ∀ (j : Nat) (v : Value), ls[j]? = some v → ∃ g, A = some ⟨g, 0, none⟩ ∧ W.cell? ⟨g, j, none⟩ = some v
  far : ∀ g, A = some ⟨g, 0, none⟩ → ¬ okr g
  kept : ∀ b, b < w.heap.size → ¬ okr b → W.heap[b]? = w.heap[b]?
section
variable {w : World} {okr : Nat → Prop} {ls : List Value} {ys : List (List Int)} {mk : Nat → Int} {i t : Nat}
theorem Ap1.at_ (h : Ap1 k w W base T okr A ls xs ys mk i t) (hi : i < xs.length) (hls : ls.length = xs.length) : ∃ (g : Nat) (Ai : Option Addr) (ci : Nat), A = some ⟨g, 0, none⟩ ∧ ls[i]? = some (.slice Ai (xs.getD i []).length ci) ∧ W.cell? ⟨g, i, none⟩ = some (.slice Ai (xs.getD i []).length ci) ∧
      (0 < (xs.getD i []).length → ∃ gi, Ai = some ⟨gi, 0, none⟩) ∧ ∀ gi, Ai = some ⟨gi, 0, none⟩ → ∀ j, j < (xs.getD i []).length → (∃ u, W.cell? ⟨gi, j, none⟩ = some (.int k u)) ∧ W.frozen? ⟨gi, j, none⟩ = false := by
  have hy : i < ys.length := by have := h.lists.len; omega
  have hl : i < ls.length := by omega
  obtain ⟨g, e, hc⟩ := h.outer i _ (List.getElem?_eq_getElem hl)
  have hR := h.lists.row i _ _ (List.getElem?_eq_getElem hl) (List.getElem?_eq_getElem hy)
  have hlen := h.lens i
  rw [List.getD_eq_getElem?_getD, List.getElem?_eq_getElem hy] at hlen
  simp only [Option.getD_some] at hlen
  obtain ⟨Ai, ci, e1, hcap, hC⟩ := Kd.R_reads hR
  rw [e1, hlen] at hR
  refine ⟨g, Ai, ci, e, by rw [List.getElem?_eq_getElem hl, e1, hlen], by rw [hc, e1, hlen], ?_, ?_⟩
  · intro h0
    obtain ⟨ad, ea, -⟩ := hC.2.2 (by omega)
    subst ea
    obtain ⟨p, rfl⟩ := Kd.R_head hR
    exact ⟨p, rfl⟩
  · rintro gi rfl j hj
    rw [← hlen] at hR
    have := Kd.R_cell (0 : Int) hR (j : Int) (by omega) (by omega)
    simp only [Int.toNat_natCast] at this
    exact ⟨⟨_, this.1⟩, this.2⟩
theorem take_set {x : List Int} {t : Nat} {z : Int} (ht : t < x.length) (h : x.take t = List.replicate t z) : (x.set t z).take (t + 1) = List.replicate (t + 1) z := by
  rw [List.take_succ_eq_append_getElem (by simpa using ht), List.getElem_set_self, List.take_set_of_le (Nat.le_refl _), h]
  simp [List.replicate_succ']
section
variable {w : World} {okr : Nat → Prop} {ls : List Value} {ys : List (List Int)} {mk : Nat → Int} {i t : Nat}
theorem Ap1.put {gi m ci : Nat} (h : Ap1 k w W base T okr A ls xs ys mk i t) (hv : ls[i]? = some (.slice (some ⟨gi, 0, none⟩) m ci)) (ht : t < (xs.getD i []).length) :
    Ap1 k w (W.setCell ⟨gi, t, none⟩ (.int k (mk i))) base T okr A ls xs (ys.set i ((ys.getD i []).set t (mk i))) mk i (t + 1) := by
  have hl : i < ls.length := (List.getElem?_eq_some_iff.1 hv).1
  have hy : i < ys.length := by have := h.lists.len; omega
  have hlen := h.lens i
  have hyg : ys.getD i [] = ys[i] := by rw [List.getD_eq_getElem?_getD, List.getElem?_eq_getElem hy]; rfl
  have hR := h.lists.row i _ _ hv (List.getElem?_eq_getElem hy)
  obtain ⟨hL, hg⟩ := h.lists.put (j := t) (z := mk i) hv (List.getElem?_eq_getElem hy)
  have hgi : okr gi := hR.1 gi rfl
  have hgb : base ≤ gi := Kd.R_base hR gi rfl
  have hset : ∀ j : Nat, (ys.set i ((ys.getD i []).set t (mk i))).getD j [] = if j = i then (ys.getD i []).set t (mk i) else ys.getD j [] := by
    intro j
    rw [List.getD_eq_getElem?_getD]
    by_cases e : j = i
    · subst e; rw [if_pos rfl, List.getElem?_set_self hy]; rfl
    · rw [if_neg e, List.getElem?_set_ne (fun e2 => e e2.symm), ← List.getD_eq_getElem?_getD]
  refine { below := h.below.setCell hgb _, lists := by rw [hyg]; exact hL, lens := ?_, done := ?_, part := ?_, outer := ?_, far := h.far, kept := fun b hb hn => (Below.heap_setCell W ⟨gi, t, none⟩ (.int k (mk i)) b (fun e => hn (e ▸ hgi))).trans (h.kept b hb hn) }
  · intro j
    rw [hset]
    split
    · rename_i e; rw [List.length_set, e]; exact hlen
    · exact h.lens j
  · intro j hj
    rw [hset, if_neg (by omega)]
    exact h.done j hj
  · rw [hset, if_pos rfl]
    exact take_set (by omega) h.part
  · intro j v hj
    obtain ⟨g, e, hc⟩ := h.outer j v hj
    refine ⟨g, e, ?_⟩
    exact cell_kept hc (W2 := W.setCell ⟨gi, t, none⟩ (.int k (mk i))) (S := fun b => some b = some gi) ⟨hg.size, fun b hb hs => hg.block b hb hs⟩ (fun e2 => h.far g e (by injection e2 with e2; have e2 : g = gi := e2; rw [e2]; exact hgi))
theorem Ap1.next (h : Ap1 k w W base T okr A ls xs ys mk i (xs.getD i []).length) : Ap1 k w W base T okr A ls xs ys mk (i + 1) 0 := by
  refine { h with done := ?_, part := by simp }
  intro j hj
  by_cases e : j = i
  · subst e
    have := h.part
    rw [← h.lens j, List.take_length] at this
    rw [this, h.lens j]
  · exact h.done j (by omega)
end
end
def Blk (ls hs : List Value) (j b : Nat) : Prop := (∃ v, ls[j]? = some v ∧ v.ownBlock = some b) ∨ (∃ u, hs[j]? = some u ∧ u.ownBlock = some b)
structure Grown (k : IntKind) (W : World) (base T : Nat) (no : Nat → Prop) (ls hs : List Value) (xs ys : List (List Int)) : Prop where
  lenh : hs.length = ls.length
  lenx : xs.length = ls.length
  leny : ys.length = ls.length
  row : ∀ (j : Nat) (v u : Value) (x y : List Int), ls[j]? = some v → hs[j]? = some u → xs[j]? = some x → ys[j]? = some y → ∃ Al c, v = .slice Al x.length c ∧ LG k W base T Al u x y
  two : ∀ (i j : Nat), i ≠ j → ∀ b, Blk ls hs i b → ¬ Blk ls hs j b
  away : ∀ (j b : Nat), Blk ls hs j b → ¬ no b
  here : ∀ (j b : Nat), Blk ls hs j b → b < W.heap.size
section
variable {no : Nat → Prop} {ls hs : List Value} {ys : List (List Int)} {i : Nat} {u v1 : Value} {x y zs : List Int}
theorem Grown.app (h : Grown k W base T no ls hs xs ys) (hu : hs[i]? = some u) (hx : xs[i]? = some x) (hy : ys[i]? = some y) (hr : Kd.R (Kd.int k) T W1 base (fun _ => True) v1 ((x ++ y) ++ zs)) (hg : W.grownBy W1 u.ownBlock)
    (hc : v1.ownBlock = u.ownBlock ∨ (v1.ownBlock = some W.heap.size ∧ W.grownBy W1 none)) (hno : ∀ b, no b → b < W.heap.size) : Grown k W1 base T no ls (hs.set i v1) xs (ys.set i (y ++ zs)) := by
  have hi : i < hs.length := (List.getElem?_eq_some_iff.1 hu).1
  have hiy : i < ys.length := (List.getElem?_eq_some_iff.1 hy).1
  have hv1 : ∀ b, v1.ownBlock = some b → b < W1.heap.size := Kd.R_lt hr
  have blk : ∀ j b, Blk ls (hs.set i v1) j b → Blk ls hs j b ∨ (j = i ∧ b = W.heap.size) := by
    rintro j b (e | ⟨q, hq, hb⟩)
    · exact .inl (.inl e)
    · by_cases e : j = i
      · subst e
        rw [List.getElem?_set_self hi] at hq
        injection hq with hq
        subst hq
        rcases hc with e | ⟨e, -⟩
        · exact .inl (.inr ⟨u, hu, by rw [← e]; exact hb⟩)
        · rw [e] at hb; injection hb with hb; exact .inr ⟨rfl, hb.symm⟩
      · rw [List.getElem?_set_ne (fun e2 => e e2.symm)] at hq
        exact .inl (.inr ⟨q, hq, hb⟩)
  refine { lenh := by rw [List.length_set]; exact h.lenh, lenx := h.lenx, leny := by rw [List.length_set]; exact h.leny, row := ?_, two := ?_, away := ?_, here := ?_ }
  · intro j v q x' y' h1 h2 h3 h4
    by_cases e : j = i
    · subst e
      rw [List.getElem?_set_self hi] at h2
      rw [List.getElem?_set_self hiy] at h4
      injection h2 with h2
      injection h4 with h4
      subst h2 h4
      rw [hx] at h3
      injection h3 with h3
      subst h3
      obtain ⟨Al, c, e1, hL⟩ := h.row j v u x y h1 hu hx hy
      exact ⟨Al, c, e1, hL.app hr hg hc⟩
    · rw [List.getElem?_set_ne (fun e2 => e e2.symm)] at h2 h4
      obtain ⟨Al, c, e1, hL⟩ := h.row j v q x' y' h1 h2 h3 h4
      refine ⟨Al, c, e1, hL.step (fun b hb hlt => hg.block b hlt (fun e2 => ?_))⟩
      refine h.two j i e b ?_ (.inr ⟨u, hu, e2.symm⟩)
      rcases hb with hb | hb
      · exact .inr ⟨q, h2, hb.symm⟩
      · refine .inl ⟨v, h1, ?_⟩
        rw [e1]
        cases Al with
        | none => simp at hb
        | some a => simpa [Value.ownBlock] using hb
  · intro a j e b hb hb2
    rcases blk a b hb with h1 | ⟨e1, e2⟩
    · rcases blk j b hb2 with h2 | ⟨e3, e4⟩
      · exact h.two a j e b h1 h2
      · have := h.here a b h1; omega
    · rcases blk j b hb2 with h2 | ⟨e3, e4⟩
      · have := h.here j b h2; omega
      · omega
  · intro j b hb hn
    rcases blk j b hb with h1 | ⟨e1, e2⟩
    · exact h.away j b h1 hn
    · have := hno b hn; omega
  · intro j b hb
    have := hg.size
    rcases hb with e | ⟨q, hq, hb⟩
    · have := h.here j b (.inl e); omega
    · by_cases e : j = i
      · subst e
        rw [List.getElem?_set_self hi] at hq
        injection hq with hq
        subst hq
        exact hv1 b hb
      · rw [List.getElem?_set_ne (fun e2 => e e2.symm)] at hq
        have := h.here j b (.inr ⟨q, hq, hb⟩); omega
end
section
variable {no okr : Nat → Prop} {ls hs : List Value} {ys : List (List Int)}
theorem Grown.step (h : Grown k W base T no ls hs xs ys) (hs_ : ∀ b, ¬ no b → b < W.heap.size → W1.heap[b]? = W.heap[b]?) (hsz : W.heap.size ≤ W1.heap.size) : Grown k W1 base T no ls hs xs ys := by
  refine { h with row := ?_, here := fun j b hb => Nat.lt_of_lt_of_le (h.here j b hb) hsz }
  intro j v q x y h1 h2 h3 h4
  obtain ⟨Al, c, e1, hL⟩ := h.row j v q x y h1 h2 h3 h4
  refine ⟨Al, c, e1, hL.step (fun b hb hlt => hs_ b (h.away j b ?_) hlt)⟩
  rcases hb with hb | hb
  · exact .inr ⟨q, h2, hb.symm⟩
  · refine .inl ⟨v, h1, ?_⟩
    rw [e1]
    cases Al with
    | none => simp at hb
    | some a => simpa [Value.ownBlock] using hb
theorem Lists.grown (h : Lists k W base T okr ls xs) (hno : ∀ b, no b → okr b → W.heap.size ≤ b) : Grown k W base T no ls ls xs (List.replicate ls.length []) := by
  have row : ∀ (j : Nat) (v : Value), ls[j]? = some v → ∃ x, xs[j]? = some x ∧ Kd.R (Kd.int k) T W base okr v x := by
    intro j v hv
    have hj : j < xs.length := by rw [← h.len]; exact (List.getElem?_eq_some_iff.1 hv).1
    exact ⟨_, List.getElem?_eq_getElem hj, h.row j v _ hv (List.getElem?_eq_getElem hj)⟩
  have one : ∀ j b, Blk ls ls j b → ∃ v, ls[j]? = some v ∧ v.ownBlock = some b := by
    rintro j b (e | e) <;> exact e
  refine { lenh := rfl, lenx := h.len.symm, leny := List.length_replicate, row := ?_, two := ?_, away := ?_, here := ?_ }
  · intro j v u x y h1 h2 h3 h4
    rw [h1] at h2
    injection h2 with h2
    subst h2
    have hR := h.row j v x h1 h3
    obtain ⟨A, c, rfl, -⟩ := Kd.R_reads hR
    have hy : y = [] := by
      rw [List.getElem?_replicate] at h4
      split at h4
      · injection h4 with h4; exact h4.symm
      · cases h4
    subst hy
    exact ⟨A, c, rfl, LG.start hR⟩
  · intro i j e b hb hb2
    obtain ⟨u, hu, e1⟩ := one i b hb
    obtain ⟨v, hv, e2⟩ := one j b hb2
    exact h.two i j u v e hu hv b e1 e2
  · intro j b hb hn
    obtain ⟨v, hv, e1⟩ := one j b hb
    obtain ⟨x, hx, hR⟩ := row j v hv
    have := hno b hn (hR.1 b e1)
    have := Kd.R_lt hR b e1
    omega
  · intro j b hb
    obtain ⟨v, hv, e1⟩ := one j b hb
    obtain ⟨x, hx, hR⟩ := row j v hv
    exact Kd.R_lt hR b e1
end
def tails (n : Nat) (cnt : Nat → Nat) (mk : Nat → Int) : List (List Int) := (List.range n).map fun j => List.replicate (cnt j) (mk j)
theorem tails_at {n j : Nat} {cnt : Nat → Nat} {mk : Nat → Int} (h : j < n) : (tails n cnt mk)[j]? = some (List.replicate (cnt j) (mk j)) := by
  simp [tails, h]
theorem tails_none (n : Nat) (mk : Nat → Int) : tails n (fun _ => 0) mk = List.replicate n [] := by
  apply List.ext_getElem?
  intro j
  by_cases h : j < n
  · rw [tails_at h, List.getElem?_replicate, if_pos h]; rfl
  · rw [List.getElem?_replicate, if_neg h]; simp [tails]; omega
theorem tails_set {n i a : Nat} {cnt : Nat → Nat} {mk : Nat → Int} (h : i < n) : (tails n cnt mk).set i (List.replicate (cnt i) (mk i) ++ List.replicate a (mk i)) = tails n (fun j => if j = i then cnt i + a else cnt j) mk := by
  apply List.ext_getElem?
  intro j
  by_cases hj : j < n
  · rw [tails_at hj]
    by_cases e : j = i
    · subst e
      rw [List.getElem?_set_self (by simpa [tails] using hj), if_pos rfl, List.replicate_append_replicate]
    · rw [List.getElem?_set_ne (fun e2 => e e2.symm), tails_at hj, if_neg e]
  · have h1 : ∀ c : Nat → Nat, (tails n c mk)[j]? = none := fun c => by simp [tails]; omega
    rw [h1, List.getElem?_set_ne (by omega), h1]
structure Ap2 (okr : Nat → Prop) (k : IntKind) (w W : World) (base T T2 gm : Nat) (A : Option Addr) (ls hs : List Value) (xs : List (List Int)) (gs : Array Value) (mk2 : Nat → Int) (cnt : Nat → Nat) : Prop where
  below : Below base w W
  grown : Grown k W base T (fun b => A = some ⟨b, 0, none⟩ ∨ b = gm) ls hs xs (tails ls.length cnt mk2)
  more : W.heap[gm]? = some (.cells gs T2 (0, 0))
  gsz : gs.size = ls.length
  gmb : base ≤ gm
  outer : ∀ (j : Nat) (v : Value), ls[j]? = some v → ∃ g, A = some ⟨g, 0, none⟩ ∧ g ≠ gm ∧ W.cell? ⟨g, j, none⟩ = some v
  kept : ∀ b, b < w.heap.size → ¬ okr b → W.heap[b]? = w.heap[b]?
  home : ∀ j b, Blk ls hs j b → okr b ∨ w.heap.size ≤ b
  gmw : w.heap.size ≤ gm
theorem Ap1.made {w : World} {okr : Nat → Prop} {ls : List Value} {ys : List (List Int)} {mk mk2 : Nat → Int} {m : Nat} (h : Ap1 k w W base T okr A ls xs ys mk m 0) (cells : Array Value) (hc : cells.size = ls.length) (hbase : base ≤ W.heap.size) :
    Ap2 okr k w (W.alloc (.cells cells T2)) base T T2 W.heap.size A ls ls ys cells mk2 (fun _ => 0) := by
  have hb : Below W.heap.size W (W.alloc (.cells cells T2)) := (Below.refl _ _).alloc (Nat.le_refl _) _
  have hG := h.lists.grown (no := fun b => A = some ⟨b, 0, none⟩ ∨ b = W.heap.size) (by
    rintro b (e | e) hk
    · exact absurd hk (h.far b e)
    · omega)
  refine { below := h.below.alloc hbase _, grown := ?_, more := blk_new _ _, gsz := hc, gmb := hbase, outer := ?_, kept := fun b hlt hn => (hb.block b (Nat.lt_of_lt_of_le hlt h.below.size)).trans (h.kept b hlt hn), home := ?_, gmw := h.below.size }
  · rw [tails_none]
    exact hG.step (fun b _ hlt => hb.block b hlt) hb.size
  · intro j v hv
    obtain ⟨g, e, hcell⟩ := h.outer j v hv
    have hlt : g < W.heap.size := World.block_lt_of_cell? W ⟨g, j, none⟩ hcell
    exact ⟨g, e, by omega, cell_kept (S := fun _ => False) hcell ⟨hb.size, fun b hlt _ => hb.block b hlt⟩ (fun h => h)⟩
  · rintro j b (⟨v, hv, e⟩ | ⟨v, hv, e⟩) <;>
    exact .inl ((h.lists.row j v _ hv (List.getElem?_eq_getElem (by have := h.lists.len; have := (List.getElem?_eq_some_iff.1 hv).1; omega))).1 b e)
section
variable {okr : Nat → Prop} {w : World} {gm i a : Nat} {ls hs : List Value} {gs : Array Value} {mk2 : Nat → Int} {cnt : Nat → Nat} {u v1 : Value} {x : List Int}
theorem Ap2.grow (h : Ap2 okr k w W base T T2 gm A ls hs xs gs mk2 cnt) (hg : W.grownBy W1 none) : Ap2 okr k w W1 base T T2 gm A ls hs xs gs mk2 cnt := by
  have hlt := blk_lt h.more
  have hgb := h.gmb
  refine { h with below := h.below.grown hg (by omega) (fun k hk => by simp at hk), grown := h.grown.step (fun b _ hb => hg.block b hb (by simp)) hg.size, more := blk_grown h.more hg (by simp), outer := ?_, kept := fun b hlt hn => (hg.block b (Nat.lt_of_lt_of_le hlt h.below.size) (by simp)).trans (h.kept b hlt hn) }
  intro j v hv
  obtain ⟨g, e, hne, hcell⟩ := h.outer j v hv
  exact ⟨g, e, hne, cell_kept (S := fun _ => False) hcell ⟨hg.size, fun b hlt _ => hg.block b hlt (by simp)⟩ (fun h => h)⟩
theorem Ap2.row (h : Ap2 okr k w W base T T2 gm A ls hs xs gs mk2 cnt) (hi : i < ls.length) (hu : hs[i]? = some u) (hx : xs[i]? = some x) : Kd.R (Kd.int k) T W base (fun _ => True) u (x ++ List.replicate (cnt i) (mk2 i)) := by
  obtain ⟨Al, c, -, hL⟩ := h.grown.row i _ u x _ (List.getElem?_eq_getElem hi) hu hx (tails_at hi)
  exact hL.row
theorem Ap2.app (h : Ap2 okr k w W base T T2 gm A ls hs xs gs mk2 cnt) (hi : i < ls.length) (hu : hs[i]? = some u) (hx : xs[i]? = some x) (hr : Kd.R (Kd.int k) T W1 base (fun _ => True) v1 ((x ++ List.replicate (cnt i) (mk2 i)) ++ List.replicate a (mk2 i)))
    (hg : W.grownBy W1 u.ownBlock) (hc : v1.ownBlock = u.ownBlock ∨ (v1.ownBlock = some W.heap.size ∧ W.grownBy W1 none)) (hA : ∀ g, A = some ⟨g, 0, none⟩ → g < W.heap.size) : Ap2 okr k w W1 base T T2 gm A ls (hs.set i v1) xs gs mk2 (fun j => if j = i then cnt i + a else cnt j) := by
  have hlt := blk_lt h.more
  have hgb := h.gmb
  have hub : ∀ b, u.ownBlock = some b → base ≤ b := Kd.R_base (h.row hi hu hx)
  have haw : ∀ b, u.ownBlock = some b → ¬ (A = some ⟨b, 0, none⟩ ∨ b = gm) := fun b hb => h.grown.away i b (.inr ⟨u, hu, hb⟩)
  refine { below := h.below.grown hg (by omega) hub, grown := ?_, more := blk_grown h.more hg (fun e => haw gm e.symm (.inr rfl)), gsz := h.gsz, gmb := hgb, outer := ?_, kept := ?_, home := ?_, gmw := h.gmw }
  · have := h.grown.app hu hx (tails_at hi) hr hg hc (by
      rintro b (e | e)
      · exact hA b e
      · omega)
    rw [tails_set hi] at this
    exact this
  · intro j v hv
    obtain ⟨g, e, hne, hcell⟩ := h.outer j v hv
    exact ⟨g, e, hne, cell_kept (S := fun b => some b = u.ownBlock) hcell ⟨hg.size, fun b hlt hs => hg.block b hlt hs⟩ (fun e2 => haw g e2.symm (.inl e))⟩
  · intro b hlt hn
    refine (hg.block b (Nat.lt_of_lt_of_le hlt h.below.size) (fun e => ?_)).trans (h.kept b hlt hn)
    rcases h.home i b (.inr ⟨u, hu, e.symm⟩) with h1 | h1
    · exact hn h1
    · omega
  · have hil : i < hs.length := (List.getElem?_eq_some_iff.1 hu).1
    rintro j b (e | ⟨q, hq, hb⟩)
    · exact h.home j b (.inl e)
    · by_cases e : j = i
      · subst e
        rw [List.getElem?_set_self hil] at hq
        injection hq with hq
        subst hq
        rcases hc with e | ⟨e, -⟩
        · exact h.home j b (.inr ⟨u, hu, by rw [← e]; exact hb⟩)
        · rw [e] at hb; injection hb with hb; exact .inr (by have := h.below.size; omega)
      · rw [List.getElem?_set_ne (fun e2 => e e2.symm)] at hq
        exact h.home j b (.inr ⟨q, hq, hb⟩)
end
theorem Ap2.store {okr : Nat → Prop} {w : World} {gm : Nat} {ls hs : List Value} {gs : Array Value} {mk2 : Nat → Int} {cnt : Nat → Nat} (h : Ap2 okr k w W base T T2 gm A ls hs xs gs mk2 cnt) (i : Nat) (v : Value) :
    Ap2 okr k w (W.setCell ⟨gm, i, none⟩ v) base T T2 gm A ls hs xs (gs.setIfInBounds i v) mk2 cnt := by
  have hs : ∀ b, b ≠ gm → (W.setCell ⟨gm, i, none⟩ v).heap[b]? = W.heap[b]? := fun b hb => Below.heap_setCell W ⟨gm, i, none⟩ v b hb
  have hb : Below base w (W.setCell ⟨gm, i, none⟩ v) := h.below.setCell h.gmb _
  have hsz : W.heap.size ≤ (W.setCell ⟨gm, i, none⟩ v).heap.size := by simp
  refine { below := hb, grown := h.grown.step (fun b hn _ => hs b (fun e => hn (.inr e))) hsz, more := by apply blk_set; exact h.more, gsz := by rw [Array.size_setIfInBounds]; exact h.gsz, gmb := h.gmb, outer := ?_, kept := fun b hlt hn => (hs b (by have := h.gmw; omega)).trans (h.kept b hlt hn), home := h.home, gmw := h.gmw }
  intro j v' hv
  obtain ⟨g, e, hne, hcell⟩ := h.outer j v' hv
  exact ⟨g, e, hne, cell_kept (S := fun b => b = gm) hcell ⟨hsz, fun b _ hb => hs b hb⟩ hne⟩
end
theorem C_lit (k : IntKind) (W : World) (xs : List Int) (e : Nat) (hm : xs.length ≤ 9223372036854775807) : (Kd.int k).C (W.alloc (.cells (xs.map (Value.int k)).toArray e)) (some ⟨W.heap.size, 0, none⟩) xs.length xs := by
  refine Kd.C_of_reads (d := (0 : Int)) ⟨rfl, hm, fun _ => ⟨_, rfl, fun j hj => ?_⟩⟩
  have h := blk_cell (blk_new W (.cells (xs.map (Value.int k)).toArray e)) j
  rw [show ((⟨W.heap.size, 0, none⟩ : Addr).add j) = ⟨W.heap.size, j, none⟩ from by simp [Addr.add]; omega]
  rw [h]
  simp [List.getD_eq_getElem?_getD, List.getElem?_eq_getElem hj]
section
variable {okr : Nat → Prop} {W W1 : World} {base T T2 : Nat} {k : IntKind} {A : Option Addr} {xs : List (List Int)} {w : World} {gm i q a : Nat} {ls hs : List Value} {gs : Array Value} {mk2 : Nat → Int} {cnt cnt' : Nat → Nat} {u v1 : Value} {x : List Int}
theorem Ap2.cnt_eq (h : Ap2 okr k w W base T T2 gm A ls hs xs gs mk2 cnt) (e : ∀ j, j < ls.length → cnt j = cnt' j) : Ap2 okr k w W base T T2 gm A ls hs xs gs mk2 cnt' := by
  have e1 : tails ls.length cnt mk2 = tails ls.length cnt' mk2 := by
    apply List.ext_getElem?
    intro j
    by_cases hj : j < ls.length
    · rw [tails_at hj, tails_at hj, e j hj]
    · have h1 : ∀ c : Nat → Nat, (tails ls.length c mk2)[j]? = none := fun c => by simp [tails]; omega
      rw [h1, h1]
  have := h.grown
  rw [e1] at this
  exact { h with grown := this }
theorem Ap2.at_ (h : Ap2 okr k w W base T T2 gm A ls hs xs gs mk2 cnt) (hi : i < ls.length) : ∃ (g : Nat) (Al : Option Addr) (c : Nat) (x : List Int), A = some ⟨g, 0, none⟩ ∧ g ≠ gm ∧ g < W.heap.size ∧ ls[i]? = some (.slice Al x.length c) ∧ xs[i]? = some x ∧ W.cell? ⟨g, i, none⟩ = some (.slice Al x.length c) ∧ xs.getD i [] = x := by
  have hh : i < hs.length := by rw [h.grown.lenh]; exact hi
  have hx : i < xs.length := by rw [h.grown.lenx]; exact hi
  obtain ⟨Al, c, e, hL⟩ := h.grown.row i _ _ _ _ (List.getElem?_eq_getElem hi) (List.getElem?_eq_getElem hh) (List.getElem?_eq_getElem hx) (tails_at hi)
  obtain ⟨g, eA, hne, hcell⟩ := h.outer i _ (List.getElem?_eq_getElem hi)
  refine ⟨g, Al, c, xs[i], eA, hne, World.block_lt_of_cell? W ⟨g, i, none⟩ hcell, by rw [List.getElem?_eq_getElem hi, e], List.getElem?_eq_getElem hx, by rw [hcell, e], by rw [List.getD_eq_getElem?_getD, List.getElem?_eq_getElem hx]; rfl⟩
theorem Ap2.one (h : Ap2 okr k w W base T T2 gm A ls (hs.set i u) xs gs mk2 (fun j => if j = i then q else cnt j)) (hi : i < ls.length) (hx : xs[i]? = some x) (hr : Kd.R (Kd.int k) T W1 base (fun _ => True) v1 ((x ++ List.replicate q (mk2 i)) ++ List.replicate a (mk2 i)))
    (hg : W.grownBy W1 u.ownBlock) (hc : v1.ownBlock = u.ownBlock ∨ (v1.ownBlock = some W.heap.size ∧ W.grownBy W1 none)) : Ap2 okr k w W1 base T T2 gm A ls (hs.set i v1) xs gs mk2 (fun j => if j = i then q + a else cnt j) := by
  have hh : i < hs.length := by have := h.grown.lenh; rw [List.length_set] at this; omega
  obtain ⟨g, Al, c, x', eA, -, hlt, -⟩ := h.at_ hi
  have := h.app hi (List.getElem?_set_self hh) hx (a := a) (v1 := v1) (by simpa using hr) hg hc (by intro g' e; rw [eA] at e; injection e with e; injection e with e; omega)
  rw [List.set_set] at this
  refine this.cnt_eq (fun j _ => ?_)
  by_cases e : j = i
  · simp [e]
  · simp [e]
theorem Ap2.rowi (h : Ap2 okr k w W base T T2 gm A ls (hs.set i u) xs gs mk2 (fun j => if j = i then q else cnt j)) (hi : i < ls.length) (hx : xs[i]? = some x) : Kd.R (Kd.int k) T W base (fun _ => True) u (x ++ List.replicate q (mk2 i)) := by
  have hh : i < hs.length := by have := h.grown.lenh; rw [List.length_set] at this; omega
  have := h.row hi (List.getElem?_set_self hh) hx
  simpa using this
theorem set_held {α : Type} {l : List α} {i : Nat} {u : α} (h : l[i]? = some u) : l.set i u = l := by
  apply List.ext_getElem?
  intro j
  rw [List.getElem?_set]
  split
  · rename_i e; subst e; rw [h]; have := (List.getElem?_eq_some_iff.1 h).1; simp [this]
  · rfl
theorem Ap2.go {b c : Nat} (h : Ap2 okr k w W base T T2 gm A ls hs xs gs mk2 (fun j => if j < i then b else c)) (hu : hs[i]? = some u) : Ap2 okr k w W base T T2 gm A ls (hs.set i u) xs gs mk2 (fun j => if j = i then c + 0 else if j < i then b else c) := by
  rw [set_held hu]
  refine h.cnt_eq (fun j _ => ?_)
  by_cases e : j = i
  · simp [e]
  · simp [e]
theorem Ap2.came {b c d : Nat} (h : Ap2 okr k w W base T T2 gm A ls (hs.set i u) xs gs mk2 (fun j => if j = i then c + d else if j < i then b else c)) (hb : c + d = b) : Ap2 okr k w (W.setCell ⟨gm, i, none⟩ u) base T T2 gm A ls (hs.set i u) xs (gs.setIfInBounds i u) mk2 (fun j => if j < i + 1 then b else c) := by
  refine (h.store i u).cnt_eq (fun j _ => ?_)
  by_cases e : j = i
  · simp [e]; omega
  · by_cases e2 : j < i
    · simp [e, e2, show j < i + 1 from by omega]
    · simp [e, e2, show ¬ j < i + 1 from by omega]
theorem laid_set (hd : ∀ j, j < i → gs[j]? = hs[j]?) (hg : i < gs.size) (hl : i < hs.length) : ∀ j, j < i + 1 → (gs.setIfInBounds i u)[j]? = (hs.set i u)[j]? := by
  intro j hj
  rw [Array.getElem?_setIfInBounds, List.getElem?_set]
  by_cases e : i = j
  · subst e; simp [hg, hl]
  · rw [if_neg e, if_neg e]; exact hd j (by omega)
theorem laid_all (hd : ∀ j : Nat, gs[j]? = hs[j]?) : ∀ j : Nat, (gs.setIfInBounds i u)[j]? = (hs.set i u)[j]? := by
  have hsz : gs.size = hs.length := by
    have h1 := hd gs.size
    have h2 := hd hs.length
    simp at h1 h2
    omega
  intro j
  rw [Array.getElem?_setIfInBounds, List.getElem?_set]
  by_cases e : i = j
  · subst e; simp [hsz]
  · rw [if_neg e, if_neg e]; exact hd j
theorem rest_set (hr : ∀ j, i ≤ j → hs[j]? = ls[j]?) : ∀ j, i + 1 ≤ j → (hs.set i u)[j]? = ls[j]? := by
  intro j hj
  rw [List.getElem?_set_ne (by omega)]
  exact hr j (by omega)
theorem Ap2.list {Al : Option Addr} {c n : Nat} (h : Ap2 okr k w W base T T2 gm A ls hs xs gs mk2 cnt) (hv : ls[i]? = some (.slice Al n c)) (hx : xs[i]? = some x) : Kd.C (Kd.int k) W Al x.length x := by
  have hi : i < ls.length := (List.getElem?_eq_some_iff.1 hv).1
  have hh : i < hs.length := by rw [h.grown.lenh]; exact hi
  obtain ⟨Al', c', e, hL⟩ := h.grown.row i _ _ _ _ hv (List.getElem?_eq_getElem hh) hx (tails_at hi)
  injection e with e
  rw [e]
  exact hL.reads
theorem rd_marks {n q t : Nat} {a b : Int} (ht : t < n + q) : (List.replicate n a ++ List.replicate q b).getD t 0 = if t < n then a else b := by
  rw [List.getD_eq_getElem?_getD, List.getElem?_append]
  by_cases h : t < n
  · simp [h]
  · simp [h, show t - n < q from by omega]
theorem Ap2.look {n q t : Nat} {a : Int} (h : Ap2 okr k w W base T T2 gm A ls hs xs gs mk2 cnt) (hi : i < ls.length) (hu : hs[i]? = some u) (hx : xs[i]? = some (List.replicate n a)) (hc : cnt i = q) (ht : t < n + q) : ∃ g c, u = .slice (some ⟨g, 0, none⟩) (n + q) c ∧ W.cell? ⟨g, t, none⟩ = some (.int k (if t < n then a else mk2 i)) := by
  have hr := h.row hi hu hx
  rw [hc] at hr
  obtain ⟨Au, cu, rfl, hcap, hC⟩ := Kd.R_reads hr
  have hl : (List.replicate n a ++ List.replicate q (mk2 i)).length = n + q := by simp
  obtain ⟨ad, rfl, -⟩ := hC.2.2 (by rw [hl]; omega)
  obtain ⟨p, rfl⟩ := Kd.R_head hr
  have := (Kd.R_cell (0 : Int) hr (t : Int) (by omega) (by rw [hl]; omega)).1
  simp only [Int.toNat_natCast, rdOf, rd_marks ht] at this
  exact ⟨p, cu, by rw [hl], this⟩
end
end Go.Proofs.Ythkcadmjfkcbgaa.Q
end
section
set_option linter.unusedVariables false
set_option linter.unusedSimpArgs false
namespace Go.Proofs.Ythkcadmjfkcbgaa.Q
open Go.RowKit Go.Proofs.YthkcadmjfkcbgaaW.PrintWords Go.Proofs.YthkcadmjfkcbgaaW.PrintLast Go.Proofs.YthkcadmjfkcbgaaW.PrintMore Go.Proofs.Ythkcadmjfkcbgaa.Pl
section
variable {P : Program} {ops : Array Oper} {rest : List Oper} {o : Oper} {a : Act} {Q : Exit → Act → World → Prop} {Kc : Act → World → Prop}
end
section
variable {k : IntKind} {W W1 : World} {base T e n c : Nat} {okr ok1 ok2 : Nat → Prop} {ls ls' : List Value} {xs xs' : List (List Int)} {v : Value} {x : List Int} {A : Option Addr} {inner : List Value}
theorem own_cells (h : W.ownsRow base e 1 v n inner) : ∃ A c, v = .slice A n c ∧ n = inner.length ∧ n ≤ c ∧ (∀ g, A = some ⟨g, 0, none⟩ → base ≤ g ∧ g < W.heap.size) ∧ ∀ (j : Nat) (u : Value), inner[j]? = some u → ∃ g, A = some ⟨g, 0, none⟩ ∧ W.cell? ⟨g, j, none⟩ = some u := by
  have hl := h.1
  rcases h.2 with ⟨rfl, rfl⟩ | ⟨g, cap, cur, rfl, hbg, hg, hnc, hcm, hcs, htake⟩
  · refine ⟨none, 0, rfl, by simpa using hl.symm, Nat.le_refl _, fun g e => (by cases e), fun j u hu => ?_⟩
    have : inner = [] := List.eq_nil_of_length_eq_zero (by simpa using hl)
    subst this
    simp at hu
  · refine ⟨_, cap, rfl, by simpa using hl.symm, hnc, ?_, ?_⟩
    · intro g' e
      injection e with e
      injection e with e
      subst e
      exact ⟨hbg, blk_lt hg⟩
    · intro j u hu
      refine ⟨g, rfl, ?_⟩
      have := World.ownsRow.cells h (g := g) rfl j u hu
      rwa [show ((⟨g, 0, none⟩ : Addr).add j) = ⟨g, j, none⟩ from by simp [Addr.add]; omega] at this
theorem Lists.mono (h : Lists k W base T ok1 ls xs) (hm : ∀ b, ok1 b → ok2 b) : Lists k W base T ok2 ls xs :=
  ⟨h.len, fun j v x hv hx => Kd.R_mono (h.row j v x hv hx) hm, h.two⟩
theorem Lists.step (h : Lists k W base T okr ls xs) (hs : ∀ b, okr b → b < W.heap.size → W1.heap[b]? = W.heap[b]?) : Lists k W1 base T okr ls xs :=
  ⟨h.len, fun j v x hv hx => Kd.R_step (h.row j v x hv hx) hs, h.two⟩
theorem Lists.nil (k : IntKind) (W : World) (base T : Nat) (okr : Nat → Prop) : Lists k W base T okr [] [] := ⟨rfl, fun j v x hv => by simp at hv, fun i j u v _ hu => by simp at hu⟩
theorem Lists.cons (h : Lists k W base T okr ls xs) (hr : Kd.R (Kd.int k) T W base okr v x) (ha : ∀ u, u ∈ ls → ∀ b, v.ownBlock = some b → u.ownBlock ≠ some b) : Lists k W base T okr (v :: ls) (x :: xs) := by
  refine ⟨by simp [h.len], ?_, ?_⟩
  · intro j v' x' hv hx
    cases j with
    | zero =>
      simp only [List.getElem?_cons_zero, Option.some.injEq] at hv hx
      rw [← hv, ← hx]
      exact hr
    | succ j => exact h.row j v' x' (by simpa using hv) (by simpa using hx)
  · intro i j u v' hij hu hv b hb hb2
    cases i with
    | zero =>
      simp only [List.getElem?_cons_zero, Option.some.injEq] at hu
      subst hu
      cases j with
      | zero => exact hij rfl
      | succ j => exact ha v' (List.mem_of_getElem? (show ls[j]? = some v' by simpa using hv)) b hb hb2
    | succ i =>
      cases j with
      | zero =>
        simp only [List.getElem?_cons_zero, Option.some.injEq] at hv
        subst hv
        exact ha u (List.mem_of_getElem? (show ls[i]? = some u by simpa using hu)) b hb2 hb
      | succ j => exact h.two i j u v' (by omega) (by simpa using hu) (by simpa using hv) b hb hb2
theorem Lists.append (h : Lists k W base T ok1 ls xs) (h' : Lists k W base T ok2 ls' xs') (hf : ∀ b, ok1 b → ¬ ok2 b) : Lists k W base T (fun b => ok1 b ∨ ok2 b) (ls ++ ls') (xs ++ xs') := by
  have hl := h.len
  have in1 : ∀ (j : Nat) (u : Value), ls[j]? = some u → ∀ b, u.ownBlock = some b → ok1 b := fun j u hu => by
    have hj := (List.getElem?_eq_some_iff.1 hu).1
    exact (h.row j u _ hu (List.getElem?_eq_getElem (by omega))).1
  have in2 : ∀ (j : Nat) (u : Value), ls'[j]? = some u → ∀ b, u.ownBlock = some b → ok2 b := fun j u hu => by
    have hj := (List.getElem?_eq_some_iff.1 hu).1
    exact (h'.row j u _ hu (List.getElem?_eq_getElem (by have := h'.len; omega))).1
  refine ⟨by simp [h.len, h'.len], ?_, ?_⟩
  · intro j v x hv hx
    rw [List.getElem?_append] at hv hx
    by_cases hj : j < ls.length
    · rw [if_pos hj] at hv
      rw [if_pos (by omega)] at hx
      exact Kd.R_mono (h.row j v x hv hx) (fun b hb => .inl hb)
    · rw [if_neg hj] at hv
      rw [if_neg (by omega), ← hl] at hx
      exact Kd.R_mono (h'.row _ v x hv hx) (fun b hb => .inr hb)
  · intro i j u v hij hu hv b hb hb2
    rw [List.getElem?_append] at hu hv
    by_cases hi : i < ls.length
    · rw [if_pos hi] at hu
      by_cases hj : j < ls.length
      · rw [if_pos hj] at hv
        exact h.two i j u v hij hu hv b hb hb2
      · rw [if_neg hj] at hv
        exact hf b (in1 i u hu b hb) (in2 _ v hv b hb2)
    · rw [if_neg hi] at hu
      by_cases hj : j < ls.length
      · rw [if_pos hj] at hv
        exact hf b (in1 j v hv b hb2) (in2 _ u hu b hb)
      · rw [if_neg hj] at hv
        exact h'.two _ _ u v (by omega) hu hv b hb hb2
end
end Go.Proofs.Ythkcadmjfkcbgaa.Q
end
section
set_option linter.unusedVariables false
set_option linter.unusedSimpArgs false
namespace Go.Proofs.Ythkcadmjfkcbgaa.Q
open Go.RowKit Go.Proofs.YthkcadmjfkcbgaaW.PrintWords Go.Proofs.YthkcadmjfkcbgaaW.PrintLast Go.Proofs.YthkcadmjfkcbgaaW.PrintMore Go.Proofs.Ythkcadmjfkcbgaa.Pl
set_option maxHeartbeats 1000000 in
set_option maxRecDepth 100000 in
theorem apart_calls (A : Option Addr) (n c base : Nat) (okr : Nat → Prop) (ls : List Value) (xs : List (List Int)) (w : World) (hL : Lists .u8 w base 5 okr ls xs) (hN : n = xs.length)
    (hC : ∀ (j : Nat) (v : Value), ls[j]? = some v → ∃ g, A = some ⟨g, 0, none⟩ ∧ w.cell? ⟨g, j, none⟩ = some v) (hfar : ∀ g, A = some ⟨g, 0, none⟩ → ¬ okr g) (hb : base ≤ w.heap.size) (hn : n ≤ 4194304) (hx : ∀ x ∈ xs, x.length ≤ 140737488351232) :
    Calls Try.prog 19 #[.slice A n c] w fun e w' => e = .returned (.bool true) ∧ Below base w w' ∧ ∀ b, b < w.heap.size → ¬ okr b → w'.heap[b]? = w.heap[b]? := by
  have HL := Aside0.mk hL
  have HN := Aside0.mk hN
  have HC := Aside0.mk hC
  have HX := Aside0.mk hx
  have HNN := Aside0.mk hn
  clear hL hN hC hx hn
  go_enter Try.func19, Try.ntmps19
  go_wp2_with (fail)
  go_loopg [18] n (fun gq v18 wr => ∃ (i : Nat) (ys : List (List Int)), v18 = .int .i64 i ∧ Aside0 (i ≤ n) ∧ Aside0 (n - i ≤ gq) ∧ Aside0 (Ap1 .u8 w wr base 5 okr A ls xs ys (fun i => (i : Int) % 256) i 0))
  case atStart =>
    refine ⟨0, xs, rfl, ⟨Nat.zero_le _⟩, ⟨by omega⟩, ⟨{ below := Below.refl _ _, lists := HL.out, lens := fun _ => rfl, done := fun j hj => absurd hj (by omega), part := by simp, outer := HC.out, far := hfar, kept := fun _ _ _ => rfl }⟩⟩
  case round =>
    obtain ⟨i, ys, rfl, HI, HG, I⟩ := hrel
    by_cases hlt : i < n
    · have c1 : decide ((i : Int) < (n : Int)) = true := decide_eq_true (by omega)
      have c2 : (0 : Int) ≤ (i : Int) := Int.natCast_nonneg i
      have c3 : (i : Int) < (n : Int) := by omega
      obtain ⟨g, Ai, ci, rfl, hls, hcell, hhead, hrow⟩ := I.out.at_ (by have := HN.out; omega) (by have := I.out.lists.len; have := HL.out.len; omega)
      obtain ⟨len, hlen⟩ : ∃ len, (xs.getD i []).length = len := ⟨_, rfl⟩
      rw [hlen] at hls hcell hhead hrow
      have hlb : len ≤ 140737488351232 := by rw [← hlen, List.getD_eq_getElem?_getD]; cases e : xs[i]? with | none => simp | some x => exact HX.out x (List.mem_of_getElem? e)
      have HLB := Aside0.mk hlb
      clear hlb
      have HLS := Aside0.mk hls
      have HHD := Aside0.mk hhead
      have HLEN := Aside0.mk hlen
      have HLT := Aside0.mk hlt
      have i1 : (i : Int) ≤ 4194304 := by have := HNN.out; omega
      clear hrow hls hhead hlen hlt
      go_wp2_with (fail)
      have I0 := I
      clear I
      go_loopg [25] len (fun gq v25 wq => ∃ (t : Nat) (ys : List (List Int)), v25 = .int .i64 t ∧ Aside0 (t ≤ len) ∧ Aside0 (len - t ≤ gq) ∧ Aside0 (Ap1 .u8 w wq base 5 okr (some ⟨g, 0, none⟩) ls xs ys (fun i => (i : Int) % 256) i t))
      case atStart => exact ⟨0, ys, rfl, ⟨Nat.zero_le _⟩, ⟨by omega⟩, I0⟩
      case round =>
        clear I0 hcell
        obtain ⟨t, ys', rfl, HT, HG2, I⟩ := hrel
        by_cases htl : t < len
        · have d1 : decide ((t : Int) < (len : Int)) = true := decide_eq_true (by omega)
          have d2 : (0 : Int) ≤ (t : Int) := Int.natCast_nonneg t
          have d3 : (t : Int) < (len : Int) := by omega
          obtain ⟨g', A', c', e1, e2, -, -, hrow⟩ := I.out.at_ (by have := HN.out; have := HLT.out; omega) (by have := I.out.lists.len; have := HL.out.len; omega)
          rw [HLS.out] at e2
          injection e2 with e2
          injection e2 with e2 e3 e4
          obtain ⟨gi, rfl⟩ := HHD.out (by omega)
          obtain ⟨⟨u, hu⟩, hz⟩ := hrow gi e2.symm t (by rw [HLEN.out]; exact htl)
          have HTL := Aside0.mk htl
          clear e1 e2 e3 e4 hrow htl
          go_wp2_with (fail)
          go_roundg (len - (t + 1))
          case measure => have := HG2.out; have := HTL.out; omega
          case rel =>
            have := HTL.out
            have := HLB.out
            exact ⟨t + 1, _, by rw [w64 (by omega) (by omega)]; rfl, ⟨by omega⟩, ⟨by omega⟩, ⟨I.out.put HLS.out (by rw [HLEN.out]; exact HTL.out)⟩⟩
        · obtain rfl : t = len := by have := HT.out; omega
          have d1 : decide ((t : Int) < (t : Int)) = false := decide_eq_false (by omega)
          clear htl
          go_wp2_with (fail)
          go_roundg (n - (i + 1))
          case measure => have := HG.out; have := HLT.out; omega
          case rel => exact ⟨i + 1, ys', by go_num, ⟨by have := HLT.out; omega⟩, ⟨by omega⟩, ⟨by have := I.out; rw [← HLEN.out] at this; exact this.next⟩⟩
    · obtain rfl : n = i := by have := HI.out; omega
      have c1 : decide ((n : Int) < (n : Int)) = false := decide_eq_false (by omega)
      clear hlt
      have hnn := HNN.out
      have hmk := run_make_row' (P := Try.prog) 24 30 (.slice none 0 0) 24 Try.underlying24 info30 rfl .i64 .i64 n (by omega) (by omega)
      obtain ⟨I⟩ := I
      have hp := I.made (T2 := 30) (mk2 := fun j => ((j : Int) + 100) % 256) (madeCells #[Value.slice none 0 0] n) (by have h1 : (madeCells #[Value.slice none 0 0] n).size = n := (by simp [madeCells]); have := HN.out; have := HL.out.len; omega) (by have := I.below.size; omega)
      have P := Aside0.mk hp
      have I1 := Aside0.mk I
      clear I hp
      go_wp2_with (fail)
      have HYL := Aside0.mk (show ∀ y ∈ ys, y.length ≤ 140737488351232 by
        intro y hy
        obtain ⟨j, hj, e⟩ := List.mem_iff_getElem.1 hy
        have h1 := I1.out.lens j
        rw [List.getD_eq_getElem?_getD, List.getElem?_eq_getElem hj, List.getD_eq_getElem?_getD] at h1
        simp only [Option.getD_some, e] at h1
        rw [h1]
        cases e2 : xs[j]? with
        | none => simp
        | some z => exact HX.out z (List.mem_of_getElem? e2))
      have HNL := Aside0.mk (show ls.length = n by have := HN.out; have := HL.out.len; omega)
      have HNB := HNN.out
      clear hnn hmk HI HG c1 HN HL HNN
      obtain ⟨gm, hgm⟩ : ∃ gm, wr.heap.size = gm := ⟨_, rfl⟩
      rw [hgm] at P
      rw [hgm]
      clear hgm
      go_loopg [40] n (fun gq v40 wq => ∃ (i : Nat) (hs : List Value) (gs : Array Value), v40 = .int .i64 i ∧ Aside0 (i ≤ n) ∧ Aside0 (n - i ≤ gq) ∧ Aside0 (Ap2 okr .u8 w wq base 5 30 gm A ls hs ys gs (fun j => ((j : Int) + 100) % 256) (fun j => if j < i then 8 else 0)) ∧
        Aside0 (∀ j, i ≤ j → hs[j]? = ls[j]?) ∧ Aside0 (∀ j, j < i → gs[j]? = hs[j]?))
      case atStart => exact ⟨0, ls, _, rfl, ⟨Nat.zero_le _⟩, ⟨by omega⟩, ⟨P.out.cnt_eq (fun j _ => by simp)⟩, ⟨fun _ _ => rfl⟩, ⟨fun j hj => absurd hj (by omega)⟩⟩
      case round =>
        obtain ⟨i, hs, gs, rfl, HI, HG, P, HR, HD⟩ := hrel
        by_cases hlt : i < n
        · have c1 : decide ((i : Int) < (n : Int)) = true := decide_eq_true (by omega)
          have c2 : (0 : Int) ≤ (i : Int) := Int.natCast_nonneg i
          have c3 : (i : Int) < (n : Int) := by omega
          have hil : i < ls.length := by have := HNL.out; omega
          obtain ⟨g, Al, cl, x, rfl, hne, hgl, hls, hx, hcell, hgd⟩ := P.out.at_ hil
          have hhs : hs[i]? = some (.slice Al x.length cl) := by rw [HR.out i (Nat.le_refl _)]; exact hls
          have hgs : i < gs.size := by have := P.out.gsz; omega
          have HX2 := Aside0.mk hx
          have HIL := Aside0.mk hil
          have HGS := Aside0.mk hgs
          have Q := Aside0.mk (P.out.go hhs)
          have HLT := Aside0.mk hlt
          have i1 : (i : Int) ≤ 4194304 := by omega
          clear hil hls hx hgd hgs hhs hlt P
          go_wp2_with (fail)
          go_loopg [9, 46] 8 (fun gq v9 v46 wq => ∃ (m : Nat) (u : Value), u = v9 ∧ v46 = .int .i64 m ∧ Aside0 (m ≤ 8) ∧ Aside0 (8 - m ≤ gq) ∧ Aside0 (Ap2 okr .u8 w wq base 5 30 gm (some ⟨g, 0, none⟩) ls (hs.set i u) ys gs (fun j => ((j : Int) + 100) % 256) (fun j => if j = i then 0 + m else if j < i then 8 else 0)))
          case atStart => exact ⟨0, _, rfl, rfl, ⟨Nat.zero_le _⟩, ⟨by omega⟩, Q⟩
          case round =>
            clear Q
            obtain ⟨m, u, rfl, rfl, HM, HG2, Q⟩ := hrel
            by_cases hm : m < 8
            · have d1 : decide ((m : Int) < 8) = true := decide_eq_true (by omega)
              have HM8 := Aside0.mk hm
              have hr := Q.out.rowi HIL.out HX2.out
              have HRW := Aside0.mk hr
              clear hr hm
              go_wp2_with ((with_reducible refine gate_builtin (b := .append) (xs := #[.tmp 48, .tmp 52]) rfl ?_); at_builtin; go_loud (refine Kd.R_app_int (k := .u8) base rfl (.tmp 48) (.tmp 52) 30 5 1 rfl Try.underlying30 info5 (by omega) u (x ++ List.replicate (0 + m) (((i : Int) + 100) % 256)) [((i : Int) + 100) % 256] (some ⟨wr.heap.size, 0, none⟩) 1 1 (fun _ => True) rfl rfl trivial ?HO ?HR ?base ?hl ?_; (case HO => exact Kd.R_alloc HRW.out _); (case HR => exact C_lit .u8 wr [((i : Int) + 100) % 256] 5 (by simp)); (case base => have := Q.out.below.size; have h2 := (World.grownBy_alloc wr (.cells #[Value.int .u8 (((i : Int) + 100) % 256)] 5) none).size; omega); (case hl => have h1 := HYL.out _ (List.mem_of_getElem? HX2.out); have h2 := HM8.out; simp only [List.length_append, List.length_replicate]; omega); intro v1 w1 hr1 hg1 hat1; have Q1 := Aside0.mk ((Q.out.grow (World.grownBy_alloc wr (.cells #[Value.int .u8 (((i : Int) + 100) % 256)] 5) none)).one (a := 1) HIL.out HX2.out hr1 hg1 hat1); clear hr1 hg1 hat1))
              go_roundg (8 - (m + 1))
              case measure => have := HG2.out; have := HM8.out; omega
              case rel => exact ⟨m + 1, _, rfl, by have := HM8.out; rw [w64 (by omega) (by omega)]; rfl, ⟨by have := HM8.out; omega⟩, ⟨by omega⟩, ⟨Q1.out.cnt_eq (fun j _ => by rw [Nat.add_assoc])⟩⟩
            · obtain rfl : m = 8 := by have := HM.out; omega
              have d1 : decide ((8 : Int) < 8) = false := rfl
              clear hm
              have e1 := (blk_cell Q.out.more i).trans (Array.getElem?_eq_getElem HGS.out)
              have e2 := blk_frozen Q.out.more i
              obtain ⟨Ar, ql, cr, rfl⟩ : ∃ Ar ql cr, u = .slice Ar ql cr := by obtain ⟨Ar, cr, rfl, -⟩ := Kd.R_reads (Q.out.rowi HIL.out HX2.out); exact ⟨_, _, _, rfl⟩
              go_wp2_with (fail)
              go_roundg (n - (i + 1))
              case measure => have := HG.out; have := HLT.out; omega
              case rel => exact ⟨i + 1, hs.set i _, gs.setIfInBounds i _, by go_num, ⟨by have := HLT.out; omega⟩, ⟨by omega⟩, ⟨Q.out.came rfl⟩, ⟨rest_set HR.out⟩, ⟨laid_set HD.out HGS.out (by have := Q.out.grown.lenh; rw [List.length_set] at this; have := HIL.out; omega)⟩⟩
        · obtain rfl : n = i := by have := HI.out; omega
          have c1 : decide ((n : Int) < (n : Int)) = false := decide_eq_false (by omega)
          clear hlt HG HI
          have HD := Aside0.mk (show ∀ j : Nat, gs[j]? = hs[j]? from fun j => by
            by_cases hj : j < n
            · exact HD.out j hj
            · have h1 := P.out.gsz
              have h2 := P.out.grown.lenh
              have h3 := HNL.out
              rw [Array.getElem?_eq_none (by omega), List.getElem?_eq_none (by omega)])
          have P := Aside0.mk (P.out.cnt_eq (cnt' := fun j => if j < 0 then 128 else 8) (fun j hj => by have := HNL.out; simp [show j < n from by omega]))
          clear HR
          go_wp2_with (fail)
          go_loopg [62] n (fun gq v62 wq => ∃ (i : Nat) (hs : List Value) (gs : Array Value), v62 = .int .i64 i ∧ Aside0 (i ≤ n) ∧ Aside0 (n - i ≤ gq) ∧ Aside0 (Ap2 okr .u8 w wq base 5 30 gm A ls hs ys gs (fun j => ((j : Int) + 100) % 256) (fun j => if j < i then 128 else 8)) ∧
            Aside0 (∀ j : Nat, gs[j]? = hs[j]?))
          case atStart => exact ⟨0, hs, gs, rfl, ⟨Nat.zero_le _⟩, ⟨by omega⟩, P, HD⟩
          case round =>
            clear P HD
            obtain ⟨i, hs, gs, rfl, HI, HG, P, HD⟩ := hrel
            by_cases hlt : i < n
            · have c1 : decide ((i : Int) < (n : Int)) = true := decide_eq_true (by omega)
              have c2 : (0 : Int) ≤ (i : Int) := Int.natCast_nonneg i
              have c3 : (i : Int) < (n : Int) := by omega
              have hil : i < ls.length := by have := HNL.out; omega
              obtain ⟨g, Al, cl, x, rfl, hne, hgl, hls, hx, hcell, hgd⟩ := P.out.at_ hil
              have hih : i < hs.length := by have := P.out.grown.lenh; omega
              obtain ⟨u0, hu0⟩ : ∃ u0, hs[i]? = some u0 := ⟨_, List.getElem?_eq_getElem hih⟩
              obtain ⟨A0, q0, c0, rfl⟩ : ∃ A0 q0 c0, u0 = .slice A0 q0 c0 := by obtain ⟨A0, c0, rfl, -⟩ := Kd.R_reads (P.out.row hil hu0 hx); exact ⟨_, _, _, rfl⟩
              have e0 := (blk_cell P.out.more i).trans ((HD.out i).trans hu0)
              have hgs : i < gs.size := by have := P.out.gsz; omega
              have HX2 := Aside0.mk hx
              have HIL := Aside0.mk hil
              have HGS := Aside0.mk hgs
              have Q := Aside0.mk (P.out.go hu0)
              have HLT := Aside0.mk hlt
              have i1 : (i : Int) ≤ 4194304 := by omega
              clear hil hls hx hgd hgs hu0 hlt hih hcell P
              go_wp2_with (fail)
              go_loopg [11, 67] 40 (fun gq v11 v67 wq => ∃ (m : Nat) (u : Value), u = v11 ∧ v67 = .int .i64 m ∧ Aside0 (m ≤ 40) ∧ Aside0 (40 - m ≤ gq) ∧ Aside0 (Ap2 okr .u8 w wq base 5 30 gm (some ⟨g, 0, none⟩) ls (hs.set i u) ys gs (fun j => ((j : Int) + 100) % 256) (fun j => if j = i then 8 + 3 * m else if j < i then 128 else 8)))
              case atStart => exact ⟨0, _, rfl, rfl, ⟨Nat.zero_le _⟩, ⟨by omega⟩, Q⟩
              case round =>
                clear Q e0
                obtain ⟨m, u, rfl, rfl, HM, HG2, Q⟩ := hrel
                by_cases hm : m < 40
                · have d1 : decide ((m : Int) < 40) = true := decide_eq_true (by omega)
                  have HM8 := Aside0.mk hm
                  have hr := Q.out.rowi HIL.out HX2.out
                  have HRW := Aside0.mk hr
                  clear hr hm
                  go_wp2_with ((with_reducible refine gate_builtin (b := .append) (xs := #[.tmp 69, .tmp 79]) rfl ?_); at_builtin; go_loud (refine Kd.R_app_int (k := .u8) base rfl (.tmp 69) (.tmp 79) 30 5 1 rfl Try.underlying30 info5 (by omega) u (x ++ List.replicate (8 + 3 * m) (((i : Int) + 100) % 256)) [((i : Int) + 100) % 256, ((i : Int) + 100) % 256, ((i : Int) + 100) % 256] (some ⟨wr.heap.size, 0, none⟩) 3 3 (fun _ => True) rfl rfl trivial ?HO ?HR ?base ?hl ?_; (case HO => exact Kd.R_alloc HRW.out _); (case HR => exact C_lit .u8 wr [((i : Int) + 100) % 256, ((i : Int) + 100) % 256, ((i : Int) + 100) % 256] 5 (by simp)); (case base => have := Q.out.below.size; have h2 := (World.grownBy_alloc wr (.cells #[Value.int .u8 (((i : Int) + 100) % 256), Value.int .u8 (((i : Int) + 100) % 256), Value.int .u8 (((i : Int) + 100) % 256)] 5) none).size; omega); (case hl => have h1 := HYL.out _ (List.mem_of_getElem? HX2.out); have h2 := HM8.out; simp only [List.length_append, List.length_replicate]; omega); intro v1 w1 hr1 hg1 hat1; have Q1 := Aside0.mk ((Q.out.grow (World.grownBy_alloc wr (.cells #[Value.int .u8 (((i : Int) + 100) % 256), Value.int .u8 (((i : Int) + 100) % 256), Value.int .u8 (((i : Int) + 100) % 256)] 5) none)).one (a := 3) HIL.out HX2.out hr1 hg1 hat1); clear hr1 hg1 hat1))
                  go_roundg (40 - (m + 1))
                  case measure => have := HG2.out; have := HM8.out; omega
                  case rel => exact ⟨m + 1, _, rfl, by have := HM8.out; rw [w64 (by omega) (by omega)]; rfl, ⟨by have := HM8.out; omega⟩, ⟨by omega⟩, ⟨Q1.out.cnt_eq (fun j _ => by rw [show 8 + 3 * (m + 1) = 8 + 3 * m + 3 from by omega])⟩⟩
                · obtain rfl : m = 40 := by have := HM.out; omega
                  have d1 : decide ((40 : Int) < 40) = false := rfl
                  clear hm
                  have e1 := (blk_cell Q.out.more i).trans (Array.getElem?_eq_getElem HGS.out)
                  have e2 := blk_frozen Q.out.more i
                  obtain ⟨Ar, ql, cr, rfl⟩ : ∃ Ar ql cr, u = .slice Ar ql cr := by obtain ⟨Ar, cr, rfl, -⟩ := Kd.R_reads (Q.out.rowi HIL.out HX2.out); exact ⟨_, _, _, rfl⟩
                  go_wp2_with (fail)
                  go_roundg (n - (i + 1))
                  case measure => have := HG.out; have := HLT.out; omega
                  case rel => exact ⟨i + 1, hs.set i _, gs.setIfInBounds i _, by go_num, ⟨by have := HLT.out; omega⟩, ⟨by omega⟩, ⟨Q.out.came rfl⟩, ⟨laid_all HD.out⟩⟩
            · obtain rfl : n = i := by have := HI.out; omega
              have c1 : decide ((n : Int) < (n : Int)) = false := decide_eq_false (by omega)
              clear hlt HG HI
              have P := Aside0.mk (P.out.cnt_eq (cnt' := fun _ => 128) (fun j hj => by have := HNL.out; simp [show j < n from by omega]))
              have HY := Aside0.mk (show ∀ (i : Nat) (x : List Int), i < n → ys[i]? = some x → x = List.replicate x.length ((i : Int) % 256) from fun i x hi hx => by
                have h1 := I1.out.done i hi
                have h2 : ys.getD i [] = x := by rw [List.getD_eq_getElem?_getD, hx]; rfl
                rw [h2] at h1
                rw [h1, List.length_replicate])
              clear I1
              go_wp2_with (fail)
              go_loopg [89] n (fun gq v89 wq => ∃ (i : Nat), v89 = .int .i64 i ∧ Aside0 (i ≤ n) ∧ Aside0 (n - i ≤ gq) ∧ Aside0 (Ap2 okr .u8 w wq base 5 30 gm A ls hs ys gs (fun j => ((j : Int) + 100) % 256) (fun _ => 128)))
              case atStart => exact ⟨0, rfl, ⟨Nat.zero_le _⟩, ⟨by omega⟩, P⟩
              case round =>
                clear P
                obtain ⟨i, rfl, HI, HG, P⟩ := hrel
                by_cases hlt : i < n
                · have c1 : decide ((i : Int) < (n : Int)) = true := decide_eq_true (by omega)
                  have c2 : (0 : Int) ≤ (i : Int) := Int.natCast_nonneg i
                  have c3 : (i : Int) < (n : Int) := by omega
                  have hil : i < ls.length := by have := HNL.out; omega
                  obtain ⟨g, Al, cl, x, rfl, hne, hgl, hls, hx, hcell, hgd⟩ := P.out.at_ hil
                  have hih : i < hs.length := by have := P.out.grown.lenh; omega
                  obtain ⟨u0, hu0⟩ : ∃ u0, hs[i]? = some u0 := ⟨_, List.getElem?_eq_getElem hih⟩
                  have hxr := HY.out i x hlt hx
                  obtain ⟨len, hlen⟩ : ∃ len, x.length = len := ⟨_, rfl⟩
                  have hlb : len ≤ 140737488351232 := by rw [← hlen]; exact HYL.out x (List.mem_of_getElem? hx)
                  rw [hlen] at hxr hls hcell
                  subst hxr
                  clear hlen
                  obtain ⟨ga, c0, rfl, -⟩ := P.out.look hil hu0 hx rfl (t := 0) (by omega)
                  have e0 := (blk_cell P.out.more i).trans ((HD.out i).trans hu0)
                  have HX2 := Aside0.mk hx
                  have HIL := Aside0.mk hil
                  have HU0 := Aside0.mk hu0
                  have HLS := Aside0.mk hls
                  have HLT := Aside0.mk hlt
                  have HLB := Aside0.mk hlb
                  have i1 : (i : Int) ≤ 4194304 := by omega
                  clear hil hls hx hgd hu0 hlt hih hlb
                  go_wp2_with (fail)
                  go_loopg [99] (len + 128) (fun gq v99 wq => ∃ (t : Nat), v99 = .int .i64 t ∧ Aside0 (t ≤ len + 128) ∧ Aside0 (len + 128 - t ≤ gq) ∧ Aside0 (Ap2 okr .u8 w wq base 5 30 gm (some ⟨g, 0, none⟩) ls hs ys gs (fun j => ((j : Int) + 100) % 256) (fun _ => 128)))
                  case atStart => exact ⟨0, rfl, ⟨Nat.zero_le _⟩, ⟨by omega⟩, P⟩
                  case round =>
                    clear P e0 hcell
                    obtain ⟨t, rfl, HT, HG2, P⟩ := hrel
                    by_cases ht : t < len + 128
                    · have d1 : decide ((t : Int) < (len : Int) + 128) = true := decide_eq_true (by omega)
                      have d2 : (0 : Int) ≤ (t : Int) := Int.natCast_nonneg t
                      have d3 : (t : Int) < (len : Int) + 128 := by omega
                      obtain ⟨g', c', e, hc1⟩ := P.out.look HIL.out HU0.out HX2.out rfl ht
                      injection e with e e2 e3
                      injection e with e
                      injection e with e
                      subst e
                      subst e3
                      have HTL := Aside0.mk ht
                      by_cases htl : t < len
                      · have t1 : decide ((t : Int) < (len : Int)) = true := decide_eq_true (by omega)
                        have t2 : decide ((t : Int) ≥ (len : Int)) = false := decide_eq_false (by omega)
                        have t3 : decide ((len : Int) ≤ (t : Int)) = false := decide_eq_false (by omega)
                        have t4 : (t : Int) < (len : Int) := by omega
                        rw [if_pos htl] at hc1
                        obtain ⟨ad, rfl, hc2⟩ := Kd.at_int (P.out.list HLS.out HX2.out) (t : Int) d2 (by simpa using t4)
                        have hrd : rd (List.replicate len ((i : Int) % 256)) (t : Int) = (i : Int) % 256 := by simp [rd, List.getD_eq_getElem?_getD, htl]
                        rw [hrd] at hc2
                        simp only [Int.toNat_natCast] at hc2
                        clear ht htl hrd
                        go_wp2_with (fail)
                        go_roundg (len + 128 - (t + 1))
                        case measure => have := HG2.out; have := HTL.out; omega
                        case rel => exact ⟨t + 1, by have := HTL.out; have := HLB.out; rw [w64 (by omega) (by omega)]; rfl, ⟨by have := HTL.out; omega⟩, ⟨by omega⟩, P⟩
                      · have t1 : decide ((t : Int) < (len : Int)) = false := decide_eq_false (by omega)
                        have t2 : decide ((t : Int) ≥ (len : Int)) = true := decide_eq_true (by omega)
                        have t3 : decide ((len : Int) ≤ (t : Int)) = true := decide_eq_true (by omega)
                        have t4 : (len : Int) ≤ (t : Int) := by omega
                        rw [if_neg htl] at hc1
                        clear ht htl
                        go_wp2_with (fail)
                        go_roundg (len + 128 - (t + 1))
                        case measure => have := HG2.out; have := HTL.out; omega
                        case rel => exact ⟨t + 1, by have := HTL.out; have := HLB.out; rw [w64 (by omega) (by omega)]; rfl, ⟨by have := HTL.out; omega⟩, ⟨by omega⟩, P⟩
                    · obtain rfl : t = len + 128 := by have := HT.out; omega
                      have d1 : decide (((len + 128 : Nat) : Int) < (len : Int) + 128) = false := decide_eq_false (by omega)
                      clear ht
                      go_wp2_with (fail)
                      go_roundg (n - (i + 1))
                      case measure => have := HG.out; have := HLT.out; omega
                      case rel => exact ⟨i + 1, by go_num, ⟨by have := HLT.out; omega⟩, ⟨by omega⟩, P⟩
                · obtain rfl : n = i := by have := HI.out; omega
                  have c1 : decide ((n : Int) < (n : Int)) = false := decide_eq_false (by omega)
                  clear hlt
                  go_wp2_with (fail)
                  go_ret
                  exact ⟨rfl, P.out.below, P.out.kept⟩
end Go.Proofs.Ythkcadmjfkcbgaa.Q
end
section
set_option linter.unusedVariables false
set_option linter.unusedSimpArgs false
namespace Go.Proofs.Ythkcadmjfkcbgaa.Q
open Go.RowKit Go.Proofs.YthkcadmjfkcbgaaW.PrintWords Go.Proofs.YthkcadmjfkcbgaaW.PrintLast Go.Proofs.YthkcadmjfkcbgaaW.PrintMore Go.Proofs.Ythkcadmjfkcbgaa.Pl
def RK (k : IntKind) (T : Nat) (W : World) (lo hi : Nat) (v : Value) (xs : List Int) : Prop := Kd.R (Kd.int k) T W lo (fun b => lo ≤ b ∧ b < hi) v xs
section
variable {k : IntKind} {T : Nat} {w w' W W1 : World} {lo hi : Nat} {v : Value} {xs : List Int} {ok : Nat → Prop}
theorem RK.of (h : Kd.R (Kd.int k) T w' w.heap.size ok v xs) : RK k T w' w.heap.size w'.heap.size v xs := Kd.R_mono (Kd.R_bound h) (fun b hb => ⟨hb.2.1, hb.2.2.1⟩)
theorem RK.below (h : RK k T W lo hi v xs) (hb : Below W.heap.size W W1) : RK k T W1 lo hi v xs := Kd.R_step h (fun b _ hlt => hb.block b hlt)
theorem RK.lit (h : RK k T W lo hi v xs) : ∃ A c, v = .slice A xs.length c := by
  obtain ⟨A, c, rfl, -⟩ := Kd.R_reads h
  exact ⟨_, _, rfl⟩
theorem RK.reads {A : Option Addr} {n c : Nat} (h : RK k T W lo hi (.slice A n c) xs) : Kd.C (Kd.int k) W A xs.length xs ∧ xs.length ≤ c := by
  obtain ⟨rfl, a, b⟩ := Kd.R_reads' h
  exact ⟨b, a⟩
theorem RK.put {g n c : Nat} (h : RK k T W lo hi (.slice (some ⟨g, 0, none⟩) n c) xs) (hn : xs.length = n) (j : Nat) (hj : j < n) (z : Int) :
    RK k T (W.setCell ⟨g, j, none⟩ (.int k z)) lo hi (.slice (some ⟨g, 0, none⟩) n c) (xs.set j z) ∧ W.grownBy (W.setCell ⟨g, j, none⟩ (.int k z)) (some g) ∧ lo ≤ g ∧ g < hi ∧ W.cell? ⟨g, j, none⟩ = some (.int k (xs.getD j 0)) ∧ W.frozen? ⟨g, j, none⟩ = false := by
  obtain ⟨hp, hg⟩ := Kd.R_putg h (j : Int) z
  simp only [Int.toNat_natCast] at hp hg
  have h2 := Kd.R_celln (0 : Int) h (j : Int) (by omega) (by omega)
  simp only [Int.toNat_natCast, rdOf] at h2
  exact ⟨hp, hg, (h.1 g rfl).1, (h.1 g rfl).2, h2.1, h2.2⟩
theorem RK.head {n c : Nat} {A : Option Addr} (h : RK k T W lo hi (.slice A n c) xs) (hn : 0 < n) : ∃ g, A = some ⟨g, 0, none⟩ := by
  have h2 := Kd.R_reads' h
  obtain ⟨ad, rfl, -⟩ := Kd.at_int h2.2.2 0 (by omega) (by omega)
  obtain ⟨p, rfl⟩ := Kd.R_head h
  exact ⟨p, rfl⟩
theorem RK.front {A : Option Addr} {n c : Nat} {ys : List Int} (h : RK k T W lo hi (.slice A n c) (xs ++ ys)) : Kd.C (Kd.int k) W A xs.length xs ∧ xs.length ≤ c := by
  obtain ⟨e, hc, hC⟩ := Kd.R_reads' h
  rw [List.length_append] at e
  refine ⟨?_, by omega⟩
  have := Kd.C_take (m := xs.length) hC (by simp)
  simpa using this
end
section
variable {P : Program} {ops : Array Oper} {rest : List Oper} {o : Oper} {a : Act} {Q : Exit → Act → World → Prop} {Kc : Act → World → Prop}
end
theorem infoBs : (Try.prog.info? 30).map (fun i => (i.zero, i.size, i.bytes)) = some (some (.slice none 0 0), 1, 24) := by kernel_rfl
section
variable {P : Program} {ops : Array Oper} {rest : List Oper} {o : Oper} {a : Act} {Q : Exit → Act → World → Prop} {Kc : Act → World → Prop}
end
section
variable {W W1 : World} {l : List Int} {R E L pl er : Int} {cs : List (List Int)} {A : Option Addr} {c : Nat}
theorem lists_own {base n cl T2 : Nat} {ok : Nat → Prop} {xs : List (List Int)} (h : Kd.S (Kd.slice 5 (Kd.int .u8)) T2 W base ok (.slice A n cl) xs) :
    ∃ ls : List Value, Lists .u8 W base 5 (fun b => ok b ∧ some b ≠ (Value.slice A n cl).ownBlock) ls xs ∧ W.ownsRow base T2 1 (.slice A n cl) ls.length ls ∧ ls.length = n ∧ n = xs.length := by
  obtain ⟨ls, hL, hn, hc⟩ := lists_of h
  obtain ⟨inner, ho⟩ := Kd.S_own h
  have hll := hL.len
  obtain ⟨A', c', e, hi, -, -, hcell⟩ := own_cells ho
  injection e with e1 e2 e3
  subst e1
  have hls : inner = ls := by
    apply List.ext_getElem?
    intro j
    by_cases hj : j < ls.length
    · have h1 := List.getElem?_eq_getElem hj
      obtain ⟨g, eg, q⟩ := hc j _ h1
      have hj2 : j < inner.length := by omega
      have h2 := List.getElem?_eq_getElem hj2
      obtain ⟨g', eg', q'⟩ := hcell j _ h2
      rw [eg] at eg'
      injection eg' with eg'
      injection eg' with eg'
      subst eg'
      rw [q] at q'
      rw [h1, h2, Option.some.inj q']
    · rw [List.getElem?_eq_none (by omega), List.getElem?_eq_none (by omega)]
  subst hls
  refine ⟨inner, hL, ?_, by omega, hn⟩
  rw [hll]
  exact ho
end
end Go.Proofs.Ythkcadmjfkcbgaa.Q
end
section
namespace Go.Proofs.Ythkcadmjfkcbgaa.Q
open Go.RowKit Go.Proofs.YthkcadmjfkcbgaaW.PrintWords Go.Proofs.YthkcadmjfkcbgaaW.PrintLast Go.Proofs.YthkcadmjfkcbgaaW.PrintMore
attribute [local go_sem] max2_int min2_int max_two min_two max_three min_three max_four min_four
set_option linter.unusedVariables false
set_option linter.unusedSimpArgs false
section
open Go.Proofs.Ythkcadmjfkcbgaa.Pl
theorem sc_same (a : List Int) : churnlaw06_same.f a a = some true := by simp [churnlaw06_same.f]
theorem sc_l0 (cs : List (List Int)) (hl : cs.length ≤ 140737488355328) : ∀ (d i : Nat), i + d = cs.length → Ev (fun k => churnlaw06_sameCells.l0 k cs cs (cs.length : Int) (i : Int)) true
  | 0, i, hi => Ev.step (f := fun k => some true) (fun k => by simp only [churnlaw06_sameCells.l0]; rw [if_neg (by omega)]) (Ev.now _)
  | d + 1, i, hi => by
    refine Ev.step (f := fun k => churnlaw06_sameCells.l0 k cs cs (cs.length : Int) ((i + 1 : Nat) : Int)) (fun k => ?_) (sc_l0 cs hl d (i + 1) (by omega))
    simp only [churnlaw06_sameCells.l0]
    rw [if_pos (by omega), if_pos (by omega), if_pos (by omega), if_pos (by omega), sc_same, Option.bind_some, if_pos rfl, show wrap64 ((i : Int) + 1) = ((i + 1 : Nat) : Int) from by rw [w64 (by omega) (by omega)]; rfl]
theorem sc_now (cs : List (List Int)) (hl : cs.length ≤ 140737488355328) : ∃ k, churnlaw06_sameCells.f k cs cs = some true := by
  refine Ev.rounds ?_
  unfold churnlaw06_sameCells.f
  exact ev_pos rfl (sc_l0 cs hl cs.length 0 (by omega))
theorem FS.run_cnt (l : List Int) : ∀ s : FS, (s.run l).2.length ≤ l.length := by
  induction l with
  | nil => intro s; simp [FS.run]
  | cons c l ih =>
    intro s
    show ((s.byte c).2 ++ ((s.byte c).1.run l).2).length ≤ _
    have h1 := ih (s.byte c).1
    have h2 : (s.byte c).2.length ≤ 1 := by
      unfold FS.byte
      split
      · simp
      · split
        · simp
        · simp only []; split <;> simp
    simp only [List.length_append, List.length_cons]
    omega
structure FS.Inw (s : FS) : Prop where
  okay : s.Okay
  short : s.er = 0 → (s.fd.length : Int) < fsz s.st
  p0 : (s.fd.length : Int) ≤ s.pos
  l0 : 0 ≤ s.pl
  l1 : s.pl ≤ s.pos
theorem byte_inw (s : FS) (c : Int) (hc : 0 ≤ c ∧ c ≤ 255) (h : s.Inw) : (s.byte c).1.Inw ∧ (s.byte c).1.pos ≤ s.pos + 1 := by
  unfold FS.byte
  by_cases he : s.er ≠ 0
  · rw [if_pos he]; exact ⟨h, by show s.pos ≤ _; omega⟩
  · rw [if_neg he]
    have he : s.er = 0 := by omega
    have hfl : ((s.fill [c]).fd.length : Int) = s.fd.length + 1 := by simp [FS.fill_fd]
    have ho : (s.fill [c]).Okay := { h.okay with by_ := h.okay.by_.append (by intro x hx; simp at hx; omega) }
    have hp : (s.fill [c]).pos = s.pos + 1 := rfl
    have hst : (s.fill [c]).st = s.st := rfl
    by_cases hs : ((s.fill [c]).fd.length : Int) < fsz s.st
    · rw [if_pos hs]
      exact ⟨⟨ho, fun _ => hs, by rw [hfl, hp]; have := h.p0; omega, h.l0, by rw [hp]; show s.pl ≤ _; have := h.l1; omega⟩, by show (s.fill [c]).pos ≤ _; omega⟩
    · rw [if_neg hs]
      have hfull : ((s.fill [c]).fd.length : Int) = fsz (s.fill [c]).st := by rw [hst]; have := h.short he; omega
      obtain ⟨⟨k1, k2, k3, k4⟩, ko, _⟩ := FS.jud_okay _ ho hfull
      have hfz := fsz_pos (s.fill [c]).jud.1.st
      show (s.fill [c]).fin.Inw ∧ (s.fill [c]).fin.pos ≤ _
      unfold FS.fin
      by_cases hj : (s.fill [c]).jud.2 = 0
      · rw [if_pos hj]
        refine ⟨⟨{ ko with by_ := fun x hx => by simp at hx }, fun _ => ?_, ?_, ?_, ?_⟩, ?_⟩
        · show (([] : List Int).length : Int) < _; simp; omega
        · show (([] : List Int).length : Int) ≤ (s.fill [c]).jud.1.pos; rw [k2, hp]; have := h.p0; simp; omega
        · show 0 ≤ (s.fill [c]).jud.1.pl; rw [k4]; exact h.l0
        · show (s.fill [c]).jud.1.pl ≤ (s.fill [c]).jud.1.pos; rw [k4, k2, hp]; show s.pl ≤ _; have := h.l1; omega
        · show (s.fill [c]).jud.1.pos ≤ _; rw [k2, hp]; omega
      · rw [if_neg hj]
        refine ⟨⟨{ ko with }, fun h0 => absurd h0 hj, ?_, ?_, ?_⟩, ?_⟩
        · show ((s.fill [c]).jud.1.fd.length : Int) ≤ (s.fill [c]).jud.1.pos; rw [k1, k2, hfl, hp]; have := h.p0; omega
        · show 0 ≤ (s.fill [c]).jud.1.pos - ((s.fill [c]).jud.1.fd.length : Int); rw [k1, k2, hfl, hp]; have := h.p0; omega
        · show (s.fill [c]).jud.1.pos - ((s.fill [c]).jud.1.fd.length : Int) ≤ (s.fill [c]).jud.1.pos; omega
        · show (s.fill [c]).jud.1.pos ≤ _; rw [k2, hp]; omega
theorem run_inw (l : List Int) : ∀ s : FS, Bys l → s.Inw → (s.run l).1.Inw ∧ (s.run l).1.pos ≤ s.pos + l.length := by
  induction l with
  | nil => intro s _ h; exact ⟨h, by simp [FS.run]⟩
  | cons c l ih =>
    intro s hb h
    obtain ⟨h1, h2⟩ := byte_inw s c (hb c List.mem_cons_self) h
    obtain ⟨h3, h4⟩ := ih _ hb.tail h1
    refine ⟨h3, ?_⟩
    show ((s.byte c).1.run l).1.pos ≤ _
    simp only [List.length_cons]
    omega
theorem init_inw : FS.init.Inw := ⟨init_okay, fun _ => by decide, by decide, by decide, by decide⟩
structure PcInv (w W1 W : World) (gg N1 : Nat) (raw : List Int) (s : FS) (vG : Value) (l : List Int) (A : Option Addr) (c : Nat) (v9 : Value) (parts : List (List Int)) : Prop where
  below : Below w.heap.size w W
  kept : Kept W1 W (fun k => k = gg)
  feed : FeedAt W w.heap.size gg s vG
  vg : vG.ownBlock = none ∨ ∃ b, vG.ownBlock = some b ∧ N1 ≤ b
  prow : Kd.N (Kd.slice 5 (Kd.int .u8)) 30 W N1 (fun k => N1 ≤ k ∧ some k ≠ vG.ownBlock) v9 parts
  run1 : ((FS.init.run raw).1, (FS.init.run raw).2) = ((s.run l).1, parts ++ (s.run l).2)
  piece : Kd.F (Kd.int .u8) W (fun k => k < w.heap.size) A l.length l
  cap : l.length ≤ c
  bys : Bys l
  inv : s.Inw
  pos1 : s.pos + l.length ≤ 4611686018427387904
  cnt : parts.length + l.length ≤ 1048576
  n1 : N1 = W1.heap.size
  ggN : gg < N1
  wN : w.heap.size ≤ gg
section
variable {w W1 W W' W2 : World} {gg N1 c n : Nat} {raw l : List Int} {s : FS} {vG v9 v10 vc v' : Value} {A : Option Addr} {parts : List (List Int)}
theorem PcInv.put (I : PcInv w W1 W gg N1 raw s vG l A c v9 parts) (hn : n ≤ l.length) :
    Calls Try.prog 22 #[.pointer (some ⟨gg, 0, none⟩), .slice A n c] W fun e w' => PutPost W w.heap.size gg s (l.take n) vG e w' := by
  have htl : (l.take n).length = n := by simp; omega
  have hF := Kd.F_take (m := n) I.piece hn
  rw [htl] at hF
  have hp := I.inv.p0
  have hwW := I.below.size
  have h1 := I.kept.1
  have h2 := I.n1
  have := put_calls s gg w.heap.size vG (l.take n) A c (fun k => k < w.heap.size) W I.feed I.inv.okay I.inv.short (by rw [htl]; exact hF) (by have := I.cap; omega)
    (fun k hk => ⟨by have := I.wN; omega, by
      rcases I.vg with e | ⟨b, e, hb⟩
      · rw [e]; simp
      · rw [e]; intro x; injection x with x; have := I.wN; have := I.ggN; omega, by omega⟩) (I.bys.take n) (by omega) (by have := I.pos1; rw [htl]; omega) (by have := I.cnt; omega)
  rw [htl] at this
  exact this
theorem PcInv.next (I : PcInv w W1 W gg N1 raw s vG l A c v9 parts) (hn : n ≤ l.length) (hm : Moved W W' w.heap.size gg vG v') (hf : FeedAt W' w.heap.size gg (s.run (l.take n)).1 v')
    (hN : Kd.N (Kd.slice 5 (Kd.int .u8)) 30 W2 N1 (fun k => N1 ≤ k ∧ some k ≠ v'.ownBlock) v10 (parts ++ (s.run (l.take n)).2)) (hg : W'.grownBy W2 v9.ownBlock)
    (h9' : ∀ k, v9.ownBlock = some k → some k ≠ v'.ownBlock) :
    PcInv w W1 W2 gg N1 raw (s.run (l.take n)).1 v' (l.drop n) (if c = n then A else A.map (·.add (n * 1))) (c - n) v10 (parts ++ (s.run (l.take n)).2) := by
  have h1 := I.kept.1
  have h2 := I.n1
  have h3 := hm.1.size
  have hw := I.wN
  have hgN := I.ggN
  have h9 : ∀ k, v9.ownBlock = some k → N1 ≤ k := Kd.N_base I.prow
  have hne : some gg ≠ v9.ownBlock := fun e => by have := h9 gg e.symm; omega
  have htl : (l.take n).length = n := by simp; omega
  have hdl : (l.drop n).length = l.length - n := List.length_drop
  obtain ⟨hi, hp⟩ := run_inw (l.take n) s (I.bys.take n) I.inv
  have hc := FS.run_cnt (l.take n) s
  have hF : Kd.F (Kd.int .u8) W2 (fun k => k < w.heap.size) A l.length l := by
    have hF1 := Kd.F_kept I.piece hm.2.1 (fun k hk => by
      rintro (e | e)
      · omega
      · rcases I.vg with e2 | ⟨b, e2, hb⟩
        · rw [e2] at e; simp at e
        · rw [e2] at e; injection e with e; omega)
    exact Kd.F_grown hF1 hg (fun k hk e => by have := h9 k e.symm; omega)
  refine { below := ?_, kept := ?_, feed := ⟨blk_grown hf.1 hg hne, hf.2.1, Nat.le_trans hf.2.2.1 hg.size, ?_⟩, vg := ?_, prow := hN, run1 := ?_, piece := Kd.F_cut (m := n) (c := c) hF hn I.cap, cap := by have := I.cap; omega, bys := I.bys.drop n, inv := hi, pos1 := ?_, cnt := ?_, n1 := h2, ggN := hgN, wN := hw }
  · exact (I.below.trans hm.1).grown hg (by have := I.below.size; omega) (fun k hk => by have := h9 k hk; omega)
  · refine Kept.of_grown hg (I.kept.then_ hm.2.1 ?_) (fun k hk => .inr (by have := h9 k hk; omega))
    rintro k (e | e)
    · exact .inl e
    · rcases I.vg with e2 | ⟨b, e2, hb⟩
      · rw [e2] at e; simp at e
      · rw [e2] at e; injection e with e; exact .inr (by omega)
  · exact Kd.R_mono (Kd.R_grown (ok := fun k => k ≠ gg ∧ some k = v'.ownBlock) (Kd.R_mono (Kd.R_tight rfl hf.2.2.2) (fun k hk => ⟨fun e => hf.ne (e ▸ hk), hk⟩)) hg (fun k hk e => h9' k e.symm hk.2)) (fun k hk => hk.1)
  · rcases hm.2.2 with e | ⟨b, e, hb⟩
    · rw [e]; exact I.vg
    · exact .inr ⟨b, e, by omega⟩
  · have hr := FS.run_append (l.take n) (l.drop n) s
    rw [List.take_append_drop] at hr
    rw [I.run1, hr]
    simp
  · have := I.pos1; rw [htl] at hp; rw [hdl]; omega
  · have := I.cnt; rw [htl] at hc; simp only [List.length_append]; omega
end
attribute [local go_sem] max2_int min2_int max_two min_two max_three min_three max_four min_four
theorem FeedAt.kept {w4 W : World} {base g gg : Nat} {s : FS} {v : Value} (h : FeedAt w4 base g s v) (k : Kept w4 W (fun k => k = gg)) (hne : g ≠ gg) (hv : some gg ≠ v.ownBlock) : FeedAt W base g s v :=
  ⟨blk_kept h.1 k hne, h.2.1, Nat.le_trans h.2.2.1 k.1, Kd.R_mono (Kd.R_kept (ok := fun k => k ≠ g ∧ some k = v.ownBlock) (Kd.R_mono (Kd.R_tight rfl h.2.2.2) (fun k hk => ⟨fun e => h.ne (e ▸ hk), hk⟩)) k (fun k hk e => hv (by rw [← e]; exact hk.2))) (fun k hk => hk.1)⟩
structure PcTop (w w4 : World) (gf gg : Nat) (l0 : List Int) (vF : Value) (Ac : Option Addr) (cc : Nat) : Prop where
  feed : FeedAt w4 w.heap.size gf (FS.init.run l0).1 vF
  gfg : gf ≠ gg
  gv : some gg ≠ vF.ownBlock
  whole : Kd.F (Kd.slice 5 (Kd.int .u8)) w4 (fun k => k ≠ gg ∧ k < w4.heap.size) Ac (FS.init.run l0).2.length (FS.init.run l0).2
  wcap : (FS.init.run l0).2.length ≤ cc
structure PcEnd (w w4 W : World) (gf gg : Nat) (S : FS) (cells : List (List Int)) (vF vG : Value) (Ac : Option Addr) (cc : Nat) (Ap : Option Addr) (cp : Nat) : Prop where
  below : Below w.heap.size w W
  ff : FeedAt W w.heap.size gf S vF
  fg : FeedAt W w.heap.size gg S vG
  gfg : gf ≠ gg
  gv : some gg ≠ vF.ownBlock
  inw : S.Inw
  pos1 : S.pos ≤ 4611686018427387904
  whole : Kd.F (Kd.slice 5 (Kd.int .u8)) W (fun k => k ≠ gg ∧ k < w4.heap.size) Ac cells.length cells
  wcap : cells.length ≤ cc
  parts : Kd.C (Kd.slice 5 (Kd.int .u8)) W Ap cells.length cells
  pcap : cells.length ≤ cp
  cnt : cells.length ≤ 140737488355328
  vg : vG.ownBlock = none ∨ ∃ b, vG.ownBlock = some b ∧ w4.heap.size ≤ b
  wN : w.heap.size ≤ gf
  wle : w4.heap.size ≤ W.heap.size
end
def churnref06_Feed.f (k : Nat) (l0 : List Int) : Option ((List (List Int)) × Int) := (churnref06_Judge.f k l0).bind fun bt472 => (if bt472.2.2.2.2.2.2 = 67 then (some (bt472.2.2.2.2.1, 0)) else (some (bt472.2.2.2.2.1, bt472.2.2.2.2.2.2)))
set_option maxHeartbeats 8000000 in
set_option maxRecDepth 100000 in
theorem churnref06_Feed.calls (k : Nat) (A0 : Option Addr) (c0 : Nat) (l0 : List Int) (r1 : List (List Int)) (r2 : Int) (w : World) (hr0 : Kd.C (Kd.int .u8) w A0 l0.length l0) (hc0 : l0.length ≤ c0) (h : churnref06_Feed.f k l0 = some (r1, r2)) :
    Calls Try.prog 23 #[.slice A0 l0.length c0] w fun e w' => ∃ v0_ : Value, e = .returned (.tuple #[v0_, .int .i64 r2]) ∧ Kd.V (Kd.slice 5 (Kd.int .u8)) 30 w' w.heap.size (fun k_ => (w.heap.size ≤ k_)) v0_ r1 ∧ Below w.heap.size w w' := by
  have hu73 := Try.underlying73
  have HR0 := Aside0.mk hr0
  have HC0 := Aside0.mk hc0
  clear hr0 hc0
  have HB := Aside0.mk (Below.refl w.heap.size w)
  have H : ((churnref06_Judge.f k l0).bind fun bt472 => (if bt472.2.2.2.2.2.2 = 67 then (some (bt472.2.2.2.2.1, 0)) else (some (bt472.2.2.2.2.1, bt472.2.2.2.2.2.2)))) = some (r1, r2) := h
  clear h
  replace H := Option.bind_eq_some_iff.mp H
  obtain ⟨⟨t472, t473, t474, t475, t476, t479, t480⟩, A20, H⟩ := H
  replace H : (if t480 = 67 then (some (t476, 0)) else (some (t476, t480))) = some (r1, r2) := H
  have A2 := Aside0.mk A20
  clear A20
  by_cases c3 : t480 = 67
  · rw [if_pos c3] at H
    have c3b0 : (t480 == 67) = true := beq_iff_eq.mpr c3
    have c3b1 : (t480 != 67) = false := bne_eq_false_iff_eq.mpr c3
    clear c3
    simp only [Option.some.injEq, Prod.mk.injEq] at H
    obtain ⟨rfl, rfl⟩ := H
    go_enter Try.func23, Try.ntmps23
    go_wp2_with (first | ((with_reducible refine gate_callee (f := 34) rfl ?_); refine goesL_ (some 7) rfl rfl Try.func34 (by kernel_rfl) rfl #[.slice A0 l0.length c0] rfl (by (try simp only [List.map_toArray, List.map_cons, List.map_nil]); first | done | rfl | (simp only [List.length_drop, List.length_take]; rfl)) ?_; (with_reducible refine (churnref06_Judge.calls k _ _ l0 t472 t473 t474 t475 t476 t479 t480 _ ?side1 ?side2 A2.out).mono ?_); (case side1 => repeat (first | exact HR0.out | (with_reducible refine Kd.C_alloc ?_ _) | (with_reducible refine Kd.C_drewN ?_ _) | (with_reducible refine Kd.C_drew ?_))); (case side2 => exact HC0.out); rintro e w4 ⟨v477, rfl, ho0, hb⟩; refine ⟨_, rfl, ?_⟩; have n0_ := Aside0.mk (Kd.V_lower (Kd.V_mono (ok' := fun k_ => (w.heap.size ≤ k_)) ho0 (fun k_ hk_ => (Nat.le_trans (below_size (by repeat (first | (with_reducible first | exact HB.out | apply below_alloc | apply pw_below_drewN | apply below_drew1) | exact HB.out))) hk_))) (below_size (by repeat (first | (with_reducible first | exact HB.out | apply below_alloc | apply pw_below_drewN | apply below_drew1) | exact HB.out)))); have n1_ := Aside0.mk (below_step (by repeat (first | (with_reducible first | exact HB.out | apply below_alloc | apply pw_below_drewN | apply below_drew1) | exact HB.out)) hb); clear HB; have HO478 := n0_; have HB := n1_; clear n0_ n1_; (try clear hb); (try clear hb2); (try clear hk); (try clear hi); (try clear ho0)) | ((with_reducible refine gate_dst (N := 4) rfl ?_); refine box_event ?hg (N := 4) ?hd (cs := #[.bool false, .int .i64 0, .int .i64 0, .int .i64 0, .slice none 0 0, .int .i64 0, .int .i64 0]) (t := 73) ?hr ?_; (case hd => rfl); (case hg => rfl); (case hr => first | (go_simp; done) | (go_simp; rfl)); intro gb481 hg w5 hbox hb; have n0_ := Aside0.mk (Kd.V_below (Kd.V_elderB (by (with_reducible repeat (first | apply Kd.V_alloc | apply Kd.V_drewN | apply Kd.V_drew)); exact HO478.out) gb481 (Nat.le_of_eq hg.symm)) hb); have n1_ := Aside0.mk (below_step (by repeat (first | (with_reducible first | exact HB.out | apply below_alloc | apply pw_below_drewN | apply below_drew1) | exact HB.out)) hb); have n2_ := Aside0.mk (hbox); have n3_ := Aside0.mk ((by rw [hg]; exact (below_size (by repeat (first | (with_reducible first | exact HB.out | apply below_alloc | apply pw_below_drewN | apply below_drew1) | exact HB.out))) : w.heap.size ≤ gb481)); have n4_ := Aside0.mk ((by rw [hg]; exact (below_size (by repeat (first | (with_reducible first | exact HB.out | apply below_alloc | apply pw_below_drewN | apply below_drew1) | exact HB.out))) : w.heap.size ≤ gb481)); clear HO478; clear HB; have HO478 := n0_; have HB := n1_; have BK481 := n2_; have GW481 := n3_; have GE481 := n4_; clear n0_ n1_ n2_ n3_ n4_; clear hb hbox hg; have hcz6_0 : w5.cell? ⟨gb481, 0, none⟩ = some (.bool false) := (blk_cell BK481.out 0).trans rfl; have hcz6_1 : w5.cell? ⟨gb481, 1, none⟩ = some (.int .i64 0) := (blk_cell BK481.out 1).trans rfl; have hcz6_2 : w5.cell? ⟨gb481, 2, none⟩ = some (.int .i64 0) := (blk_cell BK481.out 2).trans rfl; have hcz6_3 : w5.cell? ⟨gb481, 3, none⟩ = some (.int .i64 0) := (blk_cell BK481.out 3).trans rfl; have hcz6_4 : w5.cell? ⟨gb481, 4, none⟩ = some (.slice none 0 0) := (blk_cell BK481.out 4).trans rfl; have hcz6_5 : w5.cell? ⟨gb481, 5, none⟩ = some (.int .i64 0) := (blk_cell BK481.out 5).trans rfl; have hcz6_6 : w5.cell? ⟨gb481, 6, none⟩ = some (.int .i64 0) := (blk_cell BK481.out 6).trans rfl; have hfz6_0 := blk_frozen BK481.out 0; have hfz6_1 := blk_frozen BK481.out 1; have hfz6_2 := blk_frozen BK481.out 2; have hfz6_3 := blk_frozen BK481.out 3; have hfz6_4 := blk_frozen BK481.out 4; have hfz6_5 := blk_frozen BK481.out 5; have hfz6_6 := blk_frozen BK481.out 6; obtain ⟨Ao7, co7, eo7⟩ := Kd.V_slice HO478.out; subst eo7))
    go_ret2
    exact ⟨_, by first | rfl | (simp [errW_none, errW_some] <;> rfl) | (simp [*, errW_none, errW_some] <;> rfl), by (with_reducible repeat (first | apply Kd.V_alloc | apply Kd.V_drewN | apply Kd.V_drew)); exact Kd.V_mono (Kd.V_far (p := ⟨gb481, 6, none⟩) (Kd.V_far (p := ⟨gb481, 5, none⟩) (Kd.V_far (p := ⟨gb481, 4, none⟩) (Kd.V_far (p := ⟨gb481, 3, none⟩) (Kd.V_far (p := ⟨gb481, 2, none⟩) (Kd.V_far (p := ⟨gb481, 1, none⟩) (Kd.V_far (p := ⟨gb481, 0, none⟩) (Kd.V_mono HO478.out (fun k_ hk => (⟨hk, hk.2⟩ : _ ∧ k_ ≠ gb481))) (fun _ hk => hk.2) (.bool t472)) (fun _ hk => hk.2) (.int .i64 t473)) (fun _ hk => hk.2) (.int .i64 t474)) (fun _ hk => hk.2) (.int .i64 t475)) (fun _ hk => hk.2) (.slice Ao7 t476.length co7)) (fun _ hk => hk.2) (.int .i64 t479)) (fun _ hk => hk.2) (.int .i64 t480)) (fun _ hk => hk.1.1), by repeat (first | (with_reducible first | exact HB.out | apply below_alloc | apply pw_below_drewN | apply below_drew1 | refine below_set ?_ GE481.out) | exact HB.out)⟩
  · rw [if_neg c3] at H
    have c3b0 : (t480 == 67) = false := beq_eq_false_iff_ne.mpr c3
    have c3b1 : (t480 != 67) = true := bne_iff_ne.mpr c3
    simp only [Option.some.injEq, Prod.mk.injEq] at H
    obtain ⟨rfl, rfl⟩ := H
    go_enter Try.func23, Try.ntmps23
    go_wp2_with (first | ((with_reducible refine gate_callee (f := 34) rfl ?_); refine goesL_ (some 7) rfl rfl Try.func34 (by kernel_rfl) rfl #[.slice A0 l0.length c0] rfl (by (try simp only [List.map_toArray, List.map_cons, List.map_nil]); first | done | rfl | (simp only [List.length_drop, List.length_take]; rfl)) ?_; (with_reducible refine (churnref06_Judge.calls k _ _ l0 t472 t473 t474 t475 t476 t479 t480 _ ?side1 ?side2 A2.out).mono ?_); (case side1 => repeat (first | exact HR0.out | (with_reducible refine Kd.C_alloc ?_ _) | (with_reducible refine Kd.C_drewN ?_ _) | (with_reducible refine Kd.C_drew ?_))); (case side2 => exact HC0.out); rintro e w8 ⟨v477, rfl, ho0, hb⟩; refine ⟨_, rfl, ?_⟩; have n0_ := Aside0.mk (Kd.V_lower (Kd.V_mono (ok' := fun k_ => (w.heap.size ≤ k_)) ho0 (fun k_ hk_ => (Nat.le_trans (below_size (by repeat (first | (with_reducible first | exact HB.out | apply below_alloc | apply pw_below_drewN | apply below_drew1) | exact HB.out))) hk_))) (below_size (by repeat (first | (with_reducible first | exact HB.out | apply below_alloc | apply pw_below_drewN | apply below_drew1) | exact HB.out)))); have n1_ := Aside0.mk (below_step (by repeat (first | (with_reducible first | exact HB.out | apply below_alloc | apply pw_below_drewN | apply below_drew1) | exact HB.out)) hb); clear HB; have HO478 := n0_; have HB := n1_; clear n0_ n1_; (try clear hb); (try clear hb2); (try clear hk); (try clear hi); (try clear ho0)) | ((with_reducible refine gate_dst (N := 4) rfl ?_); refine box_event ?hg (N := 4) ?hd (cs := #[.bool false, .int .i64 0, .int .i64 0, .int .i64 0, .slice none 0 0, .int .i64 0, .int .i64 0]) (t := 73) ?hr ?_; (case hd => rfl); (case hg => rfl); (case hr => first | (go_simp; done) | (go_simp; rfl)); intro gb481 hg w9 hbox hb; have n0_ := Aside0.mk (Kd.V_below (Kd.V_elderB (by (with_reducible repeat (first | apply Kd.V_alloc | apply Kd.V_drewN | apply Kd.V_drew)); exact HO478.out) gb481 (Nat.le_of_eq hg.symm)) hb); have n1_ := Aside0.mk (below_step (by repeat (first | (with_reducible first | exact HB.out | apply below_alloc | apply pw_below_drewN | apply below_drew1) | exact HB.out)) hb); have n2_ := Aside0.mk (hbox); have n3_ := Aside0.mk ((by rw [hg]; exact (below_size (by repeat (first | (with_reducible first | exact HB.out | apply below_alloc | apply pw_below_drewN | apply below_drew1) | exact HB.out))) : w.heap.size ≤ gb481)); have n4_ := Aside0.mk ((by rw [hg]; exact (below_size (by repeat (first | (with_reducible first | exact HB.out | apply below_alloc | apply pw_below_drewN | apply below_drew1) | exact HB.out))) : w.heap.size ≤ gb481)); clear HO478; clear HB; have HO478 := n0_; have HB := n1_; have BK481 := n2_; have GW481 := n3_; have GE481 := n4_; clear n0_ n1_ n2_ n3_ n4_; clear hb hbox hg; have hcz10_0 : w9.cell? ⟨gb481, 0, none⟩ = some (.bool false) := (blk_cell BK481.out 0).trans rfl; have hcz10_1 : w9.cell? ⟨gb481, 1, none⟩ = some (.int .i64 0) := (blk_cell BK481.out 1).trans rfl; have hcz10_2 : w9.cell? ⟨gb481, 2, none⟩ = some (.int .i64 0) := (blk_cell BK481.out 2).trans rfl; have hcz10_3 : w9.cell? ⟨gb481, 3, none⟩ = some (.int .i64 0) := (blk_cell BK481.out 3).trans rfl; have hcz10_4 : w9.cell? ⟨gb481, 4, none⟩ = some (.slice none 0 0) := (blk_cell BK481.out 4).trans rfl; have hcz10_5 : w9.cell? ⟨gb481, 5, none⟩ = some (.int .i64 0) := (blk_cell BK481.out 5).trans rfl; have hcz10_6 : w9.cell? ⟨gb481, 6, none⟩ = some (.int .i64 0) := (blk_cell BK481.out 6).trans rfl; have hfz10_0 := blk_frozen BK481.out 0; have hfz10_1 := blk_frozen BK481.out 1; have hfz10_2 := blk_frozen BK481.out 2; have hfz10_3 := blk_frozen BK481.out 3; have hfz10_4 := blk_frozen BK481.out 4; have hfz10_5 := blk_frozen BK481.out 5; have hfz10_6 := blk_frozen BK481.out 6; obtain ⟨Ao11, co11, eo11⟩ := Kd.V_slice HO478.out; subst eo11))
    go_ret2
    exact ⟨_, by first | rfl | (simp [errW_none, errW_some] <;> rfl) | (simp [*, errW_none, errW_some] <;> rfl), by (with_reducible repeat (first | apply Kd.V_alloc | apply Kd.V_drewN | apply Kd.V_drew)); exact Kd.V_mono (Kd.V_far (p := ⟨gb481, 6, none⟩) (Kd.V_far (p := ⟨gb481, 5, none⟩) (Kd.V_far (p := ⟨gb481, 4, none⟩) (Kd.V_far (p := ⟨gb481, 3, none⟩) (Kd.V_far (p := ⟨gb481, 2, none⟩) (Kd.V_far (p := ⟨gb481, 1, none⟩) (Kd.V_far (p := ⟨gb481, 0, none⟩) (Kd.V_mono HO478.out (fun k_ hk => (⟨hk, hk.2⟩ : _ ∧ k_ ≠ gb481))) (fun _ hk => hk.2) (.bool t472)) (fun _ hk => hk.2) (.int .i64 t473)) (fun _ hk => hk.2) (.int .i64 t474)) (fun _ hk => hk.2) (.int .i64 t475)) (fun _ hk => hk.2) (.slice Ao11 t476.length co11)) (fun _ hk => hk.2) (.int .i64 t479)) (fun _ hk => hk.2) (.int .i64 t480)) (fun _ hk => hk.1.1), by repeat (first | (with_reducible first | exact HB.out | apply below_alloc | apply pw_below_drewN | apply below_drew1 | refine below_set ?_ GE481.out) | exact HB.out)⟩
end Go.Proofs.Ythkcadmjfkcbgaa.Q
end
section
set_option linter.unusedVariables false
set_option linter.unusedSimpArgs false
namespace Go.Proofs.Ythkcadmjfkcbgaa.Q
open Go.RowKit Go.Proofs.YthkcadmjfkcbgaaW.PrintWords Go.Proofs.YthkcadmjfkcbgaaW.PrintLast Go.Proofs.YthkcadmjfkcbgaaW.PrintMore Go.Proofs.Ythkcadmjfkcbgaa.Pl
theorem jud_no67 (s : FS) : s.jud.2 ≠ 67 := by
  simp only [FS.jud]
  repeat' split
  all_goals (first | decide | (intro h; cases h))
theorem byte_no67 (s : FS) (c : Int) (h : s.er ≠ 67) : (s.byte c).1.er ≠ 67 := by
  unfold FS.byte
  split
  · exact h
  · split
    · exact h
    · show (s.fill [c]).fin.er ≠ 67
      unfold FS.fin
      split
      · intro h; cases h
      · exact jud_no67 _
theorem run_no67 : ∀ (l : List Int) (s : FS), s.er ≠ 67 → (s.run l).1.er ≠ 67
  | [], s, h => h
  | c :: l, s, h => run_no67 l (s.byte c).1 (byte_no67 s c h)
theorem byte_cell (s : FS) (c : Int) (h : s.Inw) : ∀ x ∈ (s.byte c).2, x.length ≤ 400 := by
  unfold FS.byte
  split
  · intro x hx; simp at hx
  · rename_i he
    split
    · intro x hx; simp at hx
    · intro x hx
      have h1 := h.short (by omega)
      have h2 := (fsz_pos s.st).2
      split at hx
      · rw [List.mem_singleton.1 hx, FS.fill_fd, List.length_append]
        simp
        omega
      · simp at hx
theorem run_cell : ∀ (l : List Int) (s : FS), Bys l → s.Inw → ∀ x ∈ (s.run l).2, x.length ≤ 400
  | [], s, _, _ => fun x hx => by simp [FS.run] at hx
  | c :: l, s, hb, h => fun x hx => by
    have hx : x ∈ (s.byte c).2 ++ ((s.byte c).1.run l).2 := hx
    rcases List.mem_append.1 hx with hx | hx
    · exact byte_cell s c h x hx
    · exact run_cell l _ hb.tail (byte_inw s c (hb c List.mem_cons_self) h).1 x hx
theorem rfeed_is (l : List Int) (hb : Bys l) (hl : l.length ≤ 140737488355000) : Ev (fun k => churnref06_Feed.f k l) ((FS.init.run l).2, (FS.init.run l).1.er) := by
  refine ev_bind (judge_ev l hb hl) ?_
  have h67 := run_no67 l FS.init (by decide)
  obtain ⟨p, hp⟩ : ∃ p, FS.init.run l = p := ⟨_, rfl⟩
  rw [hp] at h67 ⊢
  show Ev (fun k => if p.1.fend.2 = 67 then some ([] ++ p.2, 0) else some ([] ++ p.2, p.1.fend.2)) _
  by_cases he : p.1.er = 0
  · by_cases h9 : p.1.st < 9
    · have e : p.1.fend = (p.1.pos, 67) := by unfold FS.fend; rw [if_neg (by omega), if_pos h9]
      rw [e]
      exact ev_pos rfl (ev_some (by simp [he]))
    · have e : p.1.fend = (0, 0) := by unfold FS.fend; rw [if_neg (by omega), if_neg h9]
      rw [e]
      exact ev_neg (by decide) (ev_some (by simp [he]))
  · have e : p.1.fend = (p.1.pl, p.1.er) := by unfold FS.fend; rw [if_pos he]
    rw [e]
    exact ev_neg h67 (ev_some (by simp))
section
variable {W : World} {l : List Int} {A : Option Addr} {c : Nat}
theorem feed_at (hb : Bys l) (hl : l.length ≤ 140737488355000) (hr : Kd.C (Kd.int .u8) W A l.length l) (hc : l.length ≤ c) :
    Calls Try.prog 23 #[.slice A l.length c] W fun e w' => ∃ A3 c3, e = .returned (.tuple #[.slice A3 (FS.init.run l).2.length c3, .int .i64 (FS.init.run l).1.er]) ∧ Kd.V (Kd.slice 5 (Kd.int .u8)) 30 w' W.heap.size (fun k => W.heap.size ≤ k ∧ k < w'.heap.size) (.slice A3 (FS.init.run l).2.length c3) (FS.init.run l).2 ∧ Below W.heap.size W w' := by
  obtain ⟨k, hk⟩ := (rfeed_is l hb hl).rounds
  refine (churnref06_Feed.calls k A c l _ _ W hr hc hk).mono ?_
  rintro e w' ⟨v, rfl, hv, hbl⟩
  obtain ⟨A3, c3, rfl⟩ := Kd.V_slice hv
  exact ⟨A3, c3, rfl, Kd.V_mono (Kd.V_bound hv) (fun k hk => hk), hbl⟩
theorem rjudge_at (hb : Bys l) (hl : l.length ≤ 140737488355000) (hr : Kd.C (Kd.int .u8) W A l.length l) (hc : l.length ≤ c) :
    Calls Try.prog 34 #[.slice A l.length c] W fun e w' => ∃ (A3 : Option Addr) (n3 c3 : Nat), e = .returned (.agg #[.bool (FS.init.run l).1.fhead.2.2.2, .int .i64 (FS.init.run l).1.fhead.1, .int .i64 (FS.init.run l).1.fhead.2.1, .int .i64 (FS.init.run l).1.fhead.2.2.1, .slice A3 n3 c3, .int .i64 (FS.init.run l).1.fend.1, .int .i64 (FS.init.run l).1.fend.2]) ∧ Below W.heap.size W w' := by
  obtain ⟨k, hk⟩ := (judge_ev l hb hl).rounds
  refine (churnref06_Judge.calls k A c l _ _ _ _ _ _ _ W hr hc hk).mono ?_
  rintro e w' ⟨v, rfl, hv, hbl⟩
  obtain ⟨A3, c3, rfl⟩ := Kd.V_slice hv
  exact ⟨A3, _, c3, rfl, hbl⟩
end
structure FF (w W : World) (gf gg : Nat) (raw lg rawR : List Int) (vF vG v5 : Value) : Prop where
  below : Below w.heap.size w W
  ff : FeedAt W w.heap.size gf (FS.init.run raw).1 vF
  fg : FeedAt W w.heap.size gg (FS.init.run lg).1 vG
  r5 : Kd.R (Kd.int .u8) 5 W w.heap.size (fun _ => True) v5 rawR
  gfg : gf ≠ gg
  a1 : some gf ≠ vG.ownBlock
  a2 : some gg ≠ vF.ownBlock
  a3 : ∀ b, vF.ownBlock = some b → vG.ownBlock ≠ some b
  a4 : some gf ≠ v5.ownBlock
  a5 : some gg ≠ v5.ownBlock
  a6 : ∀ b, v5.ownBlock = some b → vF.ownBlock ≠ some b
  a7 : ∀ b, v5.ownBlock = some b → vG.ownBlock ≠ some b
def FB (gf gg : Nat) (vF vG v5 : Value) (b : Nat) : Prop := b = gf ∨ b = gg ∨ some b = vF.ownBlock ∨ some b = vG.ownBlock ∨ some b = v5.ownBlock
theorem FeedAt.step {W W1 : World} {base g : Nat} {s : FS} {v : Value} (h : FeedAt W base g s v) (hg : W1.heap[g]? = W.heap[g]?) (hv : ∀ b, v.ownBlock = some b → W1.heap[b]? = W.heap[b]?) (hz : W.heap.size ≤ W1.heap.size) : FeedAt W1 base g s v :=
  ⟨hg.trans h.1, h.2.1, Nat.le_trans h.2.2.1 hz, Kd.R_mono (Kd.R_step (Kd.R_tight rfl h.2.2.2) (fun k hk _ => hv k hk.symm)) (fun k hk e => h.ne (by rw [← e]; exact hk))⟩
section
variable {w W W1 : World} {gf gg : Nat} {raw lg rawR p : List Int} {vF vG v5 vF' v1 : Value}
theorem FF.lt (h : FF w W gf gg raw lg rawR vF vG v5) {b : Nat} (hb : FB gf gg vF vG v5 b) : w.heap.size ≤ b ∧ b < W.heap.size := by
  rcases hb with rfl | rfl | e | e | e
  · exact ⟨h.ff.2.1, h.ff.lt⟩
  · exact ⟨h.fg.2.1, h.fg.lt⟩
  · exact ⟨Kd.R_base h.ff.2.2.2 b e.symm, Kd.R_lt h.ff.2.2.2 b e.symm⟩
  · exact ⟨Kd.R_base h.fg.2.2.2 b e.symm, Kd.R_lt h.fg.2.2.2 b e.symm⟩
  · exact ⟨Kd.R_base h.r5 b e.symm, Kd.R_lt h.r5 b e.symm⟩
theorem FF.step (h : FF w W gf gg raw lg rawR vF vG v5) (hb : Below w.heap.size w W1) (hs : ∀ b, FB gf gg vF vG v5 b → W1.heap[b]? = W.heap[b]?) (hz : W.heap.size ≤ W1.heap.size) : FF w W1 gf gg raw lg rawR vF vG v5 :=
  { h with
    below := hb
    ff := h.ff.step (hs gf (.inl rfl)) (fun b e => hs b (.inr (.inr (.inl e.symm)))) hz
    fg := h.fg.step (hs gg (.inr (.inl rfl))) (fun b e => hs b (.inr (.inr (.inr (.inl e.symm))))) hz
    r5 := Kd.R_mono (Kd.R_step (Kd.R_tight rfl h.r5) (fun k hk _ => hs k (.inr (.inr (.inr (.inr hk)))))) (fun _ _ => trivial) }
theorem FF.next (h : FF w W gf gg raw lg rawR vF vG v5) (hb : Below W.heap.size W W1) : FF w W1 gf gg raw lg rawR vF vG v5 :=
  h.step (below_step h.below hb) (fun b hb2 => hb.block b (h.lt hb2).2) hb.size
theorem FF.app (h : FF w W gf gg raw lg rawR vF vG v5) (hr : Kd.R (Kd.int .u8) 5 W1 w.heap.size (fun _ => True) v1 (rawR ++ p)) (hg : W.grownBy W1 v5.ownBlock) (hat : v1.ownBlock = v5.ownBlock ∨ (v1.ownBlock = some W.heap.size ∧ W.grownBy W1 none)) : FF w W1 gf gg raw lg (rawR ++ p) vF vG v1 := by
  have l1 := h.ff.lt
  have l2 := h.fg.lt
  have ne : ∀ b, b < W.heap.size → some b ≠ v5.ownBlock → some b ≠ v1.ownBlock := fun b hb hn => by
    rcases hat with e | ⟨e, -⟩
    · rw [e]; exact hn
    · rw [e]; intro x; injection x with x; omega
  have kF : ∀ b, vF.ownBlock = some b → some b ≠ v5.ownBlock := fun b e x => h.a6 b x.symm e
  have kG : ∀ b, vG.ownBlock = some b → some b ≠ v5.ownBlock := fun b e x => h.a7 b x.symm e
  have lF : ∀ b, vF.ownBlock = some b → b < W.heap.size := fun b e => (h.lt (.inr (.inr (.inl e.symm)))).2
  have lG : ∀ b, vG.ownBlock = some b → b < W.heap.size := fun b e => (h.lt (.inr (.inr (.inr (.inl e.symm))))).2
  refine { h with below := h.below.grown hg h.below.size (Kd.R_base h.r5), ff := h.ff.step (hg.block gf l1 h.a4) (fun b e => hg.block b (lF b e) (kF b e)) hg.size, fg := h.fg.step (hg.block gg l2 h.a5) (fun b e => hg.block b (lG b e) (kG b e)) hg.size, r5 := hr, a4 := ne gf l1 h.a4, a5 := ne gg l2 h.a5, a6 := fun b e x => ne b (lF b x) (kF b x) e.symm, a7 := fun b e x => ne b (lG b x) (kG b x) e.symm }
theorem FF.putF (h : FF w W gf gg raw lg rawR vF vG v5) (hf : FeedAt W1 w.heap.size gf ((FS.init.run raw).1.run p).1 vF') (hm : Moved W W1 w.heap.size gf vF vF') : FF w W1 gf gg (raw ++ p) lg rawR vF' vG v5 := by
  have l1 := h.ff.lt
  have l2 := h.fg.lt
  have lG : ∀ b, vG.ownBlock = some b → b < W.heap.size := fun b e => (h.lt (.inr (.inr (.inr (.inl e.symm))))).2
  have l5 : ∀ b, v5.ownBlock = some b → b < W.heap.size := fun b e => (h.lt (.inr (.inr (.inr (.inr e.symm))))).2
  have keep : ∀ b, b < W.heap.size → b ≠ gf → some b ≠ vF.ownBlock → W1.heap[b]? = W.heap[b]? := fun b hb h1 h2 => hm.2.1.2 b hb (fun e => by rcases e with e | e; exact h1 e; exact h2 e)
  have ne : ∀ b, b < W.heap.size → some b ≠ vF.ownBlock → some b ≠ vF'.ownBlock := fun b hb hn => by
    rcases hm.2.2 with e | ⟨b2, e, hb2⟩
    · rw [e]; exact hn
    · rw [e]; intro x; injection x with x; omega
  have hz := hm.2.1.1
  refine { h with below := h.below.trans hm.1, ff := by rw [FS.run_append]; exact hf, fg := h.fg.step (keep gg l2 (fun e => h.gfg e.symm) h.a2) (fun b e => keep b (lG b e) (fun x => h.a1 (by rw [← x, e])) (fun x => h.a3 b x.symm e)) hz, r5 := ?_, a2 := ne gg l2 h.a2, a3 := fun b e x => ne b (lG b x) (fun y => h.a3 b y.symm x) e.symm, a6 := fun b e x => ne b (l5 b e) (fun y => h.a6 b e y.symm) x.symm }
  exact Kd.R_mono (Kd.R_step (Kd.R_tight rfl h.r5) (fun k hk hlt => keep k hlt (fun x => h.a4 (by rw [← x]; exact hk)) (fun x => h.a6 k hk.symm x.symm))) (fun _ _ => trivial)
theorem FF.putG (h : FF w W gf gg raw lg rawR vF vG v5) (hf : FeedAt W1 w.heap.size gg ((FS.init.run lg).1.run p).1 vF') (hm : Moved W W1 w.heap.size gg vG vF') : FF w W1 gf gg raw (lg ++ p) rawR vF vF' v5 := by
  have l1 := h.ff.lt
  have l2 := h.fg.lt
  have lF : ∀ b, vF.ownBlock = some b → b < W.heap.size := fun b e => (h.lt (.inr (.inr (.inl e.symm)))).2
  have l5 : ∀ b, v5.ownBlock = some b → b < W.heap.size := fun b e => (h.lt (.inr (.inr (.inr (.inr e.symm))))).2
  have keep : ∀ b, b < W.heap.size → b ≠ gg → some b ≠ vG.ownBlock → W1.heap[b]? = W.heap[b]? := fun b hb h1 h2 => hm.2.1.2 b hb (fun e => by rcases e with e | e; exact h1 e; exact h2 e)
  have ne : ∀ b, b < W.heap.size → some b ≠ vG.ownBlock → some b ≠ vF'.ownBlock := fun b hb hn => by
    rcases hm.2.2 with e | ⟨b2, e, hb2⟩
    · rw [e]; exact hn
    · rw [e]; intro x; injection x with x; omega
  have hz := hm.2.1.1
  refine { h with below := h.below.trans hm.1, fg := by rw [FS.run_append]; exact hf, ff := h.ff.step (keep gf l1 h.gfg h.a1) (fun b e => keep b (lF b e) (fun x => h.a2 (by rw [← x, e])) (fun x => h.a3 b e x.symm)) hz, r5 := ?_, a1 := ne gf l1 h.a1, a3 := fun b e x => ne b (lF b e) (fun y => h.a3 b e y.symm) x.symm, a7 := fun b e x => ne b (l5 b e) (fun y => h.a7 b e y.symm) x.symm }
  exact Kd.R_mono (Kd.R_step (Kd.R_tight rfl h.r5) (fun k hk hlt => keep k hlt (fun x => h.a5 (by rw [← x]; exact hk)) (fun x => h.a7 k hk.symm x.symm))) (fun _ _ => trivial)
theorem FF.callF (h : FF w W gf gg raw lg rawR vF vG v5) (hraw : Bys raw) (hp : Bys p) {A : Option Addr} {c lo hi : Nat} (hR : RK .u8 5 W lo hi (.slice A p.length c) p) (hlo : ∀ b, FB gf gg vF vG v5 b → b < lo) (hhi : hi ≤ W.heap.size) (h1 : raw.length + p.length ≤ 140737488355328) :
    Calls Try.prog 22 #[.pointer (some ⟨gf, 0, none⟩), .slice A p.length c] W fun e w' => PutPost W w.heap.size gf (FS.init.run raw).1 p vF e w' := by
  obtain ⟨hi2, hp2⟩ := run_inw raw FS.init hraw init_inw
  have hpos : (FS.init.run raw).1.pos ≤ raw.length := by have : FS.init.pos = 0 := rfl; omega
  have hp0 := hi2.p0
  have hF := Kd.R_F hR
  refine put_calls (FS.init.run raw).1 gf w.heap.size vF p A c (fun b => lo ≤ b ∧ b < hi) W h.ff hi2.okay hi2.short hF (RK.reads hR).2 (fun k hk => ⟨fun e => ?_, fun e => ?_, by have := hk.2; omega⟩) hp (by omega) (by omega) (by omega)
  · have := hlo gf (.inl rfl)
    have := hk.1
    omega
  · have := hlo k (.inr (.inr (.inl e)))
    have := hk.1
    omega
theorem FF.callG (h : FF w W gf gg raw lg rawR vF vG v5) (hraw : Bys lg) (hp : Bys p) {A : Option Addr} {c lo hi : Nat} (hR : RK .u8 5 W lo hi (.slice A p.length c) p) (hlo : ∀ b, FB gf gg vF vG v5 b → b < lo) (hhi : hi ≤ W.heap.size) (h1 : lg.length + p.length ≤ 140737488355328) :
    Calls Try.prog 22 #[.pointer (some ⟨gg, 0, none⟩), .slice A p.length c] W fun e w' => PutPost W w.heap.size gg (FS.init.run lg).1 p vG e w' := by
  obtain ⟨hi2, hp2⟩ := run_inw lg FS.init hraw init_inw
  have hpos : (FS.init.run lg).1.pos ≤ lg.length := by have : FS.init.pos = 0 := rfl; omega
  have hp0 := hi2.p0
  have hF := Kd.R_F hR
  refine put_calls (FS.init.run lg).1 gg w.heap.size vG p A c (fun b => lo ≤ b ∧ b < hi) W h.fg hi2.okay hi2.short hF (RK.reads hR).2 (fun k hk => ⟨fun e => ?_, fun e => ?_, by have := hk.2; omega⟩) hp (by omega) (by omega) (by omega)
  · have := hlo gg (.inr (.inl rfl))
    have := hk.1
    omega
  · have := hlo k (.inr (.inr (.inr (.inl e))))
    have := hk.1
    omega
end
end Go.Proofs.Ythkcadmjfkcbgaa.Q
end
