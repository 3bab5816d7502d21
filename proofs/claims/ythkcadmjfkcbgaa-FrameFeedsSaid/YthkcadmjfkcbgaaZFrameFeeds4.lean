/- Functions of the program as plain Lean functions, each with a proof that its call comes to just these answers, and the row that joins them to the given statement; no condition beside the statement's own. Written for this claim by this session's programs (pf.py, pack.py) over the kit's print. -/
import Derived.Test.YthkcadmjfkcbgaaProg
import Derived.Below
import Derived.Deep.Draws
import Derived.Deep.AppendLies
import Derived.Maps.AppendAt
import Derived.OwnWalk
import Derived.Laws.BytesArg
import Derived.Laws.MakeOwn
import Derived.Laws.OwnMore
import Derived.Deep.OwnRows
import Derived.Tactics
import Derived.Lib.ConvBytes
import Derived.Laws.Slices
import Derived.WalkKit
import Derived.KernelRfl
import Derived.RowKit3
import Derived.Deep.LoopGhost
import Derived.Deep.QuietTactic
import Derived.BigQuiet
import Derived.WideLaws
import Derived.Deep.DeepCutAuto
import Derived.Deep.CutBlock
import Derived.Deep.RegionHeld3
import Derived.Laws.Rows
import Derived.Lib.AppendStr
import Derived.ArgAppend
import Derived.Laws.IdiomCopy
import Derived.OrdersHeld
import Derived.Laws.BitsLemmas
import Derived.RowKit
import Derived.Laws.StructEq
import Derived.Test.YthkcadmjfkcbgaaZFrameFeeds0
import Derived.Test.YthkcadmjfkcbgaaZFrameFeeds1
import Derived.Test.YthkcadmjfkcbgaaZFrameFeeds2
import Derived.Test.YthkcadmjfkcbgaaZFrameFeeds3
section
namespace Go.Proofs.Ythkcadmjfkcbgaa.Q
open Go.RowKit Go.Proofs.YthkcadmjfkcbgaaW.PrintWords Go.Proofs.YthkcadmjfkcbgaaW.PrintLast Go.Proofs.YthkcadmjfkcbgaaW.PrintMore
attribute [local go_sem] max2_int min2_int max_two min_two max_three min_three max_four min_four
set_option linter.unusedVariables false
set_option linter.unusedSimpArgs false
def errW : Option Int → Value
  | none => .nilIface
  | some c => .iface 0 (.int .i64 c)
theorem errW_none : errW none = .nilIface := rfl
theorem errW_some (c : Int) : errW (some c) = .iface 0 (.int .i64 c) := rfl
theorem info5 : (Try.prog.info? 5).map (fun i => (i.zero, i.size, i.bytes)) = some (some (.int .u8 0), 1, 1) := by kernel_rfl
theorem info30 : (Try.prog.info? 30).map (fun i => (i.zero, i.size, i.bytes)) = some (some (.slice none 0 0), 1, 24) := by kernel_rfl
def rd_L1 (xs : List (List Int)) (i : Int) : (List Int) := xs.getD i.toNat ([] : List Int)
theorem at_L1 {w : World} {A : Option Addr} {n : Nat} {xs : List (List Int)} (h : Kd.C (Kd.slice 5 (Kd.int .u8)) w A n xs) (i : Int) (h0 : 0 ≤ i) (h1 : i < n) : ∃ ad A0 c0, A = some ad ∧ w.cell? (ad.add i.toNat) = some (.slice A0 (rd_L1 xs i).length c0) ∧ (rd_L1 xs i).length ≤ c0 ∧ (Kd.int .u8).C w A0 (rd_L1 xs i).length (rd_L1 xs i) := by
  obtain ⟨ad, c, e, _, hK, hc0⟩ := Kd.C_get h ([] : List Int) i h0 h1
  have hc : ∀ j u, c[j]? = some u → w.cell? (ad.add (i.toNat * 1 + j)) = some u := hc0
  obtain ⟨A0, c0, rfl, l0, g0⟩ := hK
  exact ⟨ad, A0, c0, e, by have hq := hc 0 _ rfl; rwa [Nat.mul_one, Nat.add_zero] at hq, l0, g0⟩
def frame_sum_add.l0 : Nat → List Int → Int → Int → Int → Int → Option (Int × Int)
  | 0, _, _, _, _, _ => none
  | k + 1, x7, x8, x9, x106000, x106001 => if x9 < x8 then (if 0 ≤ x9 then (if x9 < (x7.length : Int) then (frame_sum_add.l0 k x7 x8 (wrap64 (x9 + 1)) (((x106000 + ((rd x7 x9) % 4294967296)) % 4294967296) % 65521) (((x106001 + (((x106000 + ((rd x7 x9) % 4294967296)) % 4294967296) % 65521)) % 4294967296) % 65521)) else (none)) else (none)) else (some (x106000, x106001))
def frame_sum_add.f (k : Nat) (a0_0 : Int) (a0_1 : Int) (l1 : List Int) : Option (Int × Int) := frame_sum_add.l0 k l1 (l1.length : Int) 0 a0_0 a0_1
set_option maxHeartbeats 8000000 in
set_option maxRecDepth 100000 in
theorem frame_sum_add.calls (k : Nat) (a0_0 : Int) (a0_1 : Int) (A1 : Option Addr) (c1 : Nat) (l1 : List Int) (r1 : Int) (r2 : Int) (w : World) (hr1 : Kd.C (Kd.int .u8) w A1 l1.length l1) (hc1 : l1.length ≤ c1) (h : frame_sum_add.f k a0_0 a0_1 l1 = some (r1, r2)) :
    Calls Try.prog 32 #[.agg #[.int .u32 a0_0, .int .u32 a0_1], .slice A1 l1.length c1] w fun e w' => e = .returned (.agg #[.int .u32 r1, .int .u32 r2]) ∧ Below w.heap.size w w' := by
  have hu69 := Try.underlying69
  have HR1 := Aside0.mk hr1
  have HC1 := Aside0.mk hc1
  clear hr1 hc1
  have HB := Aside0.mk (Below.refl w.heap.size w)
  have H : (frame_sum_add.l0 k l1 (l1.length : Int) 0 a0_0 a0_1) = some (r1, r2) := h
  clear h
  have H' := Aside0.mk H
  clear H
  go_enter Try.func32, Try.ntmps32
  go_wp2_with (first | ((with_reducible refine gate_dst (N := 2) rfl ?_); refine box_event ?hg (N := 2) ?hd (cs := #[.int .u32 a0_0, .int .u32 a0_1]) (t := 69) ?hr ?_; (case hd => rfl); (case hg => rfl); (case hr => first | (go_simp; done) | (go_simp; rfl)); intro gb105 hg w3 hbox hb; have n0_ := Aside0.mk (below_step (by repeat (first | (with_reducible first | exact HB.out | apply below_alloc | apply pw_below_drewN | apply below_drew1) | exact HB.out)) hb); have n1_ := Aside0.mk (hbox); have n2_ := Aside0.mk ((by rw [hg]; exact (below_size (by repeat (first | (with_reducible first | exact HB.out | apply below_alloc | apply pw_below_drewN | apply below_drew1) | exact HB.out))) : w.heap.size ≤ gb105)); have n3_ := Aside0.mk ((by rw [hg]; exact (below_size (by repeat (first | (with_reducible first | exact HB.out | apply below_alloc | apply pw_below_drewN | apply below_drew1) | exact HB.out))) : w.heap.size ≤ gb105)); clear HB; have HB := n0_; have BK105 := n1_; have GW105 := n2_; have GE105 := n3_; clear n0_ n1_ n2_ n3_; clear hb hbox hg) | ((with_reducible refine gate_dst (N := 4) rfl ?_); refine box_event ?hg (N := 4) ?hd (cs := #[.int .u32 0, .int .u32 0]) (t := 69) ?hr ?_; (case hd => rfl); (case hg => rfl); (case hr => first | (go_simp; done) | (go_simp; rfl)); intro gb106 hg w4 hbox hb; have n0_ := Aside0.mk (blk_below (g := gb105) (o := .cells #[.int .u32 a0_0, .int .u32 a0_1] 69 (0, 0)) (by (with_reducible repeat (first | refine blk_drewN ?_ _ | refine blk_drew ?_ | refine blk_alloc ?_ _)); exact BK105.out) hb); have n1_ := Aside0.mk (below_step (by repeat (first | (with_reducible first | exact HB.out | apply below_alloc | apply pw_below_drewN | apply below_drew1 | refine below_set ?_ GE105.out) | exact HB.out)) hb); have n2_ := Aside0.mk (hbox); have n3_ := Aside0.mk ((by rw [hg]; exact (below_size (by repeat (first | (with_reducible first | exact HB.out | apply below_alloc | apply pw_below_drewN | apply below_drew1 | refine below_set ?_ GE105.out) | exact HB.out))) : w.heap.size ≤ gb106)); have n4_ := Aside0.mk ((by rw [hg]; exact (below_size (by repeat (first | (with_reducible first | exact HB.out | apply below_alloc | apply pw_below_drewN | apply below_drew1 | refine below_set ?_ GE105.out) | exact HB.out))) : w.heap.size ≤ gb106)); have n5_ := Aside0.mk ((by rw [hg]; exact Nat.ne_of_lt (blk_lt (g := gb105) (o := .cells #[.int .u32 a0_0, .int .u32 a0_1] 69 (0, 0)) (by (with_reducible repeat (first | refine blk_drewN ?_ _ | refine blk_drew ?_ | refine blk_alloc ?_ _)); exact BK105.out)) : gb105 ≠ gb106)); have n6_ := Aside0.mk ((by rw [hg]; exact Nat.ne_of_gt (blk_lt (g := gb105) (o := .cells #[.int .u32 a0_0, .int .u32 a0_1] 69 (0, 0)) (by (with_reducible repeat (first | refine blk_drewN ?_ _ | refine blk_drew ?_ | refine blk_alloc ?_ _)); exact BK105.out)) : gb106 ≠ gb105)); clear BK105; clear HB; have BK105 := n0_; have HB := n1_; have BK106 := n2_; have GW106 := n3_; have GE106 := n4_; have NB105_106 := n5_; have NB106_105 := n6_; clear n0_ n1_ n2_ n3_ n4_ n5_ n6_; clear hb hbox hg))
  go_loopg [9] k (fun kq v9 w' => ∃ (x9_1 : Int) (x106000_1 : Int) (x106001_1 : Int), v9 = .int .i64 x9_1 ∧ Aside0 (frame_sum_add.l0 kq l1 (l1.length : Int) x9_1 x106000_1 x106001_1 = some (r1, r2)) ∧ Aside0 (kq ≤ k) ∧ Aside0 (w'.heap[gb105]? = some (.cells #[.int .u32 x106000_1, .int .u32 x106001_1] 69 (0, 0))) ∧ Aside0 (w'.heap[gb106]? = some (.cells #[.int .u32 0, .int .u32 0] 69 (0, 0))) ∧ Aside0 (Below w.heap.size w w'))
  case atStart => exact ⟨(0), (a0_0), (a0_1), (by first | rfl | (simp; done) | (simp [*]; done)), H', ⟨Nat.le_refl _⟩, ⟨by (with_reducible repeat (first | refine blk_drewN ?_ _ | refine blk_drew ?_ | refine blk_alloc ?_ _)); exact BK105.out⟩, ⟨by (with_reducible repeat (first | refine blk_drewN ?_ _ | refine blk_drew ?_ | refine blk_alloc ?_ _)); exact BK106.out⟩, ⟨by repeat (first | (with_reducible first | exact HB.out | apply below_alloc | apply pw_below_drewN | apply below_drew1 | refine below_set ?_ GE105.out | refine below_set ?_ GE106.out) | exact HB.out)⟩⟩
  case round =>
    clear H'
    try clear c1
    try clear p2
    try clear c3
    (try clear BK105)
    (try clear BK106)
    obtain ⟨x9_1, x106000_1, x106001_1, rfl, HA, HK1, BK105, BK106, HB⟩ := hrel
    cases gk with
    | zero => exact absurd HA.out (by simp [frame_sum_add.l0])
    | succ k1 =>
      have H := HA.out
      clear HA
      simp only [frame_sum_add.l0] at H
      by_cases c5 : x9_1 < (l1.length : Int)
      · rw [if_pos c5] at H
        have c5b0 : decide (x9_1 < (l1.length : Int)) = true := decide_eq_true c5
        clear c5
        by_cases c6 : 0 ≤ x9_1
        · rw [if_pos c6] at H
          have c6b0 : decide (0 ≤ x9_1) = true := decide_eq_true c6
          clear c6
          by_cases c7 : x9_1 < (l1.length : Int)
          · rw [if_pos c7] at H
            have c7b0 : decide (x9_1 < (l1.length : Int)) = true := decide_eq_true c7
            clear c7
            have H' := Aside0.mk H
            clear H
            have p107 : 0 ≤ (x9_1 : Int) := of_decide_eq_true (by first | (with_reducible assumption) | assumption)
            have q107 : x9_1 < (l1.length : Int) := of_decide_eq_true (by first | (with_reducible assumption) | assumption)
            obtain ⟨ad107, e107, hx107_0⟩ := Kd.at_int HR1.out x9_1 p107 q107
            cases e107
            (try (replace hx107_0 := (HB.out.cell (World.block_lt_of_cell? w _ hx107_0)).trans hx107_0))
            replace p107 := eq_true p107
            replace q107 := eq_true q107
            have hnb8 := NB105_106.out
            have hnc8 := NB106_105.out
            have hcz9_0 : wr.cell? ⟨gb105, 0, none⟩ = some (.int .u32 x106000_1) := (blk_cell BK105.out 0).trans rfl
            have hcz9_1 : wr.cell? ⟨gb105, 1, none⟩ = some (.int .u32 x106001_1) := (blk_cell BK105.out 1).trans rfl
            have hfz9_0 := blk_frozen BK105.out 0
            have hfz9_1 := blk_frozen BK105.out 1
            go_wp2
            go_roundg k1
            case measure => have := HK1.out; omega
            case rel => exact ⟨(wrap64 (x9_1 + 1)), (((x106000_1 + ((rd l1 x9_1) % 4294967296)) % 4294967296) % 65521), (((x106001_1 + (((x106000_1 + ((rd l1 x9_1) % 4294967296)) % 4294967296) % 65521)) % 4294967296) % 65521), (by first | rfl | (simp; done) | (simp [*]; done)), H', ⟨by have := HK1.out; omega⟩, ⟨by (with_reducible repeat (first | refine blk_drewN ?_ _ | refine blk_drew ?_ | refine blk_alloc ?_ _)); refine blk_put (cs := #[.int .u32 (((x106000_1 + ((rd l1 x9_1) % 4294967296)) % 4294967296) % 65521), .int .u32 x106001_1]) ?_ 1 _ (by first | rfl | simp); (with_reducible repeat (first | refine blk_drewN ?_ _ | refine blk_drew ?_ | refine blk_alloc ?_ _)); refine blk_put (cs := #[.int .u32 x106000_1, .int .u32 x106001_1]) ?_ 0 _ (by first | rfl | simp); (with_reducible repeat (first | refine blk_drewN ?_ _ | refine blk_drew ?_ | refine blk_alloc ?_ _)); exact BK105.out⟩, ⟨by (with_reducible repeat (first | refine blk_drewN ?_ _ | refine blk_drew ?_ | refine blk_alloc ?_ _)); refine blk_far ?_ NB106_105.out _; (with_reducible repeat (first | refine blk_drewN ?_ _ | refine blk_drew ?_ | refine blk_alloc ?_ _)); refine blk_far ?_ NB106_105.out _; (with_reducible repeat (first | refine blk_drewN ?_ _ | refine blk_drew ?_ | refine blk_alloc ?_ _)); exact BK106.out⟩, ⟨by repeat (first | (with_reducible first | exact HB.out | apply below_alloc | apply pw_below_drewN | apply below_drew1 | refine below_set ?_ GE105.out | refine below_set ?_ GE106.out) | exact HB.out)⟩⟩
          · rw [if_neg c7] at H
            exact absurd H (by simp)
        · rw [if_neg c6] at H
          exact absurd H (by simp)
      · rw [if_neg c5] at H
        have c5b0 : decide (x9_1 < (l1.length : Int)) = false := decide_eq_false c5
        clear c5
        simp only [Option.some.injEq, Prod.mk.injEq] at H
        obtain ⟨rfl, rfl⟩ := H
        have hnb10 := NB105_106.out
        have hnc10 := NB106_105.out
        have hcz11_0 : wr.cell? ⟨gb105, 0, none⟩ = some (.int .u32 x106000_1) := (blk_cell BK105.out 0).trans rfl
        have hcz11_1 : wr.cell? ⟨gb105, 1, none⟩ = some (.int .u32 x106001_1) := (blk_cell BK105.out 1).trans rfl
        have hfz11_0 := blk_frozen BK105.out 0
        have hfz11_1 := blk_frozen BK105.out 1
        have hcz12_0 : wr.cell? ⟨gb106, 0, none⟩ = some (.int .u32 0) := (blk_cell BK106.out 0).trans rfl
        have hcz12_1 : wr.cell? ⟨gb106, 1, none⟩ = some (.int .u32 0) := (blk_cell BK106.out 1).trans rfl
        have hfz12_0 := blk_frozen BK106.out 0
        have hfz12_1 := blk_frozen BK106.out 1
        go_wp2
        refine bodyPost_ret (results_cell_row rfl _ _ gb106 69 #[.int .u32 x106000_1, .int .u32 x106001_1] (0, 0) _ rfl (by (with_reducible repeat (first | refine blk_drewN ?_ _ | refine blk_drew ?_ | refine blk_alloc ?_ _)); refine blk_put (cs := #[.int .u32 x106000_1, .int .u32 0]) ?_ 1 _ (by first | rfl | simp); (with_reducible repeat (first | refine blk_drewN ?_ _ | refine blk_drew ?_ | refine blk_alloc ?_ _)); refine blk_put (cs := #[.int .u32 0, .int .u32 0]) ?_ 0 _ (by first | rfl | simp); (with_reducible repeat (first | refine blk_drewN ?_ _ | refine blk_drew ?_ | refine blk_alloc ?_ _)); exact BK106.out) Try.underlying69 rfl (by kernel_rfl)) rfl ?_
        exact ⟨by first | rfl | (simp [errW_none, errW_some] <;> rfl) | (simp [*, errW_none, errW_some] <;> rfl), by repeat (first | (with_reducible first | exact HB.out | apply below_alloc | apply pw_below_drewN | apply below_drew1 | refine below_set ?_ GE105.out | refine below_set ?_ GE106.out) | exact HB.out)⟩
def frame_sum_foot.f (a0_0 : Int) (a0_1 : Int) : Option (Int) := some (Go.bits .or .u32 ((a0_1 * 65536) % 4294967296) a0_0)
set_option maxHeartbeats 8000000 in
set_option maxRecDepth 100000 in
theorem frame_sum_foot.calls (a0_0 : Int) (a0_1 : Int) (r : Int) (w : World) (h : frame_sum_foot.f a0_0 a0_1 = some r) :
    Calls Try.prog 33 #[.agg #[.int .u32 a0_0, .int .u32 a0_1]] w fun e w' => e = .returned (.int .u32 r) ∧ Below w.heap.size w w' := by
  have hu69 := Try.underlying69
  have HB := Aside0.mk (Below.refl w.heap.size w)
  have H : (some (Go.bits .or .u32 ((a0_1 * 65536) % 4294967296) a0_0)) = some r := h
  clear h
  obtain rfl := Option.some.inj H
  simp only [Option.some.injEq, Prod.mk.injEq] at H
  obtain ⟨rfl⟩ := H
  go_enter Try.func33, Try.ntmps33
  go_wp2_with (first | ((with_reducible refine gate_dst (N := 1) rfl ?_); refine box_event ?hg (N := 1) ?hd (cs := #[.int .u32 a0_0, .int .u32 a0_1]) (t := 69) ?hr ?_; (case hd => rfl); (case hg => rfl); (case hr => first | (go_simp; done) | (go_simp; rfl)); intro gb108 hg w2 hbox hb; have n0_ := Aside0.mk (below_step (by repeat (first | (with_reducible first | exact HB.out | apply below_alloc | apply pw_below_drewN | apply below_drew1) | exact HB.out)) hb); have n1_ := Aside0.mk (hbox); have n2_ := Aside0.mk ((by rw [hg]; exact (below_size (by repeat (first | (with_reducible first | exact HB.out | apply below_alloc | apply pw_below_drewN | apply below_drew1) | exact HB.out))) : w.heap.size ≤ gb108)); have n3_ := Aside0.mk ((by rw [hg]; exact (below_size (by repeat (first | (with_reducible first | exact HB.out | apply below_alloc | apply pw_below_drewN | apply below_drew1) | exact HB.out))) : w.heap.size ≤ gb108)); clear HB; have HB := n0_; have BK108 := n1_; have GW108 := n2_; have GE108 := n3_; clear n0_ n1_ n2_ n3_; clear hb hbox hg; have hcz3_0 : w2.cell? ⟨gb108, 0, none⟩ = some (.int .u32 a0_0) := (blk_cell BK108.out 0).trans rfl; have hcz3_1 : w2.cell? ⟨gb108, 1, none⟩ = some (.int .u32 a0_1) := (blk_cell BK108.out 1).trans rfl; have hfz3_0 := blk_frozen BK108.out 0; have hfz3_1 := blk_frozen BK108.out 1))
  go_ret
  exact ⟨by first | rfl | (simp [errW_none, errW_some] <;> rfl) | (simp [*, errW_none, errW_some] <;> rfl), by repeat (first | (with_reducible first | exact HB.out | apply below_alloc | apply pw_below_drewN | apply below_drew1 | refine below_set ?_ GE108.out) | exact HB.out)⟩
def slices_Clone_byte_byte.f (l0 : List Int) : Option (List Int) := if l0.length < 140737488355328 then some l0 else none
set_option maxHeartbeats 8000000 in
set_option maxRecDepth 100000 in
theorem slices_Clone_byte_byte.calls (A0 : Option Addr) (c0 : Nat) (l0 : List Int) (r : List Int) (w : World) (hr0 : Kd.C (Kd.int .u8) w A0 l0.length l0) (hc0 : l0.length ≤ c0) (h : slices_Clone_byte_byte.f l0 = some r) :
    Calls Try.prog 36 #[.slice A0 l0.length c0] w fun e w' => ∃ v0_ : Value, e = .returned (v0_) ∧ Kd.R (Kd.int .u8) 5 w' w.heap.size (fun _ => True) v0_ r ∧ Below w.heap.size w w' := by
  have HR0 := Aside0.mk hr0
  have HC0 := Aside0.mk hc0
  clear hc0
  have HB := Aside0.mk (Below.refl w.heap.size w)
  unfold slices_Clone_byte_byte.f at h
  by_cases c2 : l0.length < 140737488355328
  · rw [if_pos c2] at h
    have LMc2 := Aside0.mk c2
    obtain rfl := Option.some.inj h
    clear h c2
    have hnil := fun (W : World) => Lib.run_eql_slice_nil (P := Try.prog) W 30 5 A0 l0.length c0 0 0 Try.underlying30
    cases A0 with
    | none =>
      have hl : l0 = [] := by
        rcases Nat.eq_zero_or_pos l0.length with h0 | h0
        · exact List.eq_nil_of_length_eq_zero h0
        · obtain ⟨ad, he, _⟩ := hr0.2.2 h0
          cases he
      subst hl
      clear hr0
      simp only [Option.isNone_none, List.length_nil] at hnil
      go_enter Try.func36, Try.ntmps36
      go_wp2
      go_ret
      exact ⟨_, rfl, Kd.R_nil _ _ _ _ _, HB.out⟩
    | some ad0 =>
      clear hr0
      simp only [Option.isNone_some] at hnil
      go_enter Try.func36, Try.ntmps36
      go_wp2_with (first | ((with_reducible refine gate_dst (N := 5) rfl ?_); refine Kd.R_lit (Kd.int .u8) _ 5 ?hg (N := 5) ?hd (xs := ([] : List Int)) (inner := []) (ok := fun _ => True) (okp := fun _ => True) ?hr ?hp (fun _ hk => hk) trivial (Below.refl _ _) (Nat.le_refl _) (by simp) ?_; (case hd => rfl); (case hg => rfl); (case hr => first | (go_simp; done) | (go_simp; rfl)); (case hp => exact (Reps.none _ _)); intro v1 w1 ho1 hb hg_ hnew_; clear hg_ hnew_; have n0_ := Aside0.mk (Kd.R_lower ho1 (below_size HB.out)); have n1_ := Aside0.mk (below_step HB.out hb); clear HB; have HO1 := n0_; have HB := n1_; clear n0_ n1_; clear hb ho1) | ((with_reducible refine gate_builtin (b := .append) (xs := #[.tmp 5, .tmp 6]) rfl ?_); at_builtin; refine Kd.R_append_rows (Kd.int .u8) (w0 := w) w.heap.size rfl (.tmp 5) (.tmp 6) 30 5 (.int .u8 0) 1 rfl Try.underlying30 info5 rfl (by decide) (by omega) v1 ([] : List Int) l0 _ _ _ (fun _ => True) (fun _ => False) rfl rfl ?aO ?aR (fun _ _ h => h) (fun _ h => h.elim) ?aF ?aB ?aS ?aL ?_; (case aR => exact (Kd.C_below HR0.out HB.out)); (case aB => exact HB.out); (case aF => exact (fun _ _ => trivial)); (case aO => exact HO1.out); (case aS => exact (below_size HB.out)); (case aL => have := LMc2.out; simp; omega); intro v2 w2 ho hb hg hat; have n0_ := Aside0.mk (hb); have n1_ := Aside0.mk (ho); clear HB; clear HO1; have HB := n0_; have HO2 := n1_; clear n0_ n1_; clear ho hb hg hat))
      go_ret
      exact ⟨_, rfl, by have h_ := HO2.out; rw [List.nil_append] at h_; exact h_, HB.out⟩
  · rw [if_neg c2] at h
    exact absurd h (by simp)
def frame_read.l0 : Nat → Int → List Int → Int → Int → Option (Int)
  | 0, _, _, _, _ => none
  | k + 1, x3, x6, x7, x8 => if x8 < x7 then (if 0 ≤ x8 then (if x8 < (x6.length : Int) then (frame_read.l0 k (Go.bits .or .u64 (IntKind.u64.wrap (x3 * 256)) (IntKind.u64.wrap (rd x6 x8))) x6 x7 (wrap64 (x8 + 1))) else (none)) else (none)) else (some x3)
def frame_read.f (k : Nat) (l0 : List Int) : Option (Int) := frame_read.l0 k 0 l0 (l0.length : Int) 0
set_option maxHeartbeats 8000000 in
set_option maxRecDepth 100000 in
theorem frame_read.calls (k : Nat) (A0 : Option Addr) (c0 : Nat) (l0 : List Int) (r : Int) (w : World) (hr0 : Kd.C (Kd.int .u8) w A0 l0.length l0) (hc0 : l0.length ≤ c0) (h : frame_read.f k l0 = some r) :
    Calls Try.prog 42 #[.slice A0 l0.length c0] w fun e w' => e = .returned (.int .u64 r) ∧ Drawn0 w w' := by
  have HR0 := Aside0.mk hr0
  have HC0 := Aside0.mk hc0
  clear hr0 hc0
  have H : (frame_read.l0 k 0 l0 (l0.length : Int) 0) = some r := h
  clear h
  have H' := Aside0.mk H
  clear H
  go_enter Try.func42, Try.ntmps42
  go_wp2
  go_loopg [3, 8] k (fun kq v3 v8 w' => ∃ (x3_1 : Int) (x8_1 : Int), v3 = .int .u64 x3_1 ∧ v8 = .int .i64 x8_1 ∧ Aside0 (frame_read.l0 kq x3_1 l0 (l0.length : Int) x8_1 = some r) ∧ Aside0 (kq ≤ k) ∧ Drawn0 w w')
  case atStart => exact ⟨(0), (0), (by first | rfl | (simp; done) | (simp [*]; done)), (by first | rfl | (simp; done) | (simp [*]; done)), H', ⟨Nat.le_refl _⟩, by repeat (first | exact Drawn0.refl _ | apply Drawn0.step)⟩
  case round =>
    clear H'
    obtain ⟨x3_1, x8_1, rfl, rfl, HA, HK1, ⟨m1, rfl⟩⟩ := hrel
    cases gk with
    | zero => exact absurd HA.out (by simp [frame_read.l0])
    | succ k1 =>
      have H := HA.out
      clear HA
      simp only [frame_read.l0] at H
      by_cases c2 : x8_1 < (l0.length : Int)
      · rw [if_pos c2] at H
        have c2b0 : decide (x8_1 < (l0.length : Int)) = true := decide_eq_true c2
        clear c2
        by_cases c3 : 0 ≤ x8_1
        · rw [if_pos c3] at H
          have c3b0 : decide (0 ≤ x8_1) = true := decide_eq_true c3
          clear c3
          by_cases c4 : x8_1 < (l0.length : Int)
          · rw [if_pos c4] at H
            have c4b0 : decide (x8_1 < (l0.length : Int)) = true := decide_eq_true c4
            clear c4
            have H' := Aside0.mk H
            clear H
            have p146 : 0 ≤ (x8_1 : Int) := of_decide_eq_true (by first | (with_reducible assumption) | assumption)
            have q146 : x8_1 < (l0.length : Int) := of_decide_eq_true (by first | (with_reducible assumption) | assumption)
            obtain ⟨ad146, e146, hx146_0⟩ := Kd.at_int HR0.out x8_1 p146 q146
            cases e146
            replace p146 := eq_true p146
            replace q146 := eq_true q146
            go_wp2
            go_roundg k1
            case measure => have := HK1.out; omega
            case rel => exact ⟨(Go.bits .or .u64 (IntKind.u64.wrap (x3_1 * 256)) (IntKind.u64.wrap (rd l0 x8_1))), (wrap64 (x8_1 + 1)), (by first | rfl | (simp; done) | (simp [*]; done)), (by first | rfl | (simp; done) | (simp [*]; done)), H', ⟨by have := HK1.out; omega⟩, by repeat (first | exact Drawn0.refl _ | apply Drawn0.step)⟩
          · rw [if_neg c4] at H
            exact absurd H (by simp)
        · rw [if_neg c3] at H
          exact absurd H (by simp)
      · rw [if_neg c2] at H
        have c2b0 : decide (x8_1 < (l0.length : Int)) = false := decide_eq_false c2
        clear c2
        obtain rfl := Option.some.inj H
        simp only [Option.some.injEq, Prod.mk.injEq] at H
        obtain ⟨rfl⟩ := H
        go_wp2
        go_ret
        exact ⟨by first | rfl | (simp; done) | (simp [*]; done), by repeat (first | exact Drawn0.refl _ | apply Drawn0.step)⟩
end Go.Proofs.Ythkcadmjfkcbgaa.Q
end
section
namespace Go.Proofs.Ythkcadmjfkcbgaa.Q
open Go.RowKit Go.Proofs.YthkcadmjfkcbgaaW.PrintWords Go.Proofs.YthkcadmjfkcbgaaW.PrintLast Go.Proofs.YthkcadmjfkcbgaaW.PrintMore
attribute [local go_sem] max2_int min2_int max_two min_two max_three min_three max_four min_four
set_option linter.unusedVariables false
set_option linter.unusedSimpArgs false
section
open Go.Proofs.Ythkcadmjfkcbgaa.Pl
def fsz (t : Int) : Int := if t = 0 then 4 else if t = 1 then 1 else if t = 2 then 1 else if t = 3 then 2 else if t = 4 then 8 else if t = 5 then 8 else if t = 6 then 2 else if t = 7 then 320 else if t = 8 then 4 else 1
theorem fsz_pos (t : Int) : 1 ≤ fsz t ∧ fsz t ≤ 320 := by unfold fsz; repeat' split
                                                          all_goals omega
structure FS where
  (fd : List Int) (pos st left R E L a b er pl : Int)
def sumL : Int → Int → List Int → Int × Int
  | a, b, [] => (a, b)
  | a, b, c :: l => sumL ((a + c) % 65521) ((b + (a + c) % 65521) % 65521) l
def numL (l : List Int) : Int := l.foldl (fun v c => v * 256 + c) 0
def FS.nxt (s : FS) : FS := { s with st := if s.st = 5 ∨ s.st = 7 then (if s.left = 0 then 8 else 6) else s.st + 1 }
def FS.jud (s : FS) : FS × Int :=
  if s.st = 8 then (if numL s.fd = s.b * 65536 + s.a then ({ s with st := 9 }, 0) else (s, 65)) else
  let p := sumL s.a s.b s.fd
  let s := { s with a := p.1, b := p.2 }
  if s.st = 0 then (if s.fd = [67, 72, 82, 78] then (s.nxt, 0) else (s, 60)) else
  if s.st = 1 then (if rd s.fd 0 = 1 then (s.nxt, 0) else (s, 61)) else
  if s.st = 2 then (if rd s.fd 0 > 8 then ({ s with L := rd s.fd 0 }, 62) else ({ s with L := rd s.fd 0 }.nxt, 0)) else
  if s.st = 3 then (if numL s.fd > 256 then ({ s with left := numL s.fd }, 63) else ({ s with left := numL s.fd }.nxt, 0)) else
  if s.st = 4 then (if numL s.fd > 4611686018427387903 then ({ s with R := wrap64 (numL s.fd) }, 62) else ({ s with R := wrap64 (numL s.fd) }.nxt, 0)) else
  if s.st = 5 then (if numL s.fd > 4611686018427387904 then ({ s with E := wrap64 (numL s.fd) }, 62) else ({ s with E := wrap64 (numL s.fd) }.nxt, 0)) else
  if s.st = 6 then (if numL s.fd = 320 then (s.nxt, 0) else (s, 64)) else
  if s.st = 7 then ({ s with left := s.left - 1 }.nxt, 0) else (s, 66)
def FS.fill (s : FS) (l : List Int) : FS := { s with fd := s.fd ++ l, pos := s.pos + l.length }
def FS.fin (s : FS) : FS := if s.jud.2 = 0 then { s.jud.1 with er := 0, fd := [] } else { s.jud.1 with er := s.jud.2, pl := s.jud.1.pos - s.jud.1.fd.length }
def FS.byte (s : FS) (c : Int) : FS × List (List Int) :=
  if s.er ≠ 0 then (s, []) else
  if ((s.fill [c]).fd.length : Int) < fsz s.st then (s.fill [c], []) else ((s.fill [c]).fin, if s.st = 7 then [(s.fill [c]).fd] else [])
def FS.run (s : FS) : List Int → FS × List (List Int)
  | [] => (s, [])
  | c :: l => (((s.byte c).1.run l).1, (s.byte c).2 ++ ((s.byte c).1.run l).2)
def FS.init : FS := ⟨[], 0, 0, 0, 0, 0, 0, 1, 0, 0, 0⟩
theorem FS.run_append (l m : List Int) : ∀ s : FS, s.run (l ++ m) = (((s.run l).1.run m).1, (s.run l).2 ++ ((s.run l).1.run m).2) := by
  induction l with
  | nil => intro s; simp [FS.run]
  | cons c l ih => intro s; simp [FS.run, ih]
theorem FS.run_err (l : List Int) : ∀ s : FS, s.er ≠ 0 → s.run l = (s, []) := by
  induction l with
  | nil => intro s _; rfl
  | cons c l ih =>
    intro s h
    have hb : s.byte c = (s, []) := by unfold FS.byte; rw [if_pos h]
    simp [FS.run, hb, ih s h]
theorem FS.fill_nil (s : FS) : s.fill [] = s := by simp [FS.fill]
theorem FS.fill_fill (s : FS) (l m : List Int) : (s.fill l).fill m = s.fill (l ++ m) := by
  simp [FS.fill, Int.add_assoc]
theorem FS.fill_fd (s : FS) (l : List Int) : (s.fill l).fd = s.fd ++ l := rfl
theorem FS.fill_st (s : FS) (l : List Int) : (s.fill l).st = s.st := rfl
theorem FS.fill_er (s : FS) (l : List Int) : (s.fill l).er = s.er := rfl
theorem FS.run_short (l : List Int) : ∀ s : FS, s.er = 0 → (s.fd.length : Int) + l.length < fsz s.st → s.run l = (s.fill l, []) := by
  induction l with
  | nil => intro s _ _; simp [FS.run, FS.fill_nil]
  | cons c l ih =>
    intro s h0 h1
    have hb : s.byte c = (s.fill [c], []) := by
      unfold FS.byte
      rw [if_neg (by simp [h0]), if_pos (by simp only [FS.fill_fd, List.length_append, List.length_cons, List.length_nil] at h1 ⊢; omega)]
    have := ih (s.fill [c]) h0 (by simp only [FS.fill_fd, FS.fill_st, List.length_append, List.length_cons, List.length_nil] at h1 ⊢; omega)
    simp only [FS.run, hb, this, FS.fill_fill, List.nil_append]
    rfl
theorem FS.run_whole (l : List Int) (s : FS) (h0 : s.er = 0) (h1 : (s.fd.length : Int) + l.length = fsz s.st) (hl : l ≠ []) : s.run l = ((s.fill l).fin, if s.st = 7 then [s.fd ++ l] else []) := by
  obtain ⟨m, c, rfl⟩ : ∃ m c, l = m ++ [c] := ⟨l.dropLast, l.getLast hl, (List.dropLast_concat_getLast hl).symm⟩
  rw [FS.run_append, FS.run_short m s h0 (by simp only [List.length_append, List.length_cons, List.length_nil] at h1; omega)]
  have hb : (s.fill m).byte c = ((s.fill (m ++ [c])).fin, if s.st = 7 then [s.fd ++ (m ++ [c])] else []) := by
    unfold FS.byte
    rw [if_neg (by simp [FS.fill_er, h0]), FS.fill_fill, if_neg (by simp only [FS.fill_fd, FS.fill_st, List.length_append, List.length_cons, List.length_nil] at h1 ⊢; omega)]
    rfl
  simp [FS.run, hb]
theorem hu_sizes : Try.prog.underlying 84 = some (.array 10 3) := by first | exact Try.underlying84 | kernel_rfl
theorem ix_sizes (t : Int) (h0 : 0 ≤ t) (h1 : t ≤ 9) (w : World) : (Instr.index 84 (.agg #[.int .i64 4, .int .i64 1, .int .i64 1, .int .i64 2, .int .i64 8, .int .i64 8, .int .i64 2, .int .i64 320, .int .i64 4, .int .i64 1]) (.int .i64 t)).run Try.prog w = .ok (.int .i64 (fsz t)) w := by
  rcases (by omega : t = 0 ∨ t = 1 ∨ t = 2 ∨ t = 3 ∨ t = 4 ∨ t = 5 ∨ t = 6 ∨ t = 7 ∨ t = 8 ∨ t = 9) with rfl | rfl | rfl | rfl | rfl | rfl | rfl | rfl | rfl | rfl
  all_goals simp [Instr.index, run_underlying hu_sizes, asIntOf, go_sem, fsz]
theorem size_calls (g : Nat) (v0 v1 v3 v4 v5 v6 v7 v8 v9 v10 : Value) (t : Int) (w : World) (h0 : 0 ≤ t) (h1 : t ≤ 9) (hb : w.heap[g]? = some (.cells #[v0, v1, .int .i64 t, v3, v4, v5, v6, v7, v8, v9, v10] 76 (0, 0))) :
    Calls Try.prog 35 #[.pointer (some ⟨g, 0, none⟩)] w fun e w' => e = .returned (.int .i64 (fsz t)) ∧ w' = w := by
  have hu76 := Try.underlying76
  have z2 : w.cell? ⟨g, 2, none⟩ = some (.int .i64 t) := (blk_cell hb 2).trans rfl
  have X := ix_sizes t h0 h1 w
  clear hb
  go_enter Try.func35, Try.ntmps35
  go_wp2
  go_ret
  exact ⟨rfl, rfl⟩
def FS.cells (s : FS) (v : Value) : Array Value := #[v, .int .i64 s.pos, .int .i64 s.st, .int .i64 s.left, .int .i64 s.R, .int .i64 s.E, .int .i64 s.L, .int .u32 s.a, .int .u32 s.b, .int .i64 s.er, .int .i64 s.pl]
def Fed (B g : Nat) (w w' : World) : Prop := Below B w w' ∧ KeepBut w w' g none
theorem Fed.refl (B g : Nat) (w : World) : Fed B g w w := ⟨Below.refl B w, KeepBut.refl w g none⟩
theorem feed_cells {w : World} {g : Nat} {v0 v1 v2 v3 v4 v5 v6 v7 v8 v9 v10 : Value} (hb : w.heap[g]? = some (.cells #[v0, v1, v2, v3, v4, v5, v6, v7, v8, v9, v10] 76 (0, 0))) :
    (w.cell? ⟨g, 0, none⟩ = some v0 ∧ w.cell? ⟨g, 1, none⟩ = some v1 ∧ w.cell? ⟨g, 2, none⟩ = some v2 ∧ w.cell? ⟨g, 3, none⟩ = some v3 ∧ w.cell? ⟨g, 4, none⟩ = some v4 ∧ w.cell? ⟨g, 5, none⟩ = some v5 ∧ w.cell? ⟨g, 6, none⟩ = some v6 ∧ w.cell? ⟨g, 7, none⟩ = some v7 ∧ w.cell? ⟨g, 8, none⟩ = some v8 ∧ w.cell? ⟨g, 9, none⟩ = some v9 ∧ w.cell? ⟨g, 10, none⟩ = some v10) ∧
    (w.frozen? ⟨g, 0, none⟩ = false ∧ w.frozen? ⟨g, 1, none⟩ = false ∧ w.frozen? ⟨g, 2, none⟩ = false ∧ w.frozen? ⟨g, 3, none⟩ = false ∧ w.frozen? ⟨g, 4, none⟩ = false ∧ w.frozen? ⟨g, 5, none⟩ = false ∧ w.frozen? ⟨g, 6, none⟩ = false ∧ w.frozen? ⟨g, 7, none⟩ = false ∧ w.frozen? ⟨g, 8, none⟩ = false ∧ w.frozen? ⟨g, 9, none⟩ = false ∧ w.frozen? ⟨g, 10, none⟩ = false) :=
  ⟨⟨(blk_cell hb 0).trans rfl, (blk_cell hb 1).trans rfl, (blk_cell hb 2).trans rfl, (blk_cell hb 3).trans rfl, (blk_cell hb 4).trans rfl, (blk_cell hb 5).trans rfl, (blk_cell hb 6).trans rfl, (blk_cell hb 7).trans rfl, (blk_cell hb 8).trans rfl, (blk_cell hb 9).trans rfl, (blk_cell hb 10).trans rfl⟩,
   blk_frozen hb 0, blk_frozen hb 1, blk_frozen hb 2, blk_frozen hb 3, blk_frozen hb 4, blk_frozen hb 5, blk_frozen hb 6, blk_frozen hb 7, blk_frozen hb 8, blk_frozen hb 9, blk_frozen hb 10⟩
theorem seth_ {W : World} {g : Nat} {cs cs' : Array Value} (h : W.heap[g]? = some (.cells cs 76 (0, 0))) (e : cs = cs') : W.heap[g]? = some (.cells cs' 76 (0, 0)) := e ▸ h
theorem Fed.set {B g : Nat} {w W : World} (h : Fed B g w W) (hB : B ≤ g) (i : Nat) (u : Value) : Fed B g w (W.setCell ⟨g, i, none⟩ u) := ⟨h.1.setCell (p := ⟨g, i, none⟩) hB u, h.2.set_ i u⟩
theorem Fed.below {B g : Nat} {w W W' : World} (h : Fed B g w W) (hB : B ≤ W.heap.size) (k : Below W.heap.size W W') : Fed B g w W' := ⟨h.1.trans ⟨k.os, k.tape, k.output, k.size, fun i hi => k.block i (Nat.lt_of_lt_of_le hi hB)⟩, h.2.trans (KeepBut.of_below k g none) (.inl rfl)⟩
theorem Fed.drewN {B g : Nat} {w W : World} (h : Fed B g w W) (n : Nat) : Fed B g w (W.drewN n) := ⟨pw_below_drewN h.1 n, keep_drewN h.2 n⟩
theorem set_set (w : World) (g i : Nat) (u v : Value) : (w.setCell ⟨g, i, none⟩ u).setCell ⟨g, i, none⟩ v = w.setCell ⟨g, i, none⟩ v := by
  unfold World.setCell
  simp only [World.mk.injEq, and_true]
  apply Array.ext
  · simp
  · intro j h1 h2
    simp only [Array.getElem_modify]
    by_cases hj : g = j
    · simp only [hj, if_pos]
      cases w.heap[j]'(by simpa using h2) <;> simp
    · simp only [hj, if_false]
theorem jg_mid {B g : Nat} {w W w2 : World} {cs : Array Value} (h : ∃ n, w2 = W.drewN n) (hb : W.heap[g]? = some (.cells cs 76 (0, 0))) (hf : Fed B g w W) : w2.heap[g]? = some (.cells cs 76 (0, 0)) ∧ Fed B g w w2 := by
  obtain ⟨n, rfl⟩ := h
  exact ⟨blk_drewN hb n, hf.drewN n⟩
attribute [local go_sem] set_set
set_option maxHeartbeats 1000000 in
set_option maxRecDepth 100000 in
theorem jg_0a (k g B : Nat) (A : Option Addr) (c : Nat) (fd : List Int) (pos left R E L a b er pl : Int) (w : World) (base : Nat) (hB : B ≤ g)
    (hb : w.heap[g]? = some (.cells #[.slice A fd.length c, .int .i64 pos, .int .i64 0, .int .i64 (left), .int .i64 (R), .int .i64 (E), .int .i64 (L), .int .u32 a, .int .u32 b, .int .i64 er, .int .i64 pl] 76 (0, 0)))
    (hr : Kd.R (Kd.int .u8) 5 w base (fun k => k ≠ g) (.slice A fd.length c) fd) (hl : 0 < fd.length) (a' b' : Int) (hs : frame_sum_add.f k a b fd = some (a', b')) (q : (strOfNums fd).toList = [67, 72, 82, 78]) :
    Calls Try.prog 37 #[.pointer (some ⟨g, 0, none⟩)] w fun e w' => e = .returned (.int .i64 0) ∧ w'.heap[g]? = some (.cells #[.slice A fd.length c, .int .i64 pos, .int .i64 1, .int .i64 (left), .int .i64 (R), .int .i64 (E), .int .i64 (L), .int .u32 a', .int .u32 b', .int .i64 er, .int .i64 pl] 76 (0, 0)) ∧ Fed B g w w' := by
  have hu76 := Try.underlying76
  have hu69 := Try.underlying69
  have hu30 := Try.underlying30
  have hu23 := Try.underlying23
  have hu5 := Try.underlying5
  have BK := Aside0.mk hb
  have HR := Aside0.mk hr
  have hgw : B ≤ w.heap.size := Nat.le_trans hB (Nat.le_of_lt (blk_lt hb))
  obtain ⟨⟨hc0, hc1, hc2, hc3, hc4, hc5, hc6, hc7, hc8, hc9, hc10⟩, -⟩ := feed_cells hb
  clear hb hr
  have q1 := beq_iff_eq.mpr q; clear q
  obtain ⟨ad, rfl, -⟩ := Kd.at_int (Kd.R_reads' HR.out).2.2 0 (by omega) (by omega)
  go_enter Try.func37, Try.ntmps37
  go_wp2_with (first | (go_at_call 32; (with_reducible refine (frame_sum_add.calls k a b _ c fd a' b' _ (Kd.R_reads' HR.out).2.2 (Kd.R_reads' HR.out).2.1 hs).mono ?_); rintro e w1 ⟨rfl, hb1⟩; have B1 := blk_below BK.out hb1; have F1 := (Fed.refl B g w).below hgw hb1; obtain ⟨⟨z0, z1, z2, z3, z4, z5, z6, z7, z8, z9, z10⟩, f0, f1, f2, f3, f4, f5, f6, f7, f8, f9, f10⟩ := feed_cells B1; have R1 := Kd.R_keep (Kd.R_below HR.out hb1) (((KeepBut.refl w1 g none).set_ 7 (.int .u32 a')).set_ 8 (.int .u32 b')) (fun _ hk => hk); have hcv := own_string (P := Try.prog) Try.underlying30 Try.underlying5 Try.underlying9 (Kd.own_of_R R1); have B1_ := Aside0.mk B1; have F1_ := Aside0.mk F1; have R1_ := Aside0.mk R1; clear B1 F1 R1 hb1))
  go_ret
  refine ⟨rfl, ?h, ?f⟩
  case h => (apply seth_; (repeat (first | (with_reducible exact B1_.out) | (with_reducible refine blk_drewN ?_ _) | (with_reducible apply blk_set))); rfl)
  case f => repeat (first | (with_reducible exact F1_.out) | (with_reducible refine Fed.drewN ?_ _) | (with_reducible refine Fed.set ?_ hB _ _))
set_option maxHeartbeats 1000000 in
set_option maxRecDepth 100000 in
theorem jg_0b (k g B : Nat) (A : Option Addr) (c : Nat) (fd : List Int) (pos left R E L a b er pl : Int) (w : World) (base : Nat) (hB : B ≤ g)
    (hb : w.heap[g]? = some (.cells #[.slice A fd.length c, .int .i64 pos, .int .i64 0, .int .i64 (left), .int .i64 (R), .int .i64 (E), .int .i64 (L), .int .u32 a, .int .u32 b, .int .i64 er, .int .i64 pl] 76 (0, 0)))
    (hr : Kd.R (Kd.int .u8) 5 w base (fun k => k ≠ g) (.slice A fd.length c) fd) (hl : 0 < fd.length) (a' b' : Int) (hs : frame_sum_add.f k a b fd = some (a', b')) (q : ¬ (strOfNums fd).toList = [67, 72, 82, 78]) :
    Calls Try.prog 37 #[.pointer (some ⟨g, 0, none⟩)] w fun e w' => e = .returned (.int .i64 60) ∧ w'.heap[g]? = some (.cells #[.slice A fd.length c, .int .i64 pos, .int .i64 0, .int .i64 (left), .int .i64 (R), .int .i64 (E), .int .i64 (L), .int .u32 a', .int .u32 b', .int .i64 er, .int .i64 pl] 76 (0, 0)) ∧ Fed B g w w' := by
  have hu76 := Try.underlying76
  have hu69 := Try.underlying69
  have hu30 := Try.underlying30
  have hu23 := Try.underlying23
  have hu5 := Try.underlying5
  have BK := Aside0.mk hb
  have HR := Aside0.mk hr
  have hgw : B ≤ w.heap.size := Nat.le_trans hB (Nat.le_of_lt (blk_lt hb))
  obtain ⟨⟨hc0, hc1, hc2, hc3, hc4, hc5, hc6, hc7, hc8, hc9, hc10⟩, -⟩ := feed_cells hb
  clear hb hr
  have q1 := beq_eq_false_iff_ne.mpr q; clear q
  obtain ⟨ad, rfl, -⟩ := Kd.at_int (Kd.R_reads' HR.out).2.2 0 (by omega) (by omega)
  go_enter Try.func37, Try.ntmps37
  go_wp2_with (first | (go_at_call 32; (with_reducible refine (frame_sum_add.calls k a b _ c fd a' b' _ (Kd.R_reads' HR.out).2.2 (Kd.R_reads' HR.out).2.1 hs).mono ?_); rintro e w1 ⟨rfl, hb1⟩; have B1 := blk_below BK.out hb1; have F1 := (Fed.refl B g w).below hgw hb1; obtain ⟨⟨z0, z1, z2, z3, z4, z5, z6, z7, z8, z9, z10⟩, f0, f1, f2, f3, f4, f5, f6, f7, f8, f9, f10⟩ := feed_cells B1; have R1 := Kd.R_keep (Kd.R_below HR.out hb1) (((KeepBut.refl w1 g none).set_ 7 (.int .u32 a')).set_ 8 (.int .u32 b')) (fun _ hk => hk); have hcv := own_string (P := Try.prog) Try.underlying30 Try.underlying5 Try.underlying9 (Kd.own_of_R R1); have B1_ := Aside0.mk B1; have F1_ := Aside0.mk F1; have R1_ := Aside0.mk R1; clear B1 F1 R1 hb1))
  go_ret
  refine ⟨rfl, ?h, ?f⟩
  case h => (apply seth_; (repeat (first | (with_reducible exact B1_.out) | (with_reducible refine blk_drewN ?_ _) | (with_reducible apply blk_set))); rfl)
  case f => repeat (first | (with_reducible exact F1_.out) | (with_reducible refine Fed.drewN ?_ _) | (with_reducible refine Fed.set ?_ hB _ _))
set_option maxHeartbeats 1000000 in
set_option maxRecDepth 100000 in
theorem jg_1a (k g B : Nat) (A : Option Addr) (c : Nat) (fd : List Int) (pos left R E L a b er pl : Int) (w : World) (base : Nat) (hB : B ≤ g)
    (hb : w.heap[g]? = some (.cells #[.slice A fd.length c, .int .i64 pos, .int .i64 1, .int .i64 (left), .int .i64 (R), .int .i64 (E), .int .i64 (L), .int .u32 a, .int .u32 b, .int .i64 er, .int .i64 pl] 76 (0, 0)))
    (hr : Kd.R (Kd.int .u8) 5 w base (fun k => k ≠ g) (.slice A fd.length c) fd) (hl : 0 < fd.length) (a' b' : Int) (hs : frame_sum_add.f k a b fd = some (a', b')) (q : rd fd 0 = 1) :
    Calls Try.prog 37 #[.pointer (some ⟨g, 0, none⟩)] w fun e w' => e = .returned (.int .i64 0) ∧ w'.heap[g]? = some (.cells #[.slice A fd.length c, .int .i64 pos, .int .i64 2, .int .i64 (left), .int .i64 (R), .int .i64 (E), .int .i64 (L), .int .u32 a', .int .u32 b', .int .i64 er, .int .i64 pl] 76 (0, 0)) ∧ Fed B g w w' := by
  have hu76 := Try.underlying76
  have hu69 := Try.underlying69
  have hu30 := Try.underlying30
  have hu23 := Try.underlying23
  have hu5 := Try.underlying5
  have BK := Aside0.mk hb
  have HR := Aside0.mk hr
  have hgw : B ≤ w.heap.size := Nat.le_trans hB (Nat.le_of_lt (blk_lt hb))
  obtain ⟨⟨hc0, hc1, hc2, hc3, hc4, hc5, hc6, hc7, hc8, hc9, hc10⟩, -⟩ := feed_cells hb
  clear hb hr
  have q1 := beq_iff_eq.mpr q; have q2 := bne_eq_false_iff_eq.mpr q; clear q
  obtain ⟨ad, rfl, -⟩ := Kd.at_int (Kd.R_reads' HR.out).2.2 0 (by omega) (by omega)
  go_enter Try.func37, Try.ntmps37
  go_wp2_with (first | (go_at_call 32; (with_reducible refine (frame_sum_add.calls k a b _ c fd a' b' _ (Kd.R_reads' HR.out).2.2 (Kd.R_reads' HR.out).2.1 hs).mono ?_); rintro e w1 ⟨rfl, hb1⟩; have B1 := blk_below BK.out hb1; have F1 := (Fed.refl B g w).below hgw hb1; obtain ⟨⟨z0, z1, z2, z3, z4, z5, z6, z7, z8, z9, z10⟩, f0, f1, f2, f3, f4, f5, f6, f7, f8, f9, f10⟩ := feed_cells B1; have R1 := Kd.R_keep (Kd.R_below HR.out hb1) (((KeepBut.refl w1 g none).set_ 7 (.int .u32 a')).set_ 8 (.int .u32 b')) (fun _ hk => hk); obtain ⟨ad', e', hcell⟩ := Kd.at_int (Kd.R_reads' R1).2.2 0 (by omega) (by omega); cases e'; rw [show ad.add (Int.toNat 0) = ad from (by simp [Addr.add])] at hcell; have hl1 : (0 : Int) < (fd.length : Int) := (by omega); have B1_ := Aside0.mk B1; have F1_ := Aside0.mk F1; have R1_ := Aside0.mk R1; clear B1 F1 R1 hb1))
  go_ret
  refine ⟨rfl, ?h, ?f⟩
  case h => (apply seth_; (repeat (first | (with_reducible exact B1_.out) | (with_reducible refine blk_drewN ?_ _) | (with_reducible apply blk_set))); rfl)
  case f => repeat (first | (with_reducible exact F1_.out) | (with_reducible refine Fed.drewN ?_ _) | (with_reducible refine Fed.set ?_ hB _ _))
set_option maxHeartbeats 1000000 in
set_option maxRecDepth 100000 in
theorem jg_1b (k g B : Nat) (A : Option Addr) (c : Nat) (fd : List Int) (pos left R E L a b er pl : Int) (w : World) (base : Nat) (hB : B ≤ g)
    (hb : w.heap[g]? = some (.cells #[.slice A fd.length c, .int .i64 pos, .int .i64 1, .int .i64 (left), .int .i64 (R), .int .i64 (E), .int .i64 (L), .int .u32 a, .int .u32 b, .int .i64 er, .int .i64 pl] 76 (0, 0)))
    (hr : Kd.R (Kd.int .u8) 5 w base (fun k => k ≠ g) (.slice A fd.length c) fd) (hl : 0 < fd.length) (a' b' : Int) (hs : frame_sum_add.f k a b fd = some (a', b')) (q : ¬ rd fd 0 = 1) :
    Calls Try.prog 37 #[.pointer (some ⟨g, 0, none⟩)] w fun e w' => e = .returned (.int .i64 61) ∧ w'.heap[g]? = some (.cells #[.slice A fd.length c, .int .i64 pos, .int .i64 1, .int .i64 (left), .int .i64 (R), .int .i64 (E), .int .i64 (L), .int .u32 a', .int .u32 b', .int .i64 er, .int .i64 pl] 76 (0, 0)) ∧ Fed B g w w' := by
  have hu76 := Try.underlying76
  have hu69 := Try.underlying69
  have hu30 := Try.underlying30
  have hu23 := Try.underlying23
  have hu5 := Try.underlying5
  have BK := Aside0.mk hb
  have HR := Aside0.mk hr
  have hgw : B ≤ w.heap.size := Nat.le_trans hB (Nat.le_of_lt (blk_lt hb))
  obtain ⟨⟨hc0, hc1, hc2, hc3, hc4, hc5, hc6, hc7, hc8, hc9, hc10⟩, -⟩ := feed_cells hb
  clear hb hr
  have q1 := beq_eq_false_iff_ne.mpr q; have q2 := bne_iff_ne.mpr q; clear q
  obtain ⟨ad, rfl, -⟩ := Kd.at_int (Kd.R_reads' HR.out).2.2 0 (by omega) (by omega)
  go_enter Try.func37, Try.ntmps37
  go_wp2_with (first | (go_at_call 32; (with_reducible refine (frame_sum_add.calls k a b _ c fd a' b' _ (Kd.R_reads' HR.out).2.2 (Kd.R_reads' HR.out).2.1 hs).mono ?_); rintro e w1 ⟨rfl, hb1⟩; have B1 := blk_below BK.out hb1; have F1 := (Fed.refl B g w).below hgw hb1; obtain ⟨⟨z0, z1, z2, z3, z4, z5, z6, z7, z8, z9, z10⟩, f0, f1, f2, f3, f4, f5, f6, f7, f8, f9, f10⟩ := feed_cells B1; have R1 := Kd.R_keep (Kd.R_below HR.out hb1) (((KeepBut.refl w1 g none).set_ 7 (.int .u32 a')).set_ 8 (.int .u32 b')) (fun _ hk => hk); obtain ⟨ad', e', hcell⟩ := Kd.at_int (Kd.R_reads' R1).2.2 0 (by omega) (by omega); cases e'; rw [show ad.add (Int.toNat 0) = ad from (by simp [Addr.add])] at hcell; have hl1 : (0 : Int) < (fd.length : Int) := (by omega); have B1_ := Aside0.mk B1; have F1_ := Aside0.mk F1; have R1_ := Aside0.mk R1; clear B1 F1 R1 hb1))
  go_ret
  refine ⟨rfl, ?h, ?f⟩
  case h => (apply seth_; (repeat (first | (with_reducible exact B1_.out) | (with_reducible refine blk_drewN ?_ _) | (with_reducible apply blk_set))); rfl)
  case f => repeat (first | (with_reducible exact F1_.out) | (with_reducible refine Fed.drewN ?_ _) | (with_reducible refine Fed.set ?_ hB _ _))
set_option maxHeartbeats 1000000 in
set_option maxRecDepth 100000 in
theorem jg_2a (k g B : Nat) (A : Option Addr) (c : Nat) (fd : List Int) (pos left R E L a b er pl : Int) (w : World) (base : Nat) (hB : B ≤ g)
    (hb : w.heap[g]? = some (.cells #[.slice A fd.length c, .int .i64 pos, .int .i64 2, .int .i64 (left), .int .i64 (R), .int .i64 (E), .int .i64 (L), .int .u32 a, .int .u32 b, .int .i64 er, .int .i64 pl] 76 (0, 0)))
    (hr : Kd.R (Kd.int .u8) 5 w base (fun k => k ≠ g) (.slice A fd.length c) fd) (hl : 0 < fd.length) (a' b' : Int) (hs : frame_sum_add.f k a b fd = some (a', b')) (q : ¬ wrap64 (rd fd 0) > 8) :
    Calls Try.prog 37 #[.pointer (some ⟨g, 0, none⟩)] w fun e w' => e = .returned (.int .i64 0) ∧ w'.heap[g]? = some (.cells #[.slice A fd.length c, .int .i64 pos, .int .i64 3, .int .i64 (left), .int .i64 (R), .int .i64 (E), .int .i64 (wrap64 (rd fd 0)), .int .u32 a', .int .u32 b', .int .i64 er, .int .i64 pl] 76 (0, 0)) ∧ Fed B g w w' := by
  have hu76 := Try.underlying76
  have hu69 := Try.underlying69
  have hu30 := Try.underlying30
  have hu23 := Try.underlying23
  have hu5 := Try.underlying5
  have BK := Aside0.mk hb
  have HR := Aside0.mk hr
  have hgw : B ≤ w.heap.size := Nat.le_trans hB (Nat.le_of_lt (blk_lt hb))
  obtain ⟨⟨hc0, hc1, hc2, hc3, hc4, hc5, hc6, hc7, hc8, hc9, hc10⟩, -⟩ := feed_cells hb
  clear hb hr
  have q1 := decide_eq_false q; clear q
  obtain ⟨ad, rfl, -⟩ := Kd.at_int (Kd.R_reads' HR.out).2.2 0 (by omega) (by omega)
  go_enter Try.func37, Try.ntmps37
  go_wp2_with (first | (go_at_call 32; (with_reducible refine (frame_sum_add.calls k a b _ c fd a' b' _ (Kd.R_reads' HR.out).2.2 (Kd.R_reads' HR.out).2.1 hs).mono ?_); rintro e w1 ⟨rfl, hb1⟩; have B1 := blk_below BK.out hb1; have F1 := (Fed.refl B g w).below hgw hb1; obtain ⟨⟨z0, z1, z2, z3, z4, z5, z6, z7, z8, z9, z10⟩, f0, f1, f2, f3, f4, f5, f6, f7, f8, f9, f10⟩ := feed_cells B1; have R1 := Kd.R_keep (Kd.R_below HR.out hb1) (((KeepBut.refl w1 g none).set_ 7 (.int .u32 a')).set_ 8 (.int .u32 b')) (fun _ hk => hk); obtain ⟨ad', e', hcell⟩ := Kd.at_int (Kd.R_reads' R1).2.2 0 (by omega) (by omega); cases e'; rw [show ad.add (Int.toNat 0) = ad from (by simp [Addr.add])] at hcell; have hl1 : (0 : Int) < (fd.length : Int) := (by omega); have B1_ := Aside0.mk B1; have F1_ := Aside0.mk F1; have R1_ := Aside0.mk R1; clear B1 F1 R1 hb1))
  go_ret
  refine ⟨rfl, ?h, ?f⟩
  case h => (apply seth_; (repeat (first | (with_reducible exact B1_.out) | (with_reducible refine blk_drewN ?_ _) | (with_reducible apply blk_set))); rfl)
  case f => repeat (first | (with_reducible exact F1_.out) | (with_reducible refine Fed.drewN ?_ _) | (with_reducible refine Fed.set ?_ hB _ _))
set_option maxHeartbeats 1000000 in
set_option maxRecDepth 100000 in
theorem jg_2b (k g B : Nat) (A : Option Addr) (c : Nat) (fd : List Int) (pos left R E L a b er pl : Int) (w : World) (base : Nat) (hB : B ≤ g)
    (hb : w.heap[g]? = some (.cells #[.slice A fd.length c, .int .i64 pos, .int .i64 2, .int .i64 (left), .int .i64 (R), .int .i64 (E), .int .i64 (L), .int .u32 a, .int .u32 b, .int .i64 er, .int .i64 pl] 76 (0, 0)))
    (hr : Kd.R (Kd.int .u8) 5 w base (fun k => k ≠ g) (.slice A fd.length c) fd) (hl : 0 < fd.length) (a' b' : Int) (hs : frame_sum_add.f k a b fd = some (a', b')) (q : wrap64 (rd fd 0) > 8) :
    Calls Try.prog 37 #[.pointer (some ⟨g, 0, none⟩)] w fun e w' => e = .returned (.int .i64 62) ∧ w'.heap[g]? = some (.cells #[.slice A fd.length c, .int .i64 pos, .int .i64 2, .int .i64 (left), .int .i64 (R), .int .i64 (E), .int .i64 (wrap64 (rd fd 0)), .int .u32 a', .int .u32 b', .int .i64 er, .int .i64 pl] 76 (0, 0)) ∧ Fed B g w w' := by
  have hu76 := Try.underlying76
  have hu69 := Try.underlying69
  have hu30 := Try.underlying30
  have hu23 := Try.underlying23
  have hu5 := Try.underlying5
  have BK := Aside0.mk hb
  have HR := Aside0.mk hr
  have hgw : B ≤ w.heap.size := Nat.le_trans hB (Nat.le_of_lt (blk_lt hb))
  obtain ⟨⟨hc0, hc1, hc2, hc3, hc4, hc5, hc6, hc7, hc8, hc9, hc10⟩, -⟩ := feed_cells hb
  clear hb hr
  have q1 := decide_eq_true q; clear q
  obtain ⟨ad, rfl, -⟩ := Kd.at_int (Kd.R_reads' HR.out).2.2 0 (by omega) (by omega)
  go_enter Try.func37, Try.ntmps37
  go_wp2_with (first | (go_at_call 32; (with_reducible refine (frame_sum_add.calls k a b _ c fd a' b' _ (Kd.R_reads' HR.out).2.2 (Kd.R_reads' HR.out).2.1 hs).mono ?_); rintro e w1 ⟨rfl, hb1⟩; have B1 := blk_below BK.out hb1; have F1 := (Fed.refl B g w).below hgw hb1; obtain ⟨⟨z0, z1, z2, z3, z4, z5, z6, z7, z8, z9, z10⟩, f0, f1, f2, f3, f4, f5, f6, f7, f8, f9, f10⟩ := feed_cells B1; have R1 := Kd.R_keep (Kd.R_below HR.out hb1) (((KeepBut.refl w1 g none).set_ 7 (.int .u32 a')).set_ 8 (.int .u32 b')) (fun _ hk => hk); obtain ⟨ad', e', hcell⟩ := Kd.at_int (Kd.R_reads' R1).2.2 0 (by omega) (by omega); cases e'; rw [show ad.add (Int.toNat 0) = ad from (by simp [Addr.add])] at hcell; have hl1 : (0 : Int) < (fd.length : Int) := (by omega); have B1_ := Aside0.mk B1; have F1_ := Aside0.mk F1; have R1_ := Aside0.mk R1; clear B1 F1 R1 hb1))
  go_ret
  refine ⟨rfl, ?h, ?f⟩
  case h => (apply seth_; (repeat (first | (with_reducible exact B1_.out) | (with_reducible refine blk_drewN ?_ _) | (with_reducible apply blk_set))); rfl)
  case f => repeat (first | (with_reducible exact F1_.out) | (with_reducible refine Fed.drewN ?_ _) | (with_reducible refine Fed.set ?_ hB _ _))
set_option maxHeartbeats 1000000 in
set_option maxRecDepth 100000 in
theorem jg_3a (k g B : Nat) (A : Option Addr) (c : Nat) (fd : List Int) (pos left R E L a b er pl : Int) (w : World) (base : Nat) (hB : B ≤ g)
    (hb : w.heap[g]? = some (.cells #[.slice A fd.length c, .int .i64 pos, .int .i64 3, .int .i64 (left), .int .i64 (R), .int .i64 (E), .int .i64 (L), .int .u32 a, .int .u32 b, .int .i64 er, .int .i64 pl] 76 (0, 0)))
    (hr : Kd.R (Kd.int .u8) 5 w base (fun k => k ≠ g) (.slice A fd.length c) fd) (hl : 0 < fd.length) (a' b' : Int) (hs : frame_sum_add.f k a b fd = some (a', b')) (x : Int) (hx : frame_read.f k fd = some x) (q : ¬ wrap64 x > 256) :
    Calls Try.prog 37 #[.pointer (some ⟨g, 0, none⟩)] w fun e w' => e = .returned (.int .i64 0) ∧ w'.heap[g]? = some (.cells #[.slice A fd.length c, .int .i64 pos, .int .i64 4, .int .i64 (wrap64 x), .int .i64 (R), .int .i64 (E), .int .i64 (L), .int .u32 a', .int .u32 b', .int .i64 er, .int .i64 pl] 76 (0, 0)) ∧ Fed B g w w' := by
  have hu76 := Try.underlying76
  have hu69 := Try.underlying69
  have hu30 := Try.underlying30
  have hu23 := Try.underlying23
  have hu5 := Try.underlying5
  have BK := Aside0.mk hb
  have HR := Aside0.mk hr
  have hgw : B ≤ w.heap.size := Nat.le_trans hB (Nat.le_of_lt (blk_lt hb))
  obtain ⟨⟨hc0, hc1, hc2, hc3, hc4, hc5, hc6, hc7, hc8, hc9, hc10⟩, -⟩ := feed_cells hb
  clear hb hr
  have q1 := decide_eq_false q; clear q
  obtain ⟨ad, rfl, -⟩ := Kd.at_int (Kd.R_reads' HR.out).2.2 0 (by omega) (by omega)
  go_enter Try.func37, Try.ntmps37
  go_wp2_with (first | (go_at_call 32; (with_reducible refine (frame_sum_add.calls k a b _ c fd a' b' _ (Kd.R_reads' HR.out).2.2 (Kd.R_reads' HR.out).2.1 hs).mono ?_); rintro e w1 ⟨rfl, hb1⟩; have B1 := blk_below BK.out hb1; have F1 := (Fed.refl B g w).below hgw hb1; obtain ⟨⟨z0, z1, z2, z3, z4, z5, z6, z7, z8, z9, z10⟩, f0, f1, f2, f3, f4, f5, f6, f7, f8, f9, f10⟩ := feed_cells B1; have R1 := Kd.R_keep (Kd.R_below HR.out hb1) (((KeepBut.refl w1 g none).set_ 7 (.int .u32 a')).set_ 8 (.int .u32 b')) (fun _ hk => hk); have B1_ := Aside0.mk B1; have F1_ := Aside0.mk F1; have R1_ := Aside0.mk R1; clear B1 F1 R1 hb1) | (go_at_call 42; (with_reducible refine (frame_read.calls k _ c fd x _ (Kd.R_reads' R1_.out).2.2 (Kd.R_reads' R1_.out).2.1 hx).mono ?_); rintro e w2 ⟨rfl, hq2⟩; have M2 := jg_mid hq2.out (blk_set (blk_set B1_.out 7 (.int .u32 a')) 8 (.int .u32 b')) ((F1_.out.set hB 7 (.int .u32 a')).set hB 8 (.int .u32 b')); obtain ⟨B2, F2⟩ := M2; have B2' := seth_ (cs' := #[.slice (some ad) fd.length c, .int .i64 pos, .int .i64 3, .int .i64 (left), .int .i64 (R), .int .i64 (E), .int .i64 (L), .int .u32 a', .int .u32 b', .int .i64 er, .int .i64 pl]) B2 rfl; clear z0 z1 z2 z3 z4 z5 z6 z7 z8 z9 z10 f0 f1 f2 f3 f4 f5 f6 f7 f8 f9 f10 B2; clear hq2; obtain ⟨⟨z0, z1, z2, z3, z4, z5, z6, z7, z8, z9, z10⟩, f0, f1, f2, f3, f4, f5, f6, f7, f8, f9, f10⟩ := feed_cells B2'; have B2_ := Aside0.mk B2'; have F2_ := Aside0.mk F2; clear B2' F2))
  go_ret
  refine ⟨rfl, ?h, ?f⟩
  case h => (apply seth_; (repeat (first | (with_reducible exact B2_.out) | (with_reducible refine blk_drewN ?_ _) | (with_reducible apply blk_set))); rfl)
  case f => repeat (first | (with_reducible exact F2_.out) | (with_reducible refine Fed.drewN ?_ _) | (with_reducible refine Fed.set ?_ hB _ _))
set_option maxHeartbeats 1000000 in
set_option maxRecDepth 100000 in
theorem jg_3b (k g B : Nat) (A : Option Addr) (c : Nat) (fd : List Int) (pos left R E L a b er pl : Int) (w : World) (base : Nat) (hB : B ≤ g)
    (hb : w.heap[g]? = some (.cells #[.slice A fd.length c, .int .i64 pos, .int .i64 3, .int .i64 (left), .int .i64 (R), .int .i64 (E), .int .i64 (L), .int .u32 a, .int .u32 b, .int .i64 er, .int .i64 pl] 76 (0, 0)))
    (hr : Kd.R (Kd.int .u8) 5 w base (fun k => k ≠ g) (.slice A fd.length c) fd) (hl : 0 < fd.length) (a' b' : Int) (hs : frame_sum_add.f k a b fd = some (a', b')) (x : Int) (hx : frame_read.f k fd = some x) (q : wrap64 x > 256) :
    Calls Try.prog 37 #[.pointer (some ⟨g, 0, none⟩)] w fun e w' => e = .returned (.int .i64 63) ∧ w'.heap[g]? = some (.cells #[.slice A fd.length c, .int .i64 pos, .int .i64 3, .int .i64 (wrap64 x), .int .i64 (R), .int .i64 (E), .int .i64 (L), .int .u32 a', .int .u32 b', .int .i64 er, .int .i64 pl] 76 (0, 0)) ∧ Fed B g w w' := by
  have hu76 := Try.underlying76
  have hu69 := Try.underlying69
  have hu30 := Try.underlying30
  have hu23 := Try.underlying23
  have hu5 := Try.underlying5
  have BK := Aside0.mk hb
  have HR := Aside0.mk hr
  have hgw : B ≤ w.heap.size := Nat.le_trans hB (Nat.le_of_lt (blk_lt hb))
  obtain ⟨⟨hc0, hc1, hc2, hc3, hc4, hc5, hc6, hc7, hc8, hc9, hc10⟩, -⟩ := feed_cells hb
  clear hb hr
  have q1 := decide_eq_true q; clear q
  obtain ⟨ad, rfl, -⟩ := Kd.at_int (Kd.R_reads' HR.out).2.2 0 (by omega) (by omega)
  go_enter Try.func37, Try.ntmps37
  go_wp2_with (first | (go_at_call 32; (with_reducible refine (frame_sum_add.calls k a b _ c fd a' b' _ (Kd.R_reads' HR.out).2.2 (Kd.R_reads' HR.out).2.1 hs).mono ?_); rintro e w1 ⟨rfl, hb1⟩; have B1 := blk_below BK.out hb1; have F1 := (Fed.refl B g w).below hgw hb1; obtain ⟨⟨z0, z1, z2, z3, z4, z5, z6, z7, z8, z9, z10⟩, f0, f1, f2, f3, f4, f5, f6, f7, f8, f9, f10⟩ := feed_cells B1; have R1 := Kd.R_keep (Kd.R_below HR.out hb1) (((KeepBut.refl w1 g none).set_ 7 (.int .u32 a')).set_ 8 (.int .u32 b')) (fun _ hk => hk); have B1_ := Aside0.mk B1; have F1_ := Aside0.mk F1; have R1_ := Aside0.mk R1; clear B1 F1 R1 hb1) | (go_at_call 42; (with_reducible refine (frame_read.calls k _ c fd x _ (Kd.R_reads' R1_.out).2.2 (Kd.R_reads' R1_.out).2.1 hx).mono ?_); rintro e w2 ⟨rfl, hq2⟩; have M2 := jg_mid hq2.out (blk_set (blk_set B1_.out 7 (.int .u32 a')) 8 (.int .u32 b')) ((F1_.out.set hB 7 (.int .u32 a')).set hB 8 (.int .u32 b')); obtain ⟨B2, F2⟩ := M2; have B2' := seth_ (cs' := #[.slice (some ad) fd.length c, .int .i64 pos, .int .i64 3, .int .i64 (left), .int .i64 (R), .int .i64 (E), .int .i64 (L), .int .u32 a', .int .u32 b', .int .i64 er, .int .i64 pl]) B2 rfl; clear z0 z1 z2 z3 z4 z5 z6 z7 z8 z9 z10 f0 f1 f2 f3 f4 f5 f6 f7 f8 f9 f10 B2; clear hq2; obtain ⟨⟨z0, z1, z2, z3, z4, z5, z6, z7, z8, z9, z10⟩, f0, f1, f2, f3, f4, f5, f6, f7, f8, f9, f10⟩ := feed_cells B2'; have B2_ := Aside0.mk B2'; have F2_ := Aside0.mk F2; clear B2' F2))
  go_ret
  refine ⟨rfl, ?h, ?f⟩
  case h => (apply seth_; (repeat (first | (with_reducible exact B2_.out) | (with_reducible refine blk_drewN ?_ _) | (with_reducible apply blk_set))); rfl)
  case f => repeat (first | (with_reducible exact F2_.out) | (with_reducible refine Fed.drewN ?_ _) | (with_reducible refine Fed.set ?_ hB _ _))
set_option maxHeartbeats 1000000 in
set_option maxRecDepth 100000 in
theorem jg_4a (k g B : Nat) (A : Option Addr) (c : Nat) (fd : List Int) (pos left R E L a b er pl : Int) (w : World) (base : Nat) (hB : B ≤ g)
    (hb : w.heap[g]? = some (.cells #[.slice A fd.length c, .int .i64 pos, .int .i64 4, .int .i64 (left), .int .i64 (R), .int .i64 (E), .int .i64 (L), .int .u32 a, .int .u32 b, .int .i64 er, .int .i64 pl] 76 (0, 0)))
    (hr : Kd.R (Kd.int .u8) 5 w base (fun k => k ≠ g) (.slice A fd.length c) fd) (hl : 0 < fd.length) (a' b' : Int) (hs : frame_sum_add.f k a b fd = some (a', b')) (x : Int) (hx : frame_read.f k fd = some x) (q : ¬ x > 4611686018427387903) :
    Calls Try.prog 37 #[.pointer (some ⟨g, 0, none⟩)] w fun e w' => e = .returned (.int .i64 0) ∧ w'.heap[g]? = some (.cells #[.slice A fd.length c, .int .i64 pos, .int .i64 5, .int .i64 (left), .int .i64 (wrap64 x), .int .i64 (E), .int .i64 (L), .int .u32 a', .int .u32 b', .int .i64 er, .int .i64 pl] 76 (0, 0)) ∧ Fed B g w w' := by
  have hu76 := Try.underlying76
  have hu69 := Try.underlying69
  have hu30 := Try.underlying30
  have hu23 := Try.underlying23
  have hu5 := Try.underlying5
  have BK := Aside0.mk hb
  have HR := Aside0.mk hr
  have hgw : B ≤ w.heap.size := Nat.le_trans hB (Nat.le_of_lt (blk_lt hb))
  obtain ⟨⟨hc0, hc1, hc2, hc3, hc4, hc5, hc6, hc7, hc8, hc9, hc10⟩, -⟩ := feed_cells hb
  clear hb hr
  have q1 := decide_eq_false q; clear q
  obtain ⟨ad, rfl, -⟩ := Kd.at_int (Kd.R_reads' HR.out).2.2 0 (by omega) (by omega)
  go_enter Try.func37, Try.ntmps37
  go_wp2_with (first | (go_at_call 32; (with_reducible refine (frame_sum_add.calls k a b _ c fd a' b' _ (Kd.R_reads' HR.out).2.2 (Kd.R_reads' HR.out).2.1 hs).mono ?_); rintro e w1 ⟨rfl, hb1⟩; have B1 := blk_below BK.out hb1; have F1 := (Fed.refl B g w).below hgw hb1; obtain ⟨⟨z0, z1, z2, z3, z4, z5, z6, z7, z8, z9, z10⟩, f0, f1, f2, f3, f4, f5, f6, f7, f8, f9, f10⟩ := feed_cells B1; have R1 := Kd.R_keep (Kd.R_below HR.out hb1) (((KeepBut.refl w1 g none).set_ 7 (.int .u32 a')).set_ 8 (.int .u32 b')) (fun _ hk => hk); have B1_ := Aside0.mk B1; have F1_ := Aside0.mk F1; have R1_ := Aside0.mk R1; clear B1 F1 R1 hb1) | (go_at_call 42; (with_reducible refine (frame_read.calls k _ c fd x _ (Kd.R_reads' R1_.out).2.2 (Kd.R_reads' R1_.out).2.1 hx).mono ?_); rintro e w2 ⟨rfl, hq2⟩; have M2 := jg_mid hq2.out (blk_set (blk_set B1_.out 7 (.int .u32 a')) 8 (.int .u32 b')) ((F1_.out.set hB 7 (.int .u32 a')).set hB 8 (.int .u32 b')); obtain ⟨B2, F2⟩ := M2; have B2' := seth_ (cs' := #[.slice (some ad) fd.length c, .int .i64 pos, .int .i64 4, .int .i64 (left), .int .i64 (R), .int .i64 (E), .int .i64 (L), .int .u32 a', .int .u32 b', .int .i64 er, .int .i64 pl]) B2 rfl; clear z0 z1 z2 z3 z4 z5 z6 z7 z8 z9 z10 f0 f1 f2 f3 f4 f5 f6 f7 f8 f9 f10 B2; clear hq2; obtain ⟨⟨z0, z1, z2, z3, z4, z5, z6, z7, z8, z9, z10⟩, f0, f1, f2, f3, f4, f5, f6, f7, f8, f9, f10⟩ := feed_cells B2'; have B2_ := Aside0.mk B2'; have F2_ := Aside0.mk F2; clear B2' F2))
  go_ret
  refine ⟨rfl, ?h, ?f⟩
  case h => (apply seth_; (repeat (first | (with_reducible exact B2_.out) | (with_reducible refine blk_drewN ?_ _) | (with_reducible apply blk_set))); rfl)
  case f => repeat (first | (with_reducible exact F2_.out) | (with_reducible refine Fed.drewN ?_ _) | (with_reducible refine Fed.set ?_ hB _ _))
set_option maxHeartbeats 1000000 in
set_option maxRecDepth 100000 in
theorem jg_4b (k g B : Nat) (A : Option Addr) (c : Nat) (fd : List Int) (pos left R E L a b er pl : Int) (w : World) (base : Nat) (hB : B ≤ g)
    (hb : w.heap[g]? = some (.cells #[.slice A fd.length c, .int .i64 pos, .int .i64 4, .int .i64 (left), .int .i64 (R), .int .i64 (E), .int .i64 (L), .int .u32 a, .int .u32 b, .int .i64 er, .int .i64 pl] 76 (0, 0)))
    (hr : Kd.R (Kd.int .u8) 5 w base (fun k => k ≠ g) (.slice A fd.length c) fd) (hl : 0 < fd.length) (a' b' : Int) (hs : frame_sum_add.f k a b fd = some (a', b')) (x : Int) (hx : frame_read.f k fd = some x) (q : x > 4611686018427387903) :
    Calls Try.prog 37 #[.pointer (some ⟨g, 0, none⟩)] w fun e w' => e = .returned (.int .i64 62) ∧ w'.heap[g]? = some (.cells #[.slice A fd.length c, .int .i64 pos, .int .i64 4, .int .i64 (left), .int .i64 (wrap64 x), .int .i64 (E), .int .i64 (L), .int .u32 a', .int .u32 b', .int .i64 er, .int .i64 pl] 76 (0, 0)) ∧ Fed B g w w' := by
  have hu76 := Try.underlying76
  have hu69 := Try.underlying69
  have hu30 := Try.underlying30
  have hu23 := Try.underlying23
  have hu5 := Try.underlying5
  have BK := Aside0.mk hb
  have HR := Aside0.mk hr
  have hgw : B ≤ w.heap.size := Nat.le_trans hB (Nat.le_of_lt (blk_lt hb))
  obtain ⟨⟨hc0, hc1, hc2, hc3, hc4, hc5, hc6, hc7, hc8, hc9, hc10⟩, -⟩ := feed_cells hb
  clear hb hr
  have q1 := decide_eq_true q; clear q
  obtain ⟨ad, rfl, -⟩ := Kd.at_int (Kd.R_reads' HR.out).2.2 0 (by omega) (by omega)
  go_enter Try.func37, Try.ntmps37
  go_wp2_with (first | (go_at_call 32; (with_reducible refine (frame_sum_add.calls k a b _ c fd a' b' _ (Kd.R_reads' HR.out).2.2 (Kd.R_reads' HR.out).2.1 hs).mono ?_); rintro e w1 ⟨rfl, hb1⟩; have B1 := blk_below BK.out hb1; have F1 := (Fed.refl B g w).below hgw hb1; obtain ⟨⟨z0, z1, z2, z3, z4, z5, z6, z7, z8, z9, z10⟩, f0, f1, f2, f3, f4, f5, f6, f7, f8, f9, f10⟩ := feed_cells B1; have R1 := Kd.R_keep (Kd.R_below HR.out hb1) (((KeepBut.refl w1 g none).set_ 7 (.int .u32 a')).set_ 8 (.int .u32 b')) (fun _ hk => hk); have B1_ := Aside0.mk B1; have F1_ := Aside0.mk F1; have R1_ := Aside0.mk R1; clear B1 F1 R1 hb1) | (go_at_call 42; (with_reducible refine (frame_read.calls k _ c fd x _ (Kd.R_reads' R1_.out).2.2 (Kd.R_reads' R1_.out).2.1 hx).mono ?_); rintro e w2 ⟨rfl, hq2⟩; have M2 := jg_mid hq2.out (blk_set (blk_set B1_.out 7 (.int .u32 a')) 8 (.int .u32 b')) ((F1_.out.set hB 7 (.int .u32 a')).set hB 8 (.int .u32 b')); obtain ⟨B2, F2⟩ := M2; have B2' := seth_ (cs' := #[.slice (some ad) fd.length c, .int .i64 pos, .int .i64 4, .int .i64 (left), .int .i64 (R), .int .i64 (E), .int .i64 (L), .int .u32 a', .int .u32 b', .int .i64 er, .int .i64 pl]) B2 rfl; clear z0 z1 z2 z3 z4 z5 z6 z7 z8 z9 z10 f0 f1 f2 f3 f4 f5 f6 f7 f8 f9 f10 B2; clear hq2; obtain ⟨⟨z0, z1, z2, z3, z4, z5, z6, z7, z8, z9, z10⟩, f0, f1, f2, f3, f4, f5, f6, f7, f8, f9, f10⟩ := feed_cells B2'; have B2_ := Aside0.mk B2'; have F2_ := Aside0.mk F2; clear B2' F2))
  go_ret
  refine ⟨rfl, ?h, ?f⟩
  case h => (apply seth_; (repeat (first | (with_reducible exact B2_.out) | (with_reducible refine blk_drewN ?_ _) | (with_reducible apply blk_set))); rfl)
  case f => repeat (first | (with_reducible exact F2_.out) | (with_reducible refine Fed.drewN ?_ _) | (with_reducible refine Fed.set ?_ hB _ _))
set_option maxHeartbeats 1000000 in
set_option maxRecDepth 100000 in
theorem jg_5a (k g B : Nat) (A : Option Addr) (c : Nat) (fd : List Int) (pos left R E L a b er pl : Int) (w : World) (base : Nat) (hB : B ≤ g)
    (hb : w.heap[g]? = some (.cells #[.slice A fd.length c, .int .i64 pos, .int .i64 5, .int .i64 (left), .int .i64 (R), .int .i64 (E), .int .i64 (L), .int .u32 a, .int .u32 b, .int .i64 er, .int .i64 pl] 76 (0, 0)))
    (hr : Kd.R (Kd.int .u8) 5 w base (fun k => k ≠ g) (.slice A fd.length c) fd) (hl : 0 < fd.length) (a' b' : Int) (hs : frame_sum_add.f k a b fd = some (a', b')) (x : Int) (hx : frame_read.f k fd = some x) (q : ¬ x > 4611686018427387904) (p : left = 0) :
    Calls Try.prog 37 #[.pointer (some ⟨g, 0, none⟩)] w fun e w' => e = .returned (.int .i64 0) ∧ w'.heap[g]? = some (.cells #[.slice A fd.length c, .int .i64 pos, .int .i64 8, .int .i64 (left), .int .i64 (R), .int .i64 (wrap64 x), .int .i64 (L), .int .u32 a', .int .u32 b', .int .i64 er, .int .i64 pl] 76 (0, 0)) ∧ Fed B g w w' := by
  have hu76 := Try.underlying76
  have hu69 := Try.underlying69
  have hu30 := Try.underlying30
  have hu23 := Try.underlying23
  have hu5 := Try.underlying5
  have BK := Aside0.mk hb
  have HR := Aside0.mk hr
  have hgw : B ≤ w.heap.size := Nat.le_trans hB (Nat.le_of_lt (blk_lt hb))
  obtain ⟨⟨hc0, hc1, hc2, hc3, hc4, hc5, hc6, hc7, hc8, hc9, hc10⟩, -⟩ := feed_cells hb
  clear hb hr
  subst p; have q1 := decide_eq_false q; clear q
  obtain ⟨ad, rfl, -⟩ := Kd.at_int (Kd.R_reads' HR.out).2.2 0 (by omega) (by omega)
  go_enter Try.func37, Try.ntmps37
  go_wp2_with (first | (go_at_call 32; (with_reducible refine (frame_sum_add.calls k a b _ c fd a' b' _ (Kd.R_reads' HR.out).2.2 (Kd.R_reads' HR.out).2.1 hs).mono ?_); rintro e w1 ⟨rfl, hb1⟩; have B1 := blk_below BK.out hb1; have F1 := (Fed.refl B g w).below hgw hb1; obtain ⟨⟨z0, z1, z2, z3, z4, z5, z6, z7, z8, z9, z10⟩, f0, f1, f2, f3, f4, f5, f6, f7, f8, f9, f10⟩ := feed_cells B1; have R1 := Kd.R_keep (Kd.R_below HR.out hb1) (((KeepBut.refl w1 g none).set_ 7 (.int .u32 a')).set_ 8 (.int .u32 b')) (fun _ hk => hk); have B1_ := Aside0.mk B1; have F1_ := Aside0.mk F1; have R1_ := Aside0.mk R1; clear B1 F1 R1 hb1) | (go_at_call 42; (with_reducible refine (frame_read.calls k _ c fd x _ (Kd.R_reads' R1_.out).2.2 (Kd.R_reads' R1_.out).2.1 hx).mono ?_); rintro e w2 ⟨rfl, hq2⟩; have M2 := jg_mid hq2.out (blk_set (blk_set B1_.out 7 (.int .u32 a')) 8 (.int .u32 b')) ((F1_.out.set hB 7 (.int .u32 a')).set hB 8 (.int .u32 b')); obtain ⟨B2, F2⟩ := M2; have B2' := seth_ (cs' := #[.slice (some ad) fd.length c, .int .i64 pos, .int .i64 5, .int .i64 (0), .int .i64 (R), .int .i64 (E), .int .i64 (L), .int .u32 a', .int .u32 b', .int .i64 er, .int .i64 pl]) B2 rfl; clear z0 z1 z2 z3 z4 z5 z6 z7 z8 z9 z10 f0 f1 f2 f3 f4 f5 f6 f7 f8 f9 f10 B2; clear hq2; obtain ⟨⟨z0, z1, z2, z3, z4, z5, z6, z7, z8, z9, z10⟩, f0, f1, f2, f3, f4, f5, f6, f7, f8, f9, f10⟩ := feed_cells B2'; have B2_ := Aside0.mk B2'; have F2_ := Aside0.mk F2; clear B2' F2))
  go_ret
  refine ⟨rfl, ?h, ?f⟩
  case h => (apply seth_; (repeat (first | (with_reducible exact B2_.out) | (with_reducible refine blk_drewN ?_ _) | (with_reducible apply blk_set))); rfl)
  case f => repeat (first | (with_reducible exact F2_.out) | (with_reducible refine Fed.drewN ?_ _) | (with_reducible refine Fed.set ?_ hB _ _))
set_option maxHeartbeats 1000000 in
set_option maxRecDepth 100000 in
theorem jg_5b (k g B : Nat) (A : Option Addr) (c : Nat) (fd : List Int) (pos left R E L a b er pl : Int) (w : World) (base : Nat) (hB : B ≤ g)
    (hb : w.heap[g]? = some (.cells #[.slice A fd.length c, .int .i64 pos, .int .i64 5, .int .i64 (left), .int .i64 (R), .int .i64 (E), .int .i64 (L), .int .u32 a, .int .u32 b, .int .i64 er, .int .i64 pl] 76 (0, 0)))
    (hr : Kd.R (Kd.int .u8) 5 w base (fun k => k ≠ g) (.slice A fd.length c) fd) (hl : 0 < fd.length) (a' b' : Int) (hs : frame_sum_add.f k a b fd = some (a', b')) (x : Int) (hx : frame_read.f k fd = some x) (q : ¬ x > 4611686018427387904) (p : ¬ left = 0) :
    Calls Try.prog 37 #[.pointer (some ⟨g, 0, none⟩)] w fun e w' => e = .returned (.int .i64 0) ∧ w'.heap[g]? = some (.cells #[.slice A fd.length c, .int .i64 pos, .int .i64 6, .int .i64 (left), .int .i64 (R), .int .i64 (wrap64 x), .int .i64 (L), .int .u32 a', .int .u32 b', .int .i64 er, .int .i64 pl] 76 (0, 0)) ∧ Fed B g w w' := by
  have hu76 := Try.underlying76
  have hu69 := Try.underlying69
  have hu30 := Try.underlying30
  have hu23 := Try.underlying23
  have hu5 := Try.underlying5
  have BK := Aside0.mk hb
  have HR := Aside0.mk hr
  have hgw : B ≤ w.heap.size := Nat.le_trans hB (Nat.le_of_lt (blk_lt hb))
  obtain ⟨⟨hc0, hc1, hc2, hc3, hc4, hc5, hc6, hc7, hc8, hc9, hc10⟩, -⟩ := feed_cells hb
  clear hb hr
  have q1 := decide_eq_false q; have p1 := beq_eq_false_iff_ne.mpr p; clear q p
  obtain ⟨ad, rfl, -⟩ := Kd.at_int (Kd.R_reads' HR.out).2.2 0 (by omega) (by omega)
  go_enter Try.func37, Try.ntmps37
  go_wp2_with (first | (go_at_call 32; (with_reducible refine (frame_sum_add.calls k a b _ c fd a' b' _ (Kd.R_reads' HR.out).2.2 (Kd.R_reads' HR.out).2.1 hs).mono ?_); rintro e w1 ⟨rfl, hb1⟩; have B1 := blk_below BK.out hb1; have F1 := (Fed.refl B g w).below hgw hb1; obtain ⟨⟨z0, z1, z2, z3, z4, z5, z6, z7, z8, z9, z10⟩, f0, f1, f2, f3, f4, f5, f6, f7, f8, f9, f10⟩ := feed_cells B1; have R1 := Kd.R_keep (Kd.R_below HR.out hb1) (((KeepBut.refl w1 g none).set_ 7 (.int .u32 a')).set_ 8 (.int .u32 b')) (fun _ hk => hk); have B1_ := Aside0.mk B1; have F1_ := Aside0.mk F1; have R1_ := Aside0.mk R1; clear B1 F1 R1 hb1) | (go_at_call 42; (with_reducible refine (frame_read.calls k _ c fd x _ (Kd.R_reads' R1_.out).2.2 (Kd.R_reads' R1_.out).2.1 hx).mono ?_); rintro e w2 ⟨rfl, hq2⟩; have M2 := jg_mid hq2.out (blk_set (blk_set B1_.out 7 (.int .u32 a')) 8 (.int .u32 b')) ((F1_.out.set hB 7 (.int .u32 a')).set hB 8 (.int .u32 b')); obtain ⟨B2, F2⟩ := M2; have B2' := seth_ (cs' := #[.slice (some ad) fd.length c, .int .i64 pos, .int .i64 5, .int .i64 (left), .int .i64 (R), .int .i64 (E), .int .i64 (L), .int .u32 a', .int .u32 b', .int .i64 er, .int .i64 pl]) B2 rfl; clear z0 z1 z2 z3 z4 z5 z6 z7 z8 z9 z10 f0 f1 f2 f3 f4 f5 f6 f7 f8 f9 f10 B2; clear hq2; obtain ⟨⟨z0, z1, z2, z3, z4, z5, z6, z7, z8, z9, z10⟩, f0, f1, f2, f3, f4, f5, f6, f7, f8, f9, f10⟩ := feed_cells B2'; have B2_ := Aside0.mk B2'; have F2_ := Aside0.mk F2; clear B2' F2))
  go_ret
  refine ⟨rfl, ?h, ?f⟩
  case h => (apply seth_; (repeat (first | (with_reducible exact B2_.out) | (with_reducible refine blk_drewN ?_ _) | (with_reducible apply blk_set))); rfl)
  case f => repeat (first | (with_reducible exact F2_.out) | (with_reducible refine Fed.drewN ?_ _) | (with_reducible refine Fed.set ?_ hB _ _))
set_option maxHeartbeats 1000000 in
set_option maxRecDepth 100000 in
theorem jg_5c (k g B : Nat) (A : Option Addr) (c : Nat) (fd : List Int) (pos left R E L a b er pl : Int) (w : World) (base : Nat) (hB : B ≤ g)
    (hb : w.heap[g]? = some (.cells #[.slice A fd.length c, .int .i64 pos, .int .i64 5, .int .i64 (left), .int .i64 (R), .int .i64 (E), .int .i64 (L), .int .u32 a, .int .u32 b, .int .i64 er, .int .i64 pl] 76 (0, 0)))
    (hr : Kd.R (Kd.int .u8) 5 w base (fun k => k ≠ g) (.slice A fd.length c) fd) (hl : 0 < fd.length) (a' b' : Int) (hs : frame_sum_add.f k a b fd = some (a', b')) (x : Int) (hx : frame_read.f k fd = some x) (q : x > 4611686018427387904) :
    Calls Try.prog 37 #[.pointer (some ⟨g, 0, none⟩)] w fun e w' => e = .returned (.int .i64 62) ∧ w'.heap[g]? = some (.cells #[.slice A fd.length c, .int .i64 pos, .int .i64 5, .int .i64 (left), .int .i64 (R), .int .i64 (wrap64 x), .int .i64 (L), .int .u32 a', .int .u32 b', .int .i64 er, .int .i64 pl] 76 (0, 0)) ∧ Fed B g w w' := by
  have hu76 := Try.underlying76
  have hu69 := Try.underlying69
  have hu30 := Try.underlying30
  have hu23 := Try.underlying23
  have hu5 := Try.underlying5
  have BK := Aside0.mk hb
  have HR := Aside0.mk hr
  have hgw : B ≤ w.heap.size := Nat.le_trans hB (Nat.le_of_lt (blk_lt hb))
  obtain ⟨⟨hc0, hc1, hc2, hc3, hc4, hc5, hc6, hc7, hc8, hc9, hc10⟩, -⟩ := feed_cells hb
  clear hb hr
  have q1 := decide_eq_true q; clear q
  obtain ⟨ad, rfl, -⟩ := Kd.at_int (Kd.R_reads' HR.out).2.2 0 (by omega) (by omega)
  go_enter Try.func37, Try.ntmps37
  go_wp2_with (first | (go_at_call 32; (with_reducible refine (frame_sum_add.calls k a b _ c fd a' b' _ (Kd.R_reads' HR.out).2.2 (Kd.R_reads' HR.out).2.1 hs).mono ?_); rintro e w1 ⟨rfl, hb1⟩; have B1 := blk_below BK.out hb1; have F1 := (Fed.refl B g w).below hgw hb1; obtain ⟨⟨z0, z1, z2, z3, z4, z5, z6, z7, z8, z9, z10⟩, f0, f1, f2, f3, f4, f5, f6, f7, f8, f9, f10⟩ := feed_cells B1; have R1 := Kd.R_keep (Kd.R_below HR.out hb1) (((KeepBut.refl w1 g none).set_ 7 (.int .u32 a')).set_ 8 (.int .u32 b')) (fun _ hk => hk); have B1_ := Aside0.mk B1; have F1_ := Aside0.mk F1; have R1_ := Aside0.mk R1; clear B1 F1 R1 hb1) | (go_at_call 42; (with_reducible refine (frame_read.calls k _ c fd x _ (Kd.R_reads' R1_.out).2.2 (Kd.R_reads' R1_.out).2.1 hx).mono ?_); rintro e w2 ⟨rfl, hq2⟩; have M2 := jg_mid hq2.out (blk_set (blk_set B1_.out 7 (.int .u32 a')) 8 (.int .u32 b')) ((F1_.out.set hB 7 (.int .u32 a')).set hB 8 (.int .u32 b')); obtain ⟨B2, F2⟩ := M2; have B2' := seth_ (cs' := #[.slice (some ad) fd.length c, .int .i64 pos, .int .i64 5, .int .i64 (left), .int .i64 (R), .int .i64 (E), .int .i64 (L), .int .u32 a', .int .u32 b', .int .i64 er, .int .i64 pl]) B2 rfl; clear z0 z1 z2 z3 z4 z5 z6 z7 z8 z9 z10 f0 f1 f2 f3 f4 f5 f6 f7 f8 f9 f10 B2; clear hq2; obtain ⟨⟨z0, z1, z2, z3, z4, z5, z6, z7, z8, z9, z10⟩, f0, f1, f2, f3, f4, f5, f6, f7, f8, f9, f10⟩ := feed_cells B2'; have B2_ := Aside0.mk B2'; have F2_ := Aside0.mk F2; clear B2' F2))
  go_ret
  refine ⟨rfl, ?h, ?f⟩
  case h => (apply seth_; (repeat (first | (with_reducible exact B2_.out) | (with_reducible refine blk_drewN ?_ _) | (with_reducible apply blk_set))); rfl)
  case f => repeat (first | (with_reducible exact F2_.out) | (with_reducible refine Fed.drewN ?_ _) | (with_reducible refine Fed.set ?_ hB _ _))
set_option maxHeartbeats 1000000 in
set_option maxRecDepth 100000 in
theorem jg_6a (k g B : Nat) (A : Option Addr) (c : Nat) (fd : List Int) (pos left R E L a b er pl : Int) (w : World) (base : Nat) (hB : B ≤ g)
    (hb : w.heap[g]? = some (.cells #[.slice A fd.length c, .int .i64 pos, .int .i64 6, .int .i64 (left), .int .i64 (R), .int .i64 (E), .int .i64 (L), .int .u32 a, .int .u32 b, .int .i64 er, .int .i64 pl] 76 (0, 0)))
    (hr : Kd.R (Kd.int .u8) 5 w base (fun k => k ≠ g) (.slice A fd.length c) fd) (hl : 0 < fd.length) (a' b' : Int) (hs : frame_sum_add.f k a b fd = some (a', b')) (x : Int) (hx : frame_read.f k fd = some x) (q : x = 320) :
    Calls Try.prog 37 #[.pointer (some ⟨g, 0, none⟩)] w fun e w' => e = .returned (.int .i64 0) ∧ w'.heap[g]? = some (.cells #[.slice A fd.length c, .int .i64 pos, .int .i64 7, .int .i64 (left), .int .i64 (R), .int .i64 (E), .int .i64 (L), .int .u32 a', .int .u32 b', .int .i64 er, .int .i64 pl] 76 (0, 0)) ∧ Fed B g w w' := by
  have hu76 := Try.underlying76
  have hu69 := Try.underlying69
  have hu30 := Try.underlying30
  have hu23 := Try.underlying23
  have hu5 := Try.underlying5
  have BK := Aside0.mk hb
  have HR := Aside0.mk hr
  have hgw : B ≤ w.heap.size := Nat.le_trans hB (Nat.le_of_lt (blk_lt hb))
  obtain ⟨⟨hc0, hc1, hc2, hc3, hc4, hc5, hc6, hc7, hc8, hc9, hc10⟩, -⟩ := feed_cells hb
  clear hb hr
  have q1 := beq_iff_eq.mpr q; have q2 := bne_eq_false_iff_eq.mpr q; clear q
  obtain ⟨ad, rfl, -⟩ := Kd.at_int (Kd.R_reads' HR.out).2.2 0 (by omega) (by omega)
  go_enter Try.func37, Try.ntmps37
  go_wp2_with (first | (go_at_call 32; (with_reducible refine (frame_sum_add.calls k a b _ c fd a' b' _ (Kd.R_reads' HR.out).2.2 (Kd.R_reads' HR.out).2.1 hs).mono ?_); rintro e w1 ⟨rfl, hb1⟩; have B1 := blk_below BK.out hb1; have F1 := (Fed.refl B g w).below hgw hb1; obtain ⟨⟨z0, z1, z2, z3, z4, z5, z6, z7, z8, z9, z10⟩, f0, f1, f2, f3, f4, f5, f6, f7, f8, f9, f10⟩ := feed_cells B1; have R1 := Kd.R_keep (Kd.R_below HR.out hb1) (((KeepBut.refl w1 g none).set_ 7 (.int .u32 a')).set_ 8 (.int .u32 b')) (fun _ hk => hk); have B1_ := Aside0.mk B1; have F1_ := Aside0.mk F1; have R1_ := Aside0.mk R1; clear B1 F1 R1 hb1) | (go_at_call 42; (with_reducible refine (frame_read.calls k _ c fd x _ (Kd.R_reads' R1_.out).2.2 (Kd.R_reads' R1_.out).2.1 hx).mono ?_); rintro e w2 ⟨rfl, hq2⟩; have M2 := jg_mid hq2.out (blk_set (blk_set B1_.out 7 (.int .u32 a')) 8 (.int .u32 b')) ((F1_.out.set hB 7 (.int .u32 a')).set hB 8 (.int .u32 b')); obtain ⟨B2, F2⟩ := M2; have B2' := seth_ (cs' := #[.slice (some ad) fd.length c, .int .i64 pos, .int .i64 6, .int .i64 (left), .int .i64 (R), .int .i64 (E), .int .i64 (L), .int .u32 a', .int .u32 b', .int .i64 er, .int .i64 pl]) B2 rfl; clear z0 z1 z2 z3 z4 z5 z6 z7 z8 z9 z10 f0 f1 f2 f3 f4 f5 f6 f7 f8 f9 f10 B2; clear hq2; obtain ⟨⟨z0, z1, z2, z3, z4, z5, z6, z7, z8, z9, z10⟩, f0, f1, f2, f3, f4, f5, f6, f7, f8, f9, f10⟩ := feed_cells B2'; have B2_ := Aside0.mk B2'; have F2_ := Aside0.mk F2; clear B2' F2))
  go_ret
  refine ⟨rfl, ?h, ?f⟩
  case h => (apply seth_; (repeat (first | (with_reducible exact B2_.out) | (with_reducible refine blk_drewN ?_ _) | (with_reducible apply blk_set))); rfl)
  case f => repeat (first | (with_reducible exact F2_.out) | (with_reducible refine Fed.drewN ?_ _) | (with_reducible refine Fed.set ?_ hB _ _))
set_option maxHeartbeats 1000000 in
set_option maxRecDepth 100000 in
theorem jg_6b (k g B : Nat) (A : Option Addr) (c : Nat) (fd : List Int) (pos left R E L a b er pl : Int) (w : World) (base : Nat) (hB : B ≤ g)
    (hb : w.heap[g]? = some (.cells #[.slice A fd.length c, .int .i64 pos, .int .i64 6, .int .i64 (left), .int .i64 (R), .int .i64 (E), .int .i64 (L), .int .u32 a, .int .u32 b, .int .i64 er, .int .i64 pl] 76 (0, 0)))
    (hr : Kd.R (Kd.int .u8) 5 w base (fun k => k ≠ g) (.slice A fd.length c) fd) (hl : 0 < fd.length) (a' b' : Int) (hs : frame_sum_add.f k a b fd = some (a', b')) (x : Int) (hx : frame_read.f k fd = some x) (q : ¬ x = 320) :
    Calls Try.prog 37 #[.pointer (some ⟨g, 0, none⟩)] w fun e w' => e = .returned (.int .i64 64) ∧ w'.heap[g]? = some (.cells #[.slice A fd.length c, .int .i64 pos, .int .i64 6, .int .i64 (left), .int .i64 (R), .int .i64 (E), .int .i64 (L), .int .u32 a', .int .u32 b', .int .i64 er, .int .i64 pl] 76 (0, 0)) ∧ Fed B g w w' := by
  have hu76 := Try.underlying76
  have hu69 := Try.underlying69
  have hu30 := Try.underlying30
  have hu23 := Try.underlying23
  have hu5 := Try.underlying5
  have BK := Aside0.mk hb
  have HR := Aside0.mk hr
  have hgw : B ≤ w.heap.size := Nat.le_trans hB (Nat.le_of_lt (blk_lt hb))
  obtain ⟨⟨hc0, hc1, hc2, hc3, hc4, hc5, hc6, hc7, hc8, hc9, hc10⟩, -⟩ := feed_cells hb
  clear hb hr
  have q1 := beq_eq_false_iff_ne.mpr q; have q2 := bne_iff_ne.mpr q; clear q
  obtain ⟨ad, rfl, -⟩ := Kd.at_int (Kd.R_reads' HR.out).2.2 0 (by omega) (by omega)
  go_enter Try.func37, Try.ntmps37
  go_wp2_with (first | (go_at_call 32; (with_reducible refine (frame_sum_add.calls k a b _ c fd a' b' _ (Kd.R_reads' HR.out).2.2 (Kd.R_reads' HR.out).2.1 hs).mono ?_); rintro e w1 ⟨rfl, hb1⟩; have B1 := blk_below BK.out hb1; have F1 := (Fed.refl B g w).below hgw hb1; obtain ⟨⟨z0, z1, z2, z3, z4, z5, z6, z7, z8, z9, z10⟩, f0, f1, f2, f3, f4, f5, f6, f7, f8, f9, f10⟩ := feed_cells B1; have R1 := Kd.R_keep (Kd.R_below HR.out hb1) (((KeepBut.refl w1 g none).set_ 7 (.int .u32 a')).set_ 8 (.int .u32 b')) (fun _ hk => hk); have B1_ := Aside0.mk B1; have F1_ := Aside0.mk F1; have R1_ := Aside0.mk R1; clear B1 F1 R1 hb1) | (go_at_call 42; (with_reducible refine (frame_read.calls k _ c fd x _ (Kd.R_reads' R1_.out).2.2 (Kd.R_reads' R1_.out).2.1 hx).mono ?_); rintro e w2 ⟨rfl, hq2⟩; have M2 := jg_mid hq2.out (blk_set (blk_set B1_.out 7 (.int .u32 a')) 8 (.int .u32 b')) ((F1_.out.set hB 7 (.int .u32 a')).set hB 8 (.int .u32 b')); obtain ⟨B2, F2⟩ := M2; have B2' := seth_ (cs' := #[.slice (some ad) fd.length c, .int .i64 pos, .int .i64 6, .int .i64 (left), .int .i64 (R), .int .i64 (E), .int .i64 (L), .int .u32 a', .int .u32 b', .int .i64 er, .int .i64 pl]) B2 rfl; clear z0 z1 z2 z3 z4 z5 z6 z7 z8 z9 z10 f0 f1 f2 f3 f4 f5 f6 f7 f8 f9 f10 B2; clear hq2; obtain ⟨⟨z0, z1, z2, z3, z4, z5, z6, z7, z8, z9, z10⟩, f0, f1, f2, f3, f4, f5, f6, f7, f8, f9, f10⟩ := feed_cells B2'; have B2_ := Aside0.mk B2'; have F2_ := Aside0.mk F2; clear B2' F2))
  go_ret
  refine ⟨rfl, ?h, ?f⟩
  case h => (apply seth_; (repeat (first | (with_reducible exact B2_.out) | (with_reducible refine blk_drewN ?_ _) | (with_reducible apply blk_set))); rfl)
  case f => repeat (first | (with_reducible exact F2_.out) | (with_reducible refine Fed.drewN ?_ _) | (with_reducible refine Fed.set ?_ hB _ _))
set_option maxHeartbeats 1000000 in
set_option maxRecDepth 100000 in
theorem jg_7a (k g B : Nat) (A : Option Addr) (c : Nat) (fd : List Int) (pos left R E L a b er pl : Int) (w : World) (base : Nat) (hB : B ≤ g)
    (hb : w.heap[g]? = some (.cells #[.slice A fd.length c, .int .i64 pos, .int .i64 7, .int .i64 (left), .int .i64 (R), .int .i64 (E), .int .i64 (L), .int .u32 a, .int .u32 b, .int .i64 er, .int .i64 pl] 76 (0, 0)))
    (hr : Kd.R (Kd.int .u8) 5 w base (fun k => k ≠ g) (.slice A fd.length c) fd) (hl : 0 < fd.length) (a' b' : Int) (hs : frame_sum_add.f k a b fd = some (a', b')) (p : wrap64 (left - 1) = 0) :
    Calls Try.prog 37 #[.pointer (some ⟨g, 0, none⟩)] w fun e w' => e = .returned (.int .i64 0) ∧ w'.heap[g]? = some (.cells #[.slice A fd.length c, .int .i64 pos, .int .i64 8, .int .i64 (wrap64 (left - 1)), .int .i64 (R), .int .i64 (E), .int .i64 (L), .int .u32 a', .int .u32 b', .int .i64 er, .int .i64 pl] 76 (0, 0)) ∧ Fed B g w w' := by
  have hu76 := Try.underlying76
  have hu69 := Try.underlying69
  have hu30 := Try.underlying30
  have hu23 := Try.underlying23
  have hu5 := Try.underlying5
  have BK := Aside0.mk hb
  have HR := Aside0.mk hr
  have hgw : B ≤ w.heap.size := Nat.le_trans hB (Nat.le_of_lt (blk_lt hb))
  obtain ⟨⟨hc0, hc1, hc2, hc3, hc4, hc5, hc6, hc7, hc8, hc9, hc10⟩, -⟩ := feed_cells hb
  clear hb hr
  have p1 := beq_iff_eq.mpr p; clear p
  obtain ⟨ad, rfl, -⟩ := Kd.at_int (Kd.R_reads' HR.out).2.2 0 (by omega) (by omega)
  go_enter Try.func37, Try.ntmps37
  go_wp2_with (first | (go_at_call 32; (with_reducible refine (frame_sum_add.calls k a b _ c fd a' b' _ (Kd.R_reads' HR.out).2.2 (Kd.R_reads' HR.out).2.1 hs).mono ?_); rintro e w1 ⟨rfl, hb1⟩; have B1 := blk_below BK.out hb1; have F1 := (Fed.refl B g w).below hgw hb1; obtain ⟨⟨z0, z1, z2, z3, z4, z5, z6, z7, z8, z9, z10⟩, f0, f1, f2, f3, f4, f5, f6, f7, f8, f9, f10⟩ := feed_cells B1; have R1 := Kd.R_keep (Kd.R_below HR.out hb1) (((KeepBut.refl w1 g none).set_ 7 (.int .u32 a')).set_ 8 (.int .u32 b')) (fun _ hk => hk); have B1_ := Aside0.mk B1; have F1_ := Aside0.mk F1; have R1_ := Aside0.mk R1; clear B1 F1 R1 hb1))
  go_ret
  refine ⟨rfl, ?h, ?f⟩
  case h => (apply seth_; (repeat (first | (with_reducible exact B1_.out) | (with_reducible refine blk_drewN ?_ _) | (with_reducible apply blk_set))); rfl)
  case f => repeat (first | (with_reducible exact F1_.out) | (with_reducible refine Fed.drewN ?_ _) | (with_reducible refine Fed.set ?_ hB _ _))
set_option maxHeartbeats 1000000 in
set_option maxRecDepth 100000 in
theorem jg_7b (k g B : Nat) (A : Option Addr) (c : Nat) (fd : List Int) (pos left R E L a b er pl : Int) (w : World) (base : Nat) (hB : B ≤ g)
    (hb : w.heap[g]? = some (.cells #[.slice A fd.length c, .int .i64 pos, .int .i64 7, .int .i64 (left), .int .i64 (R), .int .i64 (E), .int .i64 (L), .int .u32 a, .int .u32 b, .int .i64 er, .int .i64 pl] 76 (0, 0)))
    (hr : Kd.R (Kd.int .u8) 5 w base (fun k => k ≠ g) (.slice A fd.length c) fd) (hl : 0 < fd.length) (a' b' : Int) (hs : frame_sum_add.f k a b fd = some (a', b')) (p : ¬ wrap64 (left - 1) = 0) :
    Calls Try.prog 37 #[.pointer (some ⟨g, 0, none⟩)] w fun e w' => e = .returned (.int .i64 0) ∧ w'.heap[g]? = some (.cells #[.slice A fd.length c, .int .i64 pos, .int .i64 6, .int .i64 (wrap64 (left - 1)), .int .i64 (R), .int .i64 (E), .int .i64 (L), .int .u32 a', .int .u32 b', .int .i64 er, .int .i64 pl] 76 (0, 0)) ∧ Fed B g w w' := by
  have hu76 := Try.underlying76
  have hu69 := Try.underlying69
  have hu30 := Try.underlying30
  have hu23 := Try.underlying23
  have hu5 := Try.underlying5
  have BK := Aside0.mk hb
  have HR := Aside0.mk hr
  have hgw : B ≤ w.heap.size := Nat.le_trans hB (Nat.le_of_lt (blk_lt hb))
  obtain ⟨⟨hc0, hc1, hc2, hc3, hc4, hc5, hc6, hc7, hc8, hc9, hc10⟩, -⟩ := feed_cells hb
  clear hb hr
  have p1 := beq_eq_false_iff_ne.mpr p; clear p
  obtain ⟨ad, rfl, -⟩ := Kd.at_int (Kd.R_reads' HR.out).2.2 0 (by omega) (by omega)
  go_enter Try.func37, Try.ntmps37
  go_wp2_with (first | (go_at_call 32; (with_reducible refine (frame_sum_add.calls k a b _ c fd a' b' _ (Kd.R_reads' HR.out).2.2 (Kd.R_reads' HR.out).2.1 hs).mono ?_); rintro e w1 ⟨rfl, hb1⟩; have B1 := blk_below BK.out hb1; have F1 := (Fed.refl B g w).below hgw hb1; obtain ⟨⟨z0, z1, z2, z3, z4, z5, z6, z7, z8, z9, z10⟩, f0, f1, f2, f3, f4, f5, f6, f7, f8, f9, f10⟩ := feed_cells B1; have R1 := Kd.R_keep (Kd.R_below HR.out hb1) (((KeepBut.refl w1 g none).set_ 7 (.int .u32 a')).set_ 8 (.int .u32 b')) (fun _ hk => hk); have B1_ := Aside0.mk B1; have F1_ := Aside0.mk F1; have R1_ := Aside0.mk R1; clear B1 F1 R1 hb1))
  go_ret
  refine ⟨rfl, ?h, ?f⟩
  case h => (apply seth_; (repeat (first | (with_reducible exact B1_.out) | (with_reducible refine blk_drewN ?_ _) | (with_reducible apply blk_set))); rfl)
  case f => repeat (first | (with_reducible exact F1_.out) | (with_reducible refine Fed.drewN ?_ _) | (with_reducible refine Fed.set ?_ hB _ _))
set_option maxHeartbeats 1000000 in
set_option maxRecDepth 100000 in
theorem jg_9 (k g B : Nat) (A : Option Addr) (c : Nat) (fd : List Int) (pos left R E L a b er pl : Int) (w : World) (base : Nat) (hB : B ≤ g)
    (hb : w.heap[g]? = some (.cells #[.slice A fd.length c, .int .i64 pos, .int .i64 9, .int .i64 (left), .int .i64 (R), .int .i64 (E), .int .i64 (L), .int .u32 a, .int .u32 b, .int .i64 er, .int .i64 pl] 76 (0, 0)))
    (hr : Kd.R (Kd.int .u8) 5 w base (fun k => k ≠ g) (.slice A fd.length c) fd) (hl : 0 < fd.length) (a' b' : Int) (hs : frame_sum_add.f k a b fd = some (a', b')) :
    Calls Try.prog 37 #[.pointer (some ⟨g, 0, none⟩)] w fun e w' => e = .returned (.int .i64 66) ∧ w'.heap[g]? = some (.cells #[.slice A fd.length c, .int .i64 pos, .int .i64 9, .int .i64 (left), .int .i64 (R), .int .i64 (E), .int .i64 (L), .int .u32 a', .int .u32 b', .int .i64 er, .int .i64 pl] 76 (0, 0)) ∧ Fed B g w w' := by
  have hu76 := Try.underlying76
  have hu69 := Try.underlying69
  have hu30 := Try.underlying30
  have hu23 := Try.underlying23
  have hu5 := Try.underlying5
  have BK := Aside0.mk hb
  have HR := Aside0.mk hr
  have hgw : B ≤ w.heap.size := Nat.le_trans hB (Nat.le_of_lt (blk_lt hb))
  obtain ⟨⟨hc0, hc1, hc2, hc3, hc4, hc5, hc6, hc7, hc8, hc9, hc10⟩, -⟩ := feed_cells hb
  clear hb hr
  skip
  obtain ⟨ad, rfl, -⟩ := Kd.at_int (Kd.R_reads' HR.out).2.2 0 (by omega) (by omega)
  go_enter Try.func37, Try.ntmps37
  go_wp2_with (first | (go_at_call 32; (with_reducible refine (frame_sum_add.calls k a b _ c fd a' b' _ (Kd.R_reads' HR.out).2.2 (Kd.R_reads' HR.out).2.1 hs).mono ?_); rintro e w1 ⟨rfl, hb1⟩; have B1 := blk_below BK.out hb1; have F1 := (Fed.refl B g w).below hgw hb1; obtain ⟨⟨z0, z1, z2, z3, z4, z5, z6, z7, z8, z9, z10⟩, f0, f1, f2, f3, f4, f5, f6, f7, f8, f9, f10⟩ := feed_cells B1; have R1 := Kd.R_keep (Kd.R_below HR.out hb1) (((KeepBut.refl w1 g none).set_ 7 (.int .u32 a')).set_ 8 (.int .u32 b')) (fun _ hk => hk); have B1_ := Aside0.mk B1; have F1_ := Aside0.mk F1; have R1_ := Aside0.mk R1; clear B1 F1 R1 hb1))
  go_ret
  refine ⟨rfl, ?h, ?f⟩
  case h => (apply seth_; (repeat (first | (with_reducible exact B1_.out) | (with_reducible refine blk_drewN ?_ _) | (with_reducible apply blk_set))); rfl)
  case f => repeat (first | (with_reducible exact F1_.out) | (with_reducible refine Fed.drewN ?_ _) | (with_reducible refine Fed.set ?_ hB _ _))
attribute [local go_sem] set_set
set_option maxHeartbeats 1000000 in
set_option maxRecDepth 100000 in
theorem jg_8a (k g B : Nat) (A : Option Addr) (c : Nat) (fd : List Int) (pos left R E L a b er pl : Int) (w : World) (base : Nat) (hB : B ≤ g)
    (hb : w.heap[g]? = some (.cells #[.slice A fd.length c, .int .i64 pos, .int .i64 8, .int .i64 (left), .int .i64 (R), .int .i64 (E), .int .i64 (L), .int .u32 a, .int .u32 b, .int .i64 er, .int .i64 pl] 76 (0, 0)))
    (hr : Kd.R (Kd.int .u8) 5 w base (fun k => k ≠ g) (.slice A fd.length c) fd) (hl : 0 < fd.length) (x y : Int) (hx : frame_read.f k fd = some x) (hy : frame_sum_foot.f a b = some y) (q : x = IntKind.u64.wrap y) :
    Calls Try.prog 37 #[.pointer (some ⟨g, 0, none⟩)] w fun e w' => e = .returned (.int .i64 0) ∧ w'.heap[g]? = some (.cells #[.slice A fd.length c, .int .i64 pos, .int .i64 9, .int .i64 (left), .int .i64 (R), .int .i64 (E), .int .i64 (L), .int .u32 a, .int .u32 b, .int .i64 er, .int .i64 pl] 76 (0, 0)) ∧ Fed B g w w' := by
  have hu76 := Try.underlying76
  have hu69 := Try.underlying69
  have hu30 := Try.underlying30
  have hu23 := Try.underlying23
  have hu5 := Try.underlying5
  have BK := Aside0.mk hb
  have HR := Aside0.mk hr
  have hgw : B ≤ w.heap.size := Nat.le_trans hB (Nat.le_of_lt (blk_lt hb))
  obtain ⟨⟨hc0, hc1, hc2, hc3, hc4, hc5, hc6, hc7, hc8, hc9, hc10⟩, -⟩ := feed_cells hb
  clear hb hr
  have q1 := beq_iff_eq.mpr q; have q2 := bne_eq_false_iff_eq.mpr q; clear q
  obtain ⟨ad, rfl, -⟩ := Kd.at_int (Kd.R_reads' HR.out).2.2 0 (by omega) (by omega)
  go_enter Try.func37, Try.ntmps37
  go_wp2_with (fail)
  go_region_held3 (fun W => W.cell? ⟨g, 7, none⟩ = some (.int .u32 a) ∧ W.cell? ⟨g, 8, none⟩ = some (.int .u32 b)) (go_keep)
    (first
      | ((go_at_call 42; (refine (frame_read.calls k _ c fd x _ ?hC (Kd.R_reads' HR.out).2.1 hx).mono ?_); (case hC => first | exact (Kd.R_reads' HR.out).2.2 | exact Kd.C_drew (Kd.R_reads' HR.out).2.2); rintro e w2 ⟨rfl, ⟨q_, rfl⟩⟩))
      | ((go_at_call 33; (refine (frame_sum_foot.calls a b y _ hy).mono ?_); rintro e w3 ⟨rfl, hb3⟩; (have h1 : w3.heap[g]? = w.heap[g]? := hb3.block g (blk_lt BK.out)); (have h2 := h1.trans BK.out); (have F3 : Fed B g w w3 := ((Fed.refl B g w).drewN (1 + q_)).below hgw hb3); (have h3 := feed_cells h2); (have B3_ := Aside0.mk h2); (have F3_ := Aside0.mk F3); clear h1 h2 F3 hb3)))
  obtain ⟨⟨z0, z1, z2, z3, z4, z5, z6, z7, z8, z9, z10⟩, f0, f1, f2, f3, f4, f5, f6, f7, f8, f9, f10⟩ := h3
  go_wp2
  go_ret
  refine ⟨rfl, ?h, ?f⟩
  case h => (apply seth_; (repeat (first | (with_reducible exact B3_.out) | (with_reducible refine blk_drewN ?_ _) | (with_reducible apply blk_set))); rfl)
  case f => repeat (first | (with_reducible exact F3_.out) | (with_reducible refine Fed.drewN ?_ _) | (with_reducible refine Fed.set ?_ hB _ _))
set_option maxHeartbeats 1000000 in
set_option maxRecDepth 100000 in
theorem jg_8b (k g B : Nat) (A : Option Addr) (c : Nat) (fd : List Int) (pos left R E L a b er pl : Int) (w : World) (base : Nat) (hB : B ≤ g)
    (hb : w.heap[g]? = some (.cells #[.slice A fd.length c, .int .i64 pos, .int .i64 8, .int .i64 (left), .int .i64 (R), .int .i64 (E), .int .i64 (L), .int .u32 a, .int .u32 b, .int .i64 er, .int .i64 pl] 76 (0, 0)))
    (hr : Kd.R (Kd.int .u8) 5 w base (fun k => k ≠ g) (.slice A fd.length c) fd) (hl : 0 < fd.length) (x y : Int) (hx : frame_read.f k fd = some x) (hy : frame_sum_foot.f a b = some y) (q : ¬ x = IntKind.u64.wrap y) :
    Calls Try.prog 37 #[.pointer (some ⟨g, 0, none⟩)] w fun e w' => e = .returned (.int .i64 65) ∧ w'.heap[g]? = some (.cells #[.slice A fd.length c, .int .i64 pos, .int .i64 8, .int .i64 (left), .int .i64 (R), .int .i64 (E), .int .i64 (L), .int .u32 a, .int .u32 b, .int .i64 er, .int .i64 pl] 76 (0, 0)) ∧ Fed B g w w' := by
  have hu76 := Try.underlying76
  have hu69 := Try.underlying69
  have hu30 := Try.underlying30
  have hu23 := Try.underlying23
  have hu5 := Try.underlying5
  have BK := Aside0.mk hb
  have HR := Aside0.mk hr
  have hgw : B ≤ w.heap.size := Nat.le_trans hB (Nat.le_of_lt (blk_lt hb))
  obtain ⟨⟨hc0, hc1, hc2, hc3, hc4, hc5, hc6, hc7, hc8, hc9, hc10⟩, -⟩ := feed_cells hb
  clear hb hr
  have q1 := beq_eq_false_iff_ne.mpr q; have q2 := bne_iff_ne.mpr q; clear q
  obtain ⟨ad, rfl, -⟩ := Kd.at_int (Kd.R_reads' HR.out).2.2 0 (by omega) (by omega)
  go_enter Try.func37, Try.ntmps37
  go_wp2_with (fail)
  go_region_held3 (fun W => W.cell? ⟨g, 7, none⟩ = some (.int .u32 a) ∧ W.cell? ⟨g, 8, none⟩ = some (.int .u32 b)) (go_keep)
    (first
      | ((go_at_call 42; (refine (frame_read.calls k _ c fd x _ ?hC (Kd.R_reads' HR.out).2.1 hx).mono ?_); (case hC => first | exact (Kd.R_reads' HR.out).2.2 | exact Kd.C_drew (Kd.R_reads' HR.out).2.2); rintro e w2 ⟨rfl, ⟨q_, rfl⟩⟩))
      | ((go_at_call 33; (refine (frame_sum_foot.calls a b y _ hy).mono ?_); rintro e w3 ⟨rfl, hb3⟩; (have h1 : w3.heap[g]? = w.heap[g]? := hb3.block g (blk_lt BK.out)); (have h2 := h1.trans BK.out); (have F3 : Fed B g w w3 := ((Fed.refl B g w).drewN (1 + q_)).below hgw hb3); (have h3 := feed_cells h2); (have B3_ := Aside0.mk h2); (have F3_ := Aside0.mk F3); clear h1 h2 F3 hb3)))
  obtain ⟨⟨z0, z1, z2, z3, z4, z5, z6, z7, z8, z9, z10⟩, f0, f1, f2, f3, f4, f5, f6, f7, f8, f9, f10⟩ := h3
  go_wp2
  go_ret
  refine ⟨rfl, ?h, ?f⟩
  case h => (apply seth_; (repeat (first | (with_reducible exact B3_.out) | (with_reducible refine blk_drewN ?_ _) | (with_reducible apply blk_set))); rfl)
  case f => repeat (first | (with_reducible exact F3_.out) | (with_reducible refine Fed.drewN ?_ _) | (with_reducible refine Fed.set ?_ hB _ _))
def Bys (l : List Int) : Prop := ∀ x ∈ l, 0 ≤ x ∧ x ≤ 255
theorem Bys.rd {l : List Int} (h : Bys l) (i : Int) : 0 ≤ rd l i ∧ rd l i ≤ 255 := by
  by_cases hi : i.toNat < l.length
  · exact h _ (rd_mem l i hi)
  · have : Go.Proofs.YthkcadmjfkcbgaaW.PrintWords.rd l i = 0 := by simp [Go.Proofs.YthkcadmjfkcbgaaW.PrintWords.rd, List.getD_eq_getElem?_getD, List.getElem?_eq_none (Nat.le_of_not_lt hi)]
    rw [this]; omega
theorem Bys.tail {c : Int} {l : List Int} (h : Bys (c :: l)) : Bys l := fun x hx => h x (List.mem_cons_of_mem _ hx)
theorem Bys.append {l m : List Int} (h : Bys l) (h2 : Bys m) : Bys (l ++ m) := fun x hx => (List.mem_append.1 hx).elim (h x) (h2 x)
theorem sum_step (a b c : Int) (a0 : 0 ≤ a) (a1 : a < 65521) (b0 : 0 ≤ b) (b1 : b < 65521) (c0 : 0 ≤ c) (c1 : c ≤ 255) :
    (((a + (c % 4294967296)) % 4294967296) % 65521) = (a + c) % 65521 ∧ ((b + (a + c) % 65521) % 4294967296) % 65521 = (b + (a + c) % 65521) % 65521 := by
  exact ⟨by omega, by omega⟩
theorem sumL_range (l : List Int) : ∀ (a b : Int), 0 ≤ a → a < 65521 → 0 ≤ b → b < 65521 → 0 ≤ (sumL a b l).1 ∧ (sumL a b l).1 < 65521 ∧ 0 ≤ (sumL a b l).2 ∧ (sumL a b l).2 < 65521 := by
  induction l with
  | nil => intro a b h0 h1 h2 h3; exact ⟨h0, h1, h2, h3⟩
  | cons c l ih => intro a b h0 h1 h2 h3; exact ih _ _ (by omega) (by omega) (by omega) (by omega)
theorem sum_l0 (l : List Int) (hl : l.length ≤ 140737488355328) (hb : Bys l) (d : Nat) : ∀ (k : Nat) (i : Nat) (a b : Int), i ≤ l.length → l.length - i = d → d < k → 0 ≤ a → a < 65521 → 0 ≤ b → b < 65521 →
    frame_sum_add.l0 k l (l.length : Int) (i : Int) a b = some (sumL a b (l.drop i)) := by
  induction d with
  | zero =>
    intro k i a b hi hd hk _ _ _ _
    obtain ⟨k, rfl⟩ : ∃ m, k = m + 1 := ⟨k - 1, by omega⟩
    rw [List.drop_of_length_le (by omega)]
    simp only [frame_sum_add.l0]
    rw [if_neg (by omega)]
    rfl
  | succ d ih =>
    intro k i a b hi hd hk a0 a1 b0 b1
    obtain ⟨k, rfl⟩ : ∃ m, k = m + 1 := ⟨k - 1, by omega⟩
    have hlt : i < l.length := by omega
    have hr := hb.rd (i : Int)
    obtain ⟨e1, e2⟩ := sum_step a b (rd l i) a0 a1 b0 b1 hr.1 hr.2
    simp only [frame_sum_add.l0]
    rw [if_pos (by omega), if_pos (by omega), if_pos (by omega), e1, e2, show wrap64 ((i : Int) + 1) = ((i + 1 : Nat) : Int) from by rw [w64 (by omega) (by omega)]; rfl]
    rw [ih k (i + 1) _ _ (by omega) (by omega) (by omega) (by omega) (by omega) (by omega) (by omega), drop_rd l i hlt]
    rfl
theorem sum_eq (l : List Int) (hl : l.length ≤ 140737488355328) (hb : Bys l) (a b : Int) (a0 : 0 ≤ a) (a1 : a < 65521) (b0 : 0 ≤ b) (b1 : b < 65521) (k : Nat) (hk : l.length < k) :
    frame_sum_add.f k a b l = some ((sumL a b l).1, (sumL a b l).2) := by
  unfold frame_sum_add.f
  have := sum_l0 l hl hb l.length k 0 a b (by omega) (by omega) hk a0 a1 b0 b1
  simpa using this
theorem wru64' (n : Int) (h0 : 0 ≤ n) (h1 : n < 2 ^ 64) : IntKind.u64.wrap n = n := by
  show n % 2 ^ 64 = n
  exact Int.emod_eq_of_lt h0 h1
theorem wru32' (n : Int) (h0 : 0 ≤ n) (h1 : n < 2 ^ 32) : IntKind.u32.wrap n = n := by
  show n % 2 ^ 32 = n
  exact Int.emod_eq_of_lt h0 h1
theorem rstep_or (a t : Int) (h0 : 0 ≤ a) (h1 : a < 2 ^ 56) (t0 : 0 ≤ t) (t1 : t ≤ 255) : bits .or .u64 (IntKind.u64.wrap (a * 256)) (IntKind.u64.wrap t) = a * 256 + t := by
  have p : (2 : Int) ^ 64 = 2 ^ 56 * 256 := by decide
  have q : (256 : Int) ≤ 2 ^ 64 := by decide
  have e1 : IntKind.u64.wrap (a * 256) = a * 256 := wru64' _ (by omega) (by rw [p]; omega)
  have e2 : IntKind.u64.wrap t = t := wru64' _ t0 (by omega)
  rw [e1, e2]
  exact bits_join .u64 64 (by decide) wru64' 8 (a * 256) t (by omega) (by omega) (by rw [p]; omega) t0 (by omega) (by omega)
def numF (v : Int) (l : List Int) : Int := l.foldl (fun v c => v * 256 + c) v
theorem numL_def (l : List Int) : numL l = numF 0 l := rfl
theorem numF_range : ∀ (l : List Int) (v : Int) (m : Nat), Bys l → 0 ≤ v → v < 256 ^ m → 0 ≤ numF v l ∧ numF v l < 256 ^ (m + l.length)
  | [], v, m, _, h0, h1 => ⟨h0, h1⟩
  | c :: l, v, m, hb, h0, h1 => by
    have b := hb c List.mem_cons_self
    have hp : (256 : Int) ^ (m + 1) = 256 ^ m * 256 := Int.pow_succ _ _
    have := numF_range l (v * 256 + c) (m + 1) hb.tail (by omega) (by rw [hp]; omega)
    rw [show m + (c :: l).length = m + 1 + l.length from by simp; omega]
    exact this
theorem numL_range (l : List Int) (hb : Bys l) : 0 ≤ numL l ∧ numL l < 256 ^ l.length := by
  have := numF_range l 0 0 hb (by omega) (by decide)
  rw [numL_def]
  simpa using this
theorem pow_le_8 (m : Nat) (h : m ≤ 7) : (256 : Int) ^ m ≤ 2 ^ 56 := by
  rcases (by omega : m = 0 ∨ m = 1 ∨ m = 2 ∨ m = 3 ∨ m = 4 ∨ m = 5 ∨ m = 6 ∨ m = 7) with rfl | rfl | rfl | rfl | rfl | rfl | rfl | rfl <;> decide
theorem read_l0 (l : List Int) (hl : l.length ≤ 8) (hb : Bys l) (d : Nat) : ∀ (k i : Nat) (v : Int), i ≤ l.length → l.length - i = d → d < k → 0 ≤ v → v < 256 ^ i →
    frame_read.l0 k v l (l.length : Int) (i : Int) = some (numF v (l.drop i)) := by
  induction d with
  | zero =>
    intro k i v hi hd hk _ _
    obtain ⟨k, rfl⟩ : ∃ m, k = m + 1 := ⟨k - 1, by omega⟩
    rw [List.drop_of_length_le (by omega)]
    simp only [frame_read.l0]
    rw [if_neg (by omega)]
    rfl
  | succ d ih =>
    intro k i v hi hd hk v0 v1
    obtain ⟨k, rfl⟩ : ∃ m, k = m + 1 := ⟨k - 1, by omega⟩
    have hlt : i < l.length := by omega
    have hr := hb.rd (i : Int)
    have hp := pow_le_8 i (by omega)
    have hq : (256 : Int) ^ (i + 1) = 256 ^ i * 256 := Int.pow_succ _ _
    simp only [frame_read.l0]
    rw [if_pos (by omega), if_pos (by omega), if_pos (by omega), rstep_or v _ v0 (by omega) hr.1 hr.2, show wrap64 ((i : Int) + 1) = ((i + 1 : Nat) : Int) from by rw [w64 (by omega) (by omega)]; rfl]
    rw [ih k (i + 1) _ (by omega) (by omega) (by omega) (by omega) (by rw [hq]; omega), drop_rd l i hlt]
    rfl
theorem read_eq (l : List Int) (hl : l.length ≤ 8) (hb : Bys l) (k : Nat) (hk : l.length < k) : frame_read.f k l = some (numL l) := by
  unfold frame_read.f
  have := read_l0 l hl hb l.length k 0 0 (by omega) (by omega) hk (by omega) (by decide)
  rw [numL_def]
  simpa using this
theorem foot_eq (a b : Int) (a0 : 0 ≤ a) (a1 : a < 65521) (b0 : 0 ≤ b) (b1 : b < 65521) : frame_sum_foot.f a b = some (b * 65536 + a) := by
  have p : (2 : Int) ^ 32 = 4294967296 := by decide
  have q : (2 : Int) ^ 16 = 65536 := by decide
  unfold frame_sum_foot.f
  rw [show (b * 65536) % 4294967296 = b * 65536 from by omega]
  rw [bits_join .u32 32 (by decide) wru32' 16 (b * 65536) a (by omega) (by rw [q]; omega) (by rw [p]; omega) a0 (by rw [q]; omega) (by rw [p]; omega)]
theorem u8_inj {x y : Int} (hx : 0 ≤ x ∧ x ≤ 255) (hy : 0 ≤ y ∧ y ≤ 255) (h : UInt8.ofNat x.toNat = UInt8.ofNat y.toNat) : x = y := by
  have := congrArg UInt8.toNat h
  simp only [UInt8.toNat_ofNat'] at this
  omega
theorem str_list (a : List Int) : (strOfNums a).toList = a.map (fun n => UInt8.ofNat n.toNat) := by
  rw [ByteArray.toList_eq]; simp [strOfNums]
theorem str_inj {a b : List Int} (ha : Bys a) (hb : Bys b) (h : (strOfNums a).toList = (strOfNums b).toList) : a = b := by
  rw [str_list, str_list] at h
  induction a generalizing b with
  | nil => cases b <;> simp at h ⊢
  | cons x a ih =>
    cases b with
    | nil => simp at h
    | cons y b =>
      simp only [List.map_cons, List.cons.injEq] at h
      rw [u8_inj (ha x List.mem_cons_self) (hb y List.mem_cons_self) h.1, ih ha.tail hb.tail h.2]
theorem magic_iff {a : List Int} (ha : Bys a) : (strOfNums a).toList = [67, 72, 82, 78] ↔ a = [67, 72, 82, 78] := by
  have e : (strOfNums [67, 72, 82, 78]).toList = [67, 72, 82, 78] := by rw [str_list]; rfl
  constructor
  · intro h
    exact str_inj ha (by intro x hx; simp at hx; omega) (h.trans e.symm)
  · rintro rfl
    exact e
structure FS.Okay (s : FS) : Prop where
  st0 : 0 ≤ s.st
  st9 : s.st ≤ 9
  by_ : Bys s.fd
  a0 : 0 ≤ s.a
  a1 : s.a < 65521
  b0 : 0 ≤ s.b
  b1 : s.b < 65521
  l0 : 0 ≤ s.left
  l1 : s.left ≤ 65536
  l6 : s.st = 6 ∨ s.st = 7 → 1 ≤ s.left
theorem judge_calls (g B : Nat) (A : Option Addr) (c : Nat) (s : FS) (w : World) (base : Nat) (hB : B ≤ g) (hb : w.heap[g]? = some (.cells (s.cells (.slice A s.fd.length c)) 76 (0, 0)))
    (hr : Kd.R (Kd.int .u8) 5 w base (fun k => k ≠ g) (.slice A s.fd.length c) s.fd) (ho : s.Okay) (hf : (s.fd.length : Int) = fsz s.st) :
    Calls Try.prog 37 #[.pointer (some ⟨g, 0, none⟩)] w fun e w' => e = .returned (.int .i64 s.jud.2) ∧ w'.heap[g]? = some (.cells (s.jud.1.cells (.slice A s.fd.length c)) 76 (0, 0)) ∧ Fed B g w w' := by
  obtain ⟨fd, pos, st, left, R, E, L, a, b, er, pl⟩ := s
  obtain ⟨st0, st9, by_, a0, a1, b0, b1, l0, l1, l6⟩ := ho
  simp only [FS.cells] at *
  have hp := fsz_pos st
  have hl : 0 < fd.length := by omega
  have hs := sum_eq fd (by omega) by_ a b a0 a1 b0 b1 (fd.length + 1) (by omega)
  have hn := numL_range fd by_
  rcases (by omega : st = 0 ∨ st = 1 ∨ st = 2 ∨ st = 3 ∨ st = 4 ∨ st = 5 ∨ st = 6 ∨ st = 7 ∨ st = 8 ∨ st = 9) with rfl | rfl | rfl | rfl | rfl | rfl | rfl | rfl | rfl | rfl
  · by_cases q : fd = [67, 72, 82, 78]
    · have J := jg_0a _ g B A c fd pos left R E L a b er pl w base hB hb hr hl _ _ hs ((magic_iff by_).2 q)
      have e : FS.jud ⟨fd, pos, 0, left, R, E, L, a, b, er, pl⟩ = (⟨fd, pos, 1, left, R, E, L, (sumL a b fd).1, (sumL a b fd).2, er, pl⟩, 0) := by simp [FS.jud, FS.nxt, q]
      rw [e]; exact J
    · have J := jg_0b _ g B A c fd pos left R E L a b er pl w base hB hb hr hl _ _ hs (fun h => q ((magic_iff by_).1 h))
      have e : FS.jud ⟨fd, pos, 0, left, R, E, L, a, b, er, pl⟩ = (⟨fd, pos, 0, left, R, E, L, (sumL a b fd).1, (sumL a b fd).2, er, pl⟩, 60) := by simp [FS.jud, FS.nxt, q]
      rw [e]; exact J
  · by_cases q : rd fd 0 = 1
    · have J := jg_1a _ g B A c fd pos left R E L a b er pl w base hB hb hr hl _ _ hs q
      have e : FS.jud ⟨fd, pos, 1, left, R, E, L, a, b, er, pl⟩ = (⟨fd, pos, 2, left, R, E, L, (sumL a b fd).1, (sumL a b fd).2, er, pl⟩, 0) := by simp [FS.jud, FS.nxt, q]
      rw [e]; exact J
    · have J := jg_1b _ g B A c fd pos left R E L a b er pl w base hB hb hr hl _ _ hs q
      have e : FS.jud ⟨fd, pos, 1, left, R, E, L, a, b, er, pl⟩ = (⟨fd, pos, 1, left, R, E, L, (sumL a b fd).1, (sumL a b fd).2, er, pl⟩, 61) := by simp [FS.jud, FS.nxt, q]
      rw [e]; exact J
  · have hr0 := by_.rd 0
    have hw : wrap64 (rd fd 0) = rd fd 0 := w64 (by omega) (by omega)
    by_cases q : rd fd 0 > 8
    · have J := jg_2b _ g B A c fd pos left R E L a b er pl w base hB hb hr hl _ _ hs (by rw [hw]; exact q)
      have e : FS.jud ⟨fd, pos, 2, left, R, E, L, a, b, er, pl⟩ = (⟨fd, pos, 2, left, R, E, rd fd 0, (sumL a b fd).1, (sumL a b fd).2, er, pl⟩, 62) := by simp [FS.jud, FS.nxt, q]
      rw [e]; rw [hw] at J; exact J
    · have J := jg_2a _ g B A c fd pos left R E L a b er pl w base hB hb hr hl _ _ hs (by rw [hw]; exact q)
      have e : FS.jud ⟨fd, pos, 2, left, R, E, L, a, b, er, pl⟩ = (⟨fd, pos, 3, left, R, E, rd fd 0, (sumL a b fd).1, (sumL a b fd).2, er, pl⟩, 0) := by simp [FS.jud, FS.nxt, q]
      rw [e]; rw [hw] at J; exact J
  · have hx := read_eq fd (by simp [fsz] at hf; omega) by_ (fd.length + 1) (by omega)
    have hw : wrap64 (numL fd) = numL fd := by
      have : fd.length = 2 := by simp [fsz] at hf; omega
      rw [this] at hn
      exact w64 (by omega) (by omega)
    by_cases q : numL fd > 256
    · have J := jg_3b _ g B A c fd pos left R E L a b er pl w base hB hb hr hl _ _ hs (numL fd) hx (by rw [hw]; exact q)
      have e : FS.jud ⟨fd, pos, 3, left, R, E, L, a, b, er, pl⟩ = (⟨fd, pos, 3, numL fd, R, E, L, (sumL a b fd).1, (sumL a b fd).2, er, pl⟩, 63) := by simp [FS.jud, FS.nxt, q]
      rw [e]; rw [hw] at J; exact J
    · have J := jg_3a _ g B A c fd pos left R E L a b er pl w base hB hb hr hl _ _ hs (numL fd) hx (by rw [hw]; exact q)
      have e : FS.jud ⟨fd, pos, 3, left, R, E, L, a, b, er, pl⟩ = (⟨fd, pos, 4, numL fd, R, E, L, (sumL a b fd).1, (sumL a b fd).2, er, pl⟩, 0) := by simp [FS.jud, FS.nxt, q]
      rw [e]; rw [hw] at J; exact J
  · have hx := read_eq fd (by simp [fsz] at hf; omega) by_ (fd.length + 1) (by omega)
    by_cases q : numL fd > 4611686018427387903
    · have J := jg_4b _ g B A c fd pos left R E L a b er pl w base hB hb hr hl _ _ hs (numL fd) hx q
      have e : FS.jud ⟨fd, pos, 4, left, R, E, L, a, b, er, pl⟩ = (⟨fd, pos, 4, left, wrap64 (numL fd), E, L, (sumL a b fd).1, (sumL a b fd).2, er, pl⟩, 62) := by simp [FS.jud, FS.nxt, q]
      rw [e]; exact J
    · have J := jg_4a _ g B A c fd pos left R E L a b er pl w base hB hb hr hl _ _ hs (numL fd) hx q
      have e : FS.jud ⟨fd, pos, 4, left, R, E, L, a, b, er, pl⟩ = (⟨fd, pos, 5, left, wrap64 (numL fd), E, L, (sumL a b fd).1, (sumL a b fd).2, er, pl⟩, 0) := by simp [FS.jud, FS.nxt, q]
      rw [e]; exact J
  · have hx := read_eq fd (by simp [fsz] at hf; omega) by_ (fd.length + 1) (by omega)
    by_cases q : numL fd > 4611686018427387904
    · have J := jg_5c _ g B A c fd pos left R E L a b er pl w base hB hb hr hl _ _ hs (numL fd) hx q
      have e : FS.jud ⟨fd, pos, 5, left, R, E, L, a, b, er, pl⟩ = (⟨fd, pos, 5, left, R, wrap64 (numL fd), L, (sumL a b fd).1, (sumL a b fd).2, er, pl⟩, 62) := by simp [FS.jud, FS.nxt, q]
      rw [e]; exact J
    · by_cases p : left = 0
      · have J := jg_5a _ g B A c fd pos left R E L a b er pl w base hB hb hr hl _ _ hs (numL fd) hx q p
        have e : FS.jud ⟨fd, pos, 5, left, R, E, L, a, b, er, pl⟩ = (⟨fd, pos, 8, left, R, wrap64 (numL fd), L, (sumL a b fd).1, (sumL a b fd).2, er, pl⟩, 0) := by simp [FS.jud, FS.nxt, q, p]
        rw [e]; exact J
      · have J := jg_5b _ g B A c fd pos left R E L a b er pl w base hB hb hr hl _ _ hs (numL fd) hx q p
        have e : FS.jud ⟨fd, pos, 5, left, R, E, L, a, b, er, pl⟩ = (⟨fd, pos, 6, left, R, wrap64 (numL fd), L, (sumL a b fd).1, (sumL a b fd).2, er, pl⟩, 0) := by simp [FS.jud, FS.nxt, q, p]
        rw [e]; exact J
  · have hx := read_eq fd (by simp [fsz] at hf; omega) by_ (fd.length + 1) (by omega)
    by_cases q : numL fd = 320
    · have J := jg_6a _ g B A c fd pos left R E L a b er pl w base hB hb hr hl _ _ hs (numL fd) hx q
      have e : FS.jud ⟨fd, pos, 6, left, R, E, L, a, b, er, pl⟩ = (⟨fd, pos, 7, left, R, E, L, (sumL a b fd).1, (sumL a b fd).2, er, pl⟩, 0) := by simp [FS.jud, FS.nxt, q]
      rw [e]; exact J
    · have J := jg_6b _ g B A c fd pos left R E L a b er pl w base hB hb hr hl _ _ hs (numL fd) hx q
      have e : FS.jud ⟨fd, pos, 6, left, R, E, L, a, b, er, pl⟩ = (⟨fd, pos, 6, left, R, E, L, (sumL a b fd).1, (sumL a b fd).2, er, pl⟩, 64) := by simp [FS.jud, FS.nxt, q]
      rw [e]; exact J
  · have hw : wrap64 (left - 1) = left - 1 := w64 (by omega) (by omega)
    by_cases p : left - 1 = 0
    · have J := jg_7a _ g B A c fd pos left R E L a b er pl w base hB hb hr hl _ _ hs (by rw [hw]; exact p)
      have e : FS.jud ⟨fd, pos, 7, left, R, E, L, a, b, er, pl⟩ = (⟨fd, pos, 8, left - 1, R, E, L, (sumL a b fd).1, (sumL a b fd).2, er, pl⟩, 0) := by simp [FS.jud, FS.nxt, p]
      rw [e]; rw [hw] at J; exact J
    · have J := jg_7b _ g B A c fd pos left R E L a b er pl w base hB hb hr hl _ _ hs (by rw [hw]; exact p)
      have e : FS.jud ⟨fd, pos, 7, left, R, E, L, a, b, er, pl⟩ = (⟨fd, pos, 6, left - 1, R, E, L, (sumL a b fd).1, (sumL a b fd).2, er, pl⟩, 0) := by simp [FS.jud, FS.nxt, p]
      rw [e]; rw [hw] at J; exact J
  · have hx := read_eq fd (by simp [fsz] at hf; omega) by_ (fd.length + 1) (by omega)
    have hy := foot_eq a b a0 a1 b0 b1
    have p64 : (2 : Int) ^ 64 = 18446744073709551616 := by decide
    have hw : IntKind.u64.wrap (b * 65536 + a) = b * 65536 + a := wru64' _ (by omega) (by rw [p64]; omega)
    by_cases q : numL fd = b * 65536 + a
    · have J := jg_8a _ g B A c fd pos left R E L a b er pl w base hB hb hr hl (numL fd) _ hx hy (by rw [hw]; exact q)
      have e : FS.jud ⟨fd, pos, 8, left, R, E, L, a, b, er, pl⟩ = (⟨fd, pos, 9, left, R, E, L, a, b, er, pl⟩, 0) := by simp [FS.jud, q]
      rw [e]; exact J
    · have J := jg_8b _ g B A c fd pos left R E L a b er pl w base hB hb hr hl (numL fd) _ hx hy (by rw [hw]; exact q)
      have e : FS.jud ⟨fd, pos, 8, left, R, E, L, a, b, er, pl⟩ = (⟨fd, pos, 8, left, R, E, L, a, b, er, pl⟩, 65) := by simp [FS.jud, q]
      rw [e]; exact J
  · have J := jg_9 _ g B A c fd pos left R E L a b er pl w base hB hb hr hl _ _ hs
    have e : FS.jud ⟨fd, pos, 9, left, R, E, L, a, b, er, pl⟩ = (⟨fd, pos, 9, left, R, E, L, (sumL a b fd).1, (sumL a b fd).2, er, pl⟩, 66) := by simp [FS.jud]
    rw [e]; exact J
theorem jud_0 (fd : List Int) (pos left R E L a b er pl : Int) : FS.jud ⟨fd, pos, 0, left, R, E, L, a, b, er, pl⟩ = if fd = [67, 72, 82, 78] then (⟨fd, pos, 1, left, R, E, L, (sumL a b fd).1, (sumL a b fd).2, er, pl⟩, 0) else (⟨fd, pos, 0, left, R, E, L, (sumL a b fd).1, (sumL a b fd).2, er, pl⟩, 60) := by by_cases q : fd = [67, 72, 82, 78] <;> simp [FS.jud, FS.nxt, q]
theorem jud_1 (fd : List Int) (pos left R E L a b er pl : Int) : FS.jud ⟨fd, pos, 1, left, R, E, L, a, b, er, pl⟩ = if rd fd 0 = 1 then (⟨fd, pos, 2, left, R, E, L, (sumL a b fd).1, (sumL a b fd).2, er, pl⟩, 0) else (⟨fd, pos, 1, left, R, E, L, (sumL a b fd).1, (sumL a b fd).2, er, pl⟩, 61) := by by_cases q : rd fd 0 = 1 <;> simp [FS.jud, FS.nxt, q]
theorem jud_2 (fd : List Int) (pos left R E L a b er pl : Int) : FS.jud ⟨fd, pos, 2, left, R, E, L, a, b, er, pl⟩ = if rd fd 0 > 8 then (⟨fd, pos, 2, left, R, E, rd fd 0, (sumL a b fd).1, (sumL a b fd).2, er, pl⟩, 62) else (⟨fd, pos, 3, left, R, E, rd fd 0, (sumL a b fd).1, (sumL a b fd).2, er, pl⟩, 0) := by by_cases q : rd fd 0 > 8 <;> simp [FS.jud, FS.nxt, q]
theorem jud_3 (fd : List Int) (pos left R E L a b er pl : Int) : FS.jud ⟨fd, pos, 3, left, R, E, L, a, b, er, pl⟩ = if numL fd > 256 then (⟨fd, pos, 3, numL fd, R, E, L, (sumL a b fd).1, (sumL a b fd).2, er, pl⟩, 63) else (⟨fd, pos, 4, numL fd, R, E, L, (sumL a b fd).1, (sumL a b fd).2, er, pl⟩, 0) := by by_cases q : numL fd > 256 <;> simp [FS.jud, FS.nxt, q]
theorem jud_4 (fd : List Int) (pos left R E L a b er pl : Int) : FS.jud ⟨fd, pos, 4, left, R, E, L, a, b, er, pl⟩ = if numL fd > 4611686018427387903 then (⟨fd, pos, 4, left, wrap64 (numL fd), E, L, (sumL a b fd).1, (sumL a b fd).2, er, pl⟩, 62) else (⟨fd, pos, 5, left, wrap64 (numL fd), E, L, (sumL a b fd).1, (sumL a b fd).2, er, pl⟩, 0) := by by_cases q : numL fd > 4611686018427387903 <;> simp [FS.jud, FS.nxt, q]
theorem jud_5 (fd : List Int) (pos left R E L a b er pl : Int) : FS.jud ⟨fd, pos, 5, left, R, E, L, a, b, er, pl⟩ = if numL fd > 4611686018427387904 then (⟨fd, pos, 5, left, R, wrap64 (numL fd), L, (sumL a b fd).1, (sumL a b fd).2, er, pl⟩, 62) else (⟨fd, pos, if left = 0 then 8 else 6, left, R, wrap64 (numL fd), L, (sumL a b fd).1, (sumL a b fd).2, er, pl⟩, 0) := by by_cases q : numL fd > 4611686018427387904 <;> simp [FS.jud, FS.nxt, q]
theorem jud_6 (fd : List Int) (pos left R E L a b er pl : Int) : FS.jud ⟨fd, pos, 6, left, R, E, L, a, b, er, pl⟩ = if numL fd = 320 then (⟨fd, pos, 7, left, R, E, L, (sumL a b fd).1, (sumL a b fd).2, er, pl⟩, 0) else (⟨fd, pos, 6, left, R, E, L, (sumL a b fd).1, (sumL a b fd).2, er, pl⟩, 64) := by by_cases q : numL fd = 320 <;> simp [FS.jud, FS.nxt, q]
theorem jud_7 (fd : List Int) (pos left R E L a b er pl : Int) : FS.jud ⟨fd, pos, 7, left, R, E, L, a, b, er, pl⟩ = (⟨fd, pos, if left - 1 = 0 then 8 else 6, left - 1, R, E, L, (sumL a b fd).1, (sumL a b fd).2, er, pl⟩, 0) := by simp [FS.jud, FS.nxt]
theorem jud_8 (fd : List Int) (pos left R E L a b er pl : Int) : FS.jud ⟨fd, pos, 8, left, R, E, L, a, b, er, pl⟩ = if numL fd = b * 65536 + a then (⟨fd, pos, 9, left, R, E, L, a, b, er, pl⟩, 0) else (⟨fd, pos, 8, left, R, E, L, a, b, er, pl⟩, 65) := by by_cases q : numL fd = b * 65536 + a <;> simp [FS.jud, FS.nxt, q]
theorem jud_9 (fd : List Int) (pos left R E L a b er pl : Int) : FS.jud ⟨fd, pos, 9, left, R, E, L, a, b, er, pl⟩ = (⟨fd, pos, 9, left, R, E, L, (sumL a b fd).1, (sumL a b fd).2, er, pl⟩, 66) := by simp [FS.jud, FS.nxt]
theorem FS.jud_okay (s : FS) (h : s.Okay) (hf : (s.fd.length : Int) = fsz s.st) :
    (s.jud.1.fd = s.fd ∧ s.jud.1.pos = s.pos ∧ s.jud.1.er = s.er ∧ s.jud.1.pl = s.pl) ∧ s.jud.1.Okay ∧ (s.st = 7 → s.jud.1.left = s.left - 1 ∧ s.jud.2 = 0) ∧ (s.st ≠ 7 → s.st ≤ 3 ∨ s.jud.1.left = s.left) ∧ (s.jud.1.st ≤ 3 → s.st ≤ 3) := by
  obtain ⟨fd, pos, st, left, R, E, L, a, b, er, pl⟩ := s
  obtain ⟨st0, st9, by_, a0, a1, b0, b1, l0, l1, l6⟩ := h
  simp only [] at *
  obtain ⟨p0, p1, p2, p3⟩ := sumL_range fd a b a0 a1 b0 b1
  have hn := numL_range fd by_
  rcases (by omega : st = 0 ∨ st = 1 ∨ st = 2 ∨ st = 3 ∨ st = 4 ∨ st = 5 ∨ st = 6 ∨ st = 7 ∨ st = 8 ∨ st = 9) with rfl | rfl | rfl | rfl | rfl | rfl | rfl | rfl | rfl | rfl
  · rw [jud_0]
    by_cases q : fd = [67, 72, 82, 78]
    · rw [if_pos q]
      simp only []
      refine ⟨⟨?_, ?_, ?_, ?_⟩, ⟨?_, ?_, by_, ?_, ?_, ?_, ?_, ?_, ?_, ?_⟩, ?_, ?_, ?_⟩ <;> (try simp only []) <;> (first | rfl | trivial | omega | (intro h; first | omega | exact ⟨rfl, rfl⟩))
    · rw [if_neg q]
      simp only []
      refine ⟨⟨?_, ?_, ?_, ?_⟩, ⟨?_, ?_, by_, ?_, ?_, ?_, ?_, ?_, ?_, ?_⟩, ?_, ?_, ?_⟩ <;> (try simp only []) <;> (first | rfl | trivial | omega | (intro h; first | omega | exact ⟨rfl, rfl⟩))
  · rw [jud_1]
    by_cases q : rd fd 0 = 1
    · rw [if_pos q]
      simp only []
      refine ⟨⟨?_, ?_, ?_, ?_⟩, ⟨?_, ?_, by_, ?_, ?_, ?_, ?_, ?_, ?_, ?_⟩, ?_, ?_, ?_⟩ <;> (try simp only []) <;> (first | rfl | trivial | omega | (intro h; first | omega | exact ⟨rfl, rfl⟩))
    · rw [if_neg q]
      simp only []
      refine ⟨⟨?_, ?_, ?_, ?_⟩, ⟨?_, ?_, by_, ?_, ?_, ?_, ?_, ?_, ?_, ?_⟩, ?_, ?_, ?_⟩ <;> (try simp only []) <;> (first | rfl | trivial | omega | (intro h; first | omega | exact ⟨rfl, rfl⟩))
  · rw [jud_2]
    by_cases q : rd fd 0 > 8
    · rw [if_pos q]
      simp only []
      refine ⟨⟨?_, ?_, ?_, ?_⟩, ⟨?_, ?_, by_, ?_, ?_, ?_, ?_, ?_, ?_, ?_⟩, ?_, ?_, ?_⟩ <;> (try simp only []) <;> (first | rfl | trivial | omega | (intro h; first | omega | exact ⟨rfl, rfl⟩))
    · rw [if_neg q]
      simp only []
      refine ⟨⟨?_, ?_, ?_, ?_⟩, ⟨?_, ?_, by_, ?_, ?_, ?_, ?_, ?_, ?_, ?_⟩, ?_, ?_, ?_⟩ <;> (try simp only []) <;> (first | rfl | trivial | omega | (intro h; first | omega | exact ⟨rfl, rfl⟩))
  · rw [jud_3]
    have h2 : fd.length = 2 := by simp [fsz] at hf; omega
    rw [h2] at hn
    by_cases q : numL fd > 256
    · rw [if_pos q]
      simp only []
      refine ⟨⟨?_, ?_, ?_, ?_⟩, ⟨?_, ?_, by_, ?_, ?_, ?_, ?_, ?_, ?_, ?_⟩, ?_, ?_, ?_⟩ <;> (try simp only []) <;> (first | rfl | trivial | omega | (intro h; first | omega | exact ⟨rfl, rfl⟩))
    · rw [if_neg q]
      simp only []
      refine ⟨⟨?_, ?_, ?_, ?_⟩, ⟨?_, ?_, by_, ?_, ?_, ?_, ?_, ?_, ?_, ?_⟩, ?_, ?_, ?_⟩ <;> (try simp only []) <;> (first | rfl | trivial | omega | (intro h; first | omega | exact ⟨rfl, rfl⟩))
  · rw [jud_4]
    by_cases q : numL fd > 4611686018427387903
    · rw [if_pos q]
      simp only []
      refine ⟨⟨?_, ?_, ?_, ?_⟩, ⟨?_, ?_, by_, ?_, ?_, ?_, ?_, ?_, ?_, ?_⟩, ?_, ?_, ?_⟩ <;> (try simp only []) <;> (first | rfl | trivial | omega | (intro h; first | omega | exact ⟨rfl, rfl⟩))
    · rw [if_neg q]
      simp only []
      refine ⟨⟨?_, ?_, ?_, ?_⟩, ⟨?_, ?_, by_, ?_, ?_, ?_, ?_, ?_, ?_, ?_⟩, ?_, ?_, ?_⟩ <;> (try simp only []) <;> (first | rfl | trivial | omega | (intro h; first | omega | exact ⟨rfl, rfl⟩))
  · rw [jud_5]
    by_cases q : numL fd > 4611686018427387904
    · rw [if_pos q]
      simp only []
      refine ⟨⟨?_, ?_, ?_, ?_⟩, ⟨?_, ?_, by_, ?_, ?_, ?_, ?_, ?_, ?_, ?_⟩, ?_, ?_, ?_⟩ <;> (try simp only []) <;> (first | rfl | trivial | omega | (intro h; first | omega | exact ⟨rfl, rfl⟩))
    · rw [if_neg q]
      simp only []
      by_cases q2 : left = 0 <;> simp only [q2, if_true, if_false] <;> refine ⟨⟨?_, ?_, ?_, ?_⟩, ⟨?_, ?_, by_, ?_, ?_, ?_, ?_, ?_, ?_, ?_⟩, ?_, ?_, ?_⟩ <;> (try simp only []) <;> (first | rfl | trivial | omega | (intro h; first | omega | exact ⟨rfl, rfl⟩))
  · rw [jud_6]
    by_cases q : numL fd = 320
    · rw [if_pos q]
      simp only []
      refine ⟨⟨?_, ?_, ?_, ?_⟩, ⟨?_, ?_, by_, ?_, ?_, ?_, ?_, ?_, ?_, ?_⟩, ?_, ?_, ?_⟩ <;> (try simp only []) <;> (first | rfl | trivial | omega | (intro h; first | omega | exact ⟨rfl, rfl⟩))
    · rw [if_neg q]
      simp only []
      refine ⟨⟨?_, ?_, ?_, ?_⟩, ⟨?_, ?_, by_, ?_, ?_, ?_, ?_, ?_, ?_, ?_⟩, ?_, ?_, ?_⟩ <;> (try simp only []) <;> (first | rfl | trivial | omega | (intro h; first | omega | exact ⟨rfl, rfl⟩))
  · rw [jud_7]
    simp only []
    by_cases q : left - 1 = 0 <;> simp only [q, if_true, if_false] <;> refine ⟨⟨?_, ?_, ?_, ?_⟩, ⟨?_, ?_, by_, ?_, ?_, ?_, ?_, ?_, ?_, ?_⟩, ?_, ?_, ?_⟩ <;> (try simp only []) <;> (first | rfl | trivial | omega | (intro h; first | omega | exact ⟨rfl, rfl⟩))
  · rw [jud_8]
    by_cases q : numL fd = b * 65536 + a
    · rw [if_pos q]
      simp only []
      refine ⟨⟨?_, ?_, ?_, ?_⟩, ⟨?_, ?_, by_, ?_, ?_, ?_, ?_, ?_, ?_, ?_⟩, ?_, ?_, ?_⟩ <;> (try simp only []) <;> (first | rfl | trivial | omega | (intro h; first | omega | exact ⟨rfl, rfl⟩))
    · rw [if_neg q]
      simp only []
      refine ⟨⟨?_, ?_, ?_, ?_⟩, ⟨?_, ?_, by_, ?_, ?_, ?_, ?_, ?_, ?_, ?_⟩, ?_, ?_, ?_⟩ <;> (try simp only []) <;> (first | rfl | trivial | omega | (intro h; first | omega | exact ⟨rfl, rfl⟩))
  · rw [jud_9]
    simp only []
    refine ⟨⟨?_, ?_, ?_, ?_⟩, ⟨?_, ?_, by_, ?_, ?_, ?_, ?_, ?_, ?_, ?_⟩, ?_, ?_, ?_⟩ <;> (try simp only []) <;> (first | rfl | trivial | omega | (intro h; first | omega | exact ⟨rfl, rfl⟩))
theorem R_sliceN {k : IntKind} {e base m : Nat} {w : World} {ok : Nat → Prop} {v : Value} {xs : List Int} (h : (Kd.int k).R e w base ok v xs) (hm : xs.length = m) : ∃ A c, v = .slice A m c ∧ m ≤ c := by
  subst hm
  obtain ⟨A, c, e, h1, _⟩ := Kd.R_reads h
  exact ⟨A, c, e, h1⟩
def FeedAt (W : World) (base g : Nat) (s : FS) (v : Value) : Prop :=
  W.heap[g]? = some (.cells (s.cells v) 76 (0, 0)) ∧ base ≤ g ∧ base ≤ W.heap.size ∧ Kd.R (Kd.int .u8) 5 W base (fun k => k ≠ g) v s.fd
def Own2 (g : Nat) (v : Value) (k : Nat) : Prop := k = g ∨ some k = v.ownBlock
def Moved (w W : World) (base g : Nat) (v v' : Value) : Prop := Below base w W ∧ Kept w W (Own2 g v) ∧ (v'.ownBlock = v.ownBlock ∨ ∃ b, v'.ownBlock = some b ∧ w.heap.size ≤ b)
section
variable {w W W2 : World} {base g : Nat} {s : FS} {v v' v'' : Value}
theorem FeedAt.ne (h : FeedAt W base g s v) : some g ≠ v.ownBlock := fun e => (h.2.2.2.1 g e.symm) rfl
theorem FeedAt.lt (h : FeedAt W base g s v) : g < W.heap.size := blk_lt h.1
theorem FeedAt.drewN (h : FeedAt W base g s v) (n : Nat) : FeedAt (W.drewN n) base g s v := ⟨blk_drewN h.1 n, h.2.1, h.2.2.1, Kd.R_drewN h.2.2.2 n⟩
theorem FeedAt.drew (h : FeedAt W base g s v) : FeedAt W.drew base g s v := ⟨h.1, h.2.1, h.2.2.1, Kd.R_drew h.2.2.2⟩
theorem FeedAt.form (h : FeedAt W base g s v) : ∃ A c, v = .slice A s.fd.length c ∧ s.fd.length ≤ c ∧ (Kd.int .u8).C W A s.fd.length s.fd := Kd.R_reads h.2.2.2
theorem FeedAt.set (h : FeedAt W base g s v) (i : Nat) (u : Value) {s' : FS} (e : (s.cells v).setIfInBounds i u = s'.cells v) (hf : s'.fd = s.fd) : FeedAt (W.setCell ⟨g, i, none⟩ u) base g s' v :=
  ⟨by rw [← e]; exact blk_set h.1 i u, h.2.1, by simpa using h.2.2.1, by rw [hf]; exact Kd.R_far h.2.2.2 (p := ⟨g, i, none⟩) (fun k hk => hk) u⟩
theorem Moved.refl (w : World) (base g : Nat) (v : Value) : Moved w w base g v v := ⟨Below.refl _ _, Kept.refl _ _, .inl rfl⟩
theorem Moved.trans (h : Moved w W base g v v') (k : Moved W W2 base g v' v'') (hb : base ≤ w.heap.size) : Moved w W2 base g v v'' := by
  refine ⟨h.1.trans k.1, h.2.1.then_ k.2.1 ?_, ?_⟩
  · intro k hk
    rcases hk with hk | hk
    · exact .inl (.inl hk)
    · rcases h.2.2 with e | ⟨b, e, hb⟩
      · exact .inl (.inr (hk.trans e))
      · rw [e] at hk; injection hk with hk; rw [hk]; exact .inr hb
  · rcases k.2.2 with e | ⟨b, e, hb2⟩
    · rw [e]; exact h.2.2
    · exact .inr ⟨b, e, Nat.le_trans h.1.size hb2⟩
theorem Moved.drewN (h : Moved w W base g v v') (n : Nat) : Moved w (W.drewN n) base g v v' := ⟨pw_below_drewN h.1 n, h.2.1.drewN n, h.2.2⟩
theorem Moved.set (h : Moved w W base g v v') (hg : base ≤ g) (i : Nat) (u : Value) : Moved w (W.setCell ⟨g, i, none⟩ u) base g v v' :=
  ⟨h.1.setCell (p := ⟨g, i, none⟩) hg u, h.2.1.setCell (p := ⟨g, i, none⟩) (.inl (.inl rfl)) u, h.2.2⟩
theorem Moved.below (h : Moved w W base g v v') (hb : base ≤ W.heap.size) (k : Below W.heap.size W W2) : Moved w W2 base g v v' :=
  ⟨below_then h.1 hb k, h.2.1.below k, h.2.2⟩
theorem FeedAt.below (h : FeedAt W base g s v) (k : Below W.heap.size W W2) : FeedAt W2 base g s v := ⟨blk_below h.1 k, h.2.1, Nat.le_trans h.2.2.1 k.size, Kd.R_below h.2.2.2 k⟩
theorem FeedAt.app {ys : List Int} {v1 : Value} {w1 : World} (h : FeedAt W base g s v) (hr : Kd.R (Kd.int .u8) 5 w1 base (fun k => k ≠ g) v1 (s.fd ++ ys)) (hg : W.grownBy w1 v.ownBlock)
    (hat : v1.ownBlock = v.ownBlock ∨ (v1.ownBlock = some W.heap.size ∧ W.grownBy w1 none)) :
    w1.heap[g]? = some (.cells (s.cells v) 76 (0, 0)) ∧ FeedAt (w1.setCell ⟨g, 0, none⟩ v1) base g { s with fd := s.fd ++ ys } v1 ∧ Moved W (w1.setCell ⟨g, 0, none⟩ v1) base g v v1 := by
  have hb : w1.heap[g]? = some (.cells (s.cells v) 76 (0, 0)) := blk_grown h.1 hg h.ne
  have hbase : base ≤ w1.heap.size := Nat.le_trans h.2.2.1 hg.size
  refine ⟨hb, ⟨?_, h.2.1, by simpa using hbase, Kd.R_far hr (p := ⟨g, 0, none⟩) (fun k hk => hk) v1⟩, ⟨?_, ?_, ?_⟩⟩
  · have := blk_set hb 0 v1
    rw [this]
    rfl
  · exact ((Below.refl base W).grown hg h.2.2.1 (fun k hk => Kd.R_base h.2.2.2 k hk)).setCell (p := ⟨g, 0, none⟩) h.2.1 v1
  · exact (Kept.of_grown hg (Kept.refl W _) (fun k hk => .inl (.inr hk.symm))).setCell (p := ⟨g, 0, none⟩) (.inl (.inl rfl)) v1
  · rcases hat with e | ⟨e, _⟩
    · exact .inl e
    · exact .inr ⟨_, e, Nat.le_refl _⟩
structure PutInv (w wr : World) (base g : Nat) (s0 : FS) (l0 : List Int) (v0 : Value) (okp : Nat → Prop) (s : FS) (v : Value) (l : List Int) (A1 : Option Addr) (c1 : Nat) (v6 : Value) (cells : List (List Int)) : Prop where
  feed : FeedAt wr base g s v
  okay : s.Okay
  short : s.er = 0 → (s.fd.length : Int) < fsz s.st
  piece : Kd.F (Kd.int .u8) wr okp A1 l.length l
  cap : l.length ≤ c1
  pok : ∀ k, okp k → k ≠ g ∧ some k ≠ v0.ownBlock ∧ k < w.heap.size
  glt : g < w.heap.size
  moved : Moved w wr base g v0 v
  run1 : (s0.run l0).1 = (s.run l).1
  run2 : (s0.run l0).2 = cells ++ (s.run l).2
  rows : Kd.S (Kd.slice 5 (Kd.int .u8)) 30 wr w.heap.size (fun k => some k ≠ v.ownBlock) v6 cells
  cnt : (cells.length : Int) + s.left ≤ 65536
  emp : s.st ≤ 3 → cells = []
  bys : Bys l
  pos0 : 0 ≤ s.pos
  pos1 : s.pos + l.length ≤ 4611686018427387904
  big : l.length ≤ 140737488355328
def PutPost (w : World) (base g : Nat) (s0 : FS) (l0 : List Int) (v0 : Value) (e : Ending) (w' : World) : Prop :=
  ∃ vc v' : Value, e = .returned (.tuple #[vc, .int .i64 (s0.run l0).1.er]) ∧ FeedAt w' base g (s0.run l0).1 v' ∧ Moved w w' base g v0 v' ∧
    Kd.S (Kd.slice 5 (Kd.int .u8)) 30 w' w.heap.size (fun k => some k ≠ v'.ownBlock) vc (s0.run l0).2
end
theorem PutPost.of {w W : World} {base g : Nat} {s0 s' : FS} {l0 : List Int} {v0 v' v6 : Value} {cells : List (List Int)} (h : FeedAt W base g s' v') (m : Moved w W base g v0 v') (e1 : (s0.run l0).1 = s') (e2 : (s0.run l0).2 = cells)
    (hr : Kd.S (Kd.slice 5 (Kd.int .u8)) 30 W w.heap.size (fun k => some k ≠ v'.ownBlock) v6 cells) : PutPost w base g s0 l0 v0 (.returned (.tuple #[v6, .int .i64 s'.er])) W :=
  ⟨v6, v', by rw [e1], by rw [e1]; exact h, m, by rw [e2]; exact hr⟩
theorem PutPost.drewN {w W : World} {base g : Nat} {s0 : FS} {l0 : List Int} {v0 : Value} {e : Ending} (h : PutPost w base g s0 l0 v0 e W) (n : Nat) : PutPost w base g s0 l0 v0 e (W.drewN n) := by
  obtain ⟨vc, v', h1, h2, h3, h4⟩ := h
  exact ⟨vc, v', h1, h2.drewN n, h3.drewN n, Kd.S_drewN h4 n⟩
theorem PutInv.err {w wr : World} {base g : Nat} {s0 : FS} {l0 : List Int} {v0 : Value} {okp : Nat → Prop} {s : FS} {v : Value} {l : List Int} {A1 : Option Addr} {c1 : Nat} {v6 : Value} {cells : List (List Int)}
    (I : PutInv w wr base g s0 l0 v0 okp s v l A1 c1 v6 cells) (he : s.er ≠ 0) (n : Nat) : PutPost w base g s0 l0 v0 (.returned (.tuple #[v6, .int .i64 s.er])) (wr.drewN n) := by
  have hrun := FS.run_err l s he
  refine PutPost.of (I.feed.drewN n) (I.moved.drewN n) ?_ ?_ (Kd.S_drewN I.rows n)
  · rw [I.run1, hrun]
  · rw [I.run2, hrun]; simp
section
variable {w wr W W1 w1 : World} {base g B : Nat} {s0 s : FS} {l0 l : List Int} {v0 v v1 v6 : Value} {okp ok : Nat → Prop} {A1 : Option Addr} {c1 : Nat} {cells : List (List Int)}
theorem rows_app (h : Kd.S (Kd.slice 5 (Kd.int .u8)) 30 W B (fun k => some k ≠ v.ownBlock) v6 cells) (hg : W.grownBy w1 v.ownBlock) (hat : v1.ownBlock = v.ownBlock ∨ (v1.ownBlock = some W.heap.size ∧ W.grownBy w1 none)) :
    Kd.S (Kd.slice 5 (Kd.int .u8)) 30 w1 B (fun k => some k ≠ v1.ownBlock) v6 cells :=
  Kd.S_mono (Kd.S_after (ok := fun _ => True) (Kd.S_mono h (fun k hk => ⟨trivial, hk⟩)) hg (hat.imp id (fun h => ⟨_, h.1, Nat.le_refl _⟩))) (fun k hk => hk.2)
theorem rows_set (h : Kd.S (Kd.slice 5 (Kd.int .u8)) 30 W B ok v6 cells) (hg : g < B) (i : Nat) (u : Value) :
    Kd.S (Kd.slice 5 (Kd.int .u8)) 30 (W.setCell ⟨g, i, none⟩ u) B ok v6 cells :=
  Kd.S_mono (Kd.S_far (p := ⟨g, i, none⟩) (Kd.S_bound h) (fun k hk => by have := hk.2.1; show k ≠ g; omega) u) (fun k hk => hk.1)
theorem rows_fed (h : Kd.S (Kd.slice 5 (Kd.int .u8)) 30 W B ok v6 cells) (hg : g < B) (hk : KeepBut W W1 g none) :
    Kd.S (Kd.slice 5 (Kd.int .u8)) 30 W1 B ok v6 cells :=
  Kd.S_mono (Kd.S_keep (Kd.S_bound h) hk (fun k hk => by have := hk.2.1; omega)) (fun k hk => hk.1)
theorem Moved.sep (h : Moved w wr base g v0 v) {k : Nat} (h1 : some k ≠ v0.ownBlock) (h2 : k < w.heap.size) : some k ≠ v.ownBlock := by
  rcases h.2.2 with e | ⟨b, e, hb⟩
  · rw [e]; exact h1
  · rw [e]; intro x; injection x with x; omega
theorem PutInv.drewN (I : PutInv w wr base g s0 l0 v0 okp s v l A1 c1 v6 cells) (n : Nat) : PutInv w (wr.drewN n) base g s0 l0 v0 okp s v l A1 c1 v6 cells :=
  { I with feed := I.feed.drewN n, piece := Kd.F_drewN I.piece n, moved := I.moved.drewN n, rows := Kd.S_drewN I.rows n }
theorem PutInv.drew (I : PutInv w wr base g s0 l0 v0 okp s v l A1 c1 v6 cells) : PutInv w wr.drew base g s0 l0 v0 okp s v l A1 c1 v6 cells :=
  { I with feed := I.feed.drew, piece := Kd.F_drew I.piece, moved := ⟨below_drew I.moved.1, I.moved.2.1.drew, I.moved.2.2⟩, rows := Kd.S_drew I.rows }
theorem PutInv.take_ (I : PutInv w wr base g s0 l0 v0 okp s v l A1 c1 v6 cells) {n : Nat} (h : n ≤ l.length) : (Kd.int .u8).C wr A1 n (l.take n) := by
  have hc := Kd.F_now (Kd.F_take (m := n) I.piece h)
  rwa [List.length_take, Nat.min_eq_left h] at hc
structure PutMid (w W : World) (base g : Nat) (s0 : FS) (l0 : List Int) (v0 : Value) (okp : Nat → Prop) (s : FS) (v : Value) (l : List Int) (A1 : Option Addr) (c1 : Nat) (v6 : Value) (cells new : List (List Int)) : Prop where
  feed : FeedAt W base g s v
  okay : s.Okay
  er0 : s.er = 0
  full : (s.fd.length : Int) = fsz s.st
  piece : Kd.F (Kd.int .u8) W okp A1 l.length l
  cap : l.length ≤ c1
  pok : ∀ k, okp k → k ≠ g ∧ some k ≠ v0.ownBlock ∧ k < w.heap.size
  glt : g < w.heap.size
  moved : Moved w W base g v0 v
  run1 : (s0.run l0).1 = (s.fin.run l).1
  run2 : (s0.run l0).2 = cells ++ (new ++ (s.fin.run l).2)
  rows : Kd.S (Kd.slice 5 (Kd.int .u8)) 30 W w.heap.size (fun k => some k ≠ v.ownBlock) v6 cells
  cnt : (cells.length : Int) + new.length + s.left - (if s.st = 7 then 1 else 0) ≤ 65536
  emp : s.st ≤ 3 → cells = [] ∧ new = []
  bys : Bys l
  pos0 : 0 ≤ s.pos
  pos1 : s.pos + l.length ≤ 4611686018427387904
  big : l.length ≤ 140737488355328
theorem PutMid.drewN {new : List (List Int)} (I : PutMid w wr base g s0 l0 v0 okp s v l A1 c1 v6 cells new) (n : Nat) : PutMid w (wr.drewN n) base g s0 l0 v0 okp s v l A1 c1 v6 cells new :=
  { I with feed := I.feed.drewN n, piece := Kd.F_drewN I.piece n, moved := I.moved.drewN n, rows := Kd.S_drewN I.rows n }
theorem Bys.take {l : List Int} (h : Bys l) (n : Nat) : Bys (l.take n) := fun x hx => h x (List.mem_of_mem_take hx)
theorem Bys.drop {l : List Int} (h : Bys l) (n : Nat) : Bys (l.drop n) := fun x hx => h x (List.mem_of_mem_drop hx)
theorem piece_app (hp : Kd.F (Kd.int .u8) wr okp A1 l.length l) (pok : ∀ k, okp k → k ≠ g ∧ some k ≠ v.ownBlock) (hg : wr.grownBy w1 v.ownBlock) (u : Value) :
    Kd.F (Kd.int .u8) (w1.setCell ⟨g, 0, none⟩ u) okp A1 l.length l :=
  Kd.F_far (p := ⟨g, 0, none⟩) (Kd.F_grown hp hg (fun k hk => (pok k hk).2)) (fun k hk => (pok k hk).1) u
theorem PutInv.mid (I : PutInv w wr base g s0 l0 v0 okp s v l A1 c1 v6 cells) (he : s.er = 0) (n : Nat) (hn : fsz s.st = s.fd.length + n) (h1 : 1 ≤ n) (hle : n ≤ l.length)
    (hr : Kd.R (Kd.int .u8) 5 w1 base (fun k => k ≠ g) v1 (s.fd ++ l.take n)) (hg : wr.grownBy w1 v.ownBlock) (hat : v1.ownBlock = v.ownBlock ∨ (v1.ownBlock = some wr.heap.size ∧ wr.grownBy w1 none)) :
    PutMid w ((w1.setCell ⟨g, 0, none⟩ v1).setCell ⟨g, 1, none⟩ (.int .i64 (s.pos + n))) base g s0 l0 v0 okp (s.fill (l.take n)) v1 (l.drop n) (if c1 = n then A1 else A1.map (·.add (n * 1))) (c1 - n) v6 cells (if s.st = 7 then [s.fd ++ l.take n] else []) := by
  obtain ⟨_, hf, hm⟩ := I.feed.app hr hg hat
  have hsep : ∀ k, okp k → k ≠ g ∧ some k ≠ v.ownBlock := fun k hk => ⟨(I.pok k hk).1, I.moved.sep (I.pok k hk).2.1 (I.pok k hk).2.2⟩
  have htl : (l.take n).length = n := by simp; omega
  have hmv := I.moved.trans hm (Nat.le_trans hf.2.1 (Nat.le_of_lt I.glt))
  have hp := Kd.F_cut (m := n) (c := c1) (piece_app I.piece hsep hg v1) hle I.cap
  have hrun := FS.run_append (l.take n) (l.drop n) s
  rw [List.take_append_drop, FS.run_whole (l.take n) s he (by rw [htl]; omega) (by intro h; rw [h] at htl; simp at htl; omega)] at hrun
  have hdl : (l.drop n).length = l.length - n := List.length_drop
  have hb := I.big
  refine { feed := hf.set 1 _ ?_ rfl, okay := ?_, er0 := he, full := ?_, piece := ?_, cap := ?_, pok := I.pok, glt := I.glt, moved := hmv.set hf.2.1 1 _, run1 := ?_, run2 := ?_, rows := rows_set (rows_set (rows_app I.rows hg hat) I.glt 0 _) I.glt 1 _, cnt := ?_, emp := ?_, bys := I.bys.drop n, pos0 := ?_, pos1 := ?_, big := ?_ }
  · simp [FS.cells, FS.fill, htl]
  · exact { I.okay with by_ := I.okay.by_.append (I.bys.take n) }
  · simp only [FS.fill_fd, FS.fill_st, List.length_append, htl]; omega
  · exact Kd.F_far (p := ⟨g, 1, none⟩) hp (fun k hk => (hsep k hk).1) _
  · have := I.cap; omega
  · rw [I.run1, hrun]
  · rw [I.run2, hrun]
  · have := I.cnt
    simp only [FS.fill_st]
    by_cases h7 : s.st = 7
    · simp only [h7, if_true, List.length_cons, List.length_nil]
      show (cells.length : Int) + ((0 + 1 : Nat) : Int) + s.left - 1 ≤ 65536
      omega
    · simp only [h7, if_false, List.length_nil]
      show (cells.length : Int) + ((0 : Nat) : Int) + s.left - 0 ≤ 65536
      omega
  · intro h
    have h : s.st ≤ 3 := h
    exact ⟨I.emp h, by rw [if_neg (by omega)]⟩
  · have := I.pos0; show 0 ≤ s.pos + ((l.take n).length : Int); omega
  · have := I.pos1; show s.pos + ((l.take n).length : Int) + ((l.drop n).length : Int) ≤ _; rw [htl, hdl]; omega
  · omega
theorem PutInv.fin_short (I : PutInv w wr base g s0 l0 v0 okp s v l A1 c1 v6 cells) (he : s.er = 0) (hs : (s.fd.length : Int) + l.length < fsz s.st)
    (hr : Kd.R (Kd.int .u8) 5 w1 base (fun k => k ≠ g) v1 (s.fd ++ l)) (hg : wr.grownBy w1 v.ownBlock) (hat : v1.ownBlock = v.ownBlock ∨ (v1.ownBlock = some wr.heap.size ∧ wr.grownBy w1 none)) (q : Nat) :
    PutPost w base g s0 l0 v0 (.returned (.tuple #[v6, .int .i64 0])) (((w1.setCell ⟨g, 0, none⟩ v1).setCell ⟨g, 1, none⟩ (.int .i64 (s.pos + l.length))).drewN q) := by
  obtain ⟨_, hf, hm⟩ := I.feed.app hr hg hat
  have hmv := I.moved.trans hm (Nat.le_trans hf.2.1 (Nat.le_of_lt I.glt))
  have hrun := FS.run_short l s he hs
  rw [show (0 : Int) = (s.fill l).er from he.symm]
  refine PutPost.of (FeedAt.drewN (hf.set 1 (.int .i64 (s.pos + l.length)) (s' := s.fill l) ?_ rfl) q) ((hmv.set hf.2.1 1 _).drewN q) ?_ ?_ (Kd.S_drewN (rows_set (rows_set (rows_app I.rows hg hat) I.glt 0 _) I.glt 1 _) q)
  · simp [FS.cells, FS.fill]
  · rw [I.run1, hrun]
  · rw [I.run2, hrun]; simp
theorem judge_at (A : Option Addr) (c m : Nat) (hm : s.fd.length = m) (h : FeedAt W base g s (.slice A m c)) (ho : s.Okay) (hf : (s.fd.length : Int) = fsz s.st) :
    Calls Try.prog 37 #[.pointer (some ⟨g, 0, none⟩)] W fun e w' => e = .returned (.int .i64 s.jud.2) ∧ FeedAt w' base g s.jud.1 (.slice A m c) ∧ Fed base g W w' := by
  subst hm
  refine (judge_calls g base A c s W base h.2.1 h.1 h.2.2.2 ho hf).mono ?_
  rintro e w' ⟨h1, h2, h3⟩
  have hk := (FS.jud_okay s ho hf).1
  exact ⟨h1, ⟨h2, h.2.1, Nat.le_trans h.2.2.1 h3.1.size, by rw [hk.1]; exact Kd.R_keep h.2.2.2 h3.2 (fun k hk => hk)⟩, h3⟩
theorem Moved.fed (h : Moved w W base g v0 v) (k : Fed base g W W1) : Moved w W1 base g v0 v := ⟨h.1.trans k.1, h.2.1.of_keep k.2 (.inl (.inl rfl)), h.2.2⟩
theorem Own2.blk {A : Option Addr} {m c c' m' : Nat} : (Value.slice A m c).ownBlock = (Value.slice A m' c').ownBlock := by cases A <;> rfl
theorem PutMid.next {w4 : World} {A : Option Addr} {m c : Nat} (M : PutMid w W base g s0 l0 v0 okp s (.slice A m c) l A1 c1 v6 cells []) (he : s.jud.2 = 0) (hJ : FeedAt w4 base g s.jud.1 (.slice A m c)) (hF : Fed base g W w4) :
    PutInv w ((w4.setCell ⟨g, 9, none⟩ (.int .i64 0)).setCell ⟨g, 0, none⟩ (.slice A 0 c)) base g s0 l0 v0 okp s.fin (.slice A 0 c) l A1 c1 v6 cells := by
  obtain ⟨⟨k1, k2, k3, k4⟩, ko, k7, k8, k9⟩ := FS.jud_okay s M.okay M.full
  have hfin : s.fin = { s.jud.1 with er := 0, fd := [] } := by unfold FS.fin; rw [if_pos he]
  have hmm : s.jud.1.fd.length = m := by
    obtain ⟨A', c', e, _⟩ := Kd.R_slice hJ.2.2.2
    rfl
  have h1 : FeedAt (w4.setCell ⟨g, 9, none⟩ (.int .i64 0)) base g { s.jud.1 with er := 0 } (.slice A m c) := hJ.set 9 _ (by simp [FS.cells]) rfl
  have hR : Kd.R (Kd.int .u8) 5 (w4.setCell ⟨g, 9, none⟩ (.int .i64 0)) base (fun k => k ≠ g) (.slice A 0 c) [] := by
    have := Kd.R_take (m := 0) h1.2.2.2 (Nat.zero_le _)
    rwa [List.take_zero] at this
  have h2 : FeedAt ((w4.setCell ⟨g, 9, none⟩ (.int .i64 0)).setCell ⟨g, 0, none⟩ (.slice A 0 c)) base g s.fin (.slice A 0 c) := by
    refine ⟨?_, h1.2.1, by simpa using h1.2.2.1, ?_⟩
    · have := blk_set h1.1 0 (.slice A 0 c)
      rw [this, hfin]
      rfl
    · rw [hfin]; exact Kd.R_far hR (p := ⟨g, 0, none⟩) (fun k hk => hk) _
  have hm4 := M.moved.fed hF
  have hb : (Value.slice A 0 c).ownBlock = (Value.slice A m c).ownBlock := Own2.blk
  have hrows : Kd.S (Kd.slice 5 (Kd.int .u8)) 30 ((w4.setCell ⟨g, 9, none⟩ (.int .i64 0)).setCell ⟨g, 0, none⟩ (.slice A 0 c)) w.heap.size (fun k => some k ≠ (Value.slice A 0 c).ownBlock) v6 cells := by
    rw [hb]
    exact rows_set (rows_set (rows_fed M.rows M.glt hF.2) M.glt 9 _) M.glt 0 _
  refine { feed := h2, okay := ?_, short := ?_, piece := ?_, cap := M.cap, pok := M.pok, glt := M.glt, moved := ?_, run1 := M.run1, run2 := by rw [M.run2]; simp, rows := hrows, cnt := ?_, emp := ?_, bys := M.bys, pos0 := ?_, pos1 := ?_, big := M.big }
  · rw [hfin]
    exact { ko with by_ := fun x hx => by simp at hx }
  · intro _
    rw [hfin]
    have := fsz_pos s.jud.1.st
    show (([] : List Int).length : Int) < fsz s.jud.1.st
    simp; omega
  · refine Kd.F_far (p := ⟨g, 0, none⟩) (Kd.F_far (p := ⟨g, 9, none⟩) (Kd.F_keep M.piece hF.2 (fun k hk => (M.pok k hk).1)) (fun k hk => (M.pok k hk).1) _) (fun k hk => (M.pok k hk).1) _
  · have hm := (hm4.set h1.2.1 9 (.int .i64 0)).set h1.2.1 0 (.slice A 0 c)
    exact ⟨hm.1, hm.2.1, by rw [hb]; exact hm.2.2⟩
  · have := M.cnt
    rw [hfin]
    show (cells.length : Int) + s.jud.1.left ≤ 65536
    by_cases h7 : s.st = 7
    · rw [if_pos h7] at this; rw [(k7 h7).1]; simp only [List.length_nil] at this; omega
    · rw [if_neg h7] at this
      rcases k8 h7 with h3 | h3
      · rw [(M.emp h3).1]; have := ko.l1; simp; omega
      · rw [h3]; simp only [List.length_nil] at this; omega
  · rw [hfin]
    intro h
    exact (M.emp (k9 h)).1
  · rw [hfin]; show 0 ≤ s.jud.1.pos; rw [k2]; exact M.pos0
  · rw [hfin]; show s.jud.1.pos + _ ≤ _; rw [k2]; exact M.pos1
theorem PutMid.fault {w4 : World} {A : Option Addr} {m c : Nat} (M : PutMid w W base g s0 l0 v0 okp s (.slice A m c) l A1 c1 v6 cells []) (hm : s.fd.length = m) (he : s.jud.2 ≠ 0) (hJ : FeedAt w4 base g s.jud.1 (.slice A m c)) (hF : Fed base g W w4) (q : Nat) :
    PutPost w base g s0 l0 v0 (.returned (.tuple #[v6, .int .i64 s.jud.2])) (((w4.setCell ⟨g, 9, none⟩ (.int .i64 s.jud.2)).setCell ⟨g, 10, none⟩ (.int .i64 (s.jud.1.pos - m))).drewN q) := by
  obtain ⟨⟨k1, k2, k3, k4⟩, ko, k7, k8, k9⟩ := FS.jud_okay s M.okay M.full
  have hfin : s.fin = { s.jud.1 with er := s.jud.2, pl := s.jud.1.pos - s.jud.1.fd.length } := by unfold FS.fin; rw [if_neg he]
  have hrun := FS.run_err l s.fin (by rw [hfin]; exact he)
  have h1 : FeedAt (w4.setCell ⟨g, 9, none⟩ (.int .i64 s.jud.2)) base g { s.jud.1 with er := s.jud.2 } (.slice A m c) := hJ.set 9 _ (by simp [FS.cells]) rfl
  have h2 : FeedAt ((w4.setCell ⟨g, 9, none⟩ (.int .i64 s.jud.2)).setCell ⟨g, 10, none⟩ (.int .i64 (s.jud.1.pos - m))) base g s.fin (.slice A m c) := by
    rw [hfin]
    exact h1.set 10 _ (by simp [FS.cells, k1, hm]) rfl
  have hmv := ((M.moved.fed hF).set h1.2.1 9 (.int .i64 s.jud.2)).set h1.2.1 10 (.int .i64 (s.jud.1.pos - m))
  have e : s.jud.2 = s.fin.er := by rw [hfin]
  have := PutPost.of (s0 := s0) (l0 := l0) (cells := cells) (v6 := v6) (h2.drewN q) (hmv.drewN q) (by rw [M.run1, hrun]) (by rw [M.run2, hrun]; simp) (Kd.S_drewN (rows_set (rows_set (rows_fed M.rows M.glt hF.2) M.glt 9 _) M.glt 10 _) q)
  rw [← e] at this
  exact this
theorem PutMid.clone_pre {w3 : World} {u : Value} {new : List (List Int)} (M : PutMid w W base g s0 l0 v0 okp s v l A1 c1 v6 cells new) (hu : Kd.R (Kd.int .u8) 5 w3 W.heap.size (fun _ => True) u s.fd) (hb : Below W.heap.size W w3) :
    (Kd.slice 5 (Kd.int .u8)).M w3 w.heap.size (fun k => some k = u.ownBlock) s.fd [u] ∧ (∀ k, some k = u.ownBlock → some k ≠ v.ownBlock ∧ some k ≠ v6.ownBlock) ∧ (∀ k, w3.heap.size ≤ k → some k ≠ v.ownBlock) ∧
      Kd.S (Kd.slice 5 (Kd.int .u8)) 30 w3 w.heap.size (fun k => some k ≠ v.ownBlock ∧ ¬ some k = u.ownBlock) v6 cells ∧ w.heap.size ≤ w3.heap.size := by
  have hws : w.heap.size ≤ W.heap.size := M.moved.1.size
  have hv : ∀ k, v.ownBlock = some k → k < W.heap.size := Kd.R_lt M.feed.2.2.2
  have hv6 : ∀ k, v6.ownBlock = some k → k < W.heap.size := Kd.S_lt M.rows
  have hub : ∀ k, u.ownBlock = some k → W.heap.size ≤ k := Kd.R_base hu
  refine ⟨Kd.M_row (Kd.R_mono (Kd.R_tight rfl (Kd.R_lower hu hws)) (fun _ h => h)), fun k hk => ?_, fun k hk e => ?_, ?_, Nat.le_trans hws hb.size⟩
  · have := hub k hk.symm
    exact ⟨fun e => by have := hv k e.symm; omega, fun e => by have := hv6 k e.symm; omega⟩
  · have := hv k e.symm
    have := hb.size
    omega
  · refine Kd.S_below (Kd.S_mono (Kd.S_bound M.rows) (fun k hk => ⟨hk.1, fun e => ?_⟩)) hb
    have := hub k e.symm
    omega
theorem PutMid.clone {w3 w5 : World} {v7 : Value} (M : PutMid w W base g s0 l0 v0 okp s v l A1 c1 v6 cells [s.fd]) (h7 : s.st = 7) (hb : Below W.heap.size W w3)
    (hS : Kd.S (Kd.slice 5 (Kd.int .u8)) 30 w5 w.heap.size (fun k => some k ≠ v.ownBlock) v7 (cells ++ [s.fd])) (hg : w3.grownBy w5 v6.ownBlock) :
    PutMid w w5 base g s0 l0 v0 okp s v l A1 c1 v7 (cells ++ [s.fd]) [] := by
  have hbase := M.feed.2.1
  have hv6 : ∀ k, v6.ownBlock = some k → w.heap.size ≤ k ∧ some k ≠ v.ownBlock := fun k hk => ⟨Kd.S_base M.rows k hk, (Kd.S_R M.rows).1 k hk⟩
  have hgv : some g ≠ v6.ownBlock := fun e => by have := (hv6 g e.symm).1; have := M.glt; omega
  have hf3 := M.feed.below hb
  have hf5 : FeedAt w5 base g s v := ⟨blk_grown hf3.1 hg hgv, hbase, Nat.le_trans hf3.2.2.1 hg.size, Kd.R_mono (Kd.R_grown (ok := fun k => k ≠ g ∧ some k = v.ownBlock) (Kd.R_mono (Kd.R_tight rfl hf3.2.2.2) (fun k hk => ⟨fun e => hf3.ne (e ▸ hk), hk⟩)) hg (fun k hk e => (hv6 k e.symm).2 hk.2)) (fun k hk => hk.1)⟩
  have hp3 := Kd.F_below M.piece hb
  refine { M with feed := hf5, piece := Kd.F_grown hp3 hg (fun k hk e => ?_), moved := ?_, run2 := ?_, rows := hS, cnt := ?_, emp := fun h => by omega }
  · have := (hv6 k e.symm).1
    have := (M.pok k hk).2.2
    omega
  · have h3 := M.moved.below M.feed.2.2.1 hb
    · exact ⟨h3.1.grown hg hf3.2.2.1 (fun k hk => by have := (hv6 k hk).1; have := M.glt; omega), Kept.of_grown hg h3.2.1 (fun k hk => .inr (hv6 k hk).1), h3.2.2⟩
  · rw [M.run2]; simp
  · have := M.cnt
    rw [if_pos h7] at this ⊢
    simp only [List.length_append, List.length_cons, List.length_nil] at this ⊢
    omega
end
attribute [local go_sem] set_set
set_option maxHeartbeats 1000000 in
set_option maxRecDepth 100000 in
theorem put_calls (s0 : FS) (g base : Nat) (v0 : Value) (l0 : List Int) (A0 : Option Addr) (c0 : Nat) (okp : Nat → Prop) (w : World) (hf : FeedAt w base g s0 v0) (ho : s0.Okay) (hsh : s0.er = 0 → (s0.fd.length : Int) < fsz s0.st)
    (hp : Kd.F (Kd.int .u8) w okp A0 l0.length l0) (hc : l0.length ≤ c0) (hok : ∀ k, okp k → k ≠ g ∧ some k ≠ v0.ownBlock ∧ k < w.heap.size) (hb : Bys l0) (hp0 : 0 ≤ s0.pos) (hp1 : s0.pos + l0.length ≤ 4611686018427387904) (hbig : l0.length ≤ 140737488355328) :
    Calls Try.prog 22 #[.pointer (some ⟨g, 0, none⟩), .slice A0 l0.length c0] w fun e w' => PutPost w base g s0 l0 v0 e w' := by
  have hu76 := Try.underlying76
  have hu30 := Try.underlying30
  have hnil := fun W : World => run_eql_pointer_nil (P := Try.prog) W 46 (some ⟨g, 0, none⟩) (by kernel_rfl)
  simp only [Option.isNone] at hnil
  have hu33 := Try.underlying33
  have hu24 := Try.underlying24
  have I0 : Aside0 (PutInv w w base g s0 l0 v0 okp s0 v0 l0 A0 c0 (.slice none 0 0) []) := ⟨{ feed := hf, okay := ho, short := hsh, piece := hp, cap := hc, pok := hok, glt := hf.lt, moved := Moved.refl _ _ _ _, run1 := rfl, run2 := rfl, rows := Kd.S_nil _ _ _ _ _, cnt := by have := ho.l1; simp; omega, emp := fun _ => rfl, bys := hb, pos0 := hp0, pos1 := hp1, big := hbig }⟩
  clear hf ho hsh hp hc hok hb hp0 hp1 hbig
  go_enter Try.func22, Try.ntmps22
  go_wp2_with (fail)
  go_step3
  go_wp2_with (fail)
  go_step3
  go_wp2_with (fail)
  go_loopg [1, 6] l0.length (fun gg v1 v6 wr => ∃ (s : FS) (v : Value) (l : List Int) (A1 : Option Addr) (c1 : Nat) (cells : List (List Int)), v1 = .slice A1 l.length c1 ∧ Aside0 (PutInv w wr base g s0 l0 v0 okp s v l A1 c1 v6 cells) ∧ Aside0 (l.length ≤ gg))
  case atStart => exact ⟨s0, v0, l0, A0, c0, [], rfl, I0, ⟨Nat.le_refl _⟩⟩
  case round =>
    obtain ⟨s, v, l, A1, c1, cells, rfl, I, G⟩ := hrel
    clear I0
    obtain ⟨A, c, rfl, hfc, hC⟩ := I.out.feed.form
    have HC := Aside0.mk hC
    have HFC := Aside0.mk hfc
    have B0 := Aside0.mk I.out.feed.1
    obtain ⟨fd, pos, st, left, R, E, L, a, b, er, pl⟩ := s
    simp only [FS.cells] at B0
    have Z := feed_cells B0.out
    obtain ⟨⟨z0, z1, z2, z3, z4, z5, z6, z7, z8, z9, z10⟩, f0, f1, f2, f3, f4, f5, f6, f7, f8, f9, f10⟩ := Z
    clear hfc hC
    by_cases her : er = 0
    · subst her
      obtain ⟨z, hz⟩ : ∃ z : Nat, fsz st = z := ⟨(fsz st).toNat, by have := fsz_pos st; omega⟩
      have hzl : fd.length < z := by have := I.out.short rfl; simp only [] at this; omega
      have hz320 : z ≤ 320 := by have := fsz_pos st; omega
      have hsz := fun q : Nat => size_calls g (.slice A fd.length c) (.int .i64 pos) (.int .i64 left) (.int .i64 R) (.int .i64 E) (.int .i64 L) (.int .u32 a) (.int .u32 b) (.int .i64 0) (.int .i64 pl) st (wr.drewN q) I.out.okay.st0 I.out.okay.st9 (blk_drewN B0.out q)
      rw [hz] at hsz
      obtain ⟨n, hn⟩ : ∃ n : Nat, z = fd.length + n := ⟨z - fd.length, by omega⟩
      have hsub : IntKind.i64.wrap ((z : Int) - (fd.length : Int)) = (n : Int) := (i64_w _).trans (by rw [w64 (by omega) (by omega)]; omega)
      have HZ := Aside0.mk hz
      have HN := Aside0.mk hn
      have HSZ := Aside0.mk hsz
      have HZL := Aside0.mk hzl
      have n0 : (0 : Int) ≤ (n : Int) := by omega
      have n1 : (n : Int) ≤ 320 := by omega
      have HZ320 := Aside0.mk hz320
      clear hz hn hzl hsz hz320
      go_wp2_with (fail)
      go_quiet ((go_at_call 35; exact Calls.quiet_of_same (HSZ.out _)))
      have p0 := I.out.pos0
      have p1 := I.out.pos1
      have lb := I.out.big
      simp only [] at p0 p1
      have hi5 := info5
      by_cases hlt : l.length < n
      · have t1 : decide ((n : Int) > (l.length : Int)) = true := decide_eq_true (by omega)
        have t2 : decide ((l.length : Int) < (n : Int)) = true := decide_eq_true (by omega)
        have t3 : decide (l.length < n) = true := decide_eq_true hlt
        have HLT := Aside0.mk hlt
        clear hlt
        have hsum : IntKind.i64.wrap (pos + (l.length : Int)) = pos + (l.length : Int) := (i64_w _).trans (w64 (by omega) (by omega))
        go_wp2_with ((with_reducible refine gate_builtin (b := .append) (xs := #[.tmp 31, .tmp 32]) rfl ?_); at_builtin; go_loud (refine Kd.R_app_int base rfl (.tmp 31) (.tmp 32) 30 5 1 rfl Try.underlying30 info5 (by omega) (.slice (A) fd.length c) fd l A1 l.length c1 (fun k => k ≠ g) rfl rfl ?fresh ?HO ?HR ?base ?hl ?_; (case fresh => have := I.out.feed.lt; simp only [World.drewN]; omega); (case HO => exact (I.out.drewN _).feed.2.2.2); (case HR => exact Kd.F_now (I.out.drewN _).piece); (case base => exact (I.out.drewN _).feed.2.2.1); (case hl => have := HLT.out; have := HZL.out; have := HZ320.out; omega); intro v1 w1 hr1 hg1 hat1; obtain ⟨Ax, cx, rfl, hlx, -⟩ := Kd.R_reads hr1; simp only [List.length_append] at hr1 hg1 hat1 hlx; have HLX := Aside0.mk hlx; clear hlx; have M := (I.out.drewN _).feed.app hr1 hg1 hat1; have HR1 := Aside0.mk hr1; have HG1 := Aside0.mk hg1; have HAT1 := Aside0.mk hat1; clear hr1 hg1 hat1; have M1 := M.1; simp only [FS.cells] at M1; clear M z0 z1 z2 z3 z4 z5 z6 z7 z8 z9 z10 f0 f1 f2 f3 f4 f5 f6 f7 f8 f9 f10; have Z := feed_cells M1; obtain ⟨⟨z0, z1, z2, z3, z4, z5, z6, z7, z8, z9, z10⟩, f0, f1, f2, f3, f4, f5, f6, f7, f8, f9, f10⟩ := Z; clear M1))
        go_quiet (fail)
        go_wp2_with (fail)
        go_ret2
        exact (I.out.drewN _).fin_short rfl (by have := HLT.out; have := HN.out; have := HZ.out; simp only []; omega) HR1.out HG1.out HAT1.out _
      · have t1 : decide ((n : Int) > (l.length : Int)) = false := decide_eq_false (by omega)
        have t2 : decide ((l.length : Int) < (n : Int)) = false := decide_eq_false (by omega)
        have t3 : decide (l.length < n) = false := decide_eq_false hlt
        have hnl : (n : Int) ≤ (l.length : Int) := by omega
        have HLT := Aside0.mk hlt
        clear hlt
        obtain ⟨i5, hi05, -, hsz5, -⟩ := info_parts info5
        have hcut := cut_to (P := Try.prog) 30 5 .i64 Try.underlying30 hi05 A1 l.length c1 (n : Int) n0 hnl I.out.cap
        have hcut2 := cut_from (P := Try.prog) 30 5 .i64 Try.underlying30 hi05 1 hsz5 A1 l.length c1 (n : Int) n0 hnl
        simp only [Int.toNat_natCast] at hcut hcut2
        have htl : (l.take n).length = n := by simp; omega
        have hgl := I.out.feed.lt
        have hgn := I.out.feed.ne
        go_wp2_with (fail)
        go_region_law
          (first | (refine Kd.step_app_int base rfl (.tmp 49) (.tmp 52) 30 5 1 rfl Try.underlying30 info5 (by omega) (.slice A fd.length c) fd (l.take n) A1 n c1 (fun k => k ≠ g) rfl rfl ?fresh ?HO ?HR ?base ?hl ?_; (case fresh => simp only [World.drewN, World.drew]; omega); (case HO => exact (I.out.drewN _).drew.feed.2.2.2); (case HR => exact (I.out.drewN _).drew.take_ (by omega)); (case base => exact (I.out.drewN _).drew.feed.2.2.1); (case hl => have := HZL.out; have := HZ320.out; omega); intro v1 w1 hr1 hg1 hat1; obtain ⟨Ax, cx, rfl, hlx⟩ := R_sliceN (m := z) hr1 (by rw [List.length_append, htl, HN.out]); (have M := (I.out.drewN _).drew.feed.app hr1 hg1 hat1); (have M1 := M.1); (simp only [FS.cells] at M1); (have Z := feed_cells M1)))
        have MID := (I.out.drewN nq).drew.mid rfl n (by have := HN.out; have := HZ.out; simp only []; omega) (by have := HZL.out; have := HN.out; omega) (by omega) hr1 hg1 hat1
        obtain ⟨S', hS'⟩ : ∃ S', S' = (FS.mk fd pos st left R E L a b 0 pl).fill (l.take n) := ⟨_, rfl⟩
        obtain ⟨A2, hA2⟩ : ∃ A2, A2 = (if c1 = n then A1 else A1.map (·.add (n * 1))) := ⟨_, rfl⟩
        simp only [] at MID
        rw [← hS', ← hA2] at MID
        rw [← hA2] at hcut2
        have hfl : S'.fd.length = z := by rw [hS', HN.out]; simp only [FS.fill_fd, List.length_append, htl]
        have hst : S'.st = st := by rw [hS']; rfl
        have hps : S'.pos = pos + n := by rw [hS']; simp only [FS.fill, htl]
        have hfd : fd ++ l.take n = S'.fd := by rw [hS']; rfl
        rw [hfd] at MID
        have hdl : (l.drop n).length = l.length - n := List.length_drop
        have HM := Aside0.mk MID
        have HLX := Aside0.mk hlx
        have HFL := Aside0.mk hfl
        have HST := Aside0.mk hst
        have HPS := Aside0.mk hps
        have HDL := Aside0.mk hdl
        clear MID M M1 hr1 hg1 hat1 hlx hgl hgn htl hcut hS' hA2 hfl hst hps hfd hdl z0 z1 z2 z3 z4 z5 z6 z7 z8 z9 z10 f0 f1 f2 f3 f4 f5 f6 f7 f8 f9 f10
        obtain ⟨⟨z0, z1, z2, z3, z4, z5, z6, z7, z8, z9, z10⟩, f0, f1, f2, f3, f4, f5, f6, f7, f8, f9, f10⟩ := Z
        by_cases h7 : st = 7
        · subst h7
          have HMn := Aside0.mk (show PutMid w ((w1.setCell ⟨g, 0, none⟩ (.slice Ax z cx)).setCell ⟨g, 1, none⟩ (.int .i64 (pos + (n : Int)))) base g s0 l0 v0 okp S' (.slice Ax z cx) (l.drop n) A2 (c1 - n) u6 cells [S'.fd] from by have := HM.out; rwa [if_pos rfl] at this)
          clear HM
          have HM := HMn
          clear HMn
          go_wp2_with (first | (go_at_call 36; (have hcl := slices_Clone_byte_byte.calls Ax cx S'.fd S'.fd _ (Kd.R_reads' (by have := HM.out.feed.2.2.2; rw [← HFL.out] at this; exact this)).2.2 (by rw [HFL.out]; exact HLX.out) (by unfold slices_Clone_byte_byte.f; rw [if_pos (by rw [HFL.out]; have := HZ320.out; omega)])); rw [HFL.out] at hcl; refine hcl.mono ?_; clear hcl; rintro e w3 ⟨u, rfl, hu, hb3⟩; have PRE := Aside0.mk (HM.out.clone_pre hu hb3); obtain ⟨Au, cu, rfl, hlu⟩ := R_sliceN (m := z) hu HFL.out; have HB3 := Aside0.mk hb3; clear hu hb3 hlu z0 z1 z2 z3 z4 z5 z6 z7 z8 z9 z10 f0 f1 f2 f3 f4 f5 f6 f7 f8 f9 f10) | ((with_reducible refine gate_builtin (b := .append) (xs := #[.tmp 72, .tmp 78]) rfl ?_); at_builtin; refine Kd.S_append (Kd.slice 5 (Kd.int .u8)) (w0 := w3) w.heap.size rfl (.tmp 72) (.tmp 78) 24 30 (.slice none 0 0) 24 rfl Try.underlying24 info30 rfl (by decide) (by omega) u6 cells S'.fd [.slice Au z cu] (fun k => some k ≠ (Value.slice Ax z cx).ownBlock) (fun k => some k = (Value.slice Au z cu).ownBlock) rfl rfl PRE.out.1 PRE.out.2.1 PRE.out.2.2.1 PRE.out.2.2.2.1 (Below.refl _ _) PRE.out.2.2.2.2 ?aL ?_; (case aL => have h8 := HM.out.okay.l0; have h9 := HM.out.cnt; rw [if_pos HST.out] at h9; have h10 : (([S'.fd] : List (List Int)).length : Int) = 1 := rfl; rw [h10] at h9; omega); intro v7 w5 hS hb5 hg5 hat5; have HM5 := Aside0.mk (HM.out.clone HST.out HB3.out hS hg5); clear hS hb5 hg5 hat5; clear HM; have HM := HM5; clear HM5) | (go_at_call 37; (refine (judge_at Ax cx z HFL.out HM.out.feed HM.out.okay HM.out.full).mono ?_); rintro e w4 ⟨rfl, hJ, hF⟩; obtain ⟨ej, hej⟩ : ∃ ej, ej = S'.jud.2 := ⟨_, rfl⟩; obtain ⟨sj, hsj⟩ : ∃ sj, sj = S'.jud.1 := ⟨_, rfl⟩; rw [← hsj] at hJ; (try rw [← hej]); have HEJ := Aside0.mk hej; have HSJ := Aside0.mk hsj; have HF := Aside0.mk hF; have HJ := Aside0.mk hJ; clear hej hsj hF; (try clear z0 z1 z2 z3 z4 z5 z6 z7 z8 z9 z10 f0 f1 f2 f3 f4 f5 f6 f7 f8 f9 f10); have Z := feed_cells hJ.1; clear hJ; obtain ⟨⟨z0, z1, z2, z3, z4, z5, z6, z7, z8, z9, z10⟩, f0, f1, f2, f3, f4, f5, f6, f7, f8, f9, f10⟩ := Z))
          · have he : ej ≠ 0 := bne_iff_ne.1 (by assumption)
            have HE := Aside0.mk he
            clear he
            have hpz : sj.pos = pos + n := by rw [HSJ.out, (FS.jud_okay S' HM.out.okay HM.out.full).1.2.1]; exact HPS.out
            have hw : IntKind.i64.wrap (sj.pos - (z : Int)) = sj.pos - (z : Int) := (i64_w _).trans (w64 (by have := HZ320.out; omega) (by have := HZ320.out; omega))
            clear hpz
            go_region
            go_wp2_with (fail)
            go_quiet (fail)
            go_wp2_with (fail)
            go_ret2
            have hfl := HM.out.fault HFL.out (by rw [← HEJ.out]; exact HE.out) (by rw [← HSJ.out]; exact HJ.out) HF.out
            rw [← HEJ.out, ← HSJ.out] at hfl
            exact (hfl 1).drewN _
          · have he0 : ej = 0 := by simpa using (by assumption : (ej != 0) = false)
            subst he0
            go_roundg (l.length - n)
            case measure => have := G.out; have := HZL.out; have := HN.out; omega
            case rel =>
              refine ⟨S'.fin, .slice Ax 0 cx, l.drop n, A2, c1 - n, cells ++ [S'.fd], by rw [HDL.out], ⟨HM.out.next HEJ.out.symm (by rw [← HSJ.out]; exact HJ.out) HF.out⟩, ⟨by rw [HDL.out]; omega⟩⟩
        · have s1 := beq_eq_false_iff_ne.mpr h7
          have HMn := Aside0.mk (show PutMid w ((w1.setCell ⟨g, 0, none⟩ (.slice Ax z cx)).setCell ⟨g, 1, none⟩ (.int .i64 (pos + (n : Int)))) base g s0 l0 v0 okp S' (.slice Ax z cx) (l.drop n) A2 (c1 - n) u6 cells [] from by have := HM.out; rwa [if_neg h7] at this)
          clear HM
          have HM := HMn
          clear HMn
          clear h7
          go_wp2_with (go_at_call 37; (refine (judge_at Ax cx z HFL.out HM.out.feed HM.out.okay HM.out.full).mono ?_); rintro e w4 ⟨rfl, hJ, hF⟩; obtain ⟨ej, hej⟩ : ∃ ej, ej = S'.jud.2 := ⟨_, rfl⟩; obtain ⟨sj, hsj⟩ : ∃ sj, sj = S'.jud.1 := ⟨_, rfl⟩; rw [← hsj] at hJ; (try rw [← hej]); have HEJ := Aside0.mk hej; have HSJ := Aside0.mk hsj; have HF := Aside0.mk hF; have HJ := Aside0.mk hJ; clear hej hsj hF; (try clear z0 z1 z2 z3 z4 z5 z6 z7 z8 z9 z10 f0 f1 f2 f3 f4 f5 f6 f7 f8 f9 f10); have Z := feed_cells hJ.1; clear hJ; obtain ⟨⟨z0, z1, z2, z3, z4, z5, z6, z7, z8, z9, z10⟩, f0, f1, f2, f3, f4, f5, f6, f7, f8, f9, f10⟩ := Z)
          · have he : ej ≠ 0 := bne_iff_ne.1 (by assumption)
            have HE := Aside0.mk he
            clear he
            have hpz : sj.pos = pos + n := by rw [HSJ.out, (FS.jud_okay S' HM.out.okay HM.out.full).1.2.1]; exact HPS.out
            have hw : IntKind.i64.wrap (sj.pos - (z : Int)) = sj.pos - (z : Int) := (i64_w _).trans (w64 (by have := HZ320.out; omega) (by have := HZ320.out; omega))
            clear hpz
            go_region
            go_wp2_with (fail)
            go_quiet (fail)
            go_wp2_with (fail)
            go_ret2
            have hfl := HM.out.fault HFL.out (by rw [← HEJ.out]; exact HE.out) (by rw [← HSJ.out]; exact HJ.out) HF.out
            rw [← HEJ.out, ← HSJ.out] at hfl
            exact (hfl 1).drewN _
          · have he0 : ej = 0 := by simpa using (by assumption : (ej != 0) = false)
            subst he0
            go_roundg (l.length - n)
            case measure => have := G.out; have := HZL.out; have := HN.out; omega
            case rel =>
              refine ⟨S'.fin, .slice Ax 0 cx, l.drop n, A2, c1 - n, cells, by rw [HDL.out], ⟨HM.out.next HEJ.out.symm (by rw [← HSJ.out]; exact HJ.out) HF.out⟩, ⟨by rw [HDL.out]; omega⟩⟩
    · have h1 := beq_eq_false_iff_ne.mpr her
      have h2 := bne_iff_ne.mpr her
      have HE := Aside0.mk her
      clear her
      go_wp2_with (fail)
      go_quiet (fail)
      go_wp2_with (fail)
      go_ret2
      exact I.out.err HE.out _
theorem new_calls (w : World) : Calls Try.prog 21 #[] w fun e w' => ∃ g : Nat, e = .returned (.pointer (some ⟨g, 0, none⟩)) ∧ FeedAt w' w.heap.size g FS.init (.slice none 0 0) ∧ Below w.heap.size w w' := by
  have hu76 := Try.underlying76
  have hu69 := Try.underlying69
  go_enter Try.func21, Try.ntmps21
  go_wp2
  go_ret
  refine ⟨w.heap.size, rfl, ⟨blk_new _ _, Nat.le_refl _, ?_, Kd.R_nil _ _ _ _ _⟩, (Below.refl _ _).alloc (Nat.le_refl _) _⟩
  simp
def FS.fend (s : FS) : Int × Int := if s.er ≠ 0 then (s.pl, s.er) else if s.st < 9 then (s.pos, 67) else (0, 0)
theorem end_calls (W : World) (base g : Nat) (s : FS) (v : Value) (h : FeedAt W base g s v) : Calls Try.prog 27 #[.pointer (some ⟨g, 0, none⟩)] W fun e w' => e = .returned (.tuple #[.int .i64 s.fend.1, .int .i64 s.fend.2]) ∧ Drawn0 W w' := by
  have hu76 := Try.underlying76
  have hnil := fun W : World => run_eql_pointer_nil (P := Try.prog) W 46 (some ⟨g, 0, none⟩) (by kernel_rfl)
  simp only [Option.isNone] at hnil
  obtain ⟨fd, pos, st, left, R, E, L, a, b, er, pl⟩ := s
  have Z := feed_cells h.1
  obtain ⟨⟨z0, z1, z2, z3, z4, z5, z6, z7, z8, z9, z10⟩, -⟩ := Z
  clear h
  by_cases he : er = 0
  · subst he
    by_cases hs : st < 9
    · have c1 : decide (st < 9) = true := decide_eq_true hs
      have e1 : FS.fend ⟨fd, pos, st, left, R, E, L, a, b, 0, pl⟩ = (pos, 67) := by simp [FS.fend, hs]
      rw [e1]
      clear hs e1
      go_enter Try.func27, Try.ntmps27
      go_wp2
      go_ret2
      exact ⟨rfl, Drawn0.refl _⟩
    · have c1 : decide (st < 9) = false := decide_eq_false hs
      have e1 : FS.fend ⟨fd, pos, st, left, R, E, L, a, b, 0, pl⟩ = (0, 0) := by simp [FS.fend, hs]
      rw [e1]
      clear hs e1
      go_enter Try.func27, Try.ntmps27
      go_wp2
      go_ret2
      exact ⟨rfl, Drawn0.refl _⟩
  · have c1 := beq_eq_false_iff_ne.mpr he
    have c2 := bne_iff_ne.mpr he
    have e1 : FS.fend ⟨fd, pos, st, left, R, E, L, a, b, er, pl⟩ = (pl, er) := by simp [FS.fend, he]
    rw [e1]
    clear he e1
    go_enter Try.func27, Try.ntmps27
    go_wp2
    go_quiet (fail)
    go_wp2
    go_ret2
    exact ⟨rfl, ⟨⟨_, rfl⟩⟩⟩
def FS.fhead (s : FS) : Int × Int × Int × Bool := if s.st < 6 then (0, 0, 0, false) else (s.R, s.E, s.L, true)
theorem init_okay : FS.init.Okay := ⟨by decide, by decide, fun x hx => by simp [FS.init] at hx, by decide, by decide, by decide, by decide, by decide, by decide, by intro h; simp [FS.init] at h⟩
theorem sethT {W : World} {g T : Nat} {cs cs' : Array Value} (h : W.heap[g]? = some (.cells cs T (0, 0))) (e : cs = cs') : W.heap[g]? = some (.cells cs' T (0, 0)) := e ▸ h
structure ReadMid (w W : World) (l0 : List Int) (gb g B B2 : Nat) (vc v' : Value) : Prop where
  box : W.heap[gb]? = some (.cells #[.int .i64 0, .int .i64 0, .int .i64 0, .slice none 0 0] 26 (0, 0))
  feed : FeedAt W B g (FS.init.run l0).1 v'
  below : Below w.heap.size w W
  gb0 : w.heap.size ≤ gb
  gbB : gb < B
  le2 : w.heap.size ≤ B2
  lt2 : gb < B2
  rows : Kd.S (Kd.slice 5 (Kd.int .u8)) 30 W B2 (fun k => some k ≠ v'.ownBlock) vc (FS.init.run l0).2
theorem read_put (w w1 w2 : World) (l0 : List Int) (A0 : Option Addr) (c0 : Nat) (gb g : Nat) (hr0 : Kd.C (Kd.int .u8) w A0 l0.length l0) (hc0 : l0.length ≤ c0) (hy : Bys l0) (hbig : l0.length ≤ 140737488355328) (hb1 : Below w.heap.size w w1) (hbox : w1.heap[gb]? = some (.cells #[.int .i64 0, .int .i64 0, .int .i64 0, .slice none 0 0] 26 (0, 0))) (hgb : w.heap.size ≤ gb)
    (hf : FeedAt w2 w1.heap.size g FS.init (.slice none 0 0)) (hb2 : Below w1.heap.size w1 w2) :
    Calls Try.prog 22 #[.pointer (some ⟨g, 0, none⟩), .slice A0 l0.length c0] w2 fun e w' => ∃ vc v' : Value, e = .returned (.tuple #[vc, .int .i64 (FS.init.run l0).1.er]) ∧ ReadMid w w' l0 gb g w1.heap.size w2.heap.size vc v' := by
  have hlt := blk_lt hbox
  have hw1 := hb1.size
  have hw2 := hb2.size
  have hF : Kd.F (Kd.int .u8) w2 (fun k => k < w.heap.size) A0 l0.length l0 := Kd.F_step (Kd.C_F (Kd.heap_int _) hr0) (fun k hk _ => (hb2.block k (by omega)).trans (hb1.block k hk))
  refine (put_calls FS.init g w1.heap.size (.slice none 0 0) l0 A0 c0 (fun k => k < w.heap.size) w2 hf init_okay (fun _ => by decide) hF hc0 (fun k hk => ⟨by have := hf.2.1; omega, by simp [Value.ownBlock], by omega⟩) hy (by decide) (by show (0 : Int) + _ ≤ _; omega) hbig).mono ?_
  rintro e w' ⟨vc, v', he, hf', hm, hS⟩
  refine ⟨vc, v', he, { box := ?_, feed := hf', below := ?_, gb0 := hgb, gbB := hlt, le2 := by omega, lt2 := by omega, rows := hS }⟩
  · exact (hm.1.block gb hlt).trans (blk_below hbox hb2)
  · exact (hb1.trans (hb2.mono hw1)).trans (hm.1.mono hw1)
def rdF (l : List Int) : Int × Int × Int × List (List Int) × Int × Int :=
  let p := FS.init.run l
  if p.1.er = 0 then (if p.1.fend.2 = 0 then (p.1.R, p.1.E, p.1.L, p.2, 0, 0) else (0, 0, 0, [], p.1.fend.1, p.1.fend.2)) else (0, 0, 0, [], p.1.pl, p.1.er)
def ReadPost (w : World) (r : Int × Int × Int × List (List Int) × Int × Int) (e : Ending) (w' : World) : Prop :=
  ∃ v3_ : Value, e = .returned (.tuple #[.agg #[.int .i64 r.1, .int .i64 r.2.1, .int .i64 r.2.2.1, v3_], .int .i64 r.2.2.2.2.1, .int .i64 r.2.2.2.2.2]) ∧ Kd.S (Kd.slice 5 (Kd.int .u8)) 30 w' w.heap.size (fun _ => True) v3_ r.2.2.2.1 ∧ Below w.heap.size w w'
set_option maxHeartbeats 1000000 in
set_option maxRecDepth 100000 in
theorem read_bad (w : World) (l0 : List Int) (A0 : Option Addr) (c0 : Nat) (hr0 : Kd.C (Kd.int .u8) w A0 l0.length l0) (hc0 : l0.length ≤ c0) (hy : Bys l0) (hbig : l0.length ≤ 140737488355328) (he : (FS.init.run l0).1.er ≠ 0) :
    Calls Try.prog 18 #[.slice A0 l0.length c0] w fun e w' => ReadPost w (rdF l0) e w' := by
  have hu76 := Try.underlying76
  have hu26 := Try.underlying26
  have hu23 := Try.underlying23
  have hrd : rdF l0 = (0, 0, 0, [], (FS.init.run l0).1.pl, (FS.init.run l0).1.er) := by unfold rdF; simp only []; rw [if_neg he]
  rw [hrd]
  clear hrd
  obtain ⟨er, her⟩ : ∃ er, (FS.init.run l0).1.er = er := ⟨_, rfl⟩
  obtain ⟨pl, hpl⟩ : ∃ pl, (FS.init.run l0).1.pl = pl := ⟨_, rfl⟩
  have hcell : ∀ v, (FS.init.run l0).1.cells v = #[v, .int .i64 (FS.init.run l0).1.pos, .int .i64 (FS.init.run l0).1.st, .int .i64 (FS.init.run l0).1.left, .int .i64 (FS.init.run l0).1.R, .int .i64 (FS.init.run l0).1.E, .int .i64 (FS.init.run l0).1.L, .int .u32 (FS.init.run l0).1.a, .int .u32 (FS.init.run l0).1.b, .int .i64 er, .int .i64 pl] := fun v => by rw [← her, ← hpl]; rfl
  rw [her] at he
  rw [her, hpl]
  have c1 := beq_eq_false_iff_ne.mpr he
  have HC := Aside0.mk hcell
  have HER := Aside0.mk her
  have HR0 := Aside0.mk hr0
  have HC0 := Aside0.mk hc0
  have HY := Aside0.mk hy
  have HBIG := Aside0.mk hbig
  have HB := Aside0.mk (Below.refl w.heap.size w)
  clear hcell her hpl he hr0 hc0 hy hbig
  go_enter Try.func18, Try.ntmps18
  go_wp2_with (first
    | ((with_reducible refine gate_dst (N := 2) rfl ?_); refine box_event ?hg (N := 2) ?hd (cs := #[.int .i64 0, .int .i64 0, .int .i64 0, .slice none 0 0]) (t := 26) ?hr ?_; (case hd => rfl); (case hg => rfl); (case hr => first | (go_simp; done) | (go_simp; rfl)); intro gb hgb w1 hbox hb1; have BX := Aside0.mk hbox; have GB := Aside0.mk (show w.heap.size ≤ gb by omega); have HB1 := Aside0.mk (below_step HB.out hb1); clear hgb hbox hb1)
    | (go_at_call 21; (refine (new_calls _).mono ?_); rintro e w2 ⟨g, rfl, hf, hb2⟩; have HF := Aside0.mk hf; have HB2 := Aside0.mk hb2; clear hf hb2)
    | (go_at_call 22; (refine (read_put w w1 w2 l0 A0 c0 gb g HR0.out HC0.out HY.out HBIG.out HB1.out BX.out GB.out HF.out HB2.out).mono ?_); rintro e w3 ⟨vc, v', rfl, hM⟩; (try rw [HER.out]); obtain ⟨Ac, cc, rfl⟩ := Kd.S_slice hM.rows; have HM := Aside0.mk hM; have HX := Aside0.mk hM.box; have h76 := hM.feed.1; rw [HC.out] at h76; have Z := feed_cells h76; have zb0 := (blk_cell hM.box 0).trans rfl; have zb1 := (blk_cell hM.box 1).trans rfl; have zb2 := (blk_cell hM.box 2).trans rfl; have zb3 := (blk_cell hM.box 3).trans rfl; have zf0 := blk_frozen hM.box 0; have zf1 := blk_frozen hM.box 1; have zf2 := blk_frozen hM.box 2; have zf3 := blk_frozen hM.box 3; have hne : gb ≠ g := (by have := hM.gbB; have := hM.feed.2.1; omega); clear hM h76; obtain ⟨⟨z0, z1, z2, z3, z4, z5, z6, z7, z8, z9, z10⟩, f0, f1, f2, f3, f4, f5, f6, f7, f8, f9, f10⟩ := Z))
  go_region
  go_wp2
  refine bodyPost_ret (results_list (rs := [.cell 2 26, .tmp 3, .tmp 4]) rfl (by simp) (.cell gb 26 #[.int .i64 0, .int .i64 0, .int .i64 0, .slice none 0 0] (0, 0) _ rfl ?blk Try.underlying26 rfl (by kernel_rfl) (.tmp (.tmp .nil)))) rfl ?_
  case blk => (apply sethT; (repeat (first | (with_reducible exact HX.out) | (with_reducible refine blk_drewN ?_ _) | (with_reducible refine blk_drew ?_) | (with_reducible apply blk_set))); rfl)
  exact ⟨_, rfl, Kd.S_nil _ _ _ _ _, by repeat (first | (with_reducible exact HM.out.below) | (with_reducible refine below_set ?_ GB.out) | (with_reducible refine below_drew ?_) | (with_reducible refine pw_below_drewN ?_ _))⟩
set_option maxHeartbeats 1000000 in
set_option maxRecDepth 100000 in
theorem read_short (w : World) (l0 : List Int) (A0 : Option Addr) (c0 : Nat) (hr0 : Kd.C (Kd.int .u8) w A0 l0.length l0) (hc0 : l0.length ≤ c0) (hy : Bys l0) (hbig : l0.length ≤ 140737488355328) (he : (FS.init.run l0).1.er = 0) (hfe : (FS.init.run l0).1.fend.2 ≠ 0) :
    Calls Try.prog 18 #[.slice A0 l0.length c0] w fun e w' => ReadPost w (rdF l0) e w' := by
  have hu76 := Try.underlying76
  have hu26 := Try.underlying26
  have hu23 := Try.underlying23
  have hrd : rdF l0 = (0, 0, 0, [], (FS.init.run l0).1.fend.1, (FS.init.run l0).1.fend.2) := by unfold rdF; simp only []; rw [if_pos he, if_neg hfe]
  rw [hrd]
  clear hrd
  obtain ⟨p, hp⟩ : ∃ p, (FS.init.run l0).1.fend.1 = p := ⟨_, rfl⟩
  obtain ⟨e2, he2⟩ : ∃ e2, (FS.init.run l0).1.fend.2 = e2 := ⟨_, rfl⟩
  rw [he2] at hfe
  rw [hp, he2]
  have c1 := beq_eq_false_iff_ne.mpr hfe
  have hcell : ∀ v, (FS.init.run l0).1.cells v = #[v, .int .i64 (FS.init.run l0).1.pos, .int .i64 (FS.init.run l0).1.st, .int .i64 (FS.init.run l0).1.left, .int .i64 (FS.init.run l0).1.R, .int .i64 (FS.init.run l0).1.E, .int .i64 (FS.init.run l0).1.L, .int .u32 (FS.init.run l0).1.a, .int .u32 (FS.init.run l0).1.b, .int .i64 0, .int .i64 (FS.init.run l0).1.pl] := fun v => by rw [← he]; rfl
  have her := he
  have HP := Aside0.mk hp
  have HE2 := Aside0.mk he2
  have HC := Aside0.mk hcell
  have HER := Aside0.mk her
  have HR0 := Aside0.mk hr0
  have HC0 := Aside0.mk hc0
  have HY := Aside0.mk hy
  have HBIG := Aside0.mk hbig
  have HB := Aside0.mk (Below.refl w.heap.size w)
  clear hcell her he hfe hp he2 hr0 hc0 hy hbig
  go_enter Try.func18, Try.ntmps18
  go_wp2_with (first
    | ((with_reducible refine gate_dst (N := 2) rfl ?_); refine box_event ?hg (N := 2) ?hd (cs := #[.int .i64 0, .int .i64 0, .int .i64 0, .slice none 0 0]) (t := 26) ?hr ?_; (case hd => rfl); (case hg => rfl); (case hr => first | (go_simp; done) | (go_simp; rfl)); intro gb hgb w1 hbox hb1; have BX := Aside0.mk hbox; have GB := Aside0.mk (show w.heap.size ≤ gb by omega); have HB1 := Aside0.mk (below_step HB.out hb1); clear hgb hbox hb1)
    | (go_at_call 21; (refine (new_calls _).mono ?_); rintro e w2 ⟨g, rfl, hf, hb2⟩; have HF := Aside0.mk hf; have HB2 := Aside0.mk hb2; clear hf hb2)
    | (go_at_call 22; (refine (read_put w w1 w2 l0 A0 c0 gb g HR0.out HC0.out HY.out HBIG.out HB1.out BX.out GB.out HF.out HB2.out).mono ?_); rintro e w3 ⟨vc, v', rfl, hM⟩; (try rw [HER.out]); obtain ⟨Ac, cc, rfl⟩ := Kd.S_slice hM.rows; have HM := Aside0.mk hM; have HX := Aside0.mk hM.box; have h76 := hM.feed.1; rw [HC.out] at h76; have Z := feed_cells h76; have zb0 := (blk_cell hM.box 0).trans rfl; have zb1 := (blk_cell hM.box 1).trans rfl; have zb2 := (blk_cell hM.box 2).trans rfl; have zb3 := (blk_cell hM.box 3).trans rfl; have zf0 := blk_frozen hM.box 0; have zf1 := blk_frozen hM.box 1; have zf2 := blk_frozen hM.box 2; have zf3 := blk_frozen hM.box 3; have hne : gb ≠ g := (by have := hM.gbB; have := hM.feed.2.1; omega); clear hM h76; obtain ⟨⟨z0, z1, z2, z3, z4, z5, z6, z7, z8, z9, z10⟩, f0, f1, f2, f3, f4, f5, f6, f7, f8, f9, f10⟩ := Z)
    | (go_at_call 27; (refine (end_calls _ w1.heap.size g _ _ HM.out.feed).mono ?_); rintro e w4 ⟨rfl, ⟨q4, rfl⟩⟩; rw [HP.out, HE2.out]))
  refine bodyPost_ret (results_list (rs := [.cell 2 26, .tmp 3, .tmp 4]) rfl (by simp) (.cell gb 26 #[.int .i64 0, .int .i64 0, .int .i64 0, .slice none 0 0] (0, 0) _ rfl ?blk Try.underlying26 rfl (by kernel_rfl) (.tmp (.tmp .nil)))) rfl ?_
  case blk => (apply sethT; (repeat (first | (with_reducible exact HX.out) | (with_reducible refine blk_drewN ?_ _) | (with_reducible refine blk_drew ?_) | (with_reducible apply blk_set))); rfl)
  exact ⟨_, rfl, Kd.S_nil _ _ _ _ _, by repeat (first | (with_reducible exact HM.out.below) | (with_reducible refine below_set ?_ GB.out) | (with_reducible refine below_drew ?_) | (with_reducible refine pw_below_drewN ?_ _))⟩
set_option maxHeartbeats 1000000 in
set_option maxRecDepth 100000 in
theorem read_ok (w : World) (l0 : List Int) (A0 : Option Addr) (c0 : Nat) (hr0 : Kd.C (Kd.int .u8) w A0 l0.length l0) (hc0 : l0.length ≤ c0) (hy : Bys l0) (hbig : l0.length ≤ 140737488355328) (he : (FS.init.run l0).1.er = 0) (hfe : (FS.init.run l0).1.fend.2 = 0) :
    Calls Try.prog 18 #[.slice A0 l0.length c0] w fun e w' => ReadPost w (rdF l0) e w' := by
  have hu76 := Try.underlying76
  have hu26 := Try.underlying26
  have hu23 := Try.underlying23
  have hrd : rdF l0 = ((FS.init.run l0).1.R, (FS.init.run l0).1.E, (FS.init.run l0).1.L, (FS.init.run l0).2, 0, 0) := by unfold rdF; simp only []; rw [if_pos he, if_pos hfe]
  rw [hrd]
  clear hrd
  obtain ⟨p, hp⟩ : ∃ p, (FS.init.run l0).1.fend.1 = p := ⟨_, rfl⟩
  have he2 := hfe
  obtain ⟨R_, hR⟩ : ∃ R_, (FS.init.run l0).1.R = R_ := ⟨_, rfl⟩
  obtain ⟨E_, hE⟩ : ∃ E_, (FS.init.run l0).1.E = E_ := ⟨_, rfl⟩
  obtain ⟨L_, hL⟩ : ∃ L_, (FS.init.run l0).1.L = L_ := ⟨_, rfl⟩
  rw [hR, hE, hL]
  have hcell : ∀ v, (FS.init.run l0).1.cells v = #[v, .int .i64 (FS.init.run l0).1.pos, .int .i64 (FS.init.run l0).1.st, .int .i64 (FS.init.run l0).1.left, .int .i64 R_, .int .i64 E_, .int .i64 L_, .int .u32 (FS.init.run l0).1.a, .int .u32 (FS.init.run l0).1.b, .int .i64 0, .int .i64 (FS.init.run l0).1.pl] := fun v => by rw [← he, ← hR, ← hE, ← hL]; rfl
  have her := he
  have HP := Aside0.mk hp
  have HE2 := Aside0.mk he2
  have HC := Aside0.mk hcell
  have HER := Aside0.mk her
  have HR0 := Aside0.mk hr0
  have HC0 := Aside0.mk hc0
  have HY := Aside0.mk hy
  have HBIG := Aside0.mk hbig
  have HB := Aside0.mk (Below.refl w.heap.size w)
  clear hcell her he hfe hp he2 hr0 hc0 hy hbig hR hE hL
  go_enter Try.func18, Try.ntmps18
  go_wp2_with (first
    | ((with_reducible refine gate_dst (N := 2) rfl ?_); refine box_event ?hg (N := 2) ?hd (cs := #[.int .i64 0, .int .i64 0, .int .i64 0, .slice none 0 0]) (t := 26) ?hr ?_; (case hd => rfl); (case hg => rfl); (case hr => first | (go_simp; done) | (go_simp; rfl)); intro gb hgb w1 hbox hb1; have BX := Aside0.mk hbox; have GB := Aside0.mk (show w.heap.size ≤ gb by omega); have HB1 := Aside0.mk (below_step HB.out hb1); clear hgb hbox hb1)
    | (go_at_call 21; (refine (new_calls _).mono ?_); rintro e w2 ⟨g, rfl, hf, hb2⟩; have HF := Aside0.mk hf; have HB2 := Aside0.mk hb2; clear hf hb2)
    | (go_at_call 22; (refine (read_put w w1 w2 l0 A0 c0 gb g HR0.out HC0.out HY.out HBIG.out HB1.out BX.out GB.out HF.out HB2.out).mono ?_); rintro e w3 ⟨vc, v', rfl, hM⟩; (try rw [HER.out]); obtain ⟨Ac, cc, rfl⟩ := Kd.S_slice hM.rows; have HM := Aside0.mk hM; have HX := Aside0.mk hM.box; have h76 := hM.feed.1; rw [HC.out] at h76; have Z := feed_cells h76; have zb0 := (blk_cell hM.box 0).trans rfl; have zb1 := (blk_cell hM.box 1).trans rfl; have zb2 := (blk_cell hM.box 2).trans rfl; have zb3 := (blk_cell hM.box 3).trans rfl; have zf0 := blk_frozen hM.box 0; have zf1 := blk_frozen hM.box 1; have zf2 := blk_frozen hM.box 2; have zf3 := blk_frozen hM.box 3; have hne : gb ≠ g := (by have := hM.gbB; have := hM.feed.2.1; omega); clear hM h76; obtain ⟨⟨z0, z1, z2, z3, z4, z5, z6, z7, z8, z9, z10⟩, f0, f1, f2, f3, f4, f5, f6, f7, f8, f9, f10⟩ := Z)
    | (go_at_call 27; (refine (end_calls _ w1.heap.size g _ _ HM.out.feed).mono ?_); rintro e w4 ⟨rfl, ⟨q4, rfl⟩⟩; rw [HP.out, HE2.out]))
  refine bodyPost_ret (results_list (rs := [.cell 2 26, .tmp 3, .tmp 4]) rfl (by simp) (.cell gb 26 #[.int .i64 R_, .int .i64 E_, .int .i64 L_, .slice Ac (FS.init.run l0).2.length cc] (0, 0) _ rfl ?blk Try.underlying26 rfl (by kernel_rfl) (.tmp (.tmp .nil)))) rfl ?_
  case blk => (apply sethT; (repeat (first | (with_reducible exact HX.out) | (with_reducible refine blk_drewN ?_ _) | (with_reducible refine blk_drew ?_) | (with_reducible apply blk_set))); rfl)
  refine ⟨_, rfl, ?rows, by repeat (first | (with_reducible exact HM.out.below) | (with_reducible refine below_set ?_ GB.out) | (with_reducible refine below_drew ?_) | (with_reducible refine pw_below_drewN ?_ _))⟩
  case rows =>
    refine Kd.S_mono (ok := fun k => some k ≠ v'.ownBlock) (Kd.S_lower ?_ HM.out.le2) (fun _ _ => trivial)
    repeat (first | (with_reducible exact HM.out.rows) | (with_reducible refine rows_set ?_ HM.out.lt2 _ _) | (with_reducible refine Kd.S_drewN ?_ _) | (with_reducible refine Kd.S_drew ?_))
theorem read_calls (w : World) (l0 : List Int) (A0 : Option Addr) (c0 : Nat) (hr0 : Kd.C (Kd.int .u8) w A0 l0.length l0) (hc0 : l0.length ≤ c0) (hy : Bys l0) (hbig : l0.length ≤ 140737488355328) :
    Calls Try.prog 18 #[.slice A0 l0.length c0] w fun e w' => ReadPost w (rdF l0) e w' := by
  by_cases he : (FS.init.run l0).1.er = 0
  · by_cases hf : (FS.init.run l0).1.fend.2 = 0
    · exact read_ok w l0 A0 c0 hr0 hc0 hy hbig he hf
    · exact read_short w l0 A0 c0 hr0 hc0 hy hbig he hf
  · exact read_bad w l0 A0 c0 hr0 hc0 hy hbig he
theorem header_calls (W : World) (base g : Nat) (s : FS) (v : Value) (h : FeedAt W base g s v) : Calls Try.prog 26 #[.pointer (some ⟨g, 0, none⟩)] W fun e w' => e = .returned (.tuple #[.agg #[.int .i64 s.fhead.1, .int .i64 s.fhead.2.1, .int .i64 s.fhead.2.2.1], .bool s.fhead.2.2.2]) ∧ Below W.heap.size W w' := by
  have hnil := fun W : World => run_eql_pointer_nil (P := Try.prog) W 46 (some ⟨g, 0, none⟩) (by kernel_rfl)
  simp only [Option.isNone] at hnil
  have hu23 := Try.underlying23
  have hu76 := Try.underlying76
  have HB := Aside0.mk (Below.refl W.heap.size W)
  obtain ⟨fd, pos, st, left, R, E, L, a, b, er, pl⟩ := s
  have HF := Aside0.mk h.1
  have hgl := blk_lt h.1
  clear h
  by_cases hs : st < 6
  · have c1 : decide (st < 6) = true := decide_eq_true hs
    have e1 : FS.fhead ⟨fd, pos, st, left, R, E, L, a, b, er, pl⟩ = (0, 0, 0, false) := by simp [FS.fhead, hs]
    rw [e1]
    clear hs e1
    go_enter Try.func26, Try.ntmps26
    go_wp2_with ((with_reducible refine gate_dst (N := 2) rfl ?_); refine box_event ?hg (N := 2) ?hd (cs := #[.int .i64 0, .int .i64 0, .int .i64 0]) (t := 23) ?hr ?_; (case hd => rfl); (case hg => rfl); (case hr => first | (go_simp; done) | (go_simp; rfl)); intro gb hgb w1 hbox hb1; have BX := Aside0.mk hbox; have GB := Aside0.mk (show W.heap.size ≤ gb by omega); have HB1 := Aside0.mk (below_step HB.out hb1); have zb0 := (blk_cell hbox 0).trans rfl; have zb1 := (blk_cell hbox 1).trans rfl; have zb2 := (blk_cell hbox 2).trans rfl; have zf0 := blk_frozen hbox 0; have zf1 := blk_frozen hbox 1; have zf2 := blk_frozen hbox 2; have Z := feed_cells (blk_below HF.out hb1); obtain ⟨⟨z0, z1, z2, z3, z4, z5, z6, z7, z8, z9, z10⟩, f0, f1, f2, f3, f4, f5, f6, f7, f8, f9, f10⟩ := Z; clear hgb hbox hb1)
    refine bodyPost_ret (results_list (rs := [.cell 2 23, .tmp 3]) rfl (by simp) (.cell gb 23 #[.int .i64 0, .int .i64 0, .int .i64 0] (0, 0) _ rfl ?blk Try.underlying23 rfl (by kernel_rfl) (.tmp .nil))) rfl ?_
    case blk => (apply sethT; (repeat (first | (with_reducible exact BX.out) | (with_reducible refine blk_drewN ?_ _) | (with_reducible refine blk_drew ?_) | (with_reducible apply blk_set))); rfl)
    exact ⟨rfl, by repeat (first | (with_reducible exact HB1.out) | (with_reducible refine below_set ?_ GB.out) | (with_reducible refine below_drew ?_) | (with_reducible refine pw_below_drewN ?_ _))⟩
  · have c1 : decide (st < 6) = false := decide_eq_false hs
    have e1 : FS.fhead ⟨fd, pos, st, left, R, E, L, a, b, er, pl⟩ = (R, E, L, true) := by simp [FS.fhead, hs]
    rw [e1]
    clear hs e1
    go_enter Try.func26, Try.ntmps26
    go_wp2_with ((with_reducible refine gate_dst (N := 2) rfl ?_); refine box_event ?hg (N := 2) ?hd (cs := #[.int .i64 0, .int .i64 0, .int .i64 0]) (t := 23) ?hr ?_; (case hd => rfl); (case hg => rfl); (case hr => first | (go_simp; done) | (go_simp; rfl)); intro gb hgb w1 hbox hb1; have BX := Aside0.mk hbox; have GB := Aside0.mk (show W.heap.size ≤ gb by omega); have HB1 := Aside0.mk (below_step HB.out hb1); have zb0 := (blk_cell hbox 0).trans rfl; have zb1 := (blk_cell hbox 1).trans rfl; have zb2 := (blk_cell hbox 2).trans rfl; have zf0 := blk_frozen hbox 0; have zf1 := blk_frozen hbox 1; have zf2 := blk_frozen hbox 2; have Z := feed_cells (blk_below HF.out hb1); obtain ⟨⟨z0, z1, z2, z3, z4, z5, z6, z7, z8, z9, z10⟩, f0, f1, f2, f3, f4, f5, f6, f7, f8, f9, f10⟩ := Z; clear hgb hbox hb1)
    refine bodyPost_ret (results_list (rs := [.cell 2 23, .tmp 3]) rfl (by simp) (.cell gb 23 #[.int .i64 R, .int .i64 E, .int .i64 L] (0, 0) _ rfl ?blk Try.underlying23 rfl (by kernel_rfl) (.tmp .nil))) rfl ?_
    case blk => (apply sethT; (repeat (first | (with_reducible exact BX.out) | (with_reducible refine blk_drewN ?_ _) | (with_reducible refine blk_drew ?_) | (with_reducible apply blk_set))); rfl)
    exact ⟨rfl, by repeat (first | (with_reducible exact HB1.out) | (with_reducible refine below_set ?_ GB.out) | (with_reducible refine below_drew ?_) | (with_reducible refine pw_below_drewN ?_ _))⟩
end
def frame_Read.f (l0 : List Int) : Option (Int × Int × Int × (List (List Int)) × Int × Int) := if (l0.all fun x => decide (0 ≤ x ∧ x ≤ 255)) = true ∧ l0.length ≤ 140737488355328 then some (rdF l0) else none
theorem frame_Read.calls (A0 : Option Addr) (c0 : Nat) (l0 : List Int) (r1 : Int) (r2 : Int) (r3 : Int) (r4 : List (List Int)) (r5 : Int) (r6 : Int) (w : World) (hr0 : Kd.C (Kd.int .u8) w A0 l0.length l0) (hc0 : l0.length ≤ c0) (h : frame_Read.f l0 = some (r1, r2, r3, r4, r5, r6)) :
    Calls Try.prog 18 #[.slice A0 l0.length c0] w fun e w' => ∃ v3_ : Value, e = .returned (.tuple #[.agg #[.int .i64 r1, .int .i64 r2, .int .i64 r3, v3_], .int .i64 r5, .int .i64 r6]) ∧ Kd.S (Kd.slice 5 (Kd.int .u8)) 30 w' w.heap.size (fun _ => True) v3_ r4 ∧ Below w.heap.size w w' := by
  unfold frame_Read.f at h
  split at h
  · rename_i hc
    obtain ⟨h1, h2⟩ := hc
    have h := Option.some.inj h
    have hy : Bys l0 := fun x hx => by have := List.all_eq_true.1 h1 x hx; simpa using this
    refine (read_calls w l0 A0 c0 hr0 hc0 hy h2).mono ?_
    rw [h]
    rintro e w' ⟨v3_, a, b, c⟩
    exact ⟨v3_, a, b, c⟩
  · cases h
def frame_fits.f (a0_0 : Int) (a0_1 : Int) (a0_2 : Int) : Option (Bool) := if a0_2 ≥ 0 then (if a0_2 ≤ 8 then (if a0_0 ≥ 0 then (if a0_0 ≤ 4611686018427387903 then (if a0_1 ≥ 0 then (some (decide (a0_1 ≤ 4611686018427387904))) else (some false)) else (some false)) else (some false)) else (some false)) else (some false)
set_option maxHeartbeats 8000000 in
set_option maxRecDepth 100000 in
theorem frame_fits.calls (a0_0 : Int) (a0_1 : Int) (a0_2 : Int) (r : Bool) (w : World) (h : frame_fits.f a0_0 a0_1 a0_2 = some r) :
    Calls Try.prog 30 #[.agg #[.int .i64 a0_0, .int .i64 a0_1, .int .i64 a0_2]] w fun e w' => e = .returned (.bool r) ∧ Below w.heap.size w w' := by
  have hu23 := Try.underlying23
  have HB := Aside0.mk (Below.refl w.heap.size w)
  have H : (if a0_2 ≥ 0 then (if a0_2 ≤ 8 then (if a0_0 ≥ 0 then (if a0_0 ≤ 4611686018427387903 then (if a0_1 ≥ 0 then (some (decide (a0_1 ≤ 4611686018427387904))) else (some false)) else (some false)) else (some false)) else (some false)) else (some false)) = some r := h
  clear h
  by_cases c2 : a0_2 ≥ 0
  · rw [if_pos c2] at H
    have c2b0 : decide (0 ≤ a0_2) = true := decide_eq_true c2
    clear c2
    by_cases c3 : a0_2 ≤ 8
    · rw [if_pos c3] at H
      have c3b0 : decide (a0_2 ≤ 8) = true := decide_eq_true c3
      clear c3
      by_cases c4 : a0_0 ≥ 0
      · rw [if_pos c4] at H
        have c4b0 : decide (0 ≤ a0_0) = true := decide_eq_true c4
        clear c4
        by_cases c5 : a0_0 ≤ 4611686018427387903
        · rw [if_pos c5] at H
          have c5b0 : decide (a0_0 ≤ 4611686018427387903) = true := decide_eq_true c5
          clear c5
          by_cases c6 : a0_1 ≥ 0
          · rw [if_pos c6] at H
            have c6b0 : decide (0 ≤ a0_1) = true := decide_eq_true c6
            clear c6
            obtain rfl := Option.some.inj H
            simp only [Option.some.injEq, Prod.mk.injEq] at H
            obtain ⟨rfl⟩ := H
            go_enter Try.func30, Try.ntmps30
            go_wp2_with (first | ((with_reducible refine gate_dst (N := 1) rfl ?_); refine box_event ?hg (N := 1) ?hd (cs := #[.int .i64 a0_0, .int .i64 a0_1, .int .i64 a0_2]) (t := 23) ?hr ?_; (case hd => rfl); (case hg => rfl); (case hr => first | (go_simp; done) | (go_simp; rfl)); intro gb101 hg w7 hbox hb; have n0_ := Aside0.mk (below_step (by repeat (first | (with_reducible first | exact HB.out | apply below_alloc | apply pw_below_drewN | apply below_drew1) | exact HB.out)) hb); have n1_ := Aside0.mk (hbox); have n2_ := Aside0.mk ((by rw [hg]; exact (below_size (by repeat (first | (with_reducible first | exact HB.out | apply below_alloc | apply pw_below_drewN | apply below_drew1) | exact HB.out))) : w.heap.size ≤ gb101)); have n3_ := Aside0.mk ((by rw [hg]; exact (below_size (by repeat (first | (with_reducible first | exact HB.out | apply below_alloc | apply pw_below_drewN | apply below_drew1) | exact HB.out))) : w.heap.size ≤ gb101)); clear HB; have HB := n0_; have BK101 := n1_; have GW101 := n2_; have GE101 := n3_; clear n0_ n1_ n2_ n3_; clear hb hbox hg; have hcz8_0 : w7.cell? ⟨gb101, 0, none⟩ = some (.int .i64 a0_0) := (blk_cell BK101.out 0).trans rfl; have hcz8_1 : w7.cell? ⟨gb101, 1, none⟩ = some (.int .i64 a0_1) := (blk_cell BK101.out 1).trans rfl; have hcz8_2 : w7.cell? ⟨gb101, 2, none⟩ = some (.int .i64 a0_2) := (blk_cell BK101.out 2).trans rfl; have hfz8_0 := blk_frozen BK101.out 0; have hfz8_1 := blk_frozen BK101.out 1; have hfz8_2 := blk_frozen BK101.out 2))
            go_ret
            exact ⟨by first | rfl | (simp [errW_none, errW_some] <;> rfl) | (simp [*, errW_none, errW_some] <;> rfl), by repeat (first | (with_reducible first | exact HB.out | apply below_alloc | apply pw_below_drewN | apply below_drew1 | refine below_set ?_ GE101.out) | exact HB.out)⟩
          · rw [if_neg c6] at H
            have c6b0 : decide (0 ≤ a0_1) = false := decide_eq_false c6
            clear c6
            obtain rfl := Option.some.inj H
            simp only [Option.some.injEq, Prod.mk.injEq] at H
            obtain ⟨rfl⟩ := H
            go_enter Try.func30, Try.ntmps30
            go_wp2_with (first | ((with_reducible refine gate_dst (N := 1) rfl ?_); refine box_event ?hg (N := 1) ?hd (cs := #[.int .i64 a0_0, .int .i64 a0_1, .int .i64 a0_2]) (t := 23) ?hr ?_; (case hd => rfl); (case hg => rfl); (case hr => first | (go_simp; done) | (go_simp; rfl)); intro gb101 hg w9 hbox hb; have n0_ := Aside0.mk (below_step (by repeat (first | (with_reducible first | exact HB.out | apply below_alloc | apply pw_below_drewN | apply below_drew1) | exact HB.out)) hb); have n1_ := Aside0.mk (hbox); have n2_ := Aside0.mk ((by rw [hg]; exact (below_size (by repeat (first | (with_reducible first | exact HB.out | apply below_alloc | apply pw_below_drewN | apply below_drew1) | exact HB.out))) : w.heap.size ≤ gb101)); have n3_ := Aside0.mk ((by rw [hg]; exact (below_size (by repeat (first | (with_reducible first | exact HB.out | apply below_alloc | apply pw_below_drewN | apply below_drew1) | exact HB.out))) : w.heap.size ≤ gb101)); clear HB; have HB := n0_; have BK101 := n1_; have GW101 := n2_; have GE101 := n3_; clear n0_ n1_ n2_ n3_; clear hb hbox hg; have hcz10_0 : w9.cell? ⟨gb101, 0, none⟩ = some (.int .i64 a0_0) := (blk_cell BK101.out 0).trans rfl; have hcz10_1 : w9.cell? ⟨gb101, 1, none⟩ = some (.int .i64 a0_1) := (blk_cell BK101.out 1).trans rfl; have hcz10_2 : w9.cell? ⟨gb101, 2, none⟩ = some (.int .i64 a0_2) := (blk_cell BK101.out 2).trans rfl; have hfz10_0 := blk_frozen BK101.out 0; have hfz10_1 := blk_frozen BK101.out 1; have hfz10_2 := blk_frozen BK101.out 2))
            go_ret
            exact ⟨by first | rfl | (simp [errW_none, errW_some] <;> rfl) | (simp [*, errW_none, errW_some] <;> rfl), by repeat (first | (with_reducible first | exact HB.out | apply below_alloc | apply pw_below_drewN | apply below_drew1 | refine below_set ?_ GE101.out) | exact HB.out)⟩
        · rw [if_neg c5] at H
          have c5b0 : decide (a0_0 ≤ 4611686018427387903) = false := decide_eq_false c5
          clear c5
          obtain rfl := Option.some.inj H
          simp only [Option.some.injEq, Prod.mk.injEq] at H
          obtain ⟨rfl⟩ := H
          go_enter Try.func30, Try.ntmps30
          go_wp2_with (first | ((with_reducible refine gate_dst (N := 1) rfl ?_); refine box_event ?hg (N := 1) ?hd (cs := #[.int .i64 a0_0, .int .i64 a0_1, .int .i64 a0_2]) (t := 23) ?hr ?_; (case hd => rfl); (case hg => rfl); (case hr => first | (go_simp; done) | (go_simp; rfl)); intro gb101 hg w11 hbox hb; have n0_ := Aside0.mk (below_step (by repeat (first | (with_reducible first | exact HB.out | apply below_alloc | apply pw_below_drewN | apply below_drew1) | exact HB.out)) hb); have n1_ := Aside0.mk (hbox); have n2_ := Aside0.mk ((by rw [hg]; exact (below_size (by repeat (first | (with_reducible first | exact HB.out | apply below_alloc | apply pw_below_drewN | apply below_drew1) | exact HB.out))) : w.heap.size ≤ gb101)); have n3_ := Aside0.mk ((by rw [hg]; exact (below_size (by repeat (first | (with_reducible first | exact HB.out | apply below_alloc | apply pw_below_drewN | apply below_drew1) | exact HB.out))) : w.heap.size ≤ gb101)); clear HB; have HB := n0_; have BK101 := n1_; have GW101 := n2_; have GE101 := n3_; clear n0_ n1_ n2_ n3_; clear hb hbox hg; have hcz12_0 : w11.cell? ⟨gb101, 0, none⟩ = some (.int .i64 a0_0) := (blk_cell BK101.out 0).trans rfl; have hcz12_1 : w11.cell? ⟨gb101, 1, none⟩ = some (.int .i64 a0_1) := (blk_cell BK101.out 1).trans rfl; have hcz12_2 : w11.cell? ⟨gb101, 2, none⟩ = some (.int .i64 a0_2) := (blk_cell BK101.out 2).trans rfl; have hfz12_0 := blk_frozen BK101.out 0; have hfz12_1 := blk_frozen BK101.out 1; have hfz12_2 := blk_frozen BK101.out 2))
          go_ret
          exact ⟨by first | rfl | (simp [errW_none, errW_some] <;> rfl) | (simp [*, errW_none, errW_some] <;> rfl), by repeat (first | (with_reducible first | exact HB.out | apply below_alloc | apply pw_below_drewN | apply below_drew1 | refine below_set ?_ GE101.out) | exact HB.out)⟩
      · rw [if_neg c4] at H
        have c4b0 : decide (0 ≤ a0_0) = false := decide_eq_false c4
        clear c4
        obtain rfl := Option.some.inj H
        simp only [Option.some.injEq, Prod.mk.injEq] at H
        obtain ⟨rfl⟩ := H
        go_enter Try.func30, Try.ntmps30
        go_wp2_with (first | ((with_reducible refine gate_dst (N := 1) rfl ?_); refine box_event ?hg (N := 1) ?hd (cs := #[.int .i64 a0_0, .int .i64 a0_1, .int .i64 a0_2]) (t := 23) ?hr ?_; (case hd => rfl); (case hg => rfl); (case hr => first | (go_simp; done) | (go_simp; rfl)); intro gb101 hg w13 hbox hb; have n0_ := Aside0.mk (below_step (by repeat (first | (with_reducible first | exact HB.out | apply below_alloc | apply pw_below_drewN | apply below_drew1) | exact HB.out)) hb); have n1_ := Aside0.mk (hbox); have n2_ := Aside0.mk ((by rw [hg]; exact (below_size (by repeat (first | (with_reducible first | exact HB.out | apply below_alloc | apply pw_below_drewN | apply below_drew1) | exact HB.out))) : w.heap.size ≤ gb101)); have n3_ := Aside0.mk ((by rw [hg]; exact (below_size (by repeat (first | (with_reducible first | exact HB.out | apply below_alloc | apply pw_below_drewN | apply below_drew1) | exact HB.out))) : w.heap.size ≤ gb101)); clear HB; have HB := n0_; have BK101 := n1_; have GW101 := n2_; have GE101 := n3_; clear n0_ n1_ n2_ n3_; clear hb hbox hg; have hcz14_0 : w13.cell? ⟨gb101, 0, none⟩ = some (.int .i64 a0_0) := (blk_cell BK101.out 0).trans rfl; have hcz14_1 : w13.cell? ⟨gb101, 1, none⟩ = some (.int .i64 a0_1) := (blk_cell BK101.out 1).trans rfl; have hcz14_2 : w13.cell? ⟨gb101, 2, none⟩ = some (.int .i64 a0_2) := (blk_cell BK101.out 2).trans rfl; have hfz14_0 := blk_frozen BK101.out 0; have hfz14_1 := blk_frozen BK101.out 1; have hfz14_2 := blk_frozen BK101.out 2))
        go_ret
        exact ⟨by first | rfl | (simp [errW_none, errW_some] <;> rfl) | (simp [*, errW_none, errW_some] <;> rfl), by repeat (first | (with_reducible first | exact HB.out | apply below_alloc | apply pw_below_drewN | apply below_drew1 | refine below_set ?_ GE101.out) | exact HB.out)⟩
    · rw [if_neg c3] at H
      have c3b0 : decide (a0_2 ≤ 8) = false := decide_eq_false c3
      clear c3
      obtain rfl := Option.some.inj H
      simp only [Option.some.injEq, Prod.mk.injEq] at H
      obtain ⟨rfl⟩ := H
      go_enter Try.func30, Try.ntmps30
      go_wp2_with (first | ((with_reducible refine gate_dst (N := 1) rfl ?_); refine box_event ?hg (N := 1) ?hd (cs := #[.int .i64 a0_0, .int .i64 a0_1, .int .i64 a0_2]) (t := 23) ?hr ?_; (case hd => rfl); (case hg => rfl); (case hr => first | (go_simp; done) | (go_simp; rfl)); intro gb101 hg w15 hbox hb; have n0_ := Aside0.mk (below_step (by repeat (first | (with_reducible first | exact HB.out | apply below_alloc | apply pw_below_drewN | apply below_drew1) | exact HB.out)) hb); have n1_ := Aside0.mk (hbox); have n2_ := Aside0.mk ((by rw [hg]; exact (below_size (by repeat (first | (with_reducible first | exact HB.out | apply below_alloc | apply pw_below_drewN | apply below_drew1) | exact HB.out))) : w.heap.size ≤ gb101)); have n3_ := Aside0.mk ((by rw [hg]; exact (below_size (by repeat (first | (with_reducible first | exact HB.out | apply below_alloc | apply pw_below_drewN | apply below_drew1) | exact HB.out))) : w.heap.size ≤ gb101)); clear HB; have HB := n0_; have BK101 := n1_; have GW101 := n2_; have GE101 := n3_; clear n0_ n1_ n2_ n3_; clear hb hbox hg; have hcz16_0 : w15.cell? ⟨gb101, 0, none⟩ = some (.int .i64 a0_0) := (blk_cell BK101.out 0).trans rfl; have hcz16_1 : w15.cell? ⟨gb101, 1, none⟩ = some (.int .i64 a0_1) := (blk_cell BK101.out 1).trans rfl; have hcz16_2 : w15.cell? ⟨gb101, 2, none⟩ = some (.int .i64 a0_2) := (blk_cell BK101.out 2).trans rfl; have hfz16_0 := blk_frozen BK101.out 0; have hfz16_1 := blk_frozen BK101.out 1; have hfz16_2 := blk_frozen BK101.out 2))
      go_ret
      exact ⟨by first | rfl | (simp [errW_none, errW_some] <;> rfl) | (simp [*, errW_none, errW_some] <;> rfl), by repeat (first | (with_reducible first | exact HB.out | apply below_alloc | apply pw_below_drewN | apply below_drew1 | refine below_set ?_ GE101.out) | exact HB.out)⟩
  · rw [if_neg c2] at H
    have c2b0 : decide (0 ≤ a0_2) = false := decide_eq_false c2
    clear c2
    obtain rfl := Option.some.inj H
    simp only [Option.some.injEq, Prod.mk.injEq] at H
    obtain ⟨rfl⟩ := H
    go_enter Try.func30, Try.ntmps30
    go_wp2_with (first | ((with_reducible refine gate_dst (N := 1) rfl ?_); refine box_event ?hg (N := 1) ?hd (cs := #[.int .i64 a0_0, .int .i64 a0_1, .int .i64 a0_2]) (t := 23) ?hr ?_; (case hd => rfl); (case hg => rfl); (case hr => first | (go_simp; done) | (go_simp; rfl)); intro gb101 hg w17 hbox hb; have n0_ := Aside0.mk (below_step (by repeat (first | (with_reducible first | exact HB.out | apply below_alloc | apply pw_below_drewN | apply below_drew1) | exact HB.out)) hb); have n1_ := Aside0.mk (hbox); have n2_ := Aside0.mk ((by rw [hg]; exact (below_size (by repeat (first | (with_reducible first | exact HB.out | apply below_alloc | apply pw_below_drewN | apply below_drew1) | exact HB.out))) : w.heap.size ≤ gb101)); have n3_ := Aside0.mk ((by rw [hg]; exact (below_size (by repeat (first | (with_reducible first | exact HB.out | apply below_alloc | apply pw_below_drewN | apply below_drew1) | exact HB.out))) : w.heap.size ≤ gb101)); clear HB; have HB := n0_; have BK101 := n1_; have GW101 := n2_; have GE101 := n3_; clear n0_ n1_ n2_ n3_; clear hb hbox hg; have hcz18_0 : w17.cell? ⟨gb101, 0, none⟩ = some (.int .i64 a0_0) := (blk_cell BK101.out 0).trans rfl; have hcz18_1 : w17.cell? ⟨gb101, 1, none⟩ = some (.int .i64 a0_1) := (blk_cell BK101.out 1).trans rfl; have hcz18_2 : w17.cell? ⟨gb101, 2, none⟩ = some (.int .i64 a0_2) := (blk_cell BK101.out 2).trans rfl; have hfz18_0 := blk_frozen BK101.out 0; have hfz18_1 := blk_frozen BK101.out 1; have hfz18_2 := blk_frozen BK101.out 2))
    go_ret
    exact ⟨by first | rfl | (simp [errW_none, errW_some] <;> rfl) | (simp [*, errW_none, errW_some] <;> rfl), by repeat (first | (with_reducible first | exact HB.out | apply below_alloc | apply pw_below_drewN | apply below_drew1 | refine below_set ?_ GE101.out) | exact HB.out)⟩
def frame_number.l0 : Nat → List Int → Int → Int → Option (List Int)
  | 0, _, _, _ => none
  | k + 1, x0, x1, x7 => if x7 ≥ 0 then (if 0 ≤ (wrap64 (8 * x7)) then (if x0.length < 140737488355328 then (frame_number.l0 k (x0 ++ [(shr .u64 x1 (wrap64 (8 * x7))) % 256]) x1 (wrap64 (x7 - 1))) else (none)) else (none)) else (some x0)
def frame_number.f (k : Nat) (l0 : List Int) (a1 : Int) (a2 : Int) : Option (List Int) := frame_number.l0 k l0 a1 (wrap64 (a2 - 1))
set_option maxHeartbeats 8000000 in
set_option maxRecDepth 100000 in
theorem frame_number.calls (k : Nat) (P0_ : Nat → Prop) (u9000_ : Value) (l0 : List Int) (a1 : Int) (a2 : Int) (r : List Int) (w0 w : World) (hB : Below w0.heap.size w0 w) (ho0 : Kd.R (Kd.int .u8) 5 w w0.heap.size P0_ u9000_ l0) (h : frame_number.f k l0 a1 a2 = some r) :
    Calls Try.prog 31 #[u9000_, .int .u64 a1, .int .i64 a2] w fun e w' => ∃ v0_ : Value, e = .returned (v0_) ∧ Kd.R (Kd.int .u8) 5 w' w0.heap.size (fun k_ => (P0_ k_ ∨ w.heap.size ≤ k_)) v0_ r ∧ Below w0.heap.size w0 w' ∧ Kept w w' (fun k_ => P0_ k_) := by
  have HO0 := Aside0.mk (show Kd.R (Kd.int .u8) 5 w w0.heap.size (fun k_ => (P0_ k_ ∨ w.heap.size ≤ k_)) u9000_ l0 from Kd.R_mono ho0 (fun k_ hk => (.inl hk)))
  have HK := Aside0.mk (Kept.refl w (fun k_ => P0_ k_))
  have HW0 := Aside0.mk hB.size
  have HB := Aside0.mk hB
  clear hB
  have H : (frame_number.l0 k l0 a1 (wrap64 (a2 - 1))) = some r := h
  clear h
  have H' := Aside0.mk H
  clear H
  go_enter Try.func31, Try.ntmps31
  go_wp2
  go_loopg [0, 7] k (fun kq v0 v7 w' => ∃ (x0_1 : List Int) (x7_1 : Int), v7 = .int .i64 x7_1 ∧ Aside0 (frame_number.l0 kq x0_1 a1 x7_1 = some r) ∧ Aside0 (kq ≤ k) ∧ Aside0 (Kd.R (Kd.int .u8) 5 w' w0.heap.size (fun k_ => (P0_ k_ ∨ w.heap.size ≤ k_)) v0 x0_1) ∧ Aside0 (Kept w w' (fun k_ => P0_ k_)) ∧ Aside0 (Below w0.heap.size w0 w'))
  case atStart => exact ⟨(l0), (wrap64 (a2 - 1)), (by first | rfl | (simp; done) | (simp [*]; done)), H', ⟨Nat.le_refl _⟩, ⟨by (with_reducible repeat (first | apply Kd.R_alloc | apply Kd.R_drewN | apply Kd.R_drew)); exact HO0.out⟩, ⟨by repeat (first | (with_reducible first | exact HK.out | apply Kept.alloc | apply Kept.drewN | apply Kept.drew) | exact HK.out)⟩, ⟨by repeat (first | (with_reducible first | exact HB.out | apply below_alloc | apply pw_below_drewN | apply below_drew1) | exact HB.out)⟩⟩
  case round =>
    clear H'
    try clear p2
    try clear c3
    obtain ⟨x0_1, x7_1, rfl, HA, HK1, HO_0, HK, HB⟩ := hrel
    cases gk with
    | zero => exact absurd HA.out (by simp [frame_number.l0])
    | succ k1 =>
      have H := HA.out
      clear HA
      simp only [frame_number.l0] at H
      by_cases c4 : x7_1 ≥ 0
      · rw [if_pos c4] at H
        have c4b0 : decide (0 ≤ x7_1) = true := decide_eq_true c4
        clear c4
        obtain ⟨ji5, hji5⟩ : ∃ j_ : Int, (wrap64 (8 * x7_1)) = j_ := ⟨_, rfl⟩
        replace H : (if 0 ≤ (ji5) then (if x0_1.length < 140737488355328 then (frame_number.l0 k1 (x0_1 ++ [(shr .u64 a1 (ji5)) % 256]) a1 (wrap64 (x7_1 - 1))) else (none)) else (none)) = some r := by first | (rw [hji5] at H; exact H) | (simp only [hji5] at H ⊢; exact H)
        have hji5w : (IntKind.i64.wrap (8 * x7_1)) = ji5 := (i64_w _).trans hji5
        by_cases c6 : 0 ≤ (ji5)
        · rw [if_pos c6] at H
          have c6b0 := eq_true c6
          have c6b1 : decide (0 ≤ (ji5)) = true := decide_eq_true c6
          clear c6
          obtain ⟨ji7, hji7⟩ : ∃ j_ : Int, (shr .u64 a1 (ji5)) = j_ := ⟨_, rfl⟩
          replace H : (if x0_1.length < 140737488355328 then (frame_number.l0 k1 (x0_1 ++ [(ji7) % 256]) a1 (wrap64 (x7_1 - 1))) else (none)) = some r := by first | (rw [hji7] at H; exact H) | (simp only [hji7] at H ⊢; exact H)
          have hji7_ : (a1 / 2 ^ min (ji5).toNat 64) = ji7 := hji7
          have hji7z : (ji5) ≤ 64 → (a1 / 2 ^ (ji5).toNat) = ji7 := shr_small hji7
          by_cases c8 : x0_1.length < 140737488355328
          · rw [if_pos c8] at H
            have LMc8 := Aside0.mk c8
            clear c8
            obtain ⟨y102, hy102⟩ : ∃ y_ : List Int, y_ = (x0_1 ++ [(ji7) % 256]) := ⟨_, rfl⟩
            replace H : (frame_number.l0 k1 y102 a1 (wrap64 (x7_1 - 1))) = some r := by first | (rw [hy102]; with_reducible exact H) | (have H2_ := (Option.bind_some _ _).symm.trans H; rw [hy102]; with_reducible exact H2_) | (have H2_ := (Option.bind_some _ _).symm.trans H; with_reducible exact H2_) | with_reducible exact H | (rw [hy102]; exact H) | exact H
            have Ny102 := Aside0.mk hy102
            clear hy102
            have H' := Aside0.mk H
            clear H
            go_wp2_with (first | ((with_reducible refine gate_builtin (b := .append) (xs := #[.tmp 14, .tmp 20]) rfl ?_); at_builtin; refine Kd.R_append (Kd.int .u8) (w0 := w0) w0.heap.size rfl (.tmp 14) (.tmp 20) 30 5 (.int .u8 0) 1 rfl Try.underlying30 info5 rfl (by decide) (by omega) u0 x0_1 ((ji7) % 256) [.int .u8 ((ji7) % 256)] (fun k_ => (P0_ k_ ∨ w.heap.size ≤ k_)) (fun _ => False) rfl rfl ?aP (fun _ hk => hk.elim) ?aF ?aO ?aB ?aS ?aL ?_; (case aP => exact rfl); (case aB => exact (by repeat (first | (with_reducible first | exact HB.out | apply below_alloc | apply pw_below_drewN | apply below_drew1) | exact HB.out))); (case aF => exact (fun k_ hk => (.inr (Nat.le_trans (by first | exact HK.out.1 | exact (show Kept w _ (fun k_ => P0_ k_) from by repeat (first | (with_reducible first | exact HK.out | apply Kept.alloc | apply Kept.drewN | apply Kept.drew) | exact HK.out)).1) hk)))); (case aO => exact (by (with_reducible repeat (first | apply Kd.R_alloc | apply Kd.R_drewN | apply Kd.R_drew)); exact HO_0.out)); (case aS => exact (below_size (by repeat (first | (with_reducible first | exact HB.out | apply below_alloc | apply pw_below_drewN | apply below_drew1) | exact HB.out)))); (case aL => have := LMc8.out; omega); intro v103 w9 ho hb hg hat; rw [← Ny102.out] at ho; have n0_ := Aside0.mk (hb); have n1_ := Aside0.mk (Kept.of_grown (S := (fun k_ => P0_ k_)) hg (by repeat (first | (with_reducible first | exact HK.out | apply Kept.alloc | apply Kept.drewN | apply Kept.drew) | exact HK.out)) (fun k_ e_ => (HO_0.out.1 k_ e_))); have n2_ := Aside0.mk (ho); clear HB; clear HK; clear HO_0; have HB := n0_; have HK := n1_; have HO104 := n2_; clear n0_ n1_ n2_; clear ho hb hg hat))
            go_roundg k1
            case measure => have := HK1.out; omega
            case rel => exact ⟨(y102), (wrap64 (x7_1 - 1)), (by first | rfl | (simp; done) | (simp [*]; done)), H', ⟨by have := HK1.out; omega⟩, ⟨by (with_reducible repeat (first | apply Kd.R_alloc | apply Kd.R_drewN | apply Kd.R_drew)); exact HO104.out⟩, ⟨by repeat (first | (with_reducible first | exact HK.out | apply Kept.alloc | apply Kept.drewN | apply Kept.drew) | exact HK.out)⟩, ⟨by repeat (first | (with_reducible first | exact HB.out | apply below_alloc | apply pw_below_drewN | apply below_drew1) | exact HB.out)⟩⟩
          · rw [if_neg c8] at H
            exact absurd H (by simp)
        · rw [if_neg c6] at H
          exact absurd H (by simp)
      · rw [if_neg c4] at H
        have c4b0 : decide (0 ≤ x7_1) = false := decide_eq_false c4
        clear c4
        obtain rfl := Option.some.inj H
        simp only [Option.some.injEq, Prod.mk.injEq] at H
        obtain ⟨rfl⟩ := H
        go_wp2
        go_ret
        exact ⟨_, by first | rfl | (simp [errW_none, errW_some] <;> rfl) | (simp [*, errW_none, errW_some] <;> rfl), by (with_reducible repeat (first | apply Kd.R_alloc | apply Kd.R_drewN | apply Kd.R_drew)); exact HO_0.out, by repeat (first | (with_reducible first | exact HB.out | apply below_alloc | apply pw_below_drewN | apply below_drew1) | exact HB.out), by repeat (first | (with_reducible first | exact HK.out | apply Kept.alloc | apply Kept.drewN | apply Kept.drew) | exact HK.out)⟩
def frame_Pack.l0 : Nat → List Int → List (List Int) → Int → Int → Option (List Int × Int)
  | 0, _, _, _, _ => none
  | k + 1, x4, x52, x53, x54 => if x54 < x53 then (if 0 ≤ x54 then (if x54 < (x52.length : Int) then (if ((rd_L1 x52 x54).length : Int) = 320 then ((frame_number.f k x4 320 2).bind fun t133 => (if t133.length + (rd_L1 x52 x54).length < 140737488355328 then (frame_Pack.l0 k (t133 ++ (rd_L1 x52 x54)) x52 x53 (wrap64 (x54 + 1))) else (none))) else (some (([] : List Int), 64))) else (none)) else (none)) else ((frame_sum_add.f k 1 0 x4).bind fun bt139 => ((frame_sum_foot.f bt139.1 bt139.2).bind fun t141 => ((frame_number.f k x4 (IntKind.u64.wrap (t141)) 4).bind fun t142 => (some (t142, 0)))))
def frame_Pack.f (k : Nat) (a0_0 : Int) (a0_1 : Int) (a0_2 : Int) (l0_3 : List (List Int)) : Option (List Int × Int) := (frame_fits.f a0_0 a0_1 a0_2).bind fun t110 => (if t110 = true then (if (l0_3.length : Int) > 256 then (some (([] : List Int), 63)) else (if 0 ≤ (wrap64 ((wrap64 (24 + (wrap64 ((l0_3.length : Int) * 322)))) + 4)) then (if (wrap64 ((wrap64 (24 + (wrap64 ((l0_3.length : Int) * 322)))) + 4) : Int).toNat ≤ 281474976710656 then ((some (([] : List Int) : List Int)).bind fun y111 => (if y111.length + 4 < 140737488355328 then ((some (y111 ++ bytesOf (⟨#[67, 72, 82, 78]⟩ : ByteArray) : List Int)).bind fun y114 => ((some (([1, (a0_2) % 256] : List Int) : List Int)).bind fun y117 => (if y114.length + y117.length < 140737488355328 then ((frame_number.f k (y114 ++ y117) (IntKind.u64.wrap ((l0_3.length : Int))) 2).bind fun t123 => ((frame_number.f k t123 (IntKind.u64.wrap (a0_0)) 8).bind fun t126 => ((frame_number.f k t126 (IntKind.u64.wrap (a0_1)) 8).bind fun t129 => (frame_Pack.l0 k t129 l0_3 (l0_3.length : Int) 0)))) else (none)))) else (none))) else (none)) else (none))) else (some (([] : List Int), 62)))
set_option maxHeartbeats 8000000 in
set_option maxRecDepth 100000 in
theorem frame_Pack.calls (k : Nat) (a0_0 : Int) (a0_1 : Int) (a0_2 : Int) (A0_3 : Option Addr) (c0_3 : Nat) (l0_3 : List (List Int)) (r1 : List Int) (r2 : Int) (w : World) (hr0_3 : Kd.C (Kd.slice 5 (Kd.int .u8)) w A0_3 l0_3.length l0_3) (hc0_3 : l0_3.length ≤ c0_3) (h : frame_Pack.f k a0_0 a0_1 a0_2 l0_3 = some (r1, r2)) :
    Calls Try.prog 14 #[.agg #[.int .i64 a0_0, .int .i64 a0_1, .int .i64 a0_2, .slice A0_3 l0_3.length c0_3]] w fun e w' => ∃ v0_ : Value, e = .returned (.tuple #[v0_, .int .i64 r2]) ∧ Kd.R (Kd.int .u8) 5 w' w.heap.size (fun _ => True) v0_ r1 ∧ Below w.heap.size w w' := by
  have hu26 := Try.underlying26
  have hu23 := Try.underlying23
  have hu69 := Try.underlying69
  have HR0_3 := Aside0.mk hr0_3
  have HC0_3 := Aside0.mk hc0_3
  clear hr0_3 hc0_3
  have HB := Aside0.mk (Below.refl w.heap.size w)
  have H : ((frame_fits.f a0_0 a0_1 a0_2).bind fun t110 => (if t110 = true then (if (l0_3.length : Int) > 256 then (some (([] : List Int), 63)) else (if 0 ≤ (wrap64 ((wrap64 (24 + (wrap64 ((l0_3.length : Int) * 322)))) + 4)) then (if (wrap64 ((wrap64 (24 + (wrap64 ((l0_3.length : Int) * 322)))) + 4) : Int).toNat ≤ 281474976710656 then ((some (([] : List Int) : List Int)).bind fun y111 => (if y111.length + 4 < 140737488355328 then ((some (y111 ++ bytesOf (⟨#[67, 72, 82, 78]⟩ : ByteArray) : List Int)).bind fun y114 => ((some (([1, (a0_2) % 256] : List Int) : List Int)).bind fun y117 => (if y114.length + y117.length < 140737488355328 then ((frame_number.f k (y114 ++ y117) (IntKind.u64.wrap ((l0_3.length : Int))) 2).bind fun t123 => ((frame_number.f k t123 (IntKind.u64.wrap (a0_0)) 8).bind fun t126 => ((frame_number.f k t126 (IntKind.u64.wrap (a0_1)) 8).bind fun t129 => (frame_Pack.l0 k t129 l0_3 (l0_3.length : Int) 0)))) else (none)))) else (none))) else (none)) else (none))) else (some (([] : List Int), 62)))) = some (r1, r2) := h
  clear h
  replace H := Option.bind_eq_some_iff.mp H
  obtain ⟨t110, A20, H⟩ := H
  replace H : (if t110 = true then (if (l0_3.length : Int) > 256 then (some (([] : List Int), 63)) else (if 0 ≤ (wrap64 ((wrap64 (24 + (wrap64 ((l0_3.length : Int) * 322)))) + 4)) then (if (wrap64 ((wrap64 (24 + (wrap64 ((l0_3.length : Int) * 322)))) + 4) : Int).toNat ≤ 281474976710656 then ((some (([] : List Int) : List Int)).bind fun y111 => (if y111.length + 4 < 140737488355328 then ((some (y111 ++ bytesOf (⟨#[67, 72, 82, 78]⟩ : ByteArray) : List Int)).bind fun y114 => ((some (([1, (a0_2) % 256] : List Int) : List Int)).bind fun y117 => (if y114.length + y117.length < 140737488355328 then ((frame_number.f k (y114 ++ y117) (IntKind.u64.wrap ((l0_3.length : Int))) 2).bind fun t123 => ((frame_number.f k t123 (IntKind.u64.wrap (a0_0)) 8).bind fun t126 => ((frame_number.f k t126 (IntKind.u64.wrap (a0_1)) 8).bind fun t129 => (frame_Pack.l0 k t129 l0_3 (l0_3.length : Int) 0)))) else (none)))) else (none))) else (none)) else (none))) else (some (([] : List Int), 62))) = some (r1, r2) := H
  have A2 := Aside0.mk A20
  clear A20
  by_cases c3 : t110 = true
  · subst c3
    have H1 : (if (l0_3.length : Int) > 256 then (some (([] : List Int), 63)) else (if 0 ≤ (wrap64 ((wrap64 (24 + (wrap64 ((l0_3.length : Int) * 322)))) + 4)) then (if (wrap64 ((wrap64 (24 + (wrap64 ((l0_3.length : Int) * 322)))) + 4) : Int).toNat ≤ 281474976710656 then ((some (([] : List Int) : List Int)).bind fun y111 => (if y111.length + 4 < 140737488355328 then ((some (y111 ++ bytesOf (⟨#[67, 72, 82, 78]⟩ : ByteArray) : List Int)).bind fun y114 => ((some (([1, (a0_2) % 256] : List Int) : List Int)).bind fun y117 => (if y114.length + y117.length < 140737488355328 then ((frame_number.f k (y114 ++ y117) (IntKind.u64.wrap ((l0_3.length : Int))) 2).bind fun t123 => ((frame_number.f k t123 (IntKind.u64.wrap (a0_0)) 8).bind fun t126 => ((frame_number.f k t126 (IntKind.u64.wrap (a0_1)) 8).bind fun t129 => (frame_Pack.l0 k t129 l0_3 (l0_3.length : Int) 0)))) else (none)))) else (none))) else (none)) else (none))) = some (r1, r2) := by rw [if_pos rfl] at H; exact H
    clear H
    have H := H1
    clear H1
    by_cases c4 : (l0_3.length : Int) > 256
    · rw [if_pos c4] at H
      have c4b0 : decide (256 < (l0_3.length : Int)) = true := decide_eq_true c4
      have c4b1 : decide (256 < l0_3.length) = true := decide_eq_true (by omega)
      clear c4
      simp only [Option.some.injEq, Prod.mk.injEq] at H
      obtain ⟨rfl, rfl⟩ := H
      go_enter Try.func14, Try.ntmps14
      go_wp2_with (first | ((with_reducible refine gate_dst (N := 1) rfl ?_); refine box_event ?hg (N := 1) ?hd (cs := #[.int .i64 a0_0, .int .i64 a0_1, .int .i64 a0_2, .slice A0_3 l0_3.length c0_3]) (t := 26) ?hr ?_; (case hd => rfl); (case hg => rfl); (case hr => first | (go_simp; done) | (go_simp; rfl)); intro gb109 hg w5 hbox hb; have n0_ := Aside0.mk (below_step (by repeat (first | (with_reducible first | exact HB.out | apply below_alloc | apply pw_below_drewN | apply below_drew1) | exact HB.out)) hb); have n1_ := Aside0.mk (hbox); have n2_ := Aside0.mk ((by rw [hg]; exact (below_size (by repeat (first | (with_reducible first | exact HB.out | apply below_alloc | apply pw_below_drewN | apply below_drew1) | exact HB.out))) : w.heap.size ≤ gb109)); have n3_ := Aside0.mk ((by rw [hg]; exact (below_size (by repeat (first | (with_reducible first | exact HB.out | apply below_alloc | apply pw_below_drewN | apply below_drew1) | exact HB.out))) : w.heap.size ≤ gb109)); clear HB; have HB := n0_; have BK109 := n1_; have GW109 := n2_; have GE109 := n3_; clear n0_ n1_ n2_ n3_; clear hb hbox hg; have hcz6_0 : w5.cell? ⟨gb109, 0, none⟩ = some (.int .i64 a0_0) := (blk_cell BK109.out 0).trans rfl; have hcz6_1 : w5.cell? ⟨gb109, 1, none⟩ = some (.int .i64 a0_1) := (blk_cell BK109.out 1).trans rfl; have hcz6_2 : w5.cell? ⟨gb109, 2, none⟩ = some (.int .i64 a0_2) := (blk_cell BK109.out 2).trans rfl; have hcz6_3 : w5.cell? ⟨gb109, 3, none⟩ = some (.slice A0_3 l0_3.length c0_3) := (blk_cell BK109.out 3).trans rfl; have hfz6_0 := blk_frozen BK109.out 0; have hfz6_1 := blk_frozen BK109.out 1; have hfz6_2 := blk_frozen BK109.out 2; have hfz6_3 := blk_frozen BK109.out 3) | ((with_reducible refine gate_callee (f := 30) rfl ?_); refine goesL_ (some 10) rfl rfl Try.func30 (by kernel_rfl) rfl #[.agg #[.int .i64 a0_0, .int .i64 a0_1, .int .i64 a0_2]] rfl (by (try simp only [List.map_toArray, List.map_cons, List.map_nil]); first | done | rfl | (simp only [List.length_drop, List.length_take]; rfl)) ?_; (with_reducible refine (frame_fits.calls a0_0 a0_1 a0_2 true _ A2.out).mono ?_); rintro e w7 ⟨rfl, hb⟩; refine ⟨_, rfl, ?_⟩; have n0_ := Aside0.mk (blk_below (g := gb109) (o := .cells #[.int .i64 a0_0, .int .i64 a0_1, .int .i64 a0_2, .slice A0_3 l0_3.length c0_3] 26 (0, 0)) (by (with_reducible repeat (first | refine blk_drewN ?_ _ | refine blk_drew ?_ | refine blk_alloc ?_ _)); exact BK109.out) hb); have n1_ := Aside0.mk (below_step (by repeat (first | (with_reducible first | exact HB.out | apply below_alloc | apply pw_below_drewN | apply below_drew1 | refine below_set ?_ GE109.out) | exact HB.out)) hb); clear BK109; clear HB; have BK109 := n0_; have HB := n1_; clear n0_ n1_; (try clear hb); (try clear hb2); (try clear hk); (try clear hi); have hcz8_0 : w7.cell? ⟨gb109, 0, none⟩ = some (.int .i64 a0_0) := (blk_cell BK109.out 0).trans rfl; have hcz8_1 : w7.cell? ⟨gb109, 1, none⟩ = some (.int .i64 a0_1) := (blk_cell BK109.out 1).trans rfl; have hcz8_2 : w7.cell? ⟨gb109, 2, none⟩ = some (.int .i64 a0_2) := (blk_cell BK109.out 2).trans rfl; have hcz8_3 : w7.cell? ⟨gb109, 3, none⟩ = some (.slice A0_3 l0_3.length c0_3) := (blk_cell BK109.out 3).trans rfl; have hfz8_0 := blk_frozen BK109.out 0; have hfz8_1 := blk_frozen BK109.out 1; have hfz8_2 := blk_frozen BK109.out 2; have hfz8_3 := blk_frozen BK109.out 3))
      go_ret2
      exact ⟨_, by first | rfl | (simp [errW_none, errW_some] <;> rfl) | (simp [*, errW_none, errW_some] <;> rfl), by first | exact Kd.R_nil _ _ _ _ _ | exact Kd.N_nil _ _ _ _ _ | exact Kd.V_nil _ _ _ _ _ | exact Kd.Q_nil _ _ _ _ _ | exact Kd.S_nil _ _ _ _ _, by repeat (first | (with_reducible first | exact HB.out | apply below_alloc | apply pw_below_drewN | apply below_drew1 | refine below_set ?_ GE109.out) | exact HB.out)⟩
    · rw [if_neg c4] at H
      have c4b0 : decide (256 < (l0_3.length : Int)) = false := decide_eq_false c4
      have c4b1 : decide (256 < l0_3.length) = false := decide_eq_false (by omega)
      clear c4
      obtain ⟨ji9, hji9⟩ : ∃ j_ : Int, (wrap64 ((wrap64 (24 + (wrap64 ((l0_3.length : Int) * 322)))) + 4)) = j_ := ⟨_, rfl⟩
      replace H : (if 0 ≤ (ji9) then (if (ji9 : Int).toNat ≤ 281474976710656 then ((some (([] : List Int) : List Int)).bind fun y111 => (if y111.length + 4 < 140737488355328 then ((some (y111 ++ bytesOf (⟨#[67, 72, 82, 78]⟩ : ByteArray) : List Int)).bind fun y114 => ((some (([1, (a0_2) % 256] : List Int) : List Int)).bind fun y117 => (if y114.length + y117.length < 140737488355328 then ((frame_number.f k (y114 ++ y117) (IntKind.u64.wrap ((l0_3.length : Int))) 2).bind fun t123 => ((frame_number.f k t123 (IntKind.u64.wrap (a0_0)) 8).bind fun t126 => ((frame_number.f k t126 (IntKind.u64.wrap (a0_1)) 8).bind fun t129 => (frame_Pack.l0 k t129 l0_3 (l0_3.length : Int) 0)))) else (none)))) else (none))) else (none)) else (none)) = some (r1, r2) := by first | (rw [hji9] at H; exact H) | (simp only [hji9] at H ⊢; exact H)
      (try rw [hji9] at A2)
      have hji9w : (IntKind.i64.wrap ((wrap64 (24 + (wrap64 ((l0_3.length : Int) * 322)))) + 4)) = ji9 := (i64_w _).trans hji9
      by_cases c10 : 0 ≤ (ji9)
      · rw [if_pos c10] at H
        have c10b0 := eq_true c10
        have c10b1 : decide (0 ≤ (ji9)) = true := decide_eq_true c10
        clear c10
        by_cases c11 : (ji9 : Int).toNat ≤ 281474976710656
        · rw [if_pos c11] at H
          have c11b0 := eq_true c11
          have c11b1 : decide ((ji9 : Int).toNat ≤ 281474976710656) = true := decide_eq_true c11
          clear c11
          obtain ⟨y111, hy111⟩ : ∃ y_ : List Int, y_ = (([] : List Int)) := ⟨_, rfl⟩
          replace H : (if y111.length + 4 < 140737488355328 then ((some (y111 ++ bytesOf (⟨#[67, 72, 82, 78]⟩ : ByteArray) : List Int)).bind fun y114 => ((some (([1, (a0_2) % 256] : List Int) : List Int)).bind fun y117 => (if y114.length + y117.length < 140737488355328 then ((frame_number.f k (y114 ++ y117) (IntKind.u64.wrap ((l0_3.length : Int))) 2).bind fun t123 => ((frame_number.f k t123 (IntKind.u64.wrap (a0_0)) 8).bind fun t126 => ((frame_number.f k t126 (IntKind.u64.wrap (a0_1)) 8).bind fun t129 => (frame_Pack.l0 k t129 l0_3 (l0_3.length : Int) 0)))) else (none)))) else (none)) = some (r1, r2) := by first | (rw [hy111]; with_reducible exact H) | (have H2_ := (Option.bind_some _ _).symm.trans H; rw [hy111]; with_reducible exact H2_) | (have H2_ := (Option.bind_some _ _).symm.trans H; with_reducible exact H2_) | with_reducible exact H | (rw [hy111]; exact H) | exact H
          have Ny111 := Aside0.mk hy111
          clear hy111
          by_cases c12 : y111.length + 4 < 140737488355328
          · rw [if_pos c12] at H
            have LMc12 := Aside0.mk c12
            clear c12
            obtain ⟨y114, hy114⟩ : ∃ y_ : List Int, y_ = (y111 ++ bytesOf (⟨#[67, 72, 82, 78]⟩ : ByteArray)) := ⟨_, rfl⟩
            replace H : ((some (([1, (a0_2) % 256] : List Int) : List Int)).bind fun y117 => (if y114.length + y117.length < 140737488355328 then ((frame_number.f k (y114 ++ y117) (IntKind.u64.wrap ((l0_3.length : Int))) 2).bind fun t123 => ((frame_number.f k t123 (IntKind.u64.wrap (a0_0)) 8).bind fun t126 => ((frame_number.f k t126 (IntKind.u64.wrap (a0_1)) 8).bind fun t129 => (frame_Pack.l0 k t129 l0_3 (l0_3.length : Int) 0)))) else (none))) = some (r1, r2) := by first | (rw [hy114]; with_reducible exact H) | (have H2_ := (Option.bind_some _ _).symm.trans H; rw [hy114]; with_reducible exact H2_) | (have H2_ := (Option.bind_some _ _).symm.trans H; with_reducible exact H2_) | with_reducible exact H | (rw [hy114]; exact H) | exact H
            have Ny114 := Aside0.mk hy114
            clear hy114
            obtain ⟨y117, hy117⟩ : ∃ y_ : List Int, y_ = (([1, (a0_2) % 256] : List Int)) := ⟨_, rfl⟩
            replace H : (if y114.length + y117.length < 140737488355328 then ((frame_number.f k (y114 ++ y117) (IntKind.u64.wrap ((l0_3.length : Int))) 2).bind fun t123 => ((frame_number.f k t123 (IntKind.u64.wrap (a0_0)) 8).bind fun t126 => ((frame_number.f k t126 (IntKind.u64.wrap (a0_1)) 8).bind fun t129 => (frame_Pack.l0 k t129 l0_3 (l0_3.length : Int) 0)))) else (none)) = some (r1, r2) := by first | (rw [hy117]; with_reducible exact H) | (have H2_ := (Option.bind_some _ _).symm.trans H; rw [hy117]; with_reducible exact H2_) | (have H2_ := (Option.bind_some _ _).symm.trans H; with_reducible exact H2_) | with_reducible exact H | (rw [hy117]; exact H) | exact H
            have Ny117 := Aside0.mk hy117
            clear hy117
            by_cases c13 : y114.length + y117.length < 140737488355328
            · rw [if_pos c13] at H
              have LMc13 := Aside0.mk c13
              clear c13
              obtain ⟨y120, hy120⟩ : ∃ y_ : List Int, y_ = (y114 ++ y117) := ⟨_, rfl⟩
              replace H : ((frame_number.f k y120 (IntKind.u64.wrap ((l0_3.length : Int))) 2).bind fun t123 => ((frame_number.f k t123 (IntKind.u64.wrap (a0_0)) 8).bind fun t126 => ((frame_number.f k t126 (IntKind.u64.wrap (a0_1)) 8).bind fun t129 => (frame_Pack.l0 k t129 l0_3 (l0_3.length : Int) 0)))) = some (r1, r2) := by first | (rw [hy120]; with_reducible exact H) | (have H2_ := (Option.bind_some _ _).symm.trans H; rw [hy120]; with_reducible exact H2_) | (have H2_ := (Option.bind_some _ _).symm.trans H; with_reducible exact H2_) | with_reducible exact H | (rw [hy120]; exact H) | exact H
              have Ny120 := Aside0.mk hy120
              clear hy120
              replace H := Option.bind_eq_some_iff.mp H
              obtain ⟨t123, A140, H⟩ := H
              replace H : ((frame_number.f k t123 (IntKind.u64.wrap (a0_0)) 8).bind fun t126 => ((frame_number.f k t126 (IntKind.u64.wrap (a0_1)) 8).bind fun t129 => (frame_Pack.l0 k t129 l0_3 (l0_3.length : Int) 0))) = some (r1, r2) := H
              have A14 := Aside0.mk A140
              clear A140
              replace H := Option.bind_eq_some_iff.mp H
              obtain ⟨t126, A150, H⟩ := H
              replace H : ((frame_number.f k t126 (IntKind.u64.wrap (a0_1)) 8).bind fun t129 => (frame_Pack.l0 k t129 l0_3 (l0_3.length : Int) 0)) = some (r1, r2) := H
              have A15 := Aside0.mk A150
              clear A150
              replace H := Option.bind_eq_some_iff.mp H
              obtain ⟨t129, A160, H⟩ := H
              replace H : (frame_Pack.l0 k t129 l0_3 (l0_3.length : Int) 0) = some (r1, r2) := H
              have A16 := Aside0.mk A160
              clear A160
              have H' := Aside0.mk H
              clear H
              go_enter Try.func14, Try.ntmps14
              go_wp2_with (first | ((with_reducible refine gate_dst (N := 1) rfl ?_); refine box_event ?hg (N := 1) ?hd (cs := #[.int .i64 a0_0, .int .i64 a0_1, .int .i64 a0_2, .slice A0_3 l0_3.length c0_3]) (t := 26) ?hr ?_; (case hd => rfl); (case hg => rfl); (case hr => first | (go_simp; done) | (go_simp; rfl)); intro gb109 hg w17 hbox hb; have n0_ := Aside0.mk (below_step (by repeat (first | (with_reducible first | exact HB.out | apply below_alloc | apply pw_below_drewN | apply below_drew1) | exact HB.out)) hb); have n1_ := Aside0.mk (hbox); have n2_ := Aside0.mk ((by rw [hg]; exact (below_size (by repeat (first | (with_reducible first | exact HB.out | apply below_alloc | apply pw_below_drewN | apply below_drew1) | exact HB.out))) : w.heap.size ≤ gb109)); have n3_ := Aside0.mk ((by rw [hg]; exact (below_size (by repeat (first | (with_reducible first | exact HB.out | apply below_alloc | apply pw_below_drewN | apply below_drew1) | exact HB.out))) : w.heap.size ≤ gb109)); clear HB; have HB := n0_; have BK109 := n1_; have GW109 := n2_; have GE109 := n3_; clear n0_ n1_ n2_ n3_; clear hb hbox hg; have hcz18_0 : w17.cell? ⟨gb109, 0, none⟩ = some (.int .i64 a0_0) := (blk_cell BK109.out 0).trans rfl; have hcz18_1 : w17.cell? ⟨gb109, 1, none⟩ = some (.int .i64 a0_1) := (blk_cell BK109.out 1).trans rfl; have hcz18_2 : w17.cell? ⟨gb109, 2, none⟩ = some (.int .i64 a0_2) := (blk_cell BK109.out 2).trans rfl; have hcz18_3 : w17.cell? ⟨gb109, 3, none⟩ = some (.slice A0_3 l0_3.length c0_3) := (blk_cell BK109.out 3).trans rfl; have hfz18_0 := blk_frozen BK109.out 0; have hfz18_1 := blk_frozen BK109.out 1; have hfz18_2 := blk_frozen BK109.out 2; have hfz18_3 := blk_frozen BK109.out 3) | ((with_reducible refine gate_callee (f := 30) rfl ?_); refine goesL_ (some 10) rfl rfl Try.func30 (by kernel_rfl) rfl #[.agg #[.int .i64 a0_0, .int .i64 a0_1, .int .i64 a0_2]] rfl (by (try simp only [List.map_toArray, List.map_cons, List.map_nil]); first | done | rfl | (simp only [List.length_drop, List.length_take]; rfl)) ?_; (with_reducible refine (frame_fits.calls a0_0 a0_1 a0_2 true _ A2.out).mono ?_); rintro e w19 ⟨rfl, hb⟩; refine ⟨_, rfl, ?_⟩; have n0_ := Aside0.mk (blk_below (g := gb109) (o := .cells #[.int .i64 a0_0, .int .i64 a0_1, .int .i64 a0_2, .slice A0_3 l0_3.length c0_3] 26 (0, 0)) (by (with_reducible repeat (first | refine blk_drewN ?_ _ | refine blk_drew ?_ | refine blk_alloc ?_ _)); exact BK109.out) hb); have n1_ := Aside0.mk (below_step (by repeat (first | (with_reducible first | exact HB.out | apply below_alloc | apply pw_below_drewN | apply below_drew1 | refine below_set ?_ GE109.out) | exact HB.out)) hb); clear BK109; clear HB; have BK109 := n0_; have HB := n1_; clear n0_ n1_; (try clear hb); (try clear hb2); (try clear hk); (try clear hi); have hcz20_0 : w19.cell? ⟨gb109, 0, none⟩ = some (.int .i64 a0_0) := (blk_cell BK109.out 0).trans rfl; have hcz20_1 : w19.cell? ⟨gb109, 1, none⟩ = some (.int .i64 a0_1) := (blk_cell BK109.out 1).trans rfl; have hcz20_2 : w19.cell? ⟨gb109, 2, none⟩ = some (.int .i64 a0_2) := (blk_cell BK109.out 2).trans rfl; have hcz20_3 : w19.cell? ⟨gb109, 3, none⟩ = some (.slice A0_3 l0_3.length c0_3) := (blk_cell BK109.out 3).trans rfl; have hfz20_0 := blk_frozen BK109.out 0; have hfz20_1 := blk_frozen BK109.out 1; have hfz20_2 := blk_frozen BK109.out 2; have hfz20_3 := blk_frozen BK109.out 3) | ((with_reducible refine gate_dst (N := 23) rfl ?_); refine Kd.R_make0 (Kd.int .u8) _ 5 rfl (N := 23) rfl 30 _ _ rfl ji9 rfl rfl Try.underlying30 (.int .u8 0) 1 info5 rfl (by decide) (by omega) 0 (ok := fun _ => True) (okp := fun _ => True) rfl (fun _ hk => hk) trivial (of_decide_eq_true (by first | (with_reducible assumption) | assumption)) (Nat.le_trans (Nat.mul_le_mul_right _ (of_decide_eq_true (by first | (with_reducible assumption) | assumption) : ji9.toNat ≤ 281474976710656)) (by omega)) (Below.refl _ _) (Nat.le_refl _) ?_; intro v112 w21 ho22 hb hg_ hnew_; clear hg_ hnew_; (first | rw [← Ny111.out] at ho22 | (simp only [Int.reduceToNat] at ho22; rw [← Ny111.out] at ho22)); have n0_ := Aside0.mk (Kd.R_lower ho22 (below_size (by repeat (first | (with_reducible first | exact HB.out | apply below_alloc | apply pw_below_drewN | apply below_drew1 | refine below_set ?_ GE109.out) | exact HB.out)))); have n1_ := Aside0.mk (blk_below (g := gb109) (o := .cells #[.int .i64 a0_0, .int .i64 a0_1, .int .i64 a0_2, .slice A0_3 l0_3.length c0_3] 26 (0, 0)) (by (with_reducible repeat (first | refine blk_drewN ?_ _ | refine blk_drew ?_ | refine blk_alloc ?_ _)); exact BK109.out) hb); have n2_ := Aside0.mk (below_step (by repeat (first | (with_reducible first | exact HB.out | apply below_alloc | apply pw_below_drewN | apply below_drew1 | refine below_set ?_ GE109.out) | exact HB.out)) hb); clear BK109; clear HB; have HO113 := n0_; have BK109 := n1_; have HB := n2_; clear n0_ n1_ n2_; clear hb ho22) | (at_builtin; refine print_append_str (w0 := w) w.heap.size rfl (.tmp 24) _ 30 9 5 rfl Try.underlying30 Try.underlying9 info5 v112 y111 (⟨#[67, 72, 82, 78]⟩ : ByteArray) rfl rfl ?aO ?aB ?aS ?aL ?_; (case aB => exact (by repeat (first | (with_reducible first | exact HB.out | apply below_alloc | apply pw_below_drewN | apply below_drew1 | refine below_set ?_ GE109.out) | exact HB.out))); (case aO => exact (Kd.own_of_R (by (with_reducible repeat (first | apply Kd.R_alloc | apply Kd.R_drewN | apply Kd.R_drew)); exact HO113.out))); (case aS => exact (below_size (by repeat (first | (with_reducible first | exact HB.out | apply below_alloc | apply pw_below_drewN | apply below_drew1 | refine below_set ?_ GE109.out) | exact HB.out)))); (case aL => have := LMc12.out; have e_ : (⟨#[67, 72, 82, 78]⟩ : ByteArray).size = 4 := rfl; omega); intro v115 w23 ho0 hb hg; have ho := Kd.R_of_own (h1 := fun _ => rfl) (ok := fun _ => True) ho0 (fun _ _ => trivial); clear ho0; have hat := True.intro; rw [← Ny114.out] at ho; change Kd.R (Kd.int .u8) 5 w23 w.heap.size (fun _ => True) v115 y114 at ho; have n0_ := Aside0.mk (blk_grown (g := gb109) (o := .cells #[.int .i64 a0_0, .int .i64 a0_1, .int .i64 a0_2, .slice A0_3 l0_3.length c0_3] 26 (0, 0)) (by (with_reducible repeat (first | refine blk_drewN ?_ _ | refine blk_drew ?_ | refine blk_alloc ?_ _)); exact BK109.out) hg (Kd.R_ne HO113.out BK109.out (by decide))); have n1_ := Aside0.mk (hb); have n2_ := Aside0.mk (ho); clear BK109; clear HB; clear HO113; have BK109 := n0_; have HB := n1_; have HO116 := n2_; clear n0_ n1_ n2_; clear ho hb hg hat; have hcz24_0 : w23.cell? ⟨gb109, 0, none⟩ = some (.int .i64 a0_0) := (blk_cell BK109.out 0).trans rfl; have hcz24_1 : w23.cell? ⟨gb109, 1, none⟩ = some (.int .i64 a0_1) := (blk_cell BK109.out 1).trans rfl; have hcz24_2 : w23.cell? ⟨gb109, 2, none⟩ = some (.int .i64 a0_2) := (blk_cell BK109.out 2).trans rfl; have hcz24_3 : w23.cell? ⟨gb109, 3, none⟩ = some (.slice A0_3 l0_3.length c0_3) := (blk_cell BK109.out 3).trans rfl; have hfz24_0 := blk_frozen BK109.out 0; have hfz24_1 := blk_frozen BK109.out 1; have hfz24_2 := blk_frozen BK109.out 2; have hfz24_3 := blk_frozen BK109.out 3) | ((with_reducible refine gate_dst (N := 31) rfl ?_); refine Kd.R_lit (Kd.int .u8) _ 5 ?hg (N := 31) ?hd (xs := ([1, (a0_2) % 256] : List Int)) (inner := [.int .u8 1, .int .u8 ((a0_2) % 256)]) (ok := fun _ => True) (okp := fun _ => True) ?hr ?hp (fun _ hk => hk) trivial (Below.refl _ _) (Nat.le_refl _) (by simp) ?_; (case hd => rfl); (case hg => rfl); (case hr => first | (go_simp; done) | (go_simp; rfl)); (case hp => exact (Reps.one (show Kd.M (Kd.int .u8) _ _ _ 1 [.int .u8 1] from rfl) (Reps.one (show Kd.M (Kd.int .u8) _ _ _ ((a0_2) % 256) [.int .u8 ((a0_2) % 256)] from rfl) (Reps.none _ _)))); intro v118 w25 ho26 hb hg_ hnew_; clear hg_ hnew_; (first | rw [← Ny117.out] at ho26 | (simp only [Int.reduceToNat] at ho26; rw [← Ny117.out] at ho26)); have n0_ := Aside0.mk (Kd.R_elder' (by (with_reducible repeat (first | apply Kd.R_alloc | apply Kd.R_drewN | apply Kd.R_drew)); exact HO116.out) (Kd.R_base ho26) hb); have n1_ := Aside0.mk (Kd.R_lower (Kd.R_new' ho26 (Kd.R_lt (by (with_reducible repeat (first | apply Kd.R_alloc | apply Kd.R_drewN | apply Kd.R_drew)); exact HO116.out))) (below_size (by repeat (first | (with_reducible first | exact HB.out | apply below_alloc | apply pw_below_drewN | apply below_drew1 | refine below_set ?_ GE109.out) | exact HB.out)))); have n2_ := Aside0.mk (blk_below (g := gb109) (o := .cells #[.int .i64 a0_0, .int .i64 a0_1, .int .i64 a0_2, .slice A0_3 l0_3.length c0_3] 26 (0, 0)) (by (with_reducible repeat (first | refine blk_drewN ?_ _ | refine blk_drew ?_ | refine blk_alloc ?_ _)); exact BK109.out) hb); have n3_ := Aside0.mk (below_step (by repeat (first | (with_reducible first | exact HB.out | apply below_alloc | apply pw_below_drewN | apply below_drew1 | refine below_set ?_ GE109.out) | exact HB.out)) hb); clear HO116; clear BK109; clear HB; have HO116 := n0_; have HO119 := n1_; have BK109 := n2_; have HB := n3_; clear n0_ n1_ n2_ n3_; clear hb ho26; obtain ⟨Ao28, co28, eo28⟩ := Kd.R_slice HO119.out; subst eo28) | ((with_reducible refine gate_builtin (b := .append) (xs := #[.tmp 26, .tmp 31]) rfl ?_); at_builtin; refine Kd.R_append_rows (Kd.int .u8) (w0 := w) w.heap.size rfl (.tmp 26) (.tmp 31) 30 5 (.int .u8 0) 1 rfl Try.underlying30 info5 rfl (by decide) (by omega) v115 y114 y117 _ _ _ (fun k_ => some k_ ≠ (.slice Ao28 y117.length co28 : Value).ownBlock) (fun _ => False) rfl rfl ?aO ?aR (fun _ _ h => h) (fun _ h => h.elim) ?aF ?aB ?aS ?aL ?_; (case aR => repeat (first | exact (Kd.R_reads' HO119.out).2.2 | (with_reducible refine Kd.C_alloc ?_ _) | (with_reducible refine Kd.C_drewN ?_ _) | (with_reducible refine Kd.C_drew ?_))); (case aB => exact (by repeat (first | (with_reducible first | exact HB.out | apply below_alloc | apply pw_below_drewN | apply below_drew1 | refine below_set ?_ GE109.out) | exact HB.out))); (case aF => exact (fun k_ hk => Kd.fresh' (Kd.R_lt (by (with_reducible repeat (first | apply Kd.R_alloc | apply Kd.R_drewN | apply Kd.R_drew)); exact HO119.out)) k_ hk)); (case aO => exact (by (with_reducible repeat (first | apply Kd.R_alloc | apply Kd.R_drewN | apply Kd.R_drew)); exact Kd.R_mono HO116.out (fun _ hk => hk.2))); (case aS => exact (below_size (by repeat (first | (with_reducible first | exact HB.out | apply below_alloc | apply pw_below_drewN | apply below_drew1 | refine below_set ?_ GE109.out) | exact HB.out)))); (case aL => have := LMc13.out; omega); intro v121 w27 ho hb hg hat; rw [← Ny120.out] at ho; have n0_ := Aside0.mk (blk_grown (g := gb109) (o := .cells #[.int .i64 a0_0, .int .i64 a0_1, .int .i64 a0_2, .slice A0_3 l0_3.length c0_3] 26 (0, 0)) (by (with_reducible repeat (first | refine blk_drewN ?_ _ | refine blk_drew ?_ | refine blk_alloc ?_ _)); exact BK109.out) hg (Kd.R_ne HO116.out BK109.out (by decide))); have n1_ := Aside0.mk (Kd.R_after (ok := (fun _ => True)) (by (with_reducible repeat (first | apply Kd.R_alloc | apply Kd.R_drewN | apply Kd.R_drew)); exact HO119.out) hg hat); have n2_ := Aside0.mk (hb); have n3_ := Aside0.mk (ho); clear BK109; clear HO119; clear HB; clear HO116; have BK109 := n0_; have HO119 := n1_; have HB := n2_; have HO122 := n3_; clear n0_ n1_ n2_ n3_; clear ho hb hg hat; have hcz29_0 : w27.cell? ⟨gb109, 0, none⟩ = some (.int .i64 a0_0) := (blk_cell BK109.out 0).trans rfl; have hcz29_1 : w27.cell? ⟨gb109, 1, none⟩ = some (.int .i64 a0_1) := (blk_cell BK109.out 1).trans rfl; have hcz29_2 : w27.cell? ⟨gb109, 2, none⟩ = some (.int .i64 a0_2) := (blk_cell BK109.out 2).trans rfl; have hcz29_3 : w27.cell? ⟨gb109, 3, none⟩ = some (.slice A0_3 l0_3.length c0_3) := (blk_cell BK109.out 3).trans rfl; have hfz29_0 := blk_frozen BK109.out 0; have hfz29_1 := blk_frozen BK109.out 1; have hfz29_2 := blk_frozen BK109.out 2; have hfz29_3 := blk_frozen BK109.out 3; obtain ⟨Ao30, co30, eo30⟩ := Kd.R_slice HO122.out; subst eo30) | ((with_reducible refine gate_callee (f := 31) rfl ?_); refine goesL_ (some 38) rfl rfl Try.func31 (by kernel_rfl) rfl #[.slice Ao30 y120.length co30, .int .u64 (IntKind.u64.wrap ((l0_3.length : Int))), .int .i64 2] rfl (by (try simp only [List.map_toArray, List.map_cons, List.map_nil]); first | done | rfl | (simp only [List.length_drop, List.length_take]; rfl)) ?_; (with_reducible refine (frame_number.calls k (fun k_ => some k_ = (.slice Ao30 y120.length co30 : Value).ownBlock) (.slice Ao30 y120.length co30) y120 (IntKind.u64.wrap ((l0_3.length : Int))) 2 t123 w _ ?side1 ?side2 A14.out).mono ?_); (case side1 => repeat (first | (with_reducible first | exact HB.out | apply below_alloc | apply pw_below_drewN | apply below_drew1 | refine below_set ?_ GE109.out) | exact HB.out)); (case side2 => exact Kd.R_tight rfl HO122.out); rintro e w31 ⟨v124, rfl, ho0, hb, hkp⟩; refine ⟨_, rfl, ?_⟩; have n0_ := Aside0.mk (blk_kept (by (with_reducible repeat (first | refine blk_drewN ?_ _ | refine blk_drew ?_ | refine blk_alloc ?_ _)); exact BK109.out) hkp (fun hs_ => (fun e_ => (Kd.R_ne HO122.out BK109.out (by decide)) e_) hs_)); have n1_ := Aside0.mk (Kd.R_mono (ok' := fun k_ => some k_ ≠ (v124 : Value).ownBlock) (Kd.R_keptB (HO119.out) hkp (fun k_ hk_ hs_ => (hk_.2) hs_)) (fun k_ hk_ => fun e_ => Or.elim (ho0.1 k_ e_.symm) (fun hs_ => hk_.2.1 hs_) (fun hn_ => Nat.not_le.2 hk_.2.2 hn_))); have n2_ := Aside0.mk (Kd.R_mono (ok' := fun k_ => some k_ ≠ (.slice Ao28 y117.length co28 : Value).ownBlock) ho0 (fun k_ hk_ => Or.elim hk_ (fun hs_ => fun e_ => (((HO119.out).1 k_ e_.symm).2) hs_) (fun hn_ => (Kd.fresh' (Kd.R_lt (by (with_reducible repeat (first | apply Kd.R_alloc | apply Kd.R_drewN | apply Kd.R_drew)); exact HO119.out)) k_ hn_)))); have n3_ := Aside0.mk (hb); clear BK109; clear HO119; clear HB; clear HO122; have BK109 := n0_; have HO119 := n1_; have HO125 := n2_; have HB := n3_; clear n0_ n1_ n2_ n3_; (try clear hb); (try clear hkp); (try clear ho0); have hcz32_0 : w31.cell? ⟨gb109, 0, none⟩ = some (.int .i64 a0_0) := (blk_cell BK109.out 0).trans rfl; have hcz32_1 : w31.cell? ⟨gb109, 1, none⟩ = some (.int .i64 a0_1) := (blk_cell BK109.out 1).trans rfl; have hcz32_2 : w31.cell? ⟨gb109, 2, none⟩ = some (.int .i64 a0_2) := (blk_cell BK109.out 2).trans rfl; have hcz32_3 : w31.cell? ⟨gb109, 3, none⟩ = some (.slice A0_3 l0_3.length c0_3) := (blk_cell BK109.out 3).trans rfl; have hfz32_0 := blk_frozen BK109.out 0; have hfz32_1 := blk_frozen BK109.out 1; have hfz32_2 := blk_frozen BK109.out 2; have hfz32_3 := blk_frozen BK109.out 3; obtain ⟨Ao33, co33, eo33⟩ := Kd.R_slice HO125.out; subst eo33) | ((with_reducible refine gate_callee (f := 31) rfl ?_); refine goesL_ (some 44) rfl rfl Try.func31 (by kernel_rfl) rfl #[.slice Ao33 t123.length co33, .int .u64 (IntKind.u64.wrap (a0_0)), .int .i64 8] rfl (by (try simp only [List.map_toArray, List.map_cons, List.map_nil]); first | done | rfl | (simp only [List.length_drop, List.length_take]; rfl)) ?_; (with_reducible refine (frame_number.calls k (fun k_ => some k_ = (.slice Ao33 t123.length co33 : Value).ownBlock) (.slice Ao33 t123.length co33) t123 (IntKind.u64.wrap (a0_0)) 8 t126 w _ ?side1 ?side2 A15.out).mono ?_); (case side1 => repeat (first | (with_reducible first | exact HB.out | apply below_alloc | apply pw_below_drewN | apply below_drew1 | refine below_set ?_ GE109.out) | exact HB.out)); (case side2 => exact Kd.R_tight rfl HO125.out); rintro e w34 ⟨v127, rfl, ho0, hb, hkp⟩; refine ⟨_, rfl, ?_⟩; have n0_ := Aside0.mk (blk_kept (by (with_reducible repeat (first | refine blk_drewN ?_ _ | refine blk_drew ?_ | refine blk_alloc ?_ _)); exact BK109.out) hkp (fun hs_ => (fun e_ => (Kd.R_ne HO125.out BK109.out (by decide)) e_) hs_)); have n1_ := Aside0.mk (Kd.R_mono (ok' := fun k_ => some k_ ≠ (v127 : Value).ownBlock) (Kd.R_keptB (HO119.out) hkp (fun k_ hk_ hs_ => (hk_) hs_)) (fun k_ hk_ => fun e_ => Or.elim (ho0.1 k_ e_.symm) (fun hs_ => hk_.2.1 hs_) (fun hn_ => Nat.not_le.2 hk_.2.2 hn_))); have n2_ := Aside0.mk (Kd.R_mono (ok' := fun k_ => some k_ ≠ (.slice Ao28 y117.length co28 : Value).ownBlock) ho0 (fun k_ hk_ => Or.elim hk_ (fun hs_ => fun e_ => (((HO119.out).1 k_ e_.symm)) hs_) (fun hn_ => (Kd.fresh' (Kd.R_lt (by (with_reducible repeat (first | apply Kd.R_alloc | apply Kd.R_drewN | apply Kd.R_drew)); exact HO119.out)) k_ hn_)))); have n3_ := Aside0.mk (hb); clear BK109; clear HO119; clear HB; clear HO125; have BK109 := n0_; have HO119 := n1_; have HO128 := n2_; have HB := n3_; clear n0_ n1_ n2_ n3_; (try clear hb); (try clear hkp); (try clear ho0); have hcz35_0 : w34.cell? ⟨gb109, 0, none⟩ = some (.int .i64 a0_0) := (blk_cell BK109.out 0).trans rfl; have hcz35_1 : w34.cell? ⟨gb109, 1, none⟩ = some (.int .i64 a0_1) := (blk_cell BK109.out 1).trans rfl; have hcz35_2 : w34.cell? ⟨gb109, 2, none⟩ = some (.int .i64 a0_2) := (blk_cell BK109.out 2).trans rfl; have hcz35_3 : w34.cell? ⟨gb109, 3, none⟩ = some (.slice A0_3 l0_3.length c0_3) := (blk_cell BK109.out 3).trans rfl; have hfz35_0 := blk_frozen BK109.out 0; have hfz35_1 := blk_frozen BK109.out 1; have hfz35_2 := blk_frozen BK109.out 2; have hfz35_3 := blk_frozen BK109.out 3; obtain ⟨Ao36, co36, eo36⟩ := Kd.R_slice HO128.out; subst eo36) | ((with_reducible refine gate_callee (f := 31) rfl ?_); refine goesL_ (some 50) rfl rfl Try.func31 (by kernel_rfl) rfl #[.slice Ao36 t126.length co36, .int .u64 (IntKind.u64.wrap (a0_1)), .int .i64 8] rfl (by (try simp only [List.map_toArray, List.map_cons, List.map_nil]); first | done | rfl | (simp only [List.length_drop, List.length_take]; rfl)) ?_; (with_reducible refine (frame_number.calls k (fun k_ => some k_ = (.slice Ao36 t126.length co36 : Value).ownBlock) (.slice Ao36 t126.length co36) t126 (IntKind.u64.wrap (a0_1)) 8 t129 w _ ?side1 ?side2 A16.out).mono ?_); (case side1 => repeat (first | (with_reducible first | exact HB.out | apply below_alloc | apply pw_below_drewN | apply below_drew1 | refine below_set ?_ GE109.out) | exact HB.out)); (case side2 => exact Kd.R_tight rfl HO128.out); rintro e w37 ⟨v130, rfl, ho0, hb, hkp⟩; refine ⟨_, rfl, ?_⟩; have n0_ := Aside0.mk (blk_kept (by (with_reducible repeat (first | refine blk_drewN ?_ _ | refine blk_drew ?_ | refine blk_alloc ?_ _)); exact BK109.out) hkp (fun hs_ => (fun e_ => (Kd.R_ne HO128.out BK109.out (by decide)) e_) hs_)); have n1_ := Aside0.mk (Kd.R_mono (ok' := fun k_ => some k_ ≠ (v130 : Value).ownBlock) (Kd.R_keptB (HO119.out) hkp (fun k_ hk_ hs_ => (hk_) hs_)) (fun k_ hk_ => fun e_ => Or.elim (ho0.1 k_ e_.symm) (fun hs_ => hk_.2.1 hs_) (fun hn_ => Nat.not_le.2 hk_.2.2 hn_))); have n2_ := Aside0.mk (Kd.R_mono (ok' := fun k_ => some k_ ≠ (.slice Ao28 y117.length co28 : Value).ownBlock) ho0 (fun k_ hk_ => Or.elim hk_ (fun hs_ => fun e_ => (((HO119.out).1 k_ e_.symm)) hs_) (fun hn_ => (Kd.fresh' (Kd.R_lt (by (with_reducible repeat (first | apply Kd.R_alloc | apply Kd.R_drewN | apply Kd.R_drew)); exact HO119.out)) k_ hn_)))); have n3_ := Aside0.mk (hb); clear BK109; clear HO119; clear HB; clear HO128; have BK109 := n0_; have HO119 := n1_; have HO131 := n2_; have HB := n3_; clear n0_ n1_ n2_ n3_; (try clear hb); (try clear hkp); (try clear ho0); have hcz38_0 : w37.cell? ⟨gb109, 0, none⟩ = some (.int .i64 a0_0) := (blk_cell BK109.out 0).trans rfl; have hcz38_1 : w37.cell? ⟨gb109, 1, none⟩ = some (.int .i64 a0_1) := (blk_cell BK109.out 1).trans rfl; have hcz38_2 : w37.cell? ⟨gb109, 2, none⟩ = some (.int .i64 a0_2) := (blk_cell BK109.out 2).trans rfl; have hcz38_3 : w37.cell? ⟨gb109, 3, none⟩ = some (.slice A0_3 l0_3.length c0_3) := (blk_cell BK109.out 3).trans rfl; have hfz38_0 := blk_frozen BK109.out 0; have hfz38_1 := blk_frozen BK109.out 1; have hfz38_2 := blk_frozen BK109.out 2; have hfz38_3 := blk_frozen BK109.out 3))
              go_loopg [4, 54] k (fun kq v4 v54 w' => ∃ (x4_1 : List Int) (x54_1 : Int), v54 = .int .i64 x54_1 ∧ Aside0 (frame_Pack.l0 kq x4_1 l0_3 (l0_3.length : Int) x54_1 = some (r1, r2)) ∧ Aside0 (kq ≤ k) ∧ Aside0 (Kd.R (Kd.int .u8) 5 w' w.heap.size (fun _ => True) v4 x4_1) ∧ Aside0 (w'.heap[gb109]? = some (.cells #[.int .i64 a0_0, .int .i64 a0_1, .int .i64 a0_2, (.slice A0_3 l0_3.length c0_3)] 26 (0, 0))) ∧ Aside0 (Below w.heap.size w w'))
              case atStart => exact ⟨(t129), (0), (by first | rfl | (simp; done) | (simp [*]; done)), H', ⟨Nat.le_refl _⟩, ⟨by (with_reducible repeat (first | apply Kd.R_alloc | apply Kd.R_drewN | apply Kd.R_drew)); exact Kd.R_mono HO131.out (fun _ hk => trivial)⟩, ⟨by (with_reducible repeat (first | refine blk_drewN ?_ _ | refine blk_drew ?_ | refine blk_alloc ?_ _)); exact BK109.out⟩, ⟨by repeat (first | (with_reducible first | exact HB.out | apply below_alloc | apply pw_below_drewN | apply below_drew1 | refine below_set ?_ GE109.out) | exact HB.out)⟩⟩
              case round =>
                clear H'
                try clear c1
                try clear p2
                try clear c3
                try clear c4
                try clear c4b0
                try clear c4b1
                try clear p6
                try clear c10
                try clear c10b0
                try clear c10b1
                try clear c11
                try clear c11b0
                try clear c11b1
                try clear c12
                try clear c13
                try clear c14
                try clear c30
                try clear c31
                try clear hcz18_0
                try clear hcz18_1
                try clear hcz18_2
                try clear hcz18_3
                try clear hcz20_0
                try clear hcz20_1
                try clear hcz20_2
                try clear hcz20_3
                try clear hcz24_0
                try clear hcz24_1
                try clear hcz24_2
                try clear hcz24_3
                try clear hcz29_0
                try clear hcz29_1
                try clear hcz29_2
                try clear hcz29_3
                try clear hcz32_0
                try clear hcz32_1
                try clear hcz32_2
                try clear hcz32_3
                try clear hcz35_0
                try clear hcz35_1
                try clear hcz35_2
                try clear hcz35_3
                try clear hcz38_0
                try clear hcz38_1
                try clear hcz38_2
                try clear hcz38_3
                try clear hcz6_0
                try clear hcz6_1
                try clear hcz6_2
                try clear hcz6_3
                try clear hcz8_0
                try clear hcz8_1
                try clear hcz8_2
                try clear hcz8_3
                try clear hfz18_0
                try clear hfz18_1
                try clear hfz18_2
                try clear hfz18_3
                try clear hfz20_0
                try clear hfz20_1
                try clear hfz20_2
                try clear hfz20_3
                try clear hfz24_0
                try clear hfz24_1
                try clear hfz24_2
                try clear hfz24_3
                try clear hfz29_0
                try clear hfz29_1
                try clear hfz29_2
                try clear hfz29_3
                try clear hfz32_0
                try clear hfz32_1
                try clear hfz32_2
                try clear hfz32_3
                try clear hfz35_0
                try clear hfz35_1
                try clear hfz35_2
                try clear hfz35_3
                try clear hfz38_0
                try clear hfz38_1
                try clear hfz38_2
                try clear hfz38_3
                try clear hfz6_0
                try clear hfz6_1
                try clear hfz6_2
                try clear hfz6_3
                try clear hfz8_0
                try clear hfz8_1
                try clear hfz8_2
                try clear hfz8_3
                (try clear BK109)
                obtain ⟨x4_1, x54_1, rfl, HA, HK1, HO_4, BK109, HB⟩ := hrel
                cases gk with
                | zero => exact absurd HA.out (by simp [frame_Pack.l0])
                | succ k1 =>
                  have H := HA.out
                  clear HA
                  simp only [frame_Pack.l0] at H
                  by_cases c39 : x54_1 < (l0_3.length : Int)
                  · rw [if_pos c39] at H
                    have c39b0 : decide (x54_1 < (l0_3.length : Int)) = true := decide_eq_true c39
                    clear c39
                    by_cases c40 : 0 ≤ x54_1
                    · rw [if_pos c40] at H
                      have c40b0 : decide (0 ≤ x54_1) = true := decide_eq_true c40
                      clear c40
                      by_cases c41 : x54_1 < (l0_3.length : Int)
                      · rw [if_pos c41] at H
                        have c41b0 : decide (x54_1 < (l0_3.length : Int)) = true := decide_eq_true c41
                        clear c41
                        by_cases c42 : ((rd_L1 l0_3 x54_1).length : Int) = 320
                        · rw [if_pos c42] at H
                          have c42b0 : (((rd_L1 l0_3 x54_1).length : Int) == 320) = true := beq_iff_eq.mpr c42
                          have c42b1 : (((rd_L1 l0_3 x54_1).length : Int) != 320) = false := bne_eq_false_iff_eq.mpr c42
                          clear c42
                          replace H := Option.bind_eq_some_iff.mp H
                          obtain ⟨t133, A430, H⟩ := H
                          replace H : (if t133.length + (rd_L1 l0_3 x54_1).length < 140737488355328 then (frame_Pack.l0 k1 (t133 ++ (rd_L1 l0_3 x54_1)) l0_3 (l0_3.length : Int) (wrap64 (x54_1 + 1))) else (none)) = some (r1, r2) := H
                          have A43 := Aside0.mk A430
                          clear A430
                          by_cases c44 : t133.length + (rd_L1 l0_3 x54_1).length < 140737488355328
                          · rw [if_pos c44] at H
                            have LMc44 := Aside0.mk c44
                            clear c44
                            obtain ⟨y136, hy136⟩ : ∃ y_ : List Int, y_ = (t133 ++ (rd_L1 l0_3 x54_1)) := ⟨_, rfl⟩
                            replace H : (frame_Pack.l0 k1 y136 l0_3 (l0_3.length : Int) (wrap64 (x54_1 + 1))) = some (r1, r2) := by first | (rw [hy136]; with_reducible exact H) | (have H2_ := (Option.bind_some _ _).symm.trans H; rw [hy136]; with_reducible exact H2_) | (have H2_ := (Option.bind_some _ _).symm.trans H; with_reducible exact H2_) | with_reducible exact H | (rw [hy136]; exact H) | exact H
                            have Ny136 := Aside0.mk hy136
                            clear hy136
                            have H' := Aside0.mk H
                            clear H
                            have p132 : 0 ≤ (x54_1 : Int) := of_decide_eq_true (by first | (with_reducible assumption) | assumption)
                            have q132 : x54_1 < (l0_3.length : Int) := of_decide_eq_true (by first | (with_reducible assumption) | assumption)
                            obtain ⟨ad132, A132_0, c132_0, e132, hx132_0, hl132_0, hi132_0⟩ := at_L1 HR0_3.out x54_1 p132 q132
                            cases e132
                            (try (replace hx132_0 := (HB.out.cell (World.block_lt_of_cell? w _ hx132_0)).trans hx132_0))
                            have HR132_0 := Aside0.mk hi132_0
                            have HC132_0 := Aside0.mk hl132_0
                            clear hi132_0 hl132_0
                            replace p132 := eq_true p132
                            replace q132 := eq_true q132
                            obtain ⟨Ao45, co45, eo45⟩ := Kd.R_slice HO_4.out
                            subst eo45
                            go_wp2_with (first | ((with_reducible refine gate_callee (f := 31) rfl ?_); refine goesL_ (some 62) rfl rfl Try.func31 (by kernel_rfl) rfl #[.slice Ao45 x4_1.length co45, .int .u64 320, .int .i64 2] rfl (by (try simp only [List.map_toArray, List.map_cons, List.map_nil]); first | done | rfl | (simp only [List.length_drop, List.length_take]; rfl)) ?_; (with_reducible refine (frame_number.calls k1 (fun k_ => some k_ = (.slice Ao45 x4_1.length co45 : Value).ownBlock) (.slice Ao45 x4_1.length co45) x4_1 320 2 t133 w _ ?side1 ?side2 A43.out).mono ?_); (case side1 => repeat (first | (with_reducible first | exact HB.out | apply below_alloc | apply pw_below_drewN | apply below_drew1 | refine below_set ?_ GE109.out) | exact HB.out)); (case side2 => exact Kd.R_tight rfl HO_4.out); rintro e w46 ⟨v134, rfl, ho0, hb, hkp⟩; refine ⟨_, rfl, ?_⟩; have n0_ := Aside0.mk (blk_kept (by (with_reducible repeat (first | refine blk_drewN ?_ _ | refine blk_drew ?_ | refine blk_alloc ?_ _)); exact BK109.out) hkp (fun hs_ => (fun e_ => (Kd.R_ne HO_4.out BK109.out (by decide)) e_) hs_)); have n1_ := Aside0.mk (Kd.R_mono (ok' := fun k_ => True) ho0 (fun k_ hk_ => trivial)); have n2_ := Aside0.mk (hb); clear BK109; clear HB; clear HO_4; have BK109 := n0_; have HO135 := n1_; have HB := n2_; clear n0_ n1_ n2_; (try clear hb); (try clear hkp); (try clear ho0)) | ((with_reducible refine gate_builtin (b := .append) (xs := #[.tmp 63, .tmp 64]) rfl ?_); at_builtin; refine Kd.R_append_rows (Kd.int .u8) (w0 := w) w.heap.size rfl (.tmp 63) (.tmp 64) 30 5 (.int .u8 0) 1 rfl Try.underlying30 info5 rfl (by decide) (by omega) v134 t133 (rd_L1 l0_3 x54_1) _ _ _ (fun _ => True) (fun _ => False) rfl rfl ?aO ?aR (fun _ _ h => h) (fun _ h => h.elim) ?aF ?aB ?aS ?aL ?_; (case aR => repeat (first | exact (Kd.C_below HR132_0.out HB.out) | (with_reducible refine Kd.C_alloc ?_ _) | (with_reducible refine Kd.C_drewN ?_ _) | (with_reducible refine Kd.C_drew ?_))); (case aB => exact (by repeat (first | (with_reducible first | exact HB.out | apply below_alloc | apply pw_below_drewN | apply below_drew1 | refine below_set ?_ GE109.out) | exact HB.out))); (case aF => exact (fun _ _ => trivial)); (case aO => exact (by (with_reducible repeat (first | apply Kd.R_alloc | apply Kd.R_drewN | apply Kd.R_drew)); exact HO135.out)); (case aS => exact (below_size (by repeat (first | (with_reducible first | exact HB.out | apply below_alloc | apply pw_below_drewN | apply below_drew1 | refine below_set ?_ GE109.out) | exact HB.out)))); (case aL => have := LMc44.out; omega); intro v137 w47 ho hb hg hat; rw [← Ny136.out] at ho; have n0_ := Aside0.mk (blk_grown (g := gb109) (o := .cells #[.int .i64 a0_0, .int .i64 a0_1, .int .i64 a0_2, .slice (some ad132) l0_3.length c0_3] 26 (0, 0)) (by (with_reducible repeat (first | refine blk_drewN ?_ _ | refine blk_drew ?_ | refine blk_alloc ?_ _)); exact BK109.out) hg (Kd.R_ne HO135.out BK109.out (by decide))); have n1_ := Aside0.mk (hb); have n2_ := Aside0.mk (ho); clear BK109; clear HB; clear HO135; have BK109 := n0_; have HB := n1_; have HO138 := n2_; clear n0_ n1_ n2_; clear ho hb hg hat))
                            go_roundg k1
                            case measure => have := HK1.out; omega
                            case rel => exact ⟨(y136), (wrap64 (x54_1 + 1)), (by first | rfl | (simp; done) | (simp [*]; done)), H', ⟨by have := HK1.out; omega⟩, ⟨by (with_reducible repeat (first | apply Kd.R_alloc | apply Kd.R_drewN | apply Kd.R_drew)); exact HO138.out⟩, ⟨by (with_reducible repeat (first | refine blk_drewN ?_ _ | refine blk_drew ?_ | refine blk_alloc ?_ _)); exact BK109.out⟩, ⟨by repeat (first | (with_reducible first | exact HB.out | apply below_alloc | apply pw_below_drewN | apply below_drew1 | refine below_set ?_ GE109.out) | exact HB.out)⟩⟩
                          · rw [if_neg c44] at H
                            exact absurd H (by simp)
                        · rw [if_neg c42] at H
                          have c42b0 : (((rd_L1 l0_3 x54_1).length : Int) == 320) = false := beq_eq_false_iff_ne.mpr c42
                          have c42b1 : (((rd_L1 l0_3 x54_1).length : Int) != 320) = true := bne_iff_ne.mpr c42
                          simp only [Option.some.injEq, Prod.mk.injEq] at H
                          obtain ⟨rfl, rfl⟩ := H
                          have p132 : 0 ≤ (x54_1 : Int) := of_decide_eq_true (by first | (with_reducible assumption) | assumption)
                          have q132 : x54_1 < (l0_3.length : Int) := of_decide_eq_true (by first | (with_reducible assumption) | assumption)
                          obtain ⟨ad132, A132_0, c132_0, e132, hx132_0, hl132_0, hi132_0⟩ := at_L1 HR0_3.out x54_1 p132 q132
                          cases e132
                          (try (replace hx132_0 := (HB.out.cell (World.block_lt_of_cell? w _ hx132_0)).trans hx132_0))
                          have HR132_0 := Aside0.mk hi132_0
                          have HC132_0 := Aside0.mk hl132_0
                          clear hi132_0 hl132_0
                          replace p132 := eq_true p132
                          replace q132 := eq_true q132
                          go_wp2
                          go_ret2
                          exact ⟨_, by first | rfl | (simp [errW_none, errW_some] <;> rfl) | (simp only [← hji9]; first | rfl | (simp [errW_none, errW_some] <;> rfl)) | (simp [*, errW_none, errW_some] <;> rfl), by first | exact Kd.R_nil _ _ _ _ _ | exact Kd.N_nil _ _ _ _ _ | exact Kd.V_nil _ _ _ _ _ | exact Kd.Q_nil _ _ _ _ _ | exact Kd.S_nil _ _ _ _ _, by repeat (first | (with_reducible first | exact HB.out | apply below_alloc | apply pw_below_drewN | apply below_drew1 | refine below_set ?_ GE109.out) | exact HB.out)⟩
                      · rw [if_neg c41] at H
                        exact absurd H (by simp)
                    · rw [if_neg c40] at H
                      exact absurd H (by simp)
                  · rw [if_neg c39] at H
                    have c39b0 : decide (x54_1 < (l0_3.length : Int)) = false := decide_eq_false c39
                    clear c39
                    replace H := Option.bind_eq_some_iff.mp H
                    obtain ⟨⟨t139, t140⟩, A480, H⟩ := H
                    replace H : ((frame_sum_foot.f t139 t140).bind fun t141 => ((frame_number.f k1 x4_1 (IntKind.u64.wrap (t141)) 4).bind fun t142 => (some (t142, 0)))) = some (r1, r2) := H
                    have A48 := Aside0.mk A480
                    clear A480
                    replace H := Option.bind_eq_some_iff.mp H
                    obtain ⟨t141, A490, H⟩ := H
                    replace H : ((frame_number.f k1 x4_1 (IntKind.u64.wrap (t141)) 4).bind fun t142 => (some (t142, 0))) = some (r1, r2) := H
                    have A49 := Aside0.mk A490
                    clear A490
                    replace H := Option.bind_eq_some_iff.mp H
                    obtain ⟨t142, A500, H⟩ := H
                    replace H : (some (t142, 0)) = some (r1, r2) := H
                    have A50 := Aside0.mk A500
                    clear A500
                    simp only [Option.some.injEq, Prod.mk.injEq] at H
                    obtain ⟨rfl, rfl⟩ := H
                    obtain ⟨Ao51, co51, eo51⟩ := Kd.R_slice HO_4.out
                    subst eo51
                    go_wp2_with (first | ((with_reducible refine gate_callee (f := 32) rfl ?_); refine goesL_ (some 70) rfl rfl Try.func32 (by kernel_rfl) rfl #[.agg #[.int .u32 1, .int .u32 0], .slice Ao51 x4_1.length co51] rfl (by (try simp only [List.map_toArray, List.map_cons, List.map_nil]); first | done | rfl | (simp only [List.length_drop, List.length_take]; rfl)) ?_; (with_reducible refine (frame_sum_add.calls k1 1 0 _ _ x4_1 t139 t140 _ ?side1 ?side2 A48.out).mono ?_); (case side1 => repeat (first | exact (Kd.R_reads' HO_4.out).2.2 | (with_reducible refine Kd.C_alloc ?_ _) | (with_reducible refine Kd.C_drewN ?_ _) | (with_reducible refine Kd.C_drew ?_))); (case side2 => exact (Kd.R_reads' HO_4.out).2.1); rintro e w52 ⟨rfl, hb⟩; refine ⟨_, rfl, ?_⟩; have n0_ := Aside0.mk (Kd.R_below (by (with_reducible repeat (first | apply Kd.R_alloc | apply Kd.R_drewN | apply Kd.R_drew)); exact HO_4.out) hb); have n1_ := Aside0.mk (blk_below (g := gb109) (o := .cells #[.int .i64 a0_0, .int .i64 a0_1, .int .i64 a0_2, .slice A0_3 l0_3.length c0_3] 26 (0, 0)) (by (with_reducible repeat (first | refine blk_drewN ?_ _ | refine blk_drew ?_ | refine blk_alloc ?_ _)); exact BK109.out) hb); have n2_ := Aside0.mk (below_step (by repeat (first | (with_reducible first | exact HB.out | apply below_alloc | apply pw_below_drewN | apply below_drew1 | refine below_set ?_ GE109.out) | exact HB.out)) hb); clear HO_4; clear BK109; clear HB; have HO_4 := n0_; have BK109 := n1_; have HB := n2_; clear n0_ n1_ n2_; (try clear hb); (try clear hb2); (try clear hk); (try clear hi)) | ((with_reducible refine gate_callee (f := 33) rfl ?_); refine goesL_ (some 71) rfl rfl Try.func33 (by kernel_rfl) rfl #[.agg #[.int .u32 t139, .int .u32 t140]] rfl (by (try simp only [List.map_toArray, List.map_cons, List.map_nil]); first | done | rfl | (simp only [List.length_drop, List.length_take]; rfl)) ?_; (with_reducible refine (frame_sum_foot.calls t139 t140 t141 _ A49.out).mono ?_); rintro e w53 ⟨rfl, hb⟩; refine ⟨_, rfl, ?_⟩; have n0_ := Aside0.mk (Kd.R_below (by (with_reducible repeat (first | apply Kd.R_alloc | apply Kd.R_drewN | apply Kd.R_drew)); exact HO_4.out) hb); have n1_ := Aside0.mk (blk_below (g := gb109) (o := .cells #[.int .i64 a0_0, .int .i64 a0_1, .int .i64 a0_2, .slice A0_3 l0_3.length c0_3] 26 (0, 0)) (by (with_reducible repeat (first | refine blk_drewN ?_ _ | refine blk_drew ?_ | refine blk_alloc ?_ _)); exact BK109.out) hb); have n2_ := Aside0.mk (below_step (by repeat (first | (with_reducible first | exact HB.out | apply below_alloc | apply pw_below_drewN | apply below_drew1 | refine below_set ?_ GE109.out) | exact HB.out)) hb); clear HO_4; clear BK109; clear HB; have HO_4 := n0_; have BK109 := n1_; have HB := n2_; clear n0_ n1_ n2_; (try clear hb); (try clear hb2); (try clear hk); (try clear hi)) | ((with_reducible refine gate_callee (f := 31) rfl ?_); refine goesL_ (some 73) rfl rfl Try.func31 (by kernel_rfl) rfl #[.slice Ao51 x4_1.length co51, .int .u64 (IntKind.u64.wrap (t141)), .int .i64 4] rfl (by (try simp only [List.map_toArray, List.map_cons, List.map_nil]); first | done | rfl | (simp only [List.length_drop, List.length_take]; rfl)) ?_; (with_reducible refine (frame_number.calls k1 (fun k_ => some k_ = (.slice Ao51 x4_1.length co51 : Value).ownBlock) (.slice Ao51 x4_1.length co51) x4_1 (IntKind.u64.wrap (t141)) 4 t142 w _ ?side1 ?side2 A50.out).mono ?_); (case side1 => repeat (first | (with_reducible first | exact HB.out | apply below_alloc | apply pw_below_drewN | apply below_drew1 | refine below_set ?_ GE109.out) | exact HB.out)); (case side2 => exact Kd.R_tight rfl HO_4.out); rintro e w54 ⟨v143, rfl, ho0, hb, hkp⟩; refine ⟨_, rfl, ?_⟩; have n0_ := Aside0.mk (blk_kept (by (with_reducible repeat (first | refine blk_drewN ?_ _ | refine blk_drew ?_ | refine blk_alloc ?_ _)); exact BK109.out) hkp (fun hs_ => (fun e_ => (Kd.R_ne HO_4.out BK109.out (by decide)) e_) hs_)); have n1_ := Aside0.mk (Kd.R_mono (ok' := fun k_ => True) ho0 (fun k_ hk_ => trivial)); have n2_ := Aside0.mk (hb); clear BK109; clear HB; clear HO_4; have BK109 := n0_; have HO144 := n1_; have HB := n2_; clear n0_ n1_ n2_; (try clear hb); (try clear hkp); (try clear ho0)))
                    go_ret2
                    exact ⟨_, by first | rfl | (simp [errW_none, errW_some] <;> rfl) | (simp only [← hji9]; first | rfl | (simp [errW_none, errW_some] <;> rfl)) | (simp [*, errW_none, errW_some] <;> rfl), by (with_reducible repeat (first | apply Kd.R_alloc | apply Kd.R_drewN | apply Kd.R_drew)); exact HO144.out, by repeat (first | (with_reducible first | exact HB.out | apply below_alloc | apply pw_below_drewN | apply below_drew1 | refine below_set ?_ GE109.out) | exact HB.out)⟩
            · rw [if_neg c13] at H
              exact absurd H (by simp)
          · rw [if_neg c12] at H
            exact absurd H (by simp)
        · rw [if_neg c11] at H
          exact absurd H (by simp)
      · rw [if_neg c10] at H
        exact absurd H (by simp)
  · replace c3 := Bool.eq_false_iff.mpr c3
    subst c3
    have H1 : (some (([] : List Int), 62)) = some (r1, r2) := by rw [if_neg (show ¬ (false = true) by decide)] at H; exact H
    clear H
    have H := H1
    clear H1
    simp only [Option.some.injEq, Prod.mk.injEq] at H
    obtain ⟨rfl, rfl⟩ := H
    go_enter Try.func14, Try.ntmps14
    go_wp2_with (first | ((with_reducible refine gate_dst (N := 1) rfl ?_); refine box_event ?hg (N := 1) ?hd (cs := #[.int .i64 a0_0, .int .i64 a0_1, .int .i64 a0_2, .slice A0_3 l0_3.length c0_3]) (t := 26) ?hr ?_; (case hd => rfl); (case hg => rfl); (case hr => first | (go_simp; done) | (go_simp; rfl)); intro gb109 hg w55 hbox hb; have n0_ := Aside0.mk (below_step (by repeat (first | (with_reducible first | exact HB.out | apply below_alloc | apply pw_below_drewN | apply below_drew1) | exact HB.out)) hb); have n1_ := Aside0.mk (hbox); have n2_ := Aside0.mk ((by rw [hg]; exact (below_size (by repeat (first | (with_reducible first | exact HB.out | apply below_alloc | apply pw_below_drewN | apply below_drew1) | exact HB.out))) : w.heap.size ≤ gb109)); have n3_ := Aside0.mk ((by rw [hg]; exact (below_size (by repeat (first | (with_reducible first | exact HB.out | apply below_alloc | apply pw_below_drewN | apply below_drew1) | exact HB.out))) : w.heap.size ≤ gb109)); clear HB; have HB := n0_; have BK109 := n1_; have GW109 := n2_; have GE109 := n3_; clear n0_ n1_ n2_ n3_; clear hb hbox hg; have hcz56_0 : w55.cell? ⟨gb109, 0, none⟩ = some (.int .i64 a0_0) := (blk_cell BK109.out 0).trans rfl; have hcz56_1 : w55.cell? ⟨gb109, 1, none⟩ = some (.int .i64 a0_1) := (blk_cell BK109.out 1).trans rfl; have hcz56_2 : w55.cell? ⟨gb109, 2, none⟩ = some (.int .i64 a0_2) := (blk_cell BK109.out 2).trans rfl; have hcz56_3 : w55.cell? ⟨gb109, 3, none⟩ = some (.slice A0_3 l0_3.length c0_3) := (blk_cell BK109.out 3).trans rfl; have hfz56_0 := blk_frozen BK109.out 0; have hfz56_1 := blk_frozen BK109.out 1; have hfz56_2 := blk_frozen BK109.out 2; have hfz56_3 := blk_frozen BK109.out 3) | ((with_reducible refine gate_callee (f := 30) rfl ?_); refine goesL_ (some 10) rfl rfl Try.func30 (by kernel_rfl) rfl #[.agg #[.int .i64 a0_0, .int .i64 a0_1, .int .i64 a0_2]] rfl (by (try simp only [List.map_toArray, List.map_cons, List.map_nil]); first | done | rfl | (simp only [List.length_drop, List.length_take]; rfl)) ?_; (with_reducible refine (frame_fits.calls a0_0 a0_1 a0_2 false _ A2.out).mono ?_); rintro e w57 ⟨rfl, hb⟩; refine ⟨_, rfl, ?_⟩; have n0_ := Aside0.mk (blk_below (g := gb109) (o := .cells #[.int .i64 a0_0, .int .i64 a0_1, .int .i64 a0_2, .slice A0_3 l0_3.length c0_3] 26 (0, 0)) (by (with_reducible repeat (first | refine blk_drewN ?_ _ | refine blk_drew ?_ | refine blk_alloc ?_ _)); exact BK109.out) hb); have n1_ := Aside0.mk (below_step (by repeat (first | (with_reducible first | exact HB.out | apply below_alloc | apply pw_below_drewN | apply below_drew1 | refine below_set ?_ GE109.out) | exact HB.out)) hb); clear BK109; clear HB; have BK109 := n0_; have HB := n1_; clear n0_ n1_; (try clear hb); (try clear hb2); (try clear hk); (try clear hi)))
    go_ret2
    exact ⟨_, by first | rfl | (simp [errW_none, errW_some] <;> rfl) | (simp [*, errW_none, errW_some] <;> rfl), by first | exact Kd.R_nil _ _ _ _ _ | exact Kd.N_nil _ _ _ _ _ | exact Kd.V_nil _ _ _ _ _ | exact Kd.Q_nil _ _ _ _ _ | exact Kd.S_nil _ _ _ _ _, by repeat (first | (with_reducible first | exact HB.out | apply below_alloc | apply pw_below_drewN | apply below_drew1 | refine below_set ?_ GE109.out) | exact HB.out)⟩
def churnref06_number.l0 : Nat → Int → List Int → Int → Option (List Int)
  | 0, _, _, _ => none
  | k + 1, x0, x5, x6 => if x6 ≥ 0 then (if 0 ≤ (wrap64 (8 * x6)) then (if x5.length < 140737488355328 then (churnref06_number.l0 k x0 (x5 ++ [(shr .i64 x0 (wrap64 (8 * x6))) % 256]) (wrap64 (x6 - 1))) else (none)) else (none)) else (some x5)
def churnref06_number.f (k : Nat) (a0 : Int) (a1 : Int) : Option (List Int) := churnref06_number.l0 k a0 ([] : List Int) (wrap64 (a1 - 1))
set_option maxHeartbeats 8000000 in
set_option maxRecDepth 100000 in
theorem churnref06_number.calls (k : Nat) (a0 : Int) (a1 : Int) (r : List Int) (w : World) (h : churnref06_number.f k a0 a1 = some r) :
    Calls Try.prog 28 #[.int .i64 a0, .int .i64 a1] w fun e w' => ∃ v0_ : Value, e = .returned (v0_) ∧ Kd.R (Kd.int .u8) 5 w' w.heap.size (fun _ => True) v0_ r ∧ Below w.heap.size w w' := by
  have HB := Aside0.mk (Below.refl w.heap.size w)
  have H : (churnref06_number.l0 k a0 ([] : List Int) (wrap64 (a1 - 1))) = some r := h
  clear h
  have H' := Aside0.mk H
  clear H
  go_enter Try.func28, Try.ntmps28
  go_wp2
  go_loopg [5, 6] k (fun kq v5 v6 w' => ∃ (x5_1 : List Int) (x6_1 : Int), v6 = .int .i64 x6_1 ∧ Aside0 (churnref06_number.l0 kq a0 x5_1 x6_1 = some r) ∧ Aside0 (kq ≤ k) ∧ Aside0 (Kd.R (Kd.int .u8) 5 w' w.heap.size (fun _ => True) v5 x5_1) ∧ Aside0 (Below w.heap.size w w'))
  case atStart => exact ⟨(([] : List Int)), (wrap64 (a1 - 1)), (by first | rfl | (simp; done) | (simp [*]; done)), H', ⟨Nat.le_refl _⟩, ⟨by first | exact Kd.R_nil _ _ _ _ _ | exact Kd.N_nil _ _ _ _ _ | exact Kd.V_nil _ _ _ _ _ | exact Kd.Q_nil _ _ _ _ _ | exact Kd.S_nil _ _ _ _ _⟩, ⟨by repeat (first | (with_reducible first | exact HB.out | apply below_alloc | apply pw_below_drewN | apply below_drew1) | exact HB.out)⟩⟩
  case round =>
    clear H'
    try clear c2
    try clear p2
    obtain ⟨x5_1, x6_1, rfl, HA, HK1, HO_5, HB⟩ := hrel
    cases gk with
    | zero => exact absurd HA.out (by simp [churnref06_number.l0])
    | succ k1 =>
      have H := HA.out
      clear HA
      simp only [churnref06_number.l0] at H
      by_cases c3 : x6_1 ≥ 0
      · rw [if_pos c3] at H
        have c3b0 : decide (0 ≤ x6_1) = true := decide_eq_true c3
        clear c3
        obtain ⟨ji4, hji4⟩ : ∃ j_ : Int, (wrap64 (8 * x6_1)) = j_ := ⟨_, rfl⟩
        replace H : (if 0 ≤ (ji4) then (if x5_1.length < 140737488355328 then (churnref06_number.l0 k1 a0 (x5_1 ++ [(shr .i64 a0 (ji4)) % 256]) (wrap64 (x6_1 - 1))) else (none)) else (none)) = some r := by first | (rw [hji4] at H; exact H) | (simp only [hji4] at H ⊢; exact H)
        have hji4w : (IntKind.i64.wrap (8 * x6_1)) = ji4 := (i64_w _).trans hji4
        by_cases c5 : 0 ≤ (ji4)
        · rw [if_pos c5] at H
          have c5b0 := eq_true c5
          have c5b1 : decide (0 ≤ (ji4)) = true := decide_eq_true c5
          clear c5
          obtain ⟨ji6, hji6⟩ : ∃ j_ : Int, (shr .i64 a0 (ji4)) = j_ := ⟨_, rfl⟩
          replace H : (if x5_1.length < 140737488355328 then (churnref06_number.l0 k1 a0 (x5_1 ++ [(ji6) % 256]) (wrap64 (x6_1 - 1))) else (none)) = some r := by first | (rw [hji6] at H; exact H) | (simp only [hji6] at H ⊢; exact H)
          have hji6_ : (a0 / 2 ^ min (ji4).toNat 64) = ji6 := hji6
          have hji6z : (ji4) ≤ 64 → (a0 / 2 ^ (ji4).toNat) = ji6 := shr_small hji6
          by_cases c7 : x5_1.length < 140737488355328
          · rw [if_pos c7] at H
            have LMc7 := Aside0.mk c7
            clear c7
            obtain ⟨y182, hy182⟩ : ∃ y_ : List Int, y_ = (x5_1 ++ [(ji6) % 256]) := ⟨_, rfl⟩
            replace H : (churnref06_number.l0 k1 a0 y182 (wrap64 (x6_1 - 1))) = some r := by first | (rw [hy182]; with_reducible exact H) | (have H2_ := (Option.bind_some _ _).symm.trans H; rw [hy182]; with_reducible exact H2_) | (have H2_ := (Option.bind_some _ _).symm.trans H; with_reducible exact H2_) | with_reducible exact H | (rw [hy182]; exact H) | exact H
            have Ny182 := Aside0.mk hy182
            clear hy182
            have H' := Aside0.mk H
            clear H
            go_wp2_with (first | ((with_reducible refine gate_builtin (b := .append) (xs := #[.tmp 13, .tmp 19]) rfl ?_); at_builtin; refine Kd.R_append (Kd.int .u8) (w0 := w) w.heap.size rfl (.tmp 13) (.tmp 19) 30 5 (.int .u8 0) 1 rfl Try.underlying30 info5 rfl (by decide) (by omega) u5 x5_1 ((ji6) % 256) [.int .u8 ((ji6) % 256)] (fun _ => True) (fun _ => False) rfl rfl ?aP (fun _ hk => hk.elim) ?aF ?aO ?aB ?aS ?aL ?_; (case aP => exact rfl); (case aB => exact (by repeat (first | (with_reducible first | exact HB.out | apply below_alloc | apply pw_below_drewN | apply below_drew1) | exact HB.out))); (case aF => exact (fun _ _ => trivial)); (case aO => exact (by (with_reducible repeat (first | apply Kd.R_alloc | apply Kd.R_drewN | apply Kd.R_drew)); exact HO_5.out)); (case aS => exact (below_size (by repeat (first | (with_reducible first | exact HB.out | apply below_alloc | apply pw_below_drewN | apply below_drew1) | exact HB.out)))); (case aL => have := LMc7.out; omega); intro v183 w8 ho hb hg hat; rw [← Ny182.out] at ho; have n0_ := Aside0.mk (hb); have n1_ := Aside0.mk (ho); clear HB; clear HO_5; have HB := n0_; have HO184 := n1_; clear n0_ n1_; clear ho hb hg hat))
            go_roundg k1
            case measure => have := HK1.out; omega
            case rel => exact ⟨(y182), (wrap64 (x6_1 - 1)), (by first | rfl | (simp; done) | (simp [*]; done)), H', ⟨by have := HK1.out; omega⟩, ⟨by (with_reducible repeat (first | apply Kd.R_alloc | apply Kd.R_drewN | apply Kd.R_drew)); exact HO184.out⟩, ⟨by repeat (first | (with_reducible first | exact HB.out | apply below_alloc | apply pw_below_drewN | apply below_drew1) | exact HB.out)⟩⟩
          · rw [if_neg c7] at H
            exact absurd H (by simp)
        · rw [if_neg c5] at H
          exact absurd H (by simp)
      · rw [if_neg c3] at H
        have c3b0 : decide (0 ≤ x6_1) = false := decide_eq_false c3
        clear c3
        obtain rfl := Option.some.inj H
        simp only [Option.some.injEq, Prod.mk.injEq] at H
        obtain ⟨rfl⟩ := H
        go_wp2
        go_ret
        exact ⟨_, by first | rfl | (simp [errW_none, errW_some] <;> rfl) | (simp [*, errW_none, errW_some] <;> rfl), by (with_reducible repeat (first | apply Kd.R_alloc | apply Kd.R_drewN | apply Kd.R_drew)); exact HO_5.out, by repeat (first | (with_reducible first | exact HB.out | apply below_alloc | apply pw_below_drewN | apply below_drew1) | exact HB.out)⟩
def churnref06_foot.l0 : Nat → List Int → Int → Int → Int → Option (List Int)
  | 0, _, _, _, _ => none
  | k + 1, x0, x3, x4, x5 => if x5 < (x0.length : Int) then (if 0 ≤ x5 then (churnref06_foot.l0 k x0 (Int.tmod (wrap64 (x3 + (wrap64 (rd x0 x5)))) 65521) (Int.tmod (wrap64 (x4 + (Int.tmod (wrap64 (x3 + (wrap64 (rd x0 x5)))) 65521))) 65521) (wrap64 (x5 + 1))) else (none)) else ((churnref06_number.f k (wrap64 ((wrap64 (x4 * 65536)) + x3)) 4).bind fun t186 => (some t186))
def churnref06_foot.f (k : Nat) (l0 : List Int) : Option (List Int) := churnref06_foot.l0 k l0 1 0 0
set_option maxHeartbeats 8000000 in
set_option maxRecDepth 100000 in
theorem churnref06_foot.calls (k : Nat) (A0 : Option Addr) (c0 : Nat) (l0 : List Int) (r : List Int) (w : World) (hr0 : Kd.C (Kd.int .u8) w A0 l0.length l0) (hc0 : l0.length ≤ c0) (h : churnref06_foot.f k l0 = some r) :
    Calls Try.prog 29 #[.slice A0 l0.length c0] w fun e w' => ∃ v0_ : Value, e = .returned (v0_) ∧ Kd.R (Kd.int .u8) 5 w' w.heap.size (fun _ => True) v0_ r ∧ Below w.heap.size w w' := by
  have HR0 := Aside0.mk hr0
  have HC0 := Aside0.mk hc0
  clear hr0 hc0
  have HB := Aside0.mk (Below.refl w.heap.size w)
  have H : (churnref06_foot.l0 k l0 1 0 0) = some r := h
  clear h
  have H' := Aside0.mk H
  clear H
  go_enter Try.func29, Try.ntmps29
  go_wp2
  go_loopg [3, 4, 5] k (fun kq v3 v4 v5 w' => ∃ (x3_1 : Int) (x4_1 : Int) (x5_1 : Int), v3 = .int .i64 x3_1 ∧ v4 = .int .i64 x4_1 ∧ v5 = .int .i64 x5_1 ∧ Aside0 (churnref06_foot.l0 kq l0 x3_1 x4_1 x5_1 = some r) ∧ Aside0 (kq ≤ k) ∧ Aside0 (Below w.heap.size w w'))
  case atStart => exact ⟨(1), (0), (0), (by first | rfl | (simp; done) | (simp [*]; done)), (by first | rfl | (simp; done) | (simp [*]; done)), (by first | rfl | (simp; done) | (simp [*]; done)), H', ⟨Nat.le_refl _⟩, ⟨by repeat (first | (with_reducible first | exact HB.out | apply below_alloc | apply pw_below_drewN | apply below_drew1) | exact HB.out)⟩⟩
  case round =>
    clear H'
    obtain ⟨x3_1, x4_1, x5_1, rfl, rfl, rfl, HA, HK1, HB⟩ := hrel
    cases gk with
    | zero => exact absurd HA.out (by simp [churnref06_foot.l0])
    | succ k1 =>
      have H := HA.out
      clear HA
      simp only [churnref06_foot.l0] at H
      by_cases c2 : x5_1 < (l0.length : Int)
      · rw [if_pos c2] at H
        have c2b0 : decide (x5_1 < (l0.length : Int)) = true := decide_eq_true c2
        clear c2
        by_cases c3 : 0 ≤ x5_1
        · rw [if_pos c3] at H
          have c3b0 : decide (0 ≤ x5_1) = true := decide_eq_true c3
          clear c3
          have H' := Aside0.mk H
          clear H
          have p185 : 0 ≤ (x5_1 : Int) := of_decide_eq_true (by first | (with_reducible assumption) | assumption)
          have q185 : x5_1 < (l0.length : Int) := of_decide_eq_true (by first | (with_reducible assumption) | assumption)
          obtain ⟨ad185, e185, hx185_0⟩ := Kd.at_int HR0.out x5_1 p185 q185
          cases e185
          (try (replace hx185_0 := (HB.out.cell (World.block_lt_of_cell? w _ hx185_0)).trans hx185_0))
          replace p185 := eq_true p185
          replace q185 := eq_true q185
          go_wp2
          go_roundg k1
          case measure => have := HK1.out; omega
          case rel => exact ⟨(Int.tmod (wrap64 (x3_1 + (wrap64 (rd l0 x5_1)))) 65521), (Int.tmod (wrap64 (x4_1 + (Int.tmod (wrap64 (x3_1 + (wrap64 (rd l0 x5_1)))) 65521))) 65521), (wrap64 (x5_1 + 1)), (by first | rfl | (simp; done) | (simp [*]; done)), (by first | rfl | (simp; done) | (simp [*]; done)), (by first | rfl | (simp; done) | (simp [*]; done)), H', ⟨by have := HK1.out; omega⟩, ⟨by repeat (first | (with_reducible first | exact HB.out | apply below_alloc | apply pw_below_drewN | apply below_drew1) | exact HB.out)⟩⟩
        · rw [if_neg c3] at H
          exact absurd H (by simp)
      · rw [if_neg c2] at H
        have c2b0 : decide (x5_1 < (l0.length : Int)) = false := decide_eq_false c2
        clear c2
        replace H := Option.bind_eq_some_iff.mp H
        obtain ⟨t186, A40, H⟩ := H
        replace H : (some t186) = some r := H
        have A4 := Aside0.mk A40
        clear A40
        obtain rfl := Option.some.inj H
        simp only [Option.some.injEq, Prod.mk.injEq] at H
        obtain ⟨rfl⟩ := H
        go_wp2_with (first | ((with_reducible refine gate_callee (f := 28) rfl ?_); refine goesL_ (some 28) rfl rfl Try.func28 (by kernel_rfl) rfl #[.int .i64 (wrap64 ((wrap64 (x4_1 * 65536)) + x3_1)), .int .i64 4] rfl (by (try simp only [List.map_toArray, List.map_cons, List.map_nil]); first | done | rfl | (simp only [List.length_drop, List.length_take]; rfl)) ?_; (with_reducible refine (churnref06_number.calls k1 (wrap64 ((wrap64 (x4_1 * 65536)) + x3_1)) 4 t186 _ A4.out).mono ?_); rintro e w5 ⟨v187, rfl, ho0, hb⟩; refine ⟨_, rfl, ?_⟩; have n0_ := Aside0.mk (Kd.R_lower ho0 (below_size (by repeat (first | (with_reducible first | exact HB.out | apply below_alloc | apply pw_below_drewN | apply below_drew1) | exact HB.out)))); have n1_ := Aside0.mk (below_step (by repeat (first | (with_reducible first | exact HB.out | apply below_alloc | apply pw_below_drewN | apply below_drew1) | exact HB.out)) hb); clear HB; have HO188 := n0_; have HB := n1_; clear n0_ n1_; (try clear hb); (try clear hb2); (try clear hk); (try clear hi); (try clear ho0)))
        go_ret
        exact ⟨_, by first | rfl | (simp [errW_none, errW_some] <;> rfl) | (simp [*, errW_none, errW_some] <;> rfl), by (with_reducible repeat (first | apply Kd.R_alloc | apply Kd.R_drewN | apply Kd.R_drew)); exact HO188.out, by repeat (first | (with_reducible first | exact HB.out | apply below_alloc | apply pw_below_drewN | apply below_drew1) | exact HB.out)⟩
end Go.Proofs.Ythkcadmjfkcbgaa.Q
end
section
set_option linter.unusedVariables false
set_option linter.unusedSimpArgs false
namespace Go.Proofs.Ythkcadmjfkcbgaa.Q
open Go.RowKit Go.Proofs.YthkcadmjfkcbgaaW.PrintWords Go.Proofs.YthkcadmjfkcbgaaW.PrintLast Go.Proofs.YthkcadmjfkcbgaaW.PrintMore Go.Proofs.Ythkcadmjfkcbgaa.Pl
def be (v : Int) : Nat → List Int
  | 0 => []
  | n + 1 => (v / 256 ^ n) % 256 :: be v n
theorem be_len (v : Int) : ∀ n, (be v n).length = n
  | 0 => rfl
  | n + 1 => by simp [be, be_len v n]
theorem be_bys (v : Int) : ∀ n, Bys (be v n)
  | 0 => fun x hx => by simp [be] at hx
  | n + 1 => fun x hx => by
    simp only [be, List.mem_cons] at hx
    rcases hx with rfl | hx
    · omega
    · exact be_bys v n x hx
theorem shr_pow (v : Int) (n : Nat) (h : n ≤ 7) : shr .u64 v (8 * (n : Int)) = v / 256 ^ n ∧ shr .i64 v (8 * (n : Int)) = v / 256 ^ n := by
  rcases (by omega : n = 0 ∨ n = 1 ∨ n = 2 ∨ n = 3 ∨ n = 4 ∨ n = 5 ∨ n = 6 ∨ n = 7) with rfl | rfl | rfl | rfl | rfl | rfl | rfl | rfl <;> exact ⟨rfl, rfl⟩
theorem number_l0 (v : Int) : ∀ (n k : Nat) (p : List Int), n ≤ 8 → n < k → p.length + n ≤ 140737488355320 → frame_number.l0 k p v ((n : Int) - 1) = some (p ++ be v n)
  | 0, k, p, _, hk, _ => by
    obtain ⟨k, rfl⟩ : ∃ m, k = m + 1 := ⟨k - 1, by omega⟩
    simp only [frame_number.l0]
    rw [if_neg (by omega)]
    simp [be]
  | n + 1, k, p, hn, hk, hl => by
    obtain ⟨k, rfl⟩ : ∃ m, k = m + 1 := ⟨k - 1, by omega⟩
    have e : ((n + 1 : Nat) : Int) - 1 = (n : Int) := by omega
    have w8 : wrap64 (8 * (n : Int)) = 8 * (n : Int) := w64 (by omega) (by omega)
    simp only [frame_number.l0]
    rw [e, if_pos (by omega), w8, if_pos (by omega), if_pos (by omega), (shr_pow v n (by omega)).1, show wrap64 ((n : Int) - 1) = (n : Int) - 1 from w64 (by omega) (by omega), number_l0 v n k _ (by omega) (by omega) (by simp; omega)]
    simp [be]
theorem number_ev (p : List Int) (v : Int) (n : Nat) (h : n ≤ 8) (hl : p.length ≤ 140737488355000) : Ev (fun k => frame_number.f k p v (n : Int)) (p ++ be v n) :=
  ⟨n + 1, fun k hk => by unfold frame_number.f; rw [show wrap64 ((n : Int) - 1) = (n : Int) - 1 from w64 (by omega) (by omega)]; exact number_l0 v n k p h (by omega) (by omega)⟩
theorem rnumber_l0 (v : Int) : ∀ (n k : Nat) (p : List Int), n ≤ 8 → n < k → p.length + n ≤ 140737488355320 → churnref06_number.l0 k v p ((n : Int) - 1) = some (p ++ be v n)
  | 0, k, p, _, hk, _ => by
    obtain ⟨k, rfl⟩ : ∃ m, k = m + 1 := ⟨k - 1, by omega⟩
    simp only [churnref06_number.l0]
    rw [if_neg (by omega)]
    simp [be]
  | n + 1, k, p, hn, hk, hl => by
    obtain ⟨k, rfl⟩ : ∃ m, k = m + 1 := ⟨k - 1, by omega⟩
    have e : ((n + 1 : Nat) : Int) - 1 = (n : Int) := by omega
    have w8 : wrap64 (8 * (n : Int)) = 8 * (n : Int) := w64 (by omega) (by omega)
    simp only [churnref06_number.l0]
    rw [e, if_pos (by omega), w8, if_pos (by omega), if_pos (by omega), (shr_pow v n (by omega)).2, show wrap64 ((n : Int) - 1) = (n : Int) - 1 from w64 (by omega) (by omega), rnumber_l0 v n k _ (by omega) (by omega) (by simp; omega)]
    simp [be]
theorem rnumber_ev (v : Int) (n : Nat) (h : n ≤ 8) : Ev (fun k => churnref06_number.f k v (n : Int)) (be v n) :=
  ⟨n + 1, fun k hk => by unfold churnref06_number.f; rw [show wrap64 ((n : Int) - 1) = (n : Int) - 1 from w64 (by omega) (by omega)]; simpa using rnumber_l0 v n k [] h (by omega) (by simp; omega)⟩
def footV (p : List Int) : Int := (sumL 1 0 p).2 * 65536 + (sumL 1 0 p).1
theorem footV_range (p : List Int) : 0 ≤ footV p ∧ footV p < 4294967296 := by
  obtain ⟨a, b, c, d⟩ := sumL_range p 1 0 (by omega) (by omega) (by omega) (by omega)
  unfold footV
  omega
theorem sum_ev (p : List Int) (hp : Bys p) (hl : p.length ≤ 140737488355000) : Ev (fun k => frame_sum_add.f k 1 0 p) ((sumL 1 0 p).1, (sumL 1 0 p).2) :=
  ⟨p.length + 1, fun k hk => sum_eq p (by omega) hp 1 0 (by omega) (by omega) (by omega) (by omega) k (by omega)⟩
theorem tmod_nn {x : Int} (h : 0 ≤ x) : Int.tmod x 65521 = x % 65521 := Int.tmod_eq_emod_of_nonneg h
theorem rfoot_l0 (p : List Int) (hp : Bys p) (hl : p.length ≤ 140737488355000) : ∀ (d i : Nat) (a b : Int), i + d = p.length → 0 ≤ a → a < 65521 → 0 ≤ b → b < 65521 →
    Ev (fun k => churnref06_foot.l0 k p a b (i : Int)) (be ((sumL a b (p.drop i)).2 * 65536 + (sumL a b (p.drop i)).1) 4)
  | 0, i, a, b, hi, a0, a1, b0, b1 => by
    refine Ev.step (f := fun k => (churnref06_number.f k (wrap64 ((wrap64 (b * 65536)) + a)) 4).bind fun t186 => some t186) (fun k => by simp only [churnref06_foot.l0]; rw [if_neg (by omega)]) ?_
    rw [List.drop_of_length_le (by omega), show wrap64 (b * 65536) = b * 65536 from w64 (by omega) (by omega), show wrap64 (b * 65536 + a) = b * 65536 + a from w64 (by omega) (by omega)]
    exact ev_bind (rnumber_ev _ 4 (by omega)) (Ev.now _)
  | d + 1, i, a, b, hi, a0, a1, b0, b1 => by
    have hr := hp.rd (i : Int)
    have e1 : Int.tmod (wrap64 (a + (wrap64 (rd p i)))) 65521 = (a + rd p i) % 65521 := by
      rw [show wrap64 (rd p (i : Int)) = rd p i from w64 (by omega) (by omega), show wrap64 (a + rd p (i : Int)) = a + rd p i from w64 (by omega) (by omega), tmod_nn (by omega)]
    have e2 : Int.tmod (wrap64 (b + (a + rd p i) % 65521)) 65521 = (b + (a + rd p i) % 65521) % 65521 := by
      rw [show wrap64 (b + (a + rd p (i : Int)) % 65521) = b + (a + rd p i) % 65521 from w64 (by omega) (by omega), tmod_nn (by omega)]
    refine Ev.step (f := fun k => churnref06_foot.l0 k p ((a + rd p i) % 65521) ((b + (a + rd p i) % 65521) % 65521) ((i + 1 : Nat) : Int)) (fun k => ?_) ?_
    · simp only [churnref06_foot.l0]
      rw [if_pos (by omega), if_pos (by omega), e1, e2, show wrap64 ((i : Int) + 1) = ((i + 1 : Nat) : Int) from by rw [w64 (by omega) (by omega)]; rfl]
    · have := rfoot_l0 p hp hl d (i + 1) _ _ (by omega) (show 0 ≤ (a + rd p i) % 65521 by omega) (by omega) (show 0 ≤ (b + (a + rd p i) % 65521) % 65521 by omega) (by omega)
      rw [drop_rd p i (by omega)]
      exact this
theorem rfoot_ev (p : List Int) (hp : Bys p) (hl : p.length ≤ 140737488355000) : Ev (fun k => churnref06_foot.f k p) (be (footV p) 4) := by
  unfold churnref06_foot.f
  have := rfoot_l0 p hp hl p.length 0 1 0 (by omega) (by omega) (by omega) (by omega) (by omega)
  simpa [footV] using this
def encC (cs : List (List Int)) : List Int := cs.flatMap fun c => be 320 2 ++ c
def packL (p : List Int) (cs : List (List Int)) : List Int × Int :=
  if (cs.all fun c => decide (c.length = 320)) = true then ((p ++ encC cs) ++ be (footV (p ++ encC cs)) 4, 0) else ([], 64)
theorem encC_cons (c : List Int) (cs : List (List Int)) : encC (c :: cs) = be 320 2 ++ c ++ encC cs := by simp [encC]
theorem packL_cons (p c : List Int) (cs : List (List Int)) (h : c.length = 320) : packL p (c :: cs) = packL (p ++ be 320 2 ++ c) cs := by
  simp only [packL, encC_cons, List.all_cons, h, decide_true, Bool.true_and, List.append_assoc]
theorem rdL_nat (xs : List (List Int)) (i : Nat) (h : i < xs.length) : rd_L1 xs (i : Int) = xs[i] := by simp [rd_L1, rdOf, h]
theorem drop_L (xs : List (List Int)) (i : Nat) (h : i < xs.length) : xs.drop i = xs[i] :: xs.drop (i + 1) := List.drop_eq_getElem_cons h
end Go.Proofs.Ythkcadmjfkcbgaa.Q
end
