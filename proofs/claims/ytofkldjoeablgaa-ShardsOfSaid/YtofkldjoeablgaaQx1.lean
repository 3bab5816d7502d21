/- Functions of the program as plain Lean functions, each with a proof that its call comes to just these answers, or the row that joins them to the given statement; no condition beside the statement's own. Written for this claim by pf.py, this session's program over the kit's print. -/
import Derived.Test.YtofkldjoeablgaaQx0
namespace Go.Proofs.Ytofkldjoeablgaa.Q
open Go.RowKit Go.Proofs.YtofkldjoeablgaaW.PrintWords Go.Proofs.YtofkldjoeablgaaW.PrintLast Go.Proofs.YtofkldjoeablgaaW.PrintMore
attribute [local go_sem] max2_int min2_int max_two min_two max_three min_three max_four min_four   -- for this text's walks alone
set_option linter.unusedVariables false
set_option linter.unusedSimpArgs false

-- NOT PRINTED: function 8 (shards_Shard)

/-! ### churnref17_New: function 12 -/
def churnref17_New.f (a0 : Int) : Option (Int) := if a0 < 1 then (some 2) else (if a0 > 64 then (some 2) else (some 0))
set_option maxHeartbeats 8000000 in
set_option maxRecDepth 100000 in
theorem churnref17_New.calls (a0 : Int) (r : Int) (w : World) (h : churnref17_New.f a0 = some r) :
    Calls Try.prog 12 #[.int .i64 a0] w fun e w' => e = .returned (.int .i64 r) ∧ Drawn0 w w' := by
  have H : (if a0 < 1 then (some 2) else (if a0 > 64 then (some 2) else (some 0))) = some r := h
  clear h
  by_cases c2 : a0 < 1
  · rw [if_pos c2] at H
    have c2b0 : decide (a0 < 1) = true := decide_eq_true c2
    clear c2
    obtain rfl := Option.some.inj H
    go_enter Try.func12, Try.ntmps12
    go_wp2
    go_ret
    exact ⟨by first | rfl | (simp; done) | (simp [*]; done), by repeat (first | exact Drawn0.refl _ | apply Drawn0.step)⟩
  · rw [if_neg c2] at H
    have c2b0 : decide (a0 < 1) = false := decide_eq_false c2
    clear c2
    by_cases c3 : a0 > 64
    · rw [if_pos c3] at H
      have c3b0 : decide (64 < a0) = true := decide_eq_true c3
      clear c3
      obtain rfl := Option.some.inj H
      go_enter Try.func12, Try.ntmps12
      go_wp2
      go_ret
      exact ⟨by first | rfl | (simp; done) | (simp [*]; done), by repeat (first | exact Drawn0.refl _ | apply Drawn0.step)⟩
    · rw [if_neg c3] at H
      have c3b0 : decide (64 < a0) = false := decide_eq_false c3
      clear c3
      obtain rfl := Option.some.inj H
      go_enter Try.func12, Try.ntmps12
      go_wp2
      go_ret
      exact ⟨by first | rfl | (simp; done) | (simp [*]; done), by repeat (first | exact Drawn0.refl _ | apply Drawn0.step)⟩

-- NOT PRINTED: function 9 (churnref17_Shard)

-- NOT PRINTED: function 3 (churnlaw17_ShardsOf)

-- NOT PRINTED: function 11 (shards_New)

-- NOT PRINTED: function 21 (shards_Filter_of)

-- NOT PRINTED: function 35 (race_Disable)

-- NOT PRINTED: function 36 (race_Enable)

-- NOT PRINTED: function 47 (race_Acquire)

-- NOT PRINTED: function 59 (atomic_CompareAndSwapInt32)

-- NOT PRINTED: function 61 (atomic_AddInt32)

-- NOT PRINTED: function 63 (sync_runtime_canSpin)

-- NOT PRINTED: function 64 (sync_runtime_doSpin)

-- NOT PRINTED: function 65 (sync_throw)

-- NOT PRINTED: function 66 (sync_runtime_nanotime)

-- NOT PRINTED: function 67 (sync_runtime_SemacquireMutex)

-- NOT PRINTED: function 60 (sync_Mutex_lockSlow)

-- NOT PRINTED: function 52 (sync_Mutex_Lock_52)

-- NOT PRINTED: function 32 (sync_Mutex_Lock_32)

-- NOT PRINTED: function 34 (race_ReleaseMerge)

-- NOT PRINTED: function 68 (sync_fatal)

-- NOT PRINTED: function 69 (sync_runtime_Semrelease)

-- NOT PRINTED: function 62 (sync_Mutex_unlockSlow)

-- NOT PRINTED: function 53 (sync_Mutex_Unlock_53)

-- NOT PRINTED: function 33 (sync_Mutex_Unlock_33)

-- NOT PRINTED: function 22 (shards_shard_offer)

-- NOT PRINTED: function 14 (shards_Filter_Offer)

-- NOT PRINTED: function 23 (shards_shard_lowest)

-- NOT PRINTED: function 15 (shards_Filter_Lowest)

-- NOT PRINTED: function 24 (shards_shard_size)

-- NOT PRINTED: function 17 (shards_Filter_Len)

-- NOT PRINTED: function 10 (churnlaw17_awake)

/-! ### churnlaw17_place: function 13 -/
def churnlaw17_place.f (a0 : Int) (a1 : Int) : Option (Int) := if a0 < 0 then (if a1 = 0 then (none) else (some (Int.tmod (wrap64 (-(wrap64 (a0 + 1)))) a1))) else (if a1 = 0 then (none) else (some (Int.tmod a0 a1)))
set_option maxHeartbeats 8000000 in
set_option maxRecDepth 100000 in
theorem churnlaw17_place.calls (a0 : Int) (a1 : Int) (r : Int) (w : World) (h : churnlaw17_place.f a0 a1 = some r) :
    Calls Try.prog 13 #[.int .i64 a0, .int .i64 a1] w fun e w' => e = .returned (.int .i64 r) ∧ Drawn0 w w' := by
  have H : (if a0 < 0 then (if a1 = 0 then (none) else (some (Int.tmod (wrap64 (-(wrap64 (a0 + 1)))) a1))) else (if a1 = 0 then (none) else (some (Int.tmod a0 a1)))) = some r := h
  clear h
  by_cases c3 : a0 < 0
  · rw [if_pos c3] at H
    have c3b0 : decide (a0 < 0) = true := decide_eq_true c3
    clear c3
    by_cases c4 : a1 = 0
    · rw [if_pos c4] at H
      exact absurd H (by simp)
    · rw [if_neg c4] at H
      have c4b0 : (a1 == 0) = false := beq_eq_false_iff_ne.mpr c4
      have c4b1 : (a1 != 0) = true := bne_iff_ne.mpr c4
      obtain rfl := Option.some.inj H
      go_enter Try.func13, Try.ntmps13
      go_wp2
      go_ret
      exact ⟨by first | rfl | (simp; done) | (simp [*]; done), by repeat (first | exact Drawn0.refl _ | apply Drawn0.step)⟩
  · rw [if_neg c3] at H
    have c3b0 : decide (a0 < 0) = false := decide_eq_false c3
    clear c3
    by_cases c5 : a1 = 0
    · rw [if_pos c5] at H
      exact absurd H (by simp)
    · rw [if_neg c5] at H
      have c5b0 : (a1 == 0) = false := beq_eq_false_iff_ne.mpr c5
      have c5b1 : (a1 != 0) = true := bne_iff_ne.mpr c5
      obtain rfl := Option.some.inj H
      go_enter Try.func13, Try.ntmps13
      go_wp2
      go_ret
      exact ⟨by first | rfl | (simp; done) | (simp [*]; done), by repeat (first | exact Drawn0.refl _ | apply Drawn0.step)⟩

-- NOT PRINTED: function 16 (churnref17_Lowest)

-- NOT PRINTED: function 18 (churnref17_Len)

-- NOT PRINTED: function 4 (churnlaw17_ShardsPlays)

-- NOT PRINTED: function 19 (shards_Firsts)

-- NOT PRINTED: function 20 (churnref17_Firsts)

-- NOT PRINTED: function 5 (churnlaw17_ShardsFirsts)

-- NOT PRINTED: function 6 (churnlaw17_ShardsOrder)

-- NOT PRINTED: function 7 (churnlaw17_ShardsKeeps)

end Go.Proofs.Ytofkldjoeablgaa.Q
