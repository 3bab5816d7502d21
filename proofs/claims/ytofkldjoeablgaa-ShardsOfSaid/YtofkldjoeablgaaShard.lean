/- The shard of a tag, by the program and by the reference: their calls come to these numbers; no condition. -/
import Derived.Test.YtofkldjoeablgaaQx1
set_option linter.unusedVariables false
set_option linter.unusedSimpArgs false
namespace Go.Proofs.Ytofkldjoeablgaa.Q
open Go.RowKit Go.Proofs.YtofkldjoeablgaaW.PrintWords Go.Proofs.YtofkldjoeablgaaW.PrintLast Go.Proofs.YtofkldjoeablgaaW.PrintMore
attribute [local go_sem] max2_int min2_int max_two min_two max_three min_three max_four min_four
def accS (ts : List Int) : Int := ts.foldl (fun a t => bits .or .u64 (IntKind.u64.wrap (a * 256)) (IntKind.u64.wrap t)) 0
def accR (n : Int) (ts : List Int) : Int := ts.foldl (fun r t => Int.tmod (wrap64 (wrap64 (r * 256) + wrap64 t)) n) 0
def shardF (ts : List Int) (n : Int) : Int := if n < 1 then 0 else if n > 64 then 0 else wrap64 (Int.tmod (accS ts) n)
def shardR (ts : List Int) (n : Int) : Int := if n < 1 then 0 else if n > 64 then 0 else accR n ts
set_option maxRecDepth 100000 in
set_option maxHeartbeats 8000000 in
theorem shard_calls (t0 t1 t2 t3 t4 t5 t6 t7 t8 t9 t10 t11 t12 t13 t14 t15 n : Int) (w : World) :
    Calls Try.prog 8 #[.agg #[.int .u8 t0, .int .u8 t1, .int .u8 t2, .int .u8 t3, .int .u8 t4, .int .u8 t5, .int .u8 t6, .int .u8 t7, .int .u8 t8, .int .u8 t9, .int .u8 t10, .int .u8 t11, .int .u8 t12, .int .u8 t13, .int .u8 t14, .int .u8 t15], .int .i64 n] w fun e w' => e = .returned (.int .i64 (shardF [t0, t1, t2, t3, t4, t5, t6, t7] n)) ∧ Below w.heap.size w w' := by
  unfold shardF
  by_cases h1 : n < 1
  · rw [if_pos h1]
    have c1 : decide (n < 1) = true := decide_eq_true h1
    go_enter Try.func8, Try.ntmps8
    go_wp2
    go_ret
    exact ⟨rfl, below_alloc (Below.refl _ _) _⟩
  · rw [if_neg h1]
    have c1 : decide (n < 1) = false := decide_eq_false h1
    by_cases h2 : n > 64
    · rw [if_pos h2]
      have c2 : decide (64 < n) = true := decide_eq_true h2
      go_enter Try.func8, Try.ntmps8
      go_wp2
      go_ret
      exact ⟨rfl, below_alloc (Below.refl _ _) _⟩
    · rw [if_neg h2]
      have c2 : decide (64 < n) = false := decide_eq_false h2
      go_enter Try.func8, Try.ntmps8
      go_wp2
      go_loop [5, 7, 16] (fun s c i => ∃ k : Nat, k ≤ 8 ∧ i = .int .i64 k ∧ s = .int .u64 (accS ([t0, t1, t2, t3, t4, t5, t6, t7].take k))) (fun _ _ i => match i with | .int _ n => 8 - n.toNat | _ => 0)
      case atStart => exact ⟨0, Nat.zero_le _, rfl, rfl⟩
      case round =>
        obtain ⟨k, hk, rfl, rfl⟩ := hrel
        have hk5 : k = 0 ∨ k = 1 ∨ k = 2 ∨ k = 3 ∨ k = 4 ∨ k = 5 ∨ k = 6 ∨ k = 7 ∨ k = 8 := by omega
        rcases hk5 with rfl | rfl | rfl | rfl | rfl | rfl | rfl | rfl | rfl
        · go_wp2
          exact ⟨⟨1, by omega, rfl, rfl⟩, by decide⟩
        · go_wp2
          exact ⟨⟨2, by omega, rfl, rfl⟩, by decide⟩
        · go_wp2
          exact ⟨⟨3, by omega, rfl, rfl⟩, by decide⟩
        · go_wp2
          exact ⟨⟨4, by omega, rfl, rfl⟩, by decide⟩
        · go_wp2
          exact ⟨⟨5, by omega, rfl, rfl⟩, by decide⟩
        · go_wp2
          exact ⟨⟨6, by omega, rfl, rfl⟩, by decide⟩
        · go_wp2
          exact ⟨⟨7, by omega, rfl, rfl⟩, by decide⟩
        · go_wp2
          exact ⟨⟨8, by omega, rfl, rfl⟩, by decide⟩
        · go_wp2
          go_ret
          exact ⟨rfl, below_alloc (Below.refl _ _) _⟩
set_option maxRecDepth 100000 in
set_option maxHeartbeats 8000000 in
theorem shardref_calls (t0 t1 t2 t3 t4 t5 t6 t7 t8 t9 t10 t11 t12 t13 t14 t15 n : Int) (w : World) :
    Calls Try.prog 9 #[.agg #[.int .u8 t0, .int .u8 t1, .int .u8 t2, .int .u8 t3, .int .u8 t4, .int .u8 t5, .int .u8 t6, .int .u8 t7, .int .u8 t8, .int .u8 t9, .int .u8 t10, .int .u8 t11, .int .u8 t12, .int .u8 t13, .int .u8 t14, .int .u8 t15], .int .i64 n] w fun e w' => e = .returned (.int .i64 (shardR [t0, t1, t2, t3, t4, t5, t6, t7] n)) ∧ Below w.heap.size w w' := by
  unfold shardR
  by_cases h1 : n < 1
  · rw [if_pos h1]
    have hN : churnref17_New.f n = some 2 := by unfold churnref17_New.f; rw [if_pos h1]
    go_enter Try.func9, Try.ntmps9
    go_wp2_with (go_at_call 12; refine (churnref17_New.calls n 2 _ hN).mono ?_; rintro e w' ⟨rfl, ⟨nd, rfl⟩⟩)
    go_ret
    exact ⟨rfl, pw_below_drewN (below_alloc (Below.refl _ _) _) _⟩
  · rw [if_neg h1]
    by_cases h2 : n > 64
    · rw [if_pos h2]
      have hN : churnref17_New.f n = some 2 := by unfold churnref17_New.f; rw [if_neg h1, if_pos h2]
      go_enter Try.func9, Try.ntmps9
      go_wp2_with (go_at_call 12; refine (churnref17_New.calls n 2 _ hN).mono ?_; rintro e w' ⟨rfl, ⟨nd, rfl⟩⟩)
      go_ret
      exact ⟨rfl, pw_below_drewN (below_alloc (Below.refl _ _) _) _⟩
    · rw [if_neg h2]
      have hN : churnref17_New.f n = some 0 := by unfold churnref17_New.f; rw [if_neg h1, if_neg h2]
      have n0 : (n == 0) = false := by simp; omega
      go_enter Try.func9, Try.ntmps9
      go_wp2_with (go_at_call 12; refine (churnref17_New.calls n 0 _ hN).mono ?_; rintro e w' ⟨rfl, ⟨nd, rfl⟩⟩)
      go_loop [5, 6] (fun s i => ∃ k : Nat, k ≤ 8 ∧ i = .int .i64 k ∧ s = .int .i64 (accR n ([t0, t1, t2, t3, t4, t5, t6, t7].take k))) (fun _ i => match i with | .int _ n => 8 - n.toNat | _ => 0)
      case atStart => exact ⟨0, Nat.zero_le _, rfl, rfl⟩
      case round =>
        obtain ⟨k, hk, rfl, rfl⟩ := hrel
        have hk5 : k = 0 ∨ k = 1 ∨ k = 2 ∨ k = 3 ∨ k = 4 ∨ k = 5 ∨ k = 6 ∨ k = 7 ∨ k = 8 := by omega
        rcases hk5 with rfl | rfl | rfl | rfl | rfl | rfl | rfl | rfl | rfl
        · go_wp2
          exact ⟨⟨1, by omega, rfl, rfl⟩, by decide⟩
        · go_wp2
          exact ⟨⟨2, by omega, rfl, rfl⟩, by decide⟩
        · go_wp2
          exact ⟨⟨3, by omega, rfl, rfl⟩, by decide⟩
        · go_wp2
          exact ⟨⟨4, by omega, rfl, rfl⟩, by decide⟩
        · go_wp2
          exact ⟨⟨5, by omega, rfl, rfl⟩, by decide⟩
        · go_wp2
          exact ⟨⟨6, by omega, rfl, rfl⟩, by decide⟩
        · go_wp2
          exact ⟨⟨7, by omega, rfl, rfl⟩, by decide⟩
        · go_wp2
          exact ⟨⟨8, by omega, rfl, rfl⟩, by decide⟩
        · go_wp2
          go_ret
          exact ⟨rfl, pw_below_drewN (below_alloc (Below.refl _ _) _) _⟩
end Go.Proofs.Ytofkldjoeablgaa.Q
