/- Shard by shifting and one remainder is Shard byte by byte, the remainder kept; it stands from 0 to below the shards' number. -/
import Derived.Test.YtofkldjoeablgaaShard
set_option linter.unusedVariables false
set_option linter.unusedSimpArgs false
namespace Go.Proofs.Ytofkldjoeablgaa.Q
open Go.RowKit Go.Proofs.YtofkldjoeablgaaW.PrintWords Go.Proofs.YtofkldjoeablgaaW.PrintLast Go.Proofs.YtofkldjoeablgaaW.PrintMore
theorem wr64 {x : Int} (h0 : -9223372036854775808 ≤ x) (h1 : x ≤ 9223372036854775807) : wrap64 x = x := by
  unfold wrap64
  omega
theorem wru64 (n : Int) (h0 : 0 ≤ n) (h1 : n < 2 ^ 64) : IntKind.u64.wrap n = n := by
  show n % 2 ^ 64 = n
  exact Int.emod_eq_of_lt h0 h1
theorem step_or (a t : Int) (h0 : 0 ≤ a) (h1 : a < 2 ^ 56) (t0 : 0 ≤ t) (t1 : t ≤ 255) : bits .or .u64 (IntKind.u64.wrap (a * 256)) (IntKind.u64.wrap t) = a * 256 + t := by
  have p : (2 : Int) ^ 64 = 2 ^ 56 * 256 := by decide
  have q : (256 : Int) ≤ 2 ^ 64 := by decide
  have e1 : IntKind.u64.wrap (a * 256) = a * 256 := wru64 _ (by omega) (by rw [p]; omega)
  have e2 : IntKind.u64.wrap t = t := wru64 _ t0 (by omega)
  rw [e1, e2]
  exact bits_join .u64 64 (by decide) wru64 8 (a * 256) t (by omega) (by omega) (by rw [p]; omega) t0 (by omega) (by omega)
def val (a : Int) (ts : List Int) : Int := ts.foldl (fun a t => a * 256 + t) a
theorem acc_val : ∀ (ts : List Int) (a : Int) (m : Nat), (∀ t ∈ ts, 0 ≤ t ∧ t ≤ 255) → 0 ≤ a → a < 2 ^ (8 * m) → ts.length + m ≤ 8 →
    ts.foldl (fun a t => bits .or .u64 (IntKind.u64.wrap (a * 256)) (IntKind.u64.wrap t)) a = val a ts ∧ 0 ≤ val a ts
  | [], a, m, _, h0, _, _ => ⟨rfl, h0⟩
  | t :: ts, a, m, ht, h0, h1, hl => by
    have hm : m ≤ 7 := by simp at hl; omega
    have b := ht t List.mem_cons_self
    have h56 : (2 : Int) ^ (8 * m) ≤ 2 ^ 56 := by
      have : (2 : Nat) ^ (8 * m) ≤ 2 ^ 56 := Nat.pow_le_pow_right (by decide) (by omega)
      exact_mod_cast this
    have e := step_or a t h0 (by omega) b.1 b.2
    have hp : (2 : Int) ^ (8 * (m + 1)) = 2 ^ (8 * m) * 256 := by
      rw [show 8 * (m + 1) = 8 * m + 8 by omega, Int.pow_add]
      rfl
    have := acc_val ts (a * 256 + t) (m + 1) (fun x hx => ht x (List.mem_cons_of_mem _ hx)) (by omega) (by rw [hp]; omega) (by simp at hl; omega)
    rw [List.foldl_cons, e]
    exact this
theorem acc_ref (n : Int) (h1 : 1 ≤ n) (h2 : n ≤ 64) : ∀ (ts : List Int) (a r : Int), (∀ t ∈ ts, 0 ≤ t ∧ t ≤ 255) → r = a % n →
    ts.foldl (fun r t => Int.tmod (wrap64 (wrap64 (r * 256) + wrap64 t)) n) r = val a ts % n
  | [], a, r, _, h => h
  | t :: ts, a, r, ht, h => by
    have b := ht t List.mem_cons_self
    have m1 := Int.emod_nonneg a (show n ≠ 0 by omega)
    have m2 := Int.emod_lt_of_pos a (show 0 < n by omega)
    rw [List.foldl_cons, wr64 (x := r * 256) (by omega) (by omega), wr64 (x := t) (by omega) (by omega), wr64 (by omega) (by omega), Int.tmod_eq_emod_of_nonneg (by omega)]
    refine acc_ref n h1 h2 ts (a * 256 + t) _ (fun x hx => ht x (List.mem_cons_of_mem _ hx)) ?_
    rw [h, Int.add_emod (a % n * 256), Int.mul_emod (a % n), Int.emod_emod, ← Int.mul_emod, ← Int.add_emod]
theorem shard_same (ts : List Int) (n : Int) (hl : ts.length ≤ 8) (ht : ∀ t ∈ ts, 0 ≤ t ∧ t ≤ 255) : shardF ts n = shardR ts n ∧ 0 ≤ shardF ts n ∧ shardF ts n < mx n 1 := by
  have hmx : 1 ≤ mx n 1 ∧ n ≤ mx n 1 := by unfold mx; split <;> omega
  unfold shardF shardR
  by_cases h1 : n < 1
  · rw [if_pos h1, if_pos h1]
    exact ⟨rfl, by omega, by omega⟩
  · rw [if_neg h1, if_neg h1]
    by_cases h2 : n > 64
    · rw [if_pos h2, if_pos h2]
      exact ⟨rfl, by omega, by omega⟩
    · rw [if_neg h2, if_neg h2]
      obtain ⟨a1, a2⟩ := acc_val ts 0 0 ht (by decide) (by decide) (by omega)
      have a3 := acc_ref n (by omega) (by omega) ts 0 0 ht (by simp)
      have m1 := Int.emod_nonneg (val 0 ts) (show n ≠ 0 by omega)
      have m2 := Int.emod_lt_of_pos (val 0 ts) (show 0 < n by omega)
      unfold accS accR
      rw [a1, a3, Int.tmod_eq_emod_of_nonneg a2, wr64 (by omega) (by omega)]
      exact ⟨rfl, m1, by omega⟩
end Go.Proofs.Ytofkldjoeablgaa.Q
