/- Every shard is the document's, from 0 to below their number: the given statement: the call's walk joined to its row. -/
import Derived.Test.YtofkldjoeablgaaRows
import Derived.Test.YtofkldjoeablgaaShardLaw
import Derived.Test.YtofkldjoeablgaaShardPlain
import Derived.WalkKit
import Derived.ProofKit
import Derived.OpenShut
import Derived.ShutString
import Derived.ChangeOld
import Derived.Below
import Derived.SizedLaws
set_option linter.unusedVariables false
set_option linter.unusedSimpArgs false
namespace Go.Proofs.Ytofkldjoeablgaa.shardsOf
open Go.ChangeShapes Go.WideShapes Go.ChangeAt Go.RowKit
theorem own : ownKnob Try.prog.godebug = none := by kernel_rfl
theorem laidOut : laidOutB Try.prog = true := by kernel_rfl
theorem cellsT : Try.prog.cellsOf 22 = 16 := by kernel_rfl
theorem cellsB : Try.prog.cellsOf 5 = 1 := by kernel_rfl
theorem list16 {α : Type} (l : List α) (h : l.length = 16) : ∃ a0 a1 a2 a3 a4 a5 a6 a7 a8 a9 a10 a11 a12 a13 a14 a15, l = [a0, a1, a2, a3, a4, a5, a6, a7, a8, a9, a10, a11, a12, a13, a14, a15] := by
  match l, h with
  | [a0, a1, a2, a3, a4, a5, a6, a7, a8, a9, a10, a11, a12, a13, a14, a15], _ => exact ⟨a0, a1, a2, a3, a4, a5, a6, a7, a8, a9, a10, a11, a12, a13, a14, a15, rfl⟩
theorem tag_cells {H : Type} {enc : TypeId × Value → H} {w : World} {base : Nat} {spare : Nat → Bool} {held : Bool} {fuel : Nat} {cs : List Value} {x : DataW H × List MemPlace}
    (h : DataW.trod enc Try.prog w base spare held fuel 22 cs = some x) : cs.length = 16 ∧ ∀ i, i < 16 → ∃ t : Int, cs[i]? = some (.int .u8 t) ∧ (Lit.int .u8 t).wf = true := by
  obtain ⟨xs, m, _, _, hl, hlen, hi⟩ := DataW.trod_array Try.underlying22 h
  rw [cellsT] at hl
  refine ⟨hl, fun i h => ?_⟩
  have a := hi i h
  rw [cellsB, Nat.mul_one, List.getElem?_eq_getElem (by omega)] at a
  obtain ⟨t, e, _, hw⟩ := DataW.trod_int Try.underlying5 a
  refine ⟨t, ?_, hw⟩
  rw [List.drop_eq_getElem_cons (show i < cs.length by omega), List.take_succ_cons] at e
  rw [List.getElem?_eq_getElem (show i < cs.length by omega), (List.cons.inj e).1]
theorem wf_u8 {x : Int} (h : (Lit.int .u8 x).wf = true) : 0 ≤ x ∧ x ≤ 255 := by
  simp [Lit.wf, IntKind.min, IntKind.max, IntKind.signed, IntKind.bits] at h
  omega
set_option maxRecDepth 100000 in
set_option maxHeartbeats 4000000 in
theorem lifted (os : Os) (started : os.Started) (H : Type) (enc : TypeId × Value → H) :
    ReturnsInHanded {} Try.checked os 3 .any (Rows.shardsOfSpec.pre6 enc Try.prog Try.f3 Rows.shardsOfRow.domain false) (Rows.shardsOfSpec.post enc Try.prog Try.f3 false true false false) := by
  refine returnsInHanded_of_change (C := Try.checked) own started (by kernel_rfl) Try.func3
    (ChangeSpec.witness6 (enc := enc) (C := Try.checked) false ⟨#[], #[.agg #[.int .u8 0, .int .u8 0, .int .u8 0, .int .u8 0, .int .u8 0, .int .u8 0, .int .u8 0, .int .u8 0, .int .u8 0, .int .u8 0, .int .u8 0, .int .u8 0, .int .u8 0, .int .u8 0, .int .u8 0, .int .u8 0], .int .i64 0], []⟩ 8 (by kernel_rfl) (by kernel_rfl) (by kernel_rfl) (by kernel_rfl)) ?_
  intro W base args ds gs before hval0 hW _ _
  have hval : ∀ (j : Nat) t v, Try.f3.params[j]? = some t → args[j]? = some v → Value.okWide Try.prog W .any base t v := hval0
  have hW' := hW
  obtain ⟨p, q, hA0, hV, rfl, hfz, hnd⟩ := hW
  have hA : DataW.TrodAll enc Try.prog W 0 (fun _ => true) true Try.f3.params.toList args.toList ds p := hA0
  rw [Try.params3] at hA hval
  obtain ⟨v0, vs0, d0, ds0, p0, q0, hargs, rfl, rfl, h0, r0⟩ := trodAll_cons hA
  obtain ⟨v1, vs1, d1, ds1, p1, q1, rfl, rfl, rfl, h1, r1⟩ := trodAll_cons r0
  obtain ⟨rfl, rfl, rfl⟩ := trodAll_nil r1
  obtain rfl : args = #[v0, v1] := by cases args; simp_all
  obtain ⟨rfl, rfl⟩ := trodVars_none hV
  have k0 := h0
  have lt0 : ∀ x ∈ p0, x.block < W.heap.size := by obtain ⟨m, hm⟩ := k0; exact DataW.trod_lt m _ _ _ hm
  obtain ⟨cs, rfl, hsz, _⟩ : ∃ cs, v0 = .agg cs ∧ cs.size = Try.prog.cellsOf 22 ∧ Row.okWide Try.prog W .any base 22 cs := by
    have := hval 0 22 v0 rfl rfl
    simpa [Value.okWide, Try.underlying22] using this
  obtain ⟨y1, rfl, rfl, rfl, o1⟩ := open_int Try.underlying3 (hval 1 3 v1 rfl rfl) h1
  obtain ⟨fuel, hf⟩ := h0
  obtain ⟨hl, hc⟩ := tag_cells hf
  obtain ⟨l⟩ := cs
  have hl' : l.length = 16 := by simpa [Value.cells] using hl
  obtain ⟨a0, a1, a2, a3, a4, a5, a6, a7, a8, a9, a10, a11, a12, a13, a14, a15, rfl⟩ := list16 l hl'
  obtain ⟨t0, e0, w0⟩ := hc 0 (by decide)
  obtain rfl : a0 = .int .u8 t0 := by simpa [Value.cells] using e0
  obtain ⟨t1, e1, w1⟩ := hc 1 (by decide)
  obtain rfl : a1 = .int .u8 t1 := by simpa [Value.cells] using e1
  obtain ⟨t2, e2, w2⟩ := hc 2 (by decide)
  obtain rfl : a2 = .int .u8 t2 := by simpa [Value.cells] using e2
  obtain ⟨t3, e3, w3⟩ := hc 3 (by decide)
  obtain rfl : a3 = .int .u8 t3 := by simpa [Value.cells] using e3
  obtain ⟨t4, e4, w4⟩ := hc 4 (by decide)
  obtain rfl : a4 = .int .u8 t4 := by simpa [Value.cells] using e4
  obtain ⟨t5, e5, w5⟩ := hc 5 (by decide)
  obtain rfl : a5 = .int .u8 t5 := by simpa [Value.cells] using e5
  obtain ⟨t6, e6, w6⟩ := hc 6 (by decide)
  obtain rfl : a6 = .int .u8 t6 := by simpa [Value.cells] using e6
  obtain ⟨t7, e7, w7⟩ := hc 7 (by decide)
  obtain rfl : a7 = .int .u8 t7 := by simpa [Value.cells] using e7
  obtain ⟨t8, e8, w8⟩ := hc 8 (by decide)
  obtain rfl : a8 = .int .u8 t8 := by simpa [Value.cells] using e8
  obtain ⟨t9, e9, w9⟩ := hc 9 (by decide)
  obtain rfl : a9 = .int .u8 t9 := by simpa [Value.cells] using e9
  obtain ⟨t10, e10, w10⟩ := hc 10 (by decide)
  obtain rfl : a10 = .int .u8 t10 := by simpa [Value.cells] using e10
  obtain ⟨t11, e11, w11⟩ := hc 11 (by decide)
  obtain rfl : a11 = .int .u8 t11 := by simpa [Value.cells] using e11
  obtain ⟨t12, e12, w12⟩ := hc 12 (by decide)
  obtain rfl : a12 = .int .u8 t12 := by simpa [Value.cells] using e12
  obtain ⟨t13, e13, w13⟩ := hc 13 (by decide)
  obtain rfl : a13 = .int .u8 t13 := by simpa [Value.cells] using e13
  obtain ⟨t14, e14, w14⟩ := hc 14 (by decide)
  obtain rfl : a14 = .int .u8 t14 := by simpa [Value.cells] using e14
  obtain ⟨t15, e15, w15⟩ := hc 15 (by decide)
  obtain rfl : a15 = .int .u8 t15 := by simpa [Value.cells] using e15
  have hb : ∀ t ∈ ([t0, t1, t2, t3, t4, t5, t6, t7] : List Int), 0 ≤ t ∧ t ≤ 255 := by
    intro t ht
    simp only [List.mem_cons, List.not_mem_nil, or_false] at ht
    rcases ht with rfl | rfl | rfl | rfl | rfl | rfl | rfl | rfl
    · exact wf_u8 w0
    · exact wf_u8 w1
    · exact wf_u8 w2
    · exact wf_u8 w3
    · exact wf_u8 w4
    · exact wf_u8 w5
    · exact wf_u8 w6
    · exact wf_u8 w7
  obtain ⟨s1, s2, s3⟩ := Q.shard_same [t0, t1, t2, t3, t4, t5, t6, t7] y1 (by simp) hb
  clear hA0 hval0
  refine (Q.law_calls t0 t1 t2 t3 t4 t5 t6 t7 t8 t9 t10 t11 t12 t13 t14 t15 y1 W s1 s2 s3).mono ?_
  rintro e W' ⟨rfl, bel⟩
  exact ⟨_, rfl, _, _, _, [], _, [], hW', trodAll_mk1 (shut_bool Try.underlying4 _), trodAll_cons_mk (Below.trod laidOut (by kernel_rfl) (of_decide_eq_true (by kernel_rfl)) k0 bel lt0) (trodAll_cons_mk (shut_int Try.underlying3 o1) trodAll_mk0), rfl, bel.frame _, fun h => by cases h⟩
theorem over : Rows.shardsOfRow.holds Try.pinned (OpenSpec.ofChange Rows.shardsOfSpec) :=
  OpenClaim.holds_of_wide 3 Try.f3 rfl rfl rfl rfl rfl rfl rfl ⟨rfl, rfl, rfl, rfl, rfl⟩ rfl rfl rfl rfl rfl (by kernel_rfl) Try.func3 (by kernel_rfl)
    (of_decide_eq_true (by kernel_rfl)) (by unfold Func.isWrapper; first | (rw [if_pos (by decide +kernel)]; kernel_rfl) | (rw [if_neg (by decide +kernel)]; exact ⟨rfl, rfl⟩))
    (fun os started H enc _ => lifted os started H enc)
theorem proved : Rows.ShardsOfSaid := over
#print axioms proved
end Go.Proofs.Ytofkldjoeablgaa.shardsOf
namespace Go.Proofs.Ytofkldjoeablgaa
/-- The row, under a short name, for the claim. -/
theorem shardsOf_holds : Rows.ShardsOfSaid := shardsOf.proved
end Go.Proofs.Ytofkldjoeablgaa
