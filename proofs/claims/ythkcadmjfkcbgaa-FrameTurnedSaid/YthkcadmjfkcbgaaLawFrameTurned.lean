/- Functions of the program as plain Lean functions, each with a proof that its call comes to just these answers, or the row that joins them to the given statement; no condition beside the statement's own. Written for this claim by pf.py, this session's program over the kit's print. -/
import Derived.Test.YthkcadmjfkcbgaaRows
import Derived.Test.YthkcadmjfkcbgaaQLFrameTurned
import Derived.Test.YthkcadmjfkcbgaaPureFrameTurned
import Derived.Test.YthkcadmjfkcbgaaOpen
import Derived.WalkKit
import Derived.ProofKit
import Derived.OpenShut
import Derived.ShutString
import Derived.ChangeOld
import Derived.Below
import Derived.SizedLaws
set_option linter.unusedVariables false
set_option linter.unusedSimpArgs false
namespace Go.Proofs.Ythkcadmjfkcbgaa.frameTurned
open Go.ChangeShapes Go.WideShapes Go.ChangeAt Go.RowKit Go.Proofs.YthkcadmjfkcbgaaW.PrintWords Go.Proofs.Ythkcadmjfkcbgaa.Op Go.Proofs.Ythkcadmjfkcbgaa.Q
open Go.ChangeMaps (open_string shut_string)
theorem own : ownKnob Try.prog.godebug = none := by kernel_rfl
theorem laidOut : laidOutB Try.prog = true := by kernel_rfl
set_option maxRecDepth 100000 in
set_option maxHeartbeats 16000000 in
theorem lifted (os : Os) (started : os.Started) (H : Type) (enc : TypeId × Value → H) :
    ReturnsInHanded {} Try.checked os 6 .any (Rows.frameTurnedSpec.pre6 enc Try.prog Try.f6 Rows.frameTurnedRow.domain false) (Rows.frameTurnedSpec.post enc Try.prog Try.f6 false true false false) := by
  refine returnsInHanded_of_change_sized (C := Try.checked) own started (by kernel_rfl) Try.func6
    (ChangeSpec.witness6 (enc := enc) (C := Try.checked) false ⟨#[], #[.agg #[.int .i64 0, .int .i64 0, .int .i64 0, .slice none 0 0], .int .i64 0, .int .u8 0], []⟩ 8 (by kernel_rfl) (by kernel_rfl) (by kernel_rfl) (by kernel_rfl)) ?_
  intro W base args ds gs before hval0 hW hcnd hsz0 _
  have hsz : (DataW.weightsEach Try.prog (Try.f6.params.toList ++ Rows.frameTurnedSpec.plain.varTypes Try.prog) (ds ++ gs)).all (· ≤ reachBytes) = true := hsz0
  have hval : ∀ (j : Nat) t v, Try.f6.params[j]? = some t → args[j]? = some v → Value.okWide Try.prog W .any base t v := hval0
  have hW' := hW
  obtain ⟨p, q, hA0, hV, rfl, hfz, hnd⟩ := hW
  have hA : DataW.TrodAll enc Try.prog W 0 (fun _ => true) true Try.f6.params.toList args.toList ds p := hA0
  rw [Try.params6] at hA hval hsz
  obtain ⟨v0, vs0, d0, ds0, p0, q0, hargs, rfl, rfl, h0, r0⟩ := trodAll_cons hA
  obtain ⟨v1, vs1, d1, ds1, p1, q1, rfl, rfl, rfl, h1, r1⟩ := trodAll_cons r0
  obtain ⟨v2, vs2, d2, ds2, p2, q2, rfl, rfl, rfl, h2, r2⟩ := trodAll_cons r1
  obtain ⟨rfl, rfl, rfl⟩ := trodAll_nil r2
  obtain rfl : args = #[v0, v1, v2] := by cases args; simp_all
  obtain ⟨rfl, rfl⟩ := trodVars_none hV
  have k0 := h0
  have lt0 : ∀ x ∈ p0, x.block < W.heap.size := by obtain ⟨m, hm⟩ := k0; exact DataW.trod_lt m _ _ _ hm
  obtain ⟨⟨y0_0, y0_1⟩, K0, o0⟩ := opened (opens_struct (ts := [23, 24]) Try.underlying26 (by kernel_rfl) (by kernel_rfl) (by kernel_rfl) (opensL_cons (opens_iso (fun x : S23 => (x.f0, x.f1, x.f2)) (fun y => ⟨y.1, y.2.1, y.2.2⟩) (fun _ => rfl) (opens_struct (ts := [2, 2, 3]) Try.underlying23 (by kernel_rfl) (by kernel_rfl) (by kernel_rfl) (opensL_cons (opens_int Try.underlying2 (by kernel_rfl)) (opensL_cons (opens_int Try.underlying2 (by kernel_rfl)) (opensL_one (opens_int Try.underlying3 (by kernel_rfl))))))) (opensL_one (opens_slice Try.underlying24 (by kernel_rfl) (B := 24) (by kernel_rfl) (opens_slice Try.underlying30 (by kernel_rfl) (B := 1) (by kernel_rfl) (opens_int Try.underlying5 (by kernel_rfl))))))) hsz (j := 0) rfl rfl h0
  obtain ⟨cs0, rfl, _⟩ := okWide_struct Try.underlying26 (hval 0 26 v0 rfl rfl)
  obtain ⟨ca1_, cb2_, hc3_, ka4_, kb5_⟩ := K0
  obtain ⟨ca6_, cb7_, hc8_, ka9_, kb10_⟩ := ka4_
  have e11_ := ka9_
  simp only [Kd.int, Kd.scalar] at e11_
  obtain ⟨ca12_, cb13_, hc14_, ka15_, kb16_⟩ := kb10_
  have e17_ := ka15_
  simp only [Kd.int, Kd.scalar] at e17_
  have e18_ := kb16_
  simp only [Kd.int, Kd.scalar] at e18_
  obtain ⟨A19_, c20_, e21_, hl22_, hC23_⟩ := kb5_
  obtain rfl : cs0 = #[.int .i64 y0_0.f0, .int .i64 y0_0.f1, .int .i64 y0_0.f2, .slice A19_ y0_1.length c20_] := by
    have e_ := hc3_
    simp only [hc8_, e11_, hc14_, e17_, e18_, e21_] at e_
    cases cs0; simpa [Value.cells] using e_
  obtain ⟨y1, rfl, rfl, rfl, o1⟩ := open_int Try.underlying3 (hval 1 3 v1 rfl rfl) h1
  obtain ⟨y2, rfl, rfl, rfl, o2⟩ := open_int Try.underlying5 (hval 2 5 v2 rfl rfl) h2
  obtain ⟨k, hk⟩ := Pure.FrameTurned y0_0 y0_1 y1 y2 o0.1 o0.2 o1 o2
  refine (churnlaw06_FrameTurned.calls k y0_0.f0 y0_0.f1 y0_0.f2 _ _ y0_1 y1 y2 true W hC23_ hl22_ rfl hk).mono ?_
  rintro e W' ⟨rfl, bel0⟩
  have bel : Below W.heap.size W W' := bel0
  exact ⟨_, rfl, _, _, _, [], _, [], hW', trodAll_mk1 (shut_bool Try.underlying4 _), (trodAll_cons_mk (Below.trod laidOut (by kernel_rfl) (of_decide_eq_true (by kernel_rfl)) k0 bel lt0) (trodAll_cons_mk (shut_int Try.underlying3 o1) (trodAll_cons_mk (shut_int Try.underlying5 o2) trodAll_mk0))), rfl, bel.frame _, fun h => by cases h⟩
theorem over : Rows.frameTurnedRow.holds Try.pinned (OpenSpec.ofChange Rows.frameTurnedSpec) :=
  OpenClaim.holds_of_wide 6 Try.f6 rfl rfl rfl rfl rfl rfl rfl ⟨rfl, rfl, rfl, rfl, rfl⟩ rfl rfl rfl rfl rfl (by kernel_rfl) Try.func6 (by kernel_rfl)
    (of_decide_eq_true (by kernel_rfl)) (by unfold Func.isWrapper; first | (rw [if_pos (by decide +kernel)]; kernel_rfl) | (rw [if_neg (by decide +kernel)]; exact ⟨rfl, rfl⟩))
    (fun os started H enc _ => lifted os started H enc)
theorem proved : Rows.FrameTurnedSaid := over
#print axioms proved
end Go.Proofs.Ythkcadmjfkcbgaa.frameTurned
namespace Go.Proofs.Ythkcadmjfkcbgaa
/-- The row, under a short name, for the claim. -/
theorem frameTurned_holds : Rows.FrameTurnedSaid := frameTurned.proved
end Go.Proofs.Ythkcadmjfkcbgaa
