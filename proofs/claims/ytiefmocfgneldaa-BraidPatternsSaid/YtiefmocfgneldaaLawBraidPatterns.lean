/- Functions of the program as plain Lean functions, each with a proof that its call comes to just these answers, or the row that joins them to the given statement; no condition beside the statement's own. Written for this claim by pf.py, this session's program over the kit's print. -/
import Derived.Test.YtiefmocfgneldaaRows
import Derived.Test.YtiefmocfgneldaaQLBraidPatterns
import Derived.Test.YtiefmocfgneldaaPureBraidPatterns
import Derived.Test.YtiefmocfgneldaaOpen
import Derived.WalkKit
import Derived.ProofKit
import Derived.OpenShut
import Derived.ShutString
import Derived.ChangeOld
import Derived.Below
import Derived.SizedLaws
set_option linter.unusedVariables false
set_option linter.unusedSimpArgs false
namespace Go.Proofs.Ytiefmocfgneldaa.braidPatterns
open Go.ChangeShapes Go.WideShapes Go.ChangeAt Go.RowKit Go.Proofs.YtiefmocfgneldaaW.PrintWords Go.Proofs.Ytiefmocfgneldaa.Op Go.Proofs.Ytiefmocfgneldaa.Q
open Go.ChangeMaps (open_string shut_string)
theorem own : ownKnob Try.prog.godebug = none := by kernel_rfl
theorem laidOut : laidOutB Try.prog = true := by kernel_rfl
set_option maxRecDepth 100000 in
set_option maxHeartbeats 16000000 in
theorem lifted (os : Os) (started : os.Started) (H : Type) (enc : TypeId × Value → H) :
    ReturnsInHanded {} Try.checked os 5 .any (Rows.braidPatternsSpec.pre6 enc Try.prog Try.f5 Rows.braidPatternsRow.domain false) (Rows.braidPatternsSpec.post enc Try.prog Try.f5 false true false false) := by
  refine returnsInHanded_of_change_sized (C := Try.checked) own started (by kernel_rfl) Try.func5
    (ChangeSpec.witness6 (enc := enc) (C := Try.checked) false ⟨#[], #[.slice none 0 0], []⟩ 8 (by kernel_rfl) (by kernel_rfl) (by kernel_rfl) (by kernel_rfl)) ?_
  intro W base args ds gs before hval0 hW hcnd hsz0 _
  have hsz : (DataW.weightsEach Try.prog (Try.f5.params.toList ++ Rows.braidPatternsSpec.plain.varTypes Try.prog) (ds ++ gs)).all (· ≤ reachBytes) = true := hsz0
  have hval : ∀ (j : Nat) t v, Try.f5.params[j]? = some t → args[j]? = some v → Value.okWide Try.prog W .any base t v := hval0
  have hW' := hW
  obtain ⟨p, q, hA0, hV, rfl, hfz, hnd⟩ := hW
  have hA : DataW.TrodAll enc Try.prog W 0 (fun _ => true) true Try.f5.params.toList args.toList ds p := hA0
  rw [Try.params5] at hA hval hsz
  obtain ⟨v0, vs0, d0, ds0, p0, q0, hargs, rfl, rfl, h0, r0⟩ := trodAll_cons hA
  obtain ⟨rfl, rfl, rfl⟩ := trodAll_nil r0
  obtain rfl : args = #[v0] := by cases args; simp_all
  obtain ⟨rfl, rfl⟩ := trodVars_none hV
  have k0 := h0
  have lt0 : ∀ x ∈ p0, x.block < W.heap.size := by obtain ⟨m, hm⟩ := k0; exact DataW.trod_lt m _ _ _ hm
  obtain ⟨y0, K0, o0⟩ := opened (opens_slice Try.underlying50 (by kernel_rfl) (B := 96) (by kernel_rfl) (opens_iso (fun x : S52 => (x.f0, x.f1, x.f2, x.f3)) (fun y => ⟨y.1, y.2.1, y.2.2.1, y.2.2.2⟩) (fun _ => rfl) (opens_struct (ts := [22, 22, 22, 22]) Try.underlying52 (by kernel_rfl) (by kernel_rfl) (by kernel_rfl) (opensL_cons (opens_slice Try.underlying22 (by kernel_rfl) (B := 8) (by kernel_rfl) (opens_int Try.underlying3 (by kernel_rfl))) (opensL_cons (opens_slice Try.underlying22 (by kernel_rfl) (B := 8) (by kernel_rfl) (opens_int Try.underlying3 (by kernel_rfl))) (opensL_cons (opens_slice Try.underlying22 (by kernel_rfl) (B := 8) (by kernel_rfl) (opens_int Try.underlying3 (by kernel_rfl))) (opensL_one (opens_slice Try.underlying22 (by kernel_rfl) (B := 8) (by kernel_rfl) (opens_int Try.underlying3 (by kernel_rfl)))))))))) hsz (j := 0) rfl rfl h0
  obtain ⟨va0, vl0, vc0, rfl⟩ := okWide_slice Try.underlying50 (hval 0 50 v0 rfl rfl)
  obtain ⟨A1_, c2_, e3_, hl4_, hC5_⟩ := K0
  simp [Value.cells] at e3_
  obtain ⟨rfl, rfl, rfl⟩ := e3_
  have hk := Pure.BraidPatterns y0 o0
  refine (churnlaw12_BraidPatterns.calls _ _ y0 true W hC5_ hl4_ rfl hk).mono ?_
  rintro e W' ⟨rfl, bel0⟩
  have bel : Below W.heap.size W W' := bel0
  exact ⟨_, rfl, _, _, _, [], _, [], hW', trodAll_mk1 (shut_bool Try.underlying4 _), (trodAll_cons_mk (Below.trod laidOut (by kernel_rfl) (of_decide_eq_true (by kernel_rfl)) k0 bel lt0) trodAll_mk0), rfl, bel.frame _, fun h => by cases h⟩
theorem over : Rows.braidPatternsRow.holds Try.pinned (OpenSpec.ofChange Rows.braidPatternsSpec) :=
  OpenClaim.holds_of_wide 5 Try.f5 rfl rfl rfl rfl rfl rfl rfl ⟨rfl, rfl, rfl, rfl, rfl⟩ rfl rfl rfl rfl rfl (by kernel_rfl) Try.func5 (by kernel_rfl)
    (of_decide_eq_true (by kernel_rfl)) (by unfold Func.isWrapper; first | (rw [if_pos (by decide +kernel)]; kernel_rfl) | (rw [if_neg (by decide +kernel)]; exact ⟨rfl, rfl⟩))
    (fun os started H enc _ => lifted os started H enc)
theorem proved : Rows.BraidPatternsSaid := over
#print axioms proved
end Go.Proofs.Ytiefmocfgneldaa.braidPatterns
namespace Go.Proofs.Ytiefmocfgneldaa
/-- The row, under a short name, for the claim. -/
theorem braidPatterns_holds : Rows.BraidPatternsSaid := braidPatterns.proved
end Go.Proofs.Ytiefmocfgneldaa
