/- Functions of the program as plain Lean functions, each with a proof that its call comes to just these answers, or the row that joins them to the given statement; no condition beside the statement's own. Written for this claim by pf.py, this session's program over the kit's print. -/
import Derived.Test.YtijnmfdpdjblbaaRows
import Derived.Test.YtijnmfdpdjblbaaQLDrawKeeps
import Derived.Test.YtijnmfdpdjblbaaPureDrawKeeps
import Derived.Test.YtijnmfdpdjblbaaOpen
import Derived.WalkKit
import Derived.ProofKit
import Derived.OpenShut
import Derived.ShutString
import Derived.ChangeOld
import Derived.Below
import Derived.SizedLaws
set_option linter.unusedVariables false
set_option linter.unusedSimpArgs false
namespace Go.Proofs.Ytijnmfdpdjblbaa.drawKeeps
open Go.ChangeShapes Go.WideShapes Go.ChangeAt Go.RowKit Go.Proofs.YtijnmfdpdjblbaaW.PrintWords Go.Proofs.Ytijnmfdpdjblbaa.Op Go.Proofs.Ytijnmfdpdjblbaa.Q
open Go.ChangeMaps (open_string shut_string)
theorem own : ownKnob Try.prog.godebug = none := by kernel_rfl
theorem laidOut : laidOutB Try.prog = true := by kernel_rfl
set_option maxRecDepth 100000 in
set_option maxHeartbeats 16000000 in
theorem lifted (os : Os) (started : os.Started) (H : Type) (enc : TypeId × Value → H) :
    ReturnsInHanded {} Try.checked os 8 .any (Rows.drawKeepsSpec.pre6 enc Try.prog Try.f8 Rows.drawKeepsRow.domain false) (Rows.drawKeepsSpec.post enc Try.prog Try.f8 false true false false) := by
  refine returnsInHanded_of_change_sized (C := Try.checked) own started (by kernel_rfl) Try.func8
    (ChangeSpec.witness6 (enc := enc) (C := Try.checked) false ⟨#[], #[.slice none 0 0, .slice none 0 0, .slice none 0 0], []⟩ 8 (by kernel_rfl) (by kernel_rfl) (by kernel_rfl) (by kernel_rfl)) ?_
  intro W base args ds gs before hval0 hW hcnd hsz0 _
  have hsz : (DataW.weightsEach Try.prog (Try.f8.params.toList ++ Rows.drawKeepsSpec.plain.varTypes Try.prog) (ds ++ gs)).all (· ≤ reachBytes) = true := hsz0
  have hval : ∀ (j : Nat) t v, Try.f8.params[j]? = some t → args[j]? = some v → Value.okWide Try.prog W .any base t v := hval0
  have hW' := hW
  obtain ⟨p, q, hA0, hV, rfl, hfz, hnd⟩ := hW
  have hA : DataW.TrodAll enc Try.prog W 0 (fun _ => true) true Try.f8.params.toList args.toList ds p := hA0
  rw [Try.params8] at hA hval hsz
  obtain ⟨v0, vs0, d0, ds0, p0, q0, hargs, rfl, rfl, h0, r0⟩ := trodAll_cons hA
  obtain ⟨v1, vs1, d1, ds1, p1, q1, rfl, rfl, rfl, h1, r1⟩ := trodAll_cons r0
  obtain ⟨v2, vs2, d2, ds2, p2, q2, rfl, rfl, rfl, h2, r2⟩ := trodAll_cons r1
  obtain ⟨rfl, rfl, rfl⟩ := trodAll_nil r2
  obtain rfl : args = #[v0, v1, v2] := by cases args; simp_all
  obtain ⟨rfl, rfl⟩ := trodVars_none hV
  have k0 := h0
  have lt0 : ∀ x ∈ p0, x.block < W.heap.size := by obtain ⟨m, hm⟩ := k0; exact DataW.trod_lt m _ _ _ hm
  obtain ⟨y0, K0, o0⟩ := opened (opens_slice Try.underlying22 (by kernel_rfl) (B := 1) (by kernel_rfl) (opens_int Try.underlying5 (by kernel_rfl))) hsz (j := 0) rfl rfl h0
  obtain ⟨va0, vl0, vc0, rfl⟩ := okWide_slice Try.underlying22 (hval 0 22 v0 rfl rfl)
  obtain ⟨A1_, c2_, e3_, hl4_, hC5_⟩ := K0
  simp [Value.cells] at e3_
  obtain ⟨rfl, rfl, rfl⟩ := e3_
  have k1 := h1
  have lt1 : ∀ x ∈ p1, x.block < W.heap.size := by obtain ⟨m, hm⟩ := k1; exact DataW.trod_lt m _ _ _ hm
  obtain ⟨y1, K1, o1⟩ := opened (opens_slice Try.underlying23 (by kernel_rfl) (B := 8) (by kernel_rfl) (opens_int Try.underlying3 (by kernel_rfl))) hsz (j := 1) rfl rfl h1
  obtain ⟨va1, vl1, vc1, rfl⟩ := okWide_slice Try.underlying23 (hval 1 23 v1 rfl rfl)
  obtain ⟨A6_, c7_, e8_, hl9_, hC10_⟩ := K1
  simp [Value.cells] at e8_
  obtain ⟨rfl, rfl, rfl⟩ := e8_
  have k2 := h2
  have lt2 : ∀ x ∈ p2, x.block < W.heap.size := by obtain ⟨m, hm⟩ := k2; exact DataW.trod_lt m _ _ _ hm
  obtain ⟨y2, K2, o2⟩ := opened (opens_slice Try.underlying23 (by kernel_rfl) (B := 8) (by kernel_rfl) (opens_int Try.underlying3 (by kernel_rfl))) hsz (j := 2) rfl rfl h2
  obtain ⟨va2, vl2, vc2, rfl⟩ := okWide_slice Try.underlying23 (hval 2 23 v2 rfl rfl)
  obtain ⟨A11_, c12_, e13_, hl14_, hC15_⟩ := K2
  simp [Value.cells] at e13_
  obtain ⟨rfl, rfl, rfl⟩ := e13_
  have hk := Pure.DrawKeeps y0 y1 y2 o0 o1 o2
  refine (churnlaw10_DrawKeeps.calls _ _ y0 _ _ y1 _ _ y2 true W hC5_ hl4_ hC10_ hl9_ hC15_ hl14_ rfl hk).mono ?_
  rintro e W' ⟨rfl, bel0⟩
  have bel : Below W.heap.size W W' := bel0
  exact ⟨_, rfl, _, _, _, [], _, [], hW', trodAll_mk1 (shut_bool Try.underlying4 _), (trodAll_cons_mk (Below.trod laidOut (by kernel_rfl) (of_decide_eq_true (by kernel_rfl)) k0 bel lt0) (trodAll_cons_mk (Below.trod laidOut (by kernel_rfl) (of_decide_eq_true (by kernel_rfl)) k1 bel lt1) (trodAll_cons_mk (Below.trod laidOut (by kernel_rfl) (of_decide_eq_true (by kernel_rfl)) k2 bel lt2) trodAll_mk0))), rfl, bel.frame _, fun h => by cases h⟩
theorem over : Rows.drawKeepsRow.holds Try.pinned (OpenSpec.ofChange Rows.drawKeepsSpec) :=
  OpenClaim.holds_of_wide 8 Try.f8 rfl rfl rfl rfl rfl rfl rfl ⟨rfl, rfl, rfl, rfl, rfl⟩ rfl rfl rfl rfl rfl (by kernel_rfl) Try.func8 (by kernel_rfl)
    (of_decide_eq_true (by kernel_rfl)) (by unfold Func.isWrapper; first | (rw [if_pos (by decide +kernel)]; kernel_rfl) | (rw [if_neg (by decide +kernel)]; exact ⟨rfl, rfl⟩))
    (fun os started H enc _ => lifted os started H enc)
theorem proved : Rows.DrawKeepsSaid := over
#print axioms proved
end Go.Proofs.Ytijnmfdpdjblbaa.drawKeeps
namespace Go.Proofs.Ytijnmfdpdjblbaa
/-- The row, under a short name, for the claim. -/
theorem drawKeeps_holds : Rows.DrawKeepsSaid := drawKeeps.proved
end Go.Proofs.Ytijnmfdpdjblbaa
