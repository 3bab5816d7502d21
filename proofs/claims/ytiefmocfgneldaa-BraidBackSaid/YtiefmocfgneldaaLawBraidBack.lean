/- Functions of the program as plain Lean functions, each with a proof that its call comes to just these answers, or the row that joins them to the given statement; no condition beside the statement's own. Written for this claim by pf.py, this session's program over the kit's print. -/
import Derived.Test.YtiefmocfgneldaaRows
import Derived.Test.YtiefmocfgneldaaQLBraidBack
import Derived.Test.YtiefmocfgneldaaPureBraidBack
import Derived.Test.YtiefmocfgneldaaOpen
import Derived.WalkKit
import Derived.ProofKit
import Derived.OpenShut
import Derived.ShutString
import Derived.ChangeOld
import Derived.Below
import Derived.SizedLaws
set_option linter.unusedVariables false
set_option linter.unusedSimpArgs false
namespace Go.Proofs.Ytiefmocfgneldaa.braidBack
open Go.ChangeShapes Go.WideShapes Go.ChangeAt Go.RowKit Go.Proofs.YtiefmocfgneldaaW.PrintWords Go.Proofs.Ytiefmocfgneldaa.Op Go.Proofs.Ytiefmocfgneldaa.Q
open Go.ChangeMaps (open_string shut_string)
theorem own : ownKnob Try.prog.godebug = none := by kernel_rfl
theorem laidOut : laidOutB Try.prog = true := by kernel_rfl
set_option maxRecDepth 100000 in
set_option maxHeartbeats 1000000 in
theorem lifted (os : Os) (started : os.Started) (H : Type) (enc : TypeId × Value → H) :
    ReturnsInHanded {} Try.checked os 6 .any (Rows.braidBackSpec.pre6 enc Try.prog Try.f6 Rows.braidBackRow.domain false) (Rows.braidBackSpec.post enc Try.prog Try.f6 false true false false) := by
  refine returnsInHanded_of_change_sized (C := Try.checked) own started (by kernel_rfl) Try.func6
    (ChangeSpec.witness6 (enc := enc) (C := Try.checked) false ⟨#[], #[.agg #[.slice none 0 0, .slice none 0 0, .slice none 0 0, .slice none 0 0]], []⟩ 8 (by kernel_rfl) (by kernel_rfl) (by kernel_rfl) (by kernel_rfl)) ?_
  intro W base args ds gs before hval0 hW hcnd hsz0 _
  have hsz : (DataW.weightsEach Try.prog (Try.f6.params.toList ++ Rows.braidBackSpec.plain.varTypes Try.prog) (ds ++ gs)).all (· ≤ reachBytes) = true := hsz0
  have hval : ∀ (j : Nat) t v, Try.f6.params[j]? = some t → args[j]? = some v → Value.okWide Try.prog W .any base t v := hval0
  have hW' := hW
  obtain ⟨p, q, hA0, hV, rfl, hfz, hnd⟩ := hW
  have hA : DataW.TrodAll enc Try.prog W 0 (fun _ => true) true Try.f6.params.toList args.toList ds p := hA0
  rw [Try.params6] at hA hval hsz
  obtain ⟨v0, vs0, d0, ds0, p0, q0, hargs, rfl, rfl, h0, r0⟩ := trodAll_cons hA
  obtain ⟨rfl, rfl, rfl⟩ := trodAll_nil r0
  obtain rfl : args = #[v0] := by cases args; simp_all
  obtain ⟨rfl, rfl⟩ := trodVars_none hV
  have k0 := h0
  have lt0 : ∀ x ∈ p0, x.block < W.heap.size := by obtain ⟨m, hm⟩ := k0; exact DataW.trod_lt m _ _ _ hm
  obtain ⟨⟨y0_0, y0_1, y0_2, y0_3⟩, K0, o0⟩ := opened (opens_struct (ts := [22, 22, 22, 22]) Try.underlying52 (by kernel_rfl) (by kernel_rfl) (by kernel_rfl) (opensL_cons (opens_slice Try.underlying22 (by kernel_rfl) (B := 8) (by kernel_rfl) (opens_int Try.underlying3 (by kernel_rfl))) (opensL_cons (opens_slice Try.underlying22 (by kernel_rfl) (B := 8) (by kernel_rfl) (opens_int Try.underlying3 (by kernel_rfl))) (opensL_cons (opens_slice Try.underlying22 (by kernel_rfl) (B := 8) (by kernel_rfl) (opens_int Try.underlying3 (by kernel_rfl))) (opensL_one (opens_slice Try.underlying22 (by kernel_rfl) (B := 8) (by kernel_rfl) (opens_int Try.underlying3 (by kernel_rfl)))))))) hsz (j := 0) rfl rfl h0
  obtain ⟨cs0, rfl, _⟩ := okWide_struct Try.underlying52 (hval 0 52 v0 rfl rfl)
  obtain ⟨ca1_, cb2_, hc3_, ka4_, kb5_⟩ := K0
  obtain ⟨A6_, c7_, e8_, hl9_, hC10_⟩ := ka4_
  obtain ⟨ca11_, cb12_, hc13_, ka14_, kb15_⟩ := kb5_
  obtain ⟨A16_, c17_, e18_, hl19_, hC20_⟩ := ka14_
  obtain ⟨ca21_, cb22_, hc23_, ka24_, kb25_⟩ := kb15_
  obtain ⟨A26_, c27_, e28_, hl29_, hC30_⟩ := ka24_
  obtain ⟨A31_, c32_, e33_, hl34_, hC35_⟩ := kb25_
  obtain rfl : cs0 = #[.slice A6_ y0_0.length c7_, .slice A16_ y0_1.length c17_, .slice A26_ y0_2.length c27_, .slice A31_ y0_3.length c32_] := by
    have e_ := hc3_
    simp only [e8_, hc13_, e18_, hc23_, e28_, e33_] at e_
    cases cs0; simpa [Value.cells] using e_
  obtain ⟨k, hk⟩ := Pure.BraidBack y0_0 y0_1 y0_2 y0_3 o0.1 o0.2.1 o0.2.2.1 o0.2.2.2
  refine (churnlaw12_BraidBack.calls k A6_ c7_ y0_0 A16_ c17_ y0_1 A26_ c27_ y0_2 A31_ c32_ y0_3 true W hC10_ hl9_ hC20_ hl19_ hC30_ hl29_ hC35_ hl34_ hk).mono ?_
  rintro e W' ⟨rfl, bel0⟩
  have bel : Below W.heap.size W W' := bel0
  exact ⟨_, rfl, _, _, _, [], _, [], hW', trodAll_mk1 (shut_bool Try.underlying4 _), (trodAll_cons_mk (Below.trod laidOut (by kernel_rfl) (of_decide_eq_true (by kernel_rfl)) k0 bel lt0) trodAll_mk0), rfl, bel.frame _, fun h => by cases h⟩
theorem over : Rows.braidBackRow.holds Try.pinned (OpenSpec.ofChange Rows.braidBackSpec) :=
  OpenClaim.holds_of_wide 6 Try.f6 rfl rfl rfl rfl rfl rfl rfl ⟨rfl, rfl, rfl, rfl, rfl⟩ rfl rfl rfl rfl rfl (by kernel_rfl) Try.func6 (by kernel_rfl)
    (of_decide_eq_true (by kernel_rfl)) (by unfold Func.isWrapper; first | (rw [if_pos (by decide +kernel)]; kernel_rfl) | (rw [if_neg (by decide +kernel)]; exact ⟨rfl, rfl⟩))
    (fun os started H enc _ => lifted os started H enc)
theorem proved : Rows.BraidBackSaid := over
#print axioms proved
end Go.Proofs.Ytiefmocfgneldaa.braidBack
namespace Go.Proofs.Ytiefmocfgneldaa
/-- The row, under a short name, for the claim. -/
theorem braidBack_holds : Rows.BraidBackSaid := braidBack.proved
end Go.Proofs.Ytiefmocfgneldaa
