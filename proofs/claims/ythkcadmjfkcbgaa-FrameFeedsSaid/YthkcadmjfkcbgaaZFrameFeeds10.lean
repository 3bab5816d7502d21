/- Functions of the program as plain Lean functions, each with a proof that its call comes to just these answers, and the row that joins them to the given statement; no condition beside the statement's own. Written for this claim by this session's programs (pf.py, pack.py) over the kit's print. -/
import Derived.Test.YthkcadmjfkcbgaaRows
import Derived.WalkKit
import Derived.ProofKit
import Derived.OpenShut
import Derived.ShutString
import Derived.ChangeOld
import Derived.Below
import Derived.SizedLaws
import Derived.Test.YthkcadmjfkcbgaaZFrameFeeds0
import Derived.Test.YthkcadmjfkcbgaaZFrameFeeds1
import Derived.Test.YthkcadmjfkcbgaaZFrameFeeds2
import Derived.Test.YthkcadmjfkcbgaaZFrameFeeds3
import Derived.Test.YthkcadmjfkcbgaaZFrameFeeds4
import Derived.Test.YthkcadmjfkcbgaaZFrameFeeds5
import Derived.Test.YthkcadmjfkcbgaaZFrameFeeds6
import Derived.Test.YthkcadmjfkcbgaaZFrameFeeds7
import Derived.Test.YthkcadmjfkcbgaaZFrameFeeds8
import Derived.Test.YthkcadmjfkcbgaaZFrameFeeds9
set_option linter.unusedVariables false
set_option linter.unusedSimpArgs false
namespace Go.Proofs.Ythkcadmjfkcbgaa.frameFeeds
open Go.ChangeShapes Go.WideShapes Go.ChangeAt Go.RowKit Go.Proofs.YthkcadmjfkcbgaaW.PrintWords Go.Proofs.Ythkcadmjfkcbgaa.Op Go.Proofs.Ythkcadmjfkcbgaa.Q Go.Proofs.Ythkcadmjfkcbgaa.Pl
open Go.ChangeMaps (open_string shut_string)
theorem isSlice : Try.prog.underlying 24 = some (.slice 30) := by kernel_rfl
theorem own : ownKnob Try.prog.godebug = none := by kernel_rfl
theorem laidOut : laidOutB Try.prog = true := by kernel_rfl
set_option maxRecDepth 100000 in
set_option maxHeartbeats 16000000 in
theorem lifted (os : Os) (started : os.Started) (H : Type) (enc : TypeId × Value → H) :
    ReturnsInHanded {} Try.checked os 7 .any (Rows.frameFeedsSpec.pre6 enc Try.prog Try.f7 Rows.frameFeedsRow.domain false) (Rows.frameFeedsSpec.post enc Try.prog Try.f7 false true false false) := by
  refine returnsInHanded_of_change_sized (C := Try.checked) own started (by kernel_rfl) Try.func7
    (ChangeSpec.witness6 (enc := enc) (C := Try.checked) false ⟨#[], #[.slice none 0 0], []⟩ 8 (by kernel_rfl) (by kernel_rfl) (by kernel_rfl) (by kernel_rfl)) ?_
  intro W base args ds gs before hval0 hW hcnd hsz0 _
  have hsz : (DataW.weightsEach Try.prog (Try.f7.params.toList ++ Rows.frameFeedsSpec.plain.varTypes Try.prog) (ds ++ gs)).all (· ≤ reachBytes) = true := hsz0
  have hval : ∀ (j : Nat) t v, Try.f7.params[j]? = some t → args[j]? = some v → Value.okWide Try.prog W .any base t v := hval0
  have hW' := hW
  obtain ⟨p, q, hA0, hV, rfl, hfz, hnd⟩ := hW
  have hA : DataW.TrodAll enc Try.prog W 0 (fun _ => true) true Try.f7.params.toList args.toList ds p := hA0
  rw [Try.params7] at hA hval hsz
  obtain ⟨v0, vs0, d0, ds0, p0, q0, hargs, rfl, rfl, h0, r0⟩ := trodAll_cons hA
  obtain ⟨rfl, rfl, rfl⟩ := trodAll_nil r0
  obtain rfl : args = #[v0] := by cases args; simp_all
  obtain ⟨rfl, rfl⟩ := trodVars_none hV
  have k0 := h0
  have lt0 : ∀ x ∈ p0, x.block < W.heap.size := by obtain ⟨m, hm⟩ := k0; exact DataW.trod_lt m _ _ _ hm
  obtain ⟨y0, K0, o0⟩ := opened (opens_slice isSlice (by kernel_rfl) (B := 24) (by kernel_rfl) (opens_slice Try.underlying30 (by kernel_rfl) (B := 1) (by kernel_rfl) (opens_int Try.underlying5 (by kernel_rfl)))) hsz (j := 0) rfl rfl h0
  obtain ⟨va0, vl0, vc0, rfl⟩ := okWide_slice isSlice (hval 0 24 v0 rfl rfl)
  obtain ⟨A1_, c2_, e3_, hl4_, hC5_⟩ := K0
  simp [Value.cells] at e3_
  obtain ⟨rfl, rfl, rfl⟩ := e3_
  refine (feeds_calls _ _ y0 W hC5_ hl4_ (by have := o0.2.1; omega) (fun s hs => ?_)).mono ?_
  · have h4 := o0.2.2 s hs
    exact ⟨fun x hx => wf_u8 (h4.2.2 x hx), by have := h4.2.1; omega⟩
  rintro e W' ⟨rfl, bel0⟩
  have bel : Below W.heap.size W W' := bel0
  exact ⟨_, rfl, _, _, _, [], _, [], hW', trodAll_mk1 (shut_bool Try.underlying4 _), (trodAll_cons_mk (Below.trod laidOut (by kernel_rfl) (of_decide_eq_true (by kernel_rfl)) k0 bel lt0) trodAll_mk0), rfl, bel.frame _, fun h => by cases h⟩
theorem over : Rows.frameFeedsRow.holds Try.pinned (OpenSpec.ofChange Rows.frameFeedsSpec) :=
  OpenClaim.holds_of_wide 7 Try.f7 rfl rfl rfl rfl rfl rfl rfl ⟨rfl, rfl, rfl, rfl, rfl⟩ rfl rfl rfl rfl rfl (by kernel_rfl) Try.func7 (by kernel_rfl)
    (of_decide_eq_true (by kernel_rfl)) (by unfold Func.isWrapper; first | (rw [if_pos (by decide +kernel)]; kernel_rfl) | (rw [if_neg (by decide +kernel)]; exact ⟨rfl, rfl⟩))
    (fun os started H enc _ => lifted os started H enc)
theorem proved : Rows.FrameFeedsSaid := over
#print axioms proved
end Go.Proofs.Ythkcadmjfkcbgaa.frameFeeds
namespace Go.Proofs.Ythkcadmjfkcbgaa
theorem frameFeeds_holds : Rows.FrameFeedsSaid := frameFeeds.proved
end Go.Proofs.Ythkcadmjfkcbgaa
