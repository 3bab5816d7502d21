/- Functions of the program as plain Lean functions, each with a proof that its call comes to just these answers, and the row that joins them to the given statement; no condition beside the statement's own. Written for this claim by this session's programs (pf.py, pack.py) over the kit's print. -/
import Derived.Test.YtbnifpfnjhdenaaRows
import Derived.WalkKit
import Derived.ProofKit
import Derived.OpenShut
import Derived.ShutString
import Derived.ChangeOld
import Derived.Below
import Derived.SizedLaws
import Derived.Test.YtbnifpfnjhdenaaZRiffleCounts0
import Derived.Test.YtbnifpfnjhdenaaZRiffleCounts1
import Derived.Test.YtbnifpfnjhdenaaZRiffleCounts2
import Derived.Test.YtbnifpfnjhdenaaZRiffleCounts3
import Derived.Test.YtbnifpfnjhdenaaZRiffleCounts4
import Derived.Test.YtbnifpfnjhdenaaZRiffleCounts5
import Derived.Test.YtbnifpfnjhdenaaZRiffleCounts6
import Derived.Test.YtbnifpfnjhdenaaZRiffleCounts7
import Derived.Test.YtbnifpfnjhdenaaZRiffleCounts8
import Derived.Test.YtbnifpfnjhdenaaZRiffleCounts9
set_option linter.unusedVariables false
set_option linter.unusedSimpArgs false
namespace Go.Proofs.Ytbnifpfnjhdenaa.riffleCounts
open Go.ChangeShapes Go.WideShapes Go.ChangeAt Go.RowKit Go.Proofs.YtbnifpfnjhdenaaW.PrintWords Go.Proofs.Ytbnifpfnjhdenaa.Op Go.Proofs.Ytbnifpfnjhdenaa.Q Go.Proofs.Ytbnifpfnjhdenaa.Pl
open Go.ChangeMaps (open_string shut_string)
theorem own:ownKnob Try.prog.godebug=none:=by kernel_rfl
theorem laidOut:laidOutB Try.prog=true:=by kernel_rfl
set_option maxRecDepth 100000 in
set_option maxHeartbeats 16000000 in
theorem lifted (os:Os) (started:os.Started) (H:Type) (enc:TypeId×Value→H) :
    ReturnsInHanded {} Try.checked os 8 .any (Rows.riffleCountsSpec.pre6 enc Try.prog Try.f8 Rows.riffleCountsRow.domain false) (Rows.riffleCountsSpec.post enc Try.prog Try.f8 false true false false):=by
  refine returnsInHanded_of_change_sized (C:=Try.checked) own started (by kernel_rfl) Try.func8
    (ChangeSpec.witness6 (enc:=enc) (C:=Try.checked) false ⟨#[],#[.int .u8 0,.agg (Array.replicate 18 (.int .u8 0))],[]⟩ 8 (by kernel_rfl) (by kernel_rfl) (by kernel_rfl) (by kernel_rfl)) ?_
  intro W base args ds gs before hval0 hW hcnd hsz0 _
  have hsz:(DataW.weightsEach Try.prog (Try.f8.params.toList ++ Rows.riffleCountsSpec.plain.varTypes Try.prog) (ds ++ gs)).all (·≤reachBytes)=true:=hsz0
  have hval:∀ (j:Nat) t v,Try.f8.params[j]? = some t→args[j]? = some v→Value.okWide Try.prog W .any base t v:=hval0
  have hW':=hW
  obtain⟨p,q,hA0,hV,rfl,hfz,hnd⟩:=hW
  have hA:DataW.TrodAll enc Try.prog W 0 (fun _=>true) true Try.f8.params.toList args.toList ds p:=hA0
  rw[Try.params8] at hA hval hsz
  obtain⟨v0,vs0,d0,ds0,p0,q0,hargs,rfl,rfl,h0,r0⟩:=trodAll_cons hA
  obtain⟨v1,vs1,d1,ds1,p1,q1,rfl,rfl,rfl,h1,r1⟩:=trodAll_cons r0
  obtain⟨rfl,rfl,rfl⟩:=trodAll_nil r1
  obtain rfl:args = #[v0,v1]:=by cases args;simp_all
  obtain⟨rfl,rfl⟩:=trodVars_none hV
  have k0:=h0
  have lt0:∀ x ∈ p0,x.block<W.heap.size:=by obtain⟨m,hm⟩:=k0;exact DataW.trod_lt m _ _ _ hm
  obtain⟨y0,K0,o0⟩:=opened (opens_int Try.underlying5 (by kernel_rfl)) hsz (j:=0) rfl rfl h0
  obtain⟨va0,rfl⟩:=okWide_int Try.underlying5 (hval 0 5 v0 rfl rfl)
  have k1:=h1
  have lt1:∀ x ∈ p1,x.block<W.heap.size:=by obtain⟨m,hm⟩:=k1;exact DataW.trod_lt m _ _ _ hm
  obtain⟨y1,K1,o1⟩:=opened (opens_nums (n:=18) (e:=5) (k:=.u8) (by kernel_rfl) Try.underlying5 (by kernel_rfl) (by kernel_rfl)) hsz (j:=1) rfl rfl h1
  obtain⟨cs1,rfl,-⟩:=okWide_array (n:=18) (e:=5) (by kernel_rfl) (hval 1 46 v1 rfl rfl)
  obtain rfl:va0=y0:=by
    have e_:=K0
    simp only[Kd.int,Kd.scalar] at e_
    simpa [Value.cells] using e_
  obtain rfl:cs1=(y1.map (Value.int .u8)).toArray:=by
    obtain⟨-,e_⟩:=K1
    cases cs1;simpa [Value.cells] using e_
  have hk:=Pure.RiffleCounts va0 y1 (wf_u8 o0) (fun x hx=>wf_u8 (o1.2 x hx)) o1.1
  refine(rc_calls va0 y1 W hk o1.1).mono ?_
  rintro e W' ⟨rfl,bel0⟩
  have bel:Below W.heap.size W W':=bel0
  exact⟨_,rfl,_,_,_,[],_,[],hW',trodAll_mk1 (shut_bool Try.underlying4 _),(trodAll_cons_mk (Below.trod laidOut (by kernel_rfl) (of_decide_eq_true (by kernel_rfl)) k0 bel lt0) (trodAll_cons_mk (Below.trod laidOut (by kernel_rfl) (of_decide_eq_true (by kernel_rfl)) k1 bel lt1) trodAll_mk0)),rfl,bel.frame _,fun h=>by cases h⟩
theorem over:Rows.riffleCountsRow.holds Try.pinned (OpenSpec.ofChange Rows.riffleCountsSpec) :=
  OpenClaim.holds_of_wide 8 Try.f8 rfl rfl rfl rfl rfl rfl rfl ⟨rfl,rfl,rfl,rfl,rfl⟩ rfl rfl rfl rfl rfl (by kernel_rfl) Try.func8 (by kernel_rfl)
    (of_decide_eq_true (by kernel_rfl)) (by unfold Func.isWrapper;first|(rw[if_pos (by decide +kernel)];kernel_rfl)|(rw[if_neg (by decide +kernel)];exact⟨rfl,rfl⟩))
    (fun os started H enc _=>lifted os started H enc)
theorem proved:Rows.RiffleCountsSaid:=over
#print axioms proved
end Go.Proofs.Ytbnifpfnjhdenaa.riffleCounts
namespace Go.Proofs.Ytbnifpfnjhdenaa
theorem riffleCounts_holds:Rows.RiffleCountsSaid:=riffleCounts.proved
end Go.Proofs.Ytbnifpfnjhdenaa
