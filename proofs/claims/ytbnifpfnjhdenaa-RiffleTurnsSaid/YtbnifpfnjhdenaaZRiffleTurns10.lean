/- Functions of the program as plain Lean functions, each with a proof that its call comes to just these answers, and the row that joins them to the given statement; no condition beside the statement's own. Written for this claim by this session's programs (pf.py, pack.py) over the kit's print. -/
import Derived.Test.YtbnifpfnjhdenaaRows
import Derived.WalkKit
import Derived.ProofKit
import Derived.OpenShut
import Derived.ShutString
import Derived.ChangeOld
import Derived.Below
import Derived.SizedLaws
import Derived.Test.YtbnifpfnjhdenaaZRiffleTurns0
import Derived.Test.YtbnifpfnjhdenaaZRiffleTurns1
import Derived.Test.YtbnifpfnjhdenaaZRiffleTurns2
import Derived.Test.YtbnifpfnjhdenaaZRiffleTurns3
import Derived.Test.YtbnifpfnjhdenaaZRiffleTurns4
import Derived.Test.YtbnifpfnjhdenaaZRiffleTurns5
import Derived.Test.YtbnifpfnjhdenaaZRiffleTurns6
import Derived.Test.YtbnifpfnjhdenaaZRiffleTurns7
import Derived.Test.YtbnifpfnjhdenaaZRiffleTurns8
import Derived.Test.YtbnifpfnjhdenaaZRiffleTurns9
set_option linter.unusedVariables false
set_option linter.unusedSimpArgs false
namespace Go.Proofs.Ytbnifpfnjhdenaa.riffleTurns
open Go.ChangeShapes Go.WideShapes Go.ChangeAt Go.RowKit Go.Proofs.YtbnifpfnjhdenaaW.PrintWords Go.Proofs.Ytbnifpfnjhdenaa.Op Go.Proofs.Ytbnifpfnjhdenaa.Q
open Go.ChangeMaps (open_string shut_string)
theorem own:ownKnob Try.prog.godebug=none:=by kernel_rfl
theorem laidOut:laidOutB Try.prog=true:=by kernel_rfl
set_option maxRecDepth 100000 in
set_option maxHeartbeats 16000000 in
theorem lifted (os:Os) (started:os.Started) (H:Type) (enc:TypeId×Value→H) :
    ReturnsInHanded {} Try.checked os 5 .any (Rows.riffleTurnsSpec.pre6 enc Try.prog Try.f5 Rows.riffleTurnsRow.domain false) (Rows.riffleTurnsSpec.post enc Try.prog Try.f5 false true false false):=by
  refine returnsInHanded_of_change_sized (C:=Try.checked) own started (by kernel_rfl) Try.func5
    (ChangeSpec.witness6 (enc:=enc) (C:=Try.checked) false ⟨#[],#[.agg #[.slice none 0 0,.int .i64 0,.int .i64 0,.slice none 0 0]],[]⟩ 8 (by kernel_rfl) (by kernel_rfl) (by kernel_rfl) (by kernel_rfl)) ?_
  intro W base args ds gs before hval0 hW hcnd hsz0 _
  have hsz:(DataW.weightsEach Try.prog (Try.f5.params.toList ++ Rows.riffleTurnsSpec.plain.varTypes Try.prog) (ds ++ gs)).all (·≤reachBytes)=true:=hsz0
  have hval:∀ (j:Nat) t v,Try.f5.params[j]? = some t→args[j]? = some v→Value.okWide Try.prog W .any base t v:=hval0
  have hW':=hW
  obtain⟨p,q,hA0,hV,rfl,hfz,hnd⟩:=hW
  have hA:DataW.TrodAll enc Try.prog W 0 (fun _=>true) true Try.f5.params.toList args.toList ds p:=hA0
  rw[Try.params5] at hA hval hsz
  obtain⟨v0,vs0,d0,ds0,p0,q0,hargs,rfl,rfl,h0,r0⟩:=trodAll_cons hA
  obtain⟨rfl,rfl,rfl⟩:=trodAll_nil r0
  obtain rfl:args = #[v0]:=by cases args;simp_all
  obtain⟨rfl,rfl⟩:=trodVars_none hV
  have k0:=h0
  have lt0:∀ x ∈ p0,x.block<W.heap.size:=by obtain⟨m,hm⟩:=k0;exact DataW.trod_lt m _ _ _ hm
  obtain⟨⟨y0_0,y0_1,y0_2,y0_3⟩,K0,o0⟩:=opened (opens_struct (ts:=[23,3,3,24]) Try.underlying38 (by kernel_rfl) (by kernel_rfl) (by kernel_rfl) (opensL_cons (opens_slice Try.underlying23 (by kernel_rfl) (B:=1) (by kernel_rfl) (opens_int Try.underlying5 (by kernel_rfl))) (opensL_cons (opens_int Try.underlying3 (by kernel_rfl)) (opensL_cons (opens_int Try.underlying3 (by kernel_rfl)) (opensL_one (opens_slice Try.underlying24 (by kernel_rfl) (B:=8) (by kernel_rfl) (opens_int Try.underlying3 (by kernel_rfl)))))))) hsz (j:=0) rfl rfl h0
  obtain⟨cs0,rfl,_⟩:=okWide_struct Try.underlying38 (hval 0 38 v0 rfl rfl)
  obtain⟨ca1_,cb2_,hc3_,ka4_,kb5_⟩:=K0
  obtain⟨A6_,c7_,e8_,hl9_,hC10_⟩:=ka4_
  obtain⟨ca11_,cb12_,hc13_,ka14_,kb15_⟩:=kb5_
  have e16_:=ka14_
  simp only[Kd.int,Kd.scalar] at e16_
  obtain⟨ca17_,cb18_,hc19_,ka20_,kb21_⟩:=kb15_
  have e22_:=ka20_
  simp only[Kd.int,Kd.scalar] at e22_
  obtain⟨A23_,c24_,e25_,hl26_,hC27_⟩:=kb21_
  obtain rfl:cs0 = #[.slice A6_ y0_0.length c7_,.int .i64 y0_1,.int .i64 y0_2,.slice A23_ y0_3.length c24_]:=by
    have e_:=hc3_
    simp only[e8_,hc13_,e16_,hc19_,e22_,e25_] at e_
    cases cs0;simpa [Value.cells] using e_
  obtain⟨k,hk⟩:=Pure.RiffleTurns y0_0 y0_1 y0_2 y0_3 o0.1 o0.2.1 o0.2.2.1 o0.2.2.2
  refine(churnlaw13_RiffleTurns.calls k _ _ y0_0 y0_1 y0_2 _ _ y0_3 true W hC10_ hl9_ hC27_ hl26_ rfl hk).mono ?_
  rintro e W' ⟨rfl,bel0⟩
  have bel:Below W.heap.size W W':=bel0
  exact⟨_,rfl,_,_,_,[],_,[],hW',trodAll_mk1 (shut_bool Try.underlying4 _),(trodAll_cons_mk (Below.trod laidOut (by kernel_rfl) (of_decide_eq_true (by kernel_rfl)) k0 bel lt0) trodAll_mk0),rfl,bel.frame _,fun h=>by cases h⟩
theorem over:Rows.riffleTurnsRow.holds Try.pinned (OpenSpec.ofChange Rows.riffleTurnsSpec) :=
  OpenClaim.holds_of_wide 5 Try.f5 rfl rfl rfl rfl rfl rfl rfl ⟨rfl,rfl,rfl,rfl,rfl⟩ rfl rfl rfl rfl rfl (by kernel_rfl) Try.func5 (by kernel_rfl)
    (of_decide_eq_true (by kernel_rfl)) (by unfold Func.isWrapper;first|(rw[if_pos (by decide +kernel)];kernel_rfl)|(rw[if_neg (by decide +kernel)];exact⟨rfl,rfl⟩))
    (fun os started H enc _=>lifted os started H enc)
theorem proved:Rows.RiffleTurnsSaid:=over
#print axioms proved
end Go.Proofs.Ytbnifpfnjhdenaa.riffleTurns
namespace Go.Proofs.Ytbnifpfnjhdenaa
theorem riffleTurns_holds:Rows.RiffleTurnsSaid:=riffleTurns.proved
end Go.Proofs.Ytbnifpfnjhdenaa
