/- Functions of the program as plain Lean functions, each with a proof that its call comes to just these answers, and the row that joins them to the given statement; no condition beside the statement's own. Written for this claim by this session's programs (pf.py, pack.py) over the kit's print. -/
import Derived.Test.YtbnifpfnjhdenaaRows
import Derived.WalkKit
import Derived.ProofKit
import Derived.OpenShut
import Derived.ShutString
import Derived.ChangeOld
import Derived.Below
import Derived.SizedLaws
import Derived.Test.YtbnifpfnjhdenaaZRiffleAlone0
import Derived.Test.YtbnifpfnjhdenaaZRiffleAlone1
import Derived.Test.YtbnifpfnjhdenaaZRiffleAlone2
import Derived.Test.YtbnifpfnjhdenaaZRiffleAlone3
import Derived.Test.YtbnifpfnjhdenaaZRiffleAlone4
import Derived.Test.YtbnifpfnjhdenaaZRiffleAlone5
import Derived.Test.YtbnifpfnjhdenaaZRiffleAlone6
import Derived.Test.YtbnifpfnjhdenaaZRiffleAlone7
import Derived.Test.YtbnifpfnjhdenaaZRiffleAlone8
import Derived.Test.YtbnifpfnjhdenaaZRiffleAlone9
set_option linter.unusedVariables false
set_option linter.unusedSimpArgs false
namespace Go.Proofs.Ytbnifpfnjhdenaa.riffleAlone
open Go.ChangeShapes Go.WideShapes Go.ChangeAt Go.RowKit Go.Proofs.YtbnifpfnjhdenaaW.PrintWords Go.Proofs.Ytbnifpfnjhdenaa.Op Go.Proofs.Ytbnifpfnjhdenaa.Q Go.Proofs.Ytbnifpfnjhdenaa.Pl
open Go.ChangeMaps (open_string shut_string)
noncomputable def fields:Array Field:=match Try.prog.underlying 48 with|some (.struct fs)=>fs|_=>#[]
theorem isStruct:Try.prog.underlying 48=some (.struct fields):=by kernel_rfl
theorem own:ownKnob Try.prog.godebug=none:=by kernel_rfl
theorem laidOut:laidOutB Try.prog=true:=by kernel_rfl
set_option maxRecDepth 100000 in
set_option maxHeartbeats 16000000 in
theorem lifted (os:Os) (started:os.Started) (H:Type) (enc:TypeId×Value→H) :
    ReturnsInHanded {} Try.checked os 7 .any (Rows.riffleAloneSpec.pre6 enc Try.prog Try.f7 Rows.riffleAloneRow.domain false) (Rows.riffleAloneSpec.post enc Try.prog Try.f7 false true false false):=by
  refine returnsInHanded_of_change_sized (C:=Try.checked) own started (by kernel_rfl) Try.func7
    (ChangeSpec.witness6 (enc:=enc) (C:=Try.checked) false ⟨#[],#[.agg (#[.slice none 0 0] ++ Array.replicate 18 (.int .u8 0) ++ #[.slice none 0 0,.int .i64 0])],[]⟩ 8 (by kernel_rfl) (by kernel_rfl) (by kernel_rfl) (by kernel_rfl)) ?_
  intro W base args ds gs before hval0 hW hcnd hsz0 _
  have hsz:(DataW.weightsEach Try.prog (Try.f7.params.toList ++ Rows.riffleAloneSpec.plain.varTypes Try.prog) (ds ++ gs)).all (·≤reachBytes)=true:=hsz0
  have hval:∀ (j:Nat) t v,Try.f7.params[j]? = some t→args[j]? = some v→Value.okWide Try.prog W .any base t v:=hval0
  have hW':=hW
  obtain⟨p,q,hA0,hV,rfl,hfz,hnd⟩:=hW
  have hA:DataW.TrodAll enc Try.prog W 0 (fun _=>true) true Try.f7.params.toList args.toList ds p:=hA0
  rw[Try.params7] at hA hval hsz
  obtain⟨v0,vs0,d0,ds0,p0,q0,hargs,rfl,rfl,h0,r0⟩:=trodAll_cons hA
  obtain⟨rfl,rfl,rfl⟩:=trodAll_nil r0
  obtain rfl:args = #[v0]:=by cases args;simp_all
  obtain⟨rfl,rfl⟩:=trodVars_none hV
  have k0:=h0
  have lt0:∀ x ∈ p0,x.block<W.heap.size:=by obtain⟨m,hm⟩:=k0;exact DataW.trod_lt m _ _ _ hm
  obtain⟨⟨y0_0,y0_1,y0_2,y0_3⟩,K0,o0⟩:=opened (opens_struct (ts:=[23,46,24,3]) isStruct (by kernel_rfl) (by kernel_rfl) (by kernel_rfl) (opensL_cons (opens_slice Try.underlying23 (by kernel_rfl) (B:=1) (by kernel_rfl) (opens_int Try.underlying5 (by kernel_rfl))) (opensL_cons (opens_nums (n:=18) (e:=5) (k:=.u8) (by kernel_rfl) Try.underlying5 (by kernel_rfl) (by kernel_rfl)) (opensL_cons (opens_slice Try.underlying24 (by kernel_rfl) (B:=8) (by kernel_rfl) (opens_int Try.underlying3 (by kernel_rfl))) (opensL_one (opens_int Try.underlying3 (by kernel_rfl))))))) hsz (j:=0) rfl rfl h0
  obtain⟨cs0,rfl,-⟩:=okWide_struct isStruct (hval 0 48 v0 rfl rfl)
  obtain⟨ca1_,cb2_,hc3_,ka4_,kb5_⟩:=K0
  obtain⟨A6_,c7_,e8_,hl9_,hC10_⟩:=ka4_
  obtain⟨ca11_,cb12_,hc13_,ka14_,kb15_⟩:=kb5_
  obtain⟨hn_,e16_⟩:=ka14_
  obtain⟨ca17_,cb18_,hc19_,ka20_,kb21_⟩:=kb15_
  obtain⟨A23_,c24_,e25_,hl26_,hC27_⟩:=ka20_
  have e28_:=kb21_
  simp only[Kd.int,Kd.scalar] at e28_
  obtain rfl:cs0=(.slice A6_ y0_0.length c7_ ::(y0_1.map (Value.int .u8) ++ [.slice A23_ y0_2.length c24_,.int .i64 y0_3])).toArray:=by
    have e_:=hc3_
    simp only[e8_,hc13_,e16_,hc19_,e25_,e28_] at e_
    cases cs0;simpa [Value.cells] using e_
  dsimp only at o0
  obtain⟨k,o,s,e_,hk⟩:=Pure.RiffleAlone y0_0 y0_1 y0_2 y0_3 (fun x hx=>wf_u8 (o0.1.2.2 x hx)) (fun x hx=>wf_u8 (o0.2.1.2 x hx)) o0.2.1.1 (by omega)
  refine(ra_calls A6_ c7_ y0_0 y0_1 A23_ c24_ y0_2 y0_3 W hC10_ hl9_ hC27_ hl26_ k o s e_ hk o0.2.1.1 (by omega) (by omega)).mono ?_
  rintro e W' ⟨rfl,bel0⟩
  have bel:Below W.heap.size W W':=bel0
  exact⟨_,rfl,_,_,_,[],_,[],hW',trodAll_mk1 (shut_bool Try.underlying4 _),(trodAll_cons_mk (Below.trod laidOut (by kernel_rfl) (of_decide_eq_true (by kernel_rfl)) k0 bel lt0) trodAll_mk0),rfl,bel.frame _,fun h=>by cases h⟩
theorem over:Rows.riffleAloneRow.holds Try.pinned (OpenSpec.ofChange Rows.riffleAloneSpec) :=
  OpenClaim.holds_of_wide 7 Try.f7 rfl rfl rfl rfl rfl rfl rfl ⟨rfl,rfl,rfl,rfl,rfl⟩ rfl rfl rfl rfl rfl (by kernel_rfl) Try.func7 (by kernel_rfl)
    (of_decide_eq_true (by kernel_rfl)) (by unfold Func.isWrapper;first|(rw[if_pos (by decide +kernel)];kernel_rfl)|(rw[if_neg (by decide +kernel)];exact⟨rfl,rfl⟩))
    (fun os started H enc _=>lifted os started H enc)
theorem proved:Rows.RiffleAloneSaid:=over
#print axioms proved
end Go.Proofs.Ytbnifpfnjhdenaa.riffleAlone
namespace Go.Proofs.Ytbnifpfnjhdenaa
theorem riffleAlone_holds:Rows.RiffleAloneSaid:=riffleAlone.proved
end Go.Proofs.Ytbnifpfnjhdenaa
