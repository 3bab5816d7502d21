/- Functions of the program as plain Lean functions, each with a proof that its call comes to just these answers, and the row that joins them to the given statement; no condition beside the statement's own. Written for this claim by this session's programs (pf.py, pack.py) over the kit's print. -/
import Derived.SizedLaws
import Derived.ChangeSlices
import Derived.Deep.Slices
import Derived.ChangeArms
import Derived.DataReads
import Derived.Test.YtbnifpfnjhdenaaZRiffleCounts0
import Derived.Test.YtbnifpfnjhdenaaZRiffleCounts1
section
set_option linter.unusedVariables false
set_option linter.unusedSimpArgs false
namespace Go.Proofs.Ytbnifpfnjhdenaa.Op
open Go.RowKit Go.ChangeShapes Go.WideShapes Go.Deep Go.Proofs.YtbnifpfnjhdenaaW.PrintWords
def Opens (P:Program) (T:TypeId) {α:Type} (d:Kd α) (ok:α→Prop):Prop :=
 P.cellsOf T=d.sz∧∀ {H:Type} (enc:TypeId×Value→H) (w:World) (base:Nat) (spare:Nat→Bool) (held:Bool) (fuel:Nat) (cs:List Value) (x:DataW H×List MemPlace),
  DataW.trod enc P w base spare held fuel T cs=some x→(∀ n ∈ x.1.weights P T,n≤reachBytes)→∃ y:α,d.K w y cs∧ok y
theorem opens_int {P:Program} {T:TypeId} {k:IntKind} (h:P.underlying T=some (.int k)) (hc:P.cellsOf T=1):Opens P T (Kd.int k) (fun x=>(Lit.int k x).wf=true):=by
 refine⟨hc,fun enc w base spare held fuel cs x ht _=>?_⟩
 obtain⟨n,rfl,_,hw⟩:=DataW.trod_int h ht
 exact⟨n,rfl,hw⟩
theorem opened {P:Program} {T:TypeId} {α:Type} {d:Kd α} {ok:α→Prop} (ho:Opens P T d ok) {H:Type} {enc:TypeId×Value→H} {w:World} {base:Nat} {spare:Nat→Bool} {held:Bool} {v:Value} {x:DataW H} {p:List MemPlace} {ts:List TypeId} {ds:List (DataW H)} {j:Nat}
  (hsz:(DataW.weightsEach P ts ds).all (·≤reachBytes)=true) (ht:ts[j]? = some T) (hd:ds[j]? = some x) (h:DataW.Trod enc P w base spare held T v x p):∃ y:α,d.K w y v.cells.toList∧ok y:=by
 obtain⟨fuel,hf⟩:=h
 exact ho.2 enc w base spare held fuel _ _ hf (fun n hn=>by simpa using List.all_eq_true.1 hsz _ (DataW.weights_mem_each ht hd n hn))
end Go.Proofs.Ytbnifpfnjhdenaa.Op
end
