/- Functions of the program as plain Lean functions, each with a proof that its call comes to just these answers, and the row that joins them to the given statement; no condition beside the statement's own. Written for this claim by this session's programs (pf.py, pack.py) over the kit's print. -/
import Derived.OpenShut
import Derived.Test.YtbnifpfnjhdenaaZRiffleAlone0
import Derived.Test.YtbnifpfnjhdenaaZRiffleAlone1
import Derived.Test.YtbnifpfnjhdenaaZRiffleAlone8
section
set_option linter.unusedVariables false
set_option linter.unusedSimpArgs false
namespace Go.Proofs.Ytbnifpfnjhdenaa.Op
open Go.RowKit Go.ChangeShapes Go.WideShapes Go.Deep Go.Proofs.YtbnifpfnjhdenaaW.PrintWords
def nums (k:IntKind) (n:Nat):Kd (List Int) where
 sz:=n
 E:=[]
 K:=fun _ x cs=>x.length=n∧cs=x.map (Value.int k)
 M:=fun _ _ _ x cs=>x.length=n∧cs=x.map (Value.int k)
 K_len:=by
  rintro w x cs ⟨h,rfl⟩
  simpa using h
 K_one:=by
  rintro w x cs ⟨h,rfl⟩ u hu
  obtain⟨z,_,rfl⟩:=List.mem_map.1 hu
  rfl
 K_below:=fun _ h=>h
 K_of_M:=fun h=>h
 M_mono:=fun _ h=>h
 M_bound:=fun h=>h
 M_move:=fun _ h=>h
 M_lower:=fun _ h=>h
theorem all_nums {k:IntKind}:∀ cs:List Value,(∀ u ∈ cs,∃ z:Int,u = .int k z∧(Lit.int k z).wf=true)→∃ x:List Int,cs=x.map (Value.int k)∧∀ z ∈ x,(Lit.int k z).wf=true
 | [],_=>⟨[],rfl,fun z hz=>by simp at hz⟩
 | u ::cs,h=>by
  obtain⟨z,rfl,hz⟩:=h u (List.mem_cons_self ..)
  obtain⟨x,rfl,hx⟩:=all_nums cs (fun v hv=>h v (List.mem_cons_of_mem _ hv))
  refine⟨z ::x,rfl,fun y hy=>?_⟩
  rcases List.mem_cons.1 hy with rfl|hy
  ·exact hz
  ·exact hx y hy
theorem opens_nums {P:Program} {T e:TypeId} {k:IntKind} {n:Nat} (h:P.underlying T=some (.array n e)) (he:P.underlying e=some (.int k)) (hce:P.cellsOf e=1) (hc:P.cellsOf T=n) :
  Opens P T (nums k n) (fun x=>x.length=n∧∀ z ∈ x,(Lit.int k z).wf=true):=by
 refine⟨hc,fun enc w base spare held fuel cs x ht _=>?_⟩
 obtain⟨xs,m,-,-,hl,hx,hat⟩:=DataW.trod_array h ht
 obtain⟨y,rfl,hy⟩:=all_nums (k:=k) cs (fun u hu=>by
  obtain⟨i,hi,rfl⟩:=List.mem_iff_getElem.1 hu
  have h1:=hat i (by omega)
  rw[hce,Nat.mul_one,List.getElem?_eq_getElem (by omega)] at h1
  obtain⟨z,h2,_,hw⟩:=DataW.trod_int he h1
  refine⟨z,?_,hw⟩
  have h3:((cs.drop i).take 1)[0]? = some cs[i]:=by simp[List.getElem?_take,List.getElem?_drop,hi]
  rw[h2] at h3
  simpa using h3.symm)
 exact⟨y,⟨by simpa [hc] using hl,rfl⟩,by simpa [hc] using hl,hy⟩
end Go.Proofs.Ytbnifpfnjhdenaa.Op
end
