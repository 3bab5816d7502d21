/- Functions of the program as plain Lean functions, each with a proof that its call comes to just these answers, and the row that joins them to the given statement; no condition beside the statement's own. Written for this claim by this session's programs (pf.py, pack.py) over the kit's print. -/
import Derived.Maps.AppendAt
import Derived.Laws.BitsLemmas
import Derived.Laws.Pointers
import Derived.Deep.RegionHeld3
import Derived.Deep.RegionLaw
import Derived.Deep.QuietTactic
import Derived.BigQuiet
import Derived.WalkMore
import Derived.Deep.Upon
import Derived.ArgAppend
import Derived.Laws.Closers25b
import Derived.Test.YtbnifpfnjhdenaaZRiffleAlone0
import Derived.Test.YtbnifpfnjhdenaaZRiffleAlone1
import Derived.Test.YtbnifpfnjhdenaaZRiffleAlone2
import Derived.Test.YtbnifpfnjhdenaaZRiffleAlone3
section
set_option linter.unusedVariables false
namespace Go.Proofs.YtbnifpfnjhdenaaW.PrintWords
open Go.RowKit
section
variable {P:Program}
theorem run_append_keep (w:World) (base:Nat) (t ty e:TypeId) (i:TypeInfo) (z:Value) (bytes:Nat) (ht:P.underlying t=some (.slice e)) (hi:P.info? e=some i) (hz:i.zero=some z)
  (hsize:i.size=1) (hby:i.bytes=bytes) (hzs:z.cells.size=1)
  (v:Value) (n:Nat) (xs:List Value) (hown:w.ownsRow base e 1 v n xs)
  (a:Addr) (m c:Nat) (news:List Value) (hl:news.length=m*1) (hnews:∀ j u,news[j]? = some u→w.cell? (a.add j)=some u) (h1:∀ u ∈ news,u.oneCell'=true)
  (h63:n+m≤maxLen) (hbytes:(n+m)*bytes≤140737488355328) (hbase:base≤w.heap.size) :
  ∃ v' w',(Builtin.append_ #[t,t] ty #[v,.slice (some a) m c]).run P w = .ok v' w'∧w'.ownsRow base e 1 v' (n+m) (xs ++ news)∧w.grownBy w' v.ownBlock ∧
   (v'.ownBlock=v.ownBlock∨(v'.ownBlock=some w.heap.size∧w.grownBy w' none)):=by
 obtain⟨v',w',hr,h2,h3,h4,h5⟩:=run_append_own_at (P:=P) w base t ty e i z 1 bytes ht hi hz hsize hby hzs (by omega) v n xs hown a m c news hl hnews h1 h63 hbytes hbase
 refine⟨v',w',hr,h2,h3,?_⟩
 rcases h5 with h5|h5
 ·exact .inl h5
 ·right
  refine⟨h5,?_⟩
  simp only[maxLen] at h63
  rcases hown.2 with⟨rfl,rfl⟩|⟨g,cap,cur,rfl,hbg,hg,hnc,hcm,hcs,htake⟩
  ·rcases Nat.eq_zero_or_pos m with hm|hm
   ·subst hm
    have hn:news=[]:=List.eq_nil_of_length_eq_zero (by simpa using hl)
    subst hn
    have:(Builtin.append_ #[t,t] ty #[.slice none 0 0,.slice (some a) 0 c]).run P w = .ok (.slice none 0 0) w:=by
     simp[Builtin.append_,run_underlying ht,sizeOf,typeInfo,hi,Builtin.lenOf,Builtin.firstCells,loadCells,loadCellsFrom]
    rw[this] at hr
    cases hr
    cases h5
   ·have hr2:=run_append_nil (P:=P) w t ty e i z ht hi hz a m c news (by rw[hsize];exact hl) hnews hm (by omega) (by rw[hby];simp only[Nat.zero_add] at hbytes;omega)
    rw[hr2] at hr
    cases hr
    exact⟨rfl,rfl,rfl,by simp,fun k hk _=>Below.heap_alloc w.drew _ k hk⟩
  ·by_cases hroom:n+m≤cap
   ·have hfit:n*i.size+news.length≤cur.size:=by rw[hl,hcs,hsize];omega
    have hr2:=run_append_room (P:=P) w t ty e i ht hi g n cap cur hg a m c news (by rw[hsize];exact hl) hnews h1 hroom hfit
    rw[hr2] at hr
    cases hr
    have hlt:=blk_lt hg
    have:g=w.heap.size:=by simpa [Value.ownBlock] using h5
    omega
   ·have holds:∀ j u,xs[j]? = some u→w.cell? ((⟨g,0,none⟩:Addr).add j)=some u:=hown.cells (g:=g) rfl
    have hr2:=run_append_grow (P:=P) w t ty e i z ht hi hz ⟨g,0,none⟩ n cap xs (by rw[hsize];exact hown.1) holds a m c news (by rw[hsize];exact hl) hnews (by omega) (by omega) (growslice_fits (by omega) (by rw[hby];exact hbytes))
    rw[hr2] at hr
    cases hr
    exact⟨rfl,rfl,rfl,by simp,fun k hk _=>Below.heap_alloc w.drew _ k hk⟩
end
namespace Kd
section
variable {P:Program} {ops:Array Oper} {rest:List Oper} {o:Oper} {a:Act} {Q:Exit→Act→World→Prop} {Kc:Act→World→Prop}
theorem run_app_int {k:IntKind} {W:World} (base:Nat) (t ty e:TypeId) (bytes:Nat)
  (ht:P.underlying t=some (.slice e)) (hinfo:(P.info? e).map (fun i=>(i.zero,i.size,i.bytes))=some (some (.int k 0),1,bytes)) (hb0:0<bytes)
  (v:Value) (xs ys:List Int) (A:Option Addr) (m c:Nat) (ok:Nat→Prop) (hfresh:ok W.heap.size)
  (HO:(Kd.int k).R e W base ok v xs) (HR:(Kd.int k).C W A m ys) (hbase:base≤W.heap.size) (hl:(xs.length+m)*bytes≤140737488355328) :
  ∃ v1 w1,(Builtin.append_ #[t,t] ty #[v,.slice A m c]).run P W = .ok v1 w1∧(Kd.int k).R e w1 base ok v1 (xs ++ ys)∧W.grownBy w1 v.ownBlock∧(v1.ownBlock=v.ownBlock∨(v1.ownBlock=some W.heap.size∧W.grownBy w1 none)):=by
 obtain⟨i0,hi,hzz⟩:=Option.map_eq_some_iff.1 hinfo
 simp only[Prod.mk.injEq] at hzz
 obtain⟨hz0,hz1,hz2⟩:=hzz
 have hR2:ReadsOf (Value.int k) (0:Int) W A m ys:=reads_of_C HR
 have hm:ys.length=m:=HR.1
 have hO:=own_of_R HO
 have hlen:xs.length+m≤140737488355328:=Nat.le_trans (Nat.le_mul_of_pos_right _ hb0) hl
 have hel:(encs (Value.int k) xs).length=xs.length:=by simp[encs]
 have back:∀ (v1:Value) (w1:World),w1.ownsRow base e 1 v1 (xs.length+m) (encs (Value.int k) xs ++ encs (Value.int k) ys)→(∀ q,v1.ownBlock=some q→ok q)→(Kd.int k).R e w1 base ok v1 (xs ++ ys):=by
  intro v1 w1 hown hok
  exact R_of_own (by simpa [encs,hm] using hown) hok
 rcases A with _|ad
 ·have h0:m=0:=by
   rcases Nat.eq_zero_or_pos m with h0|h0
   ·exact h0
   ·obtain⟨ad,h,_⟩:=HR.2.2 h0
    cases h
  subst h0
  obtain rfl:ys=[]:=List.eq_nil_of_length_eq_zero hm
  refine⟨v,W,?_,by simpa using HO,World.grownBy.refl W _,.inl rfl⟩
  rcases hO.2 with⟨rfl,hn⟩|⟨g,cap,cur,rfl,_,_,hnc,_⟩
  ·simp[Builtin.append_,run_underlying ht,sizeOf,typeInfo,hi,Builtin.lenOf,Builtin.firstCells]
  ·simp[Builtin.append_,run_underlying ht,sizeOf,typeInfo,hi,Builtin.lenOf,Builtin.firstCells,hnc,storeCells]
 ·have hcells:∀ j u,(encs (Value.int k) ys)[j]? = some u→W.cell? (ad.add j)=some u:=by
   intro j u hu
   have hj:j<ys.length:=by
    rcases Nat.lt_or_ge j ys.length with h|h
    ·exact h
    ·simp[encs,List.getElem?_eq_none h] at hu
   obtain⟨ad',h',hc⟩:=hR2.2.2 (by omega)
   injection h' with h'
   subst h'
   have:=hc j (by omega)
   simp[encs,List.getElem?_eq_getElem hj] at hu
   subst hu
   rw[this]
   simp[List.getD_eq_getElem?_getD,List.getElem?_eq_getElem hj]
  obtain⟨v1,w1,hr,h2,h3,h5⟩:=run_append_keep (P:=P) W base t ty e i0 (.int k 0) bytes ht hi hz0 hz1 hz2 rfl v xs.length (encs (Value.int k) xs) hO ad m c (encs (Value.int k) ys) (by simp[encs,hm]) hcells
   (by intro u hu;simp only[encs,List.mem_map] at hu;obtain⟨q,_,rfl⟩:=hu;rfl) (by simp only[maxLen];omega) hl hbase
  refine⟨v1,w1,hr,back v1 w1 h2 (fun q hq=>?_),h3,h5⟩
  rcases h5 with h5|⟨h5,_⟩
  ·exact HO.1 q (by rw[←h5];exact hq)
  ·rw[h5] at hq
   injection hq with hq
   rw[←hq]
   exact hfresh
theorem wp_app_int {k:IntKind} {W:World} (base:Nat) (s x:Operand) (t e:TypeId) (bytes:Nat)
  (ho:o.op = .call { callee:=.builtin .append,args:=#[s,x],argTypes:=#[t,t] })
  (ht:P.underlying t=some (.slice e)) (hinfo:(P.info? e).map (fun i=>(i.zero,i.size,i.bytes))=some (some (.int k 0),1,bytes)) (hb0:0<bytes)
  (v:Value) (xs ys:List Int) (A:Option Addr) (m c:Nat) (ok:Nat→Prop) (hs:a.eval s=v) (hx:a.eval x = .slice A m c) (hfresh:ok W.heap.size)
  (HO:(Kd.int k).R e W base ok v xs) (HR:(Kd.int k).C W A m ys) (hbase:base≤W.heap.size) (hl:(xs.length+m)*bytes≤140737488355328)
  (h:∀ v1 w1,(Kd.int k).R e w1 base ok v1 (xs ++ ys)→W.grownBy w1 v.ownBlock→(v1.ownBlock=v.ownBlock∨(v1.ownBlock=some W.heap.size∧W.grownBy w1 none))→Kc (a.put o.dst v1) w1) :
  o.wp P a W Kc Q:=by
 obtain⟨v1,w1,hr,h2,h3,h5⟩:=run_app_int (P:=P) (k:=k) (W:=W) base t o.type e bytes ht hinfo hb0 v xs ys A m c ok hfresh HO HR hbase hl
 unfold Oper.wp execOp
 simp only[ho,resolve,invoke,builtin,Sem.run_bind,Sem.run_pure,Result.andThen_ok,List.map_toArray,List.map_cons,List.map_nil,hs,hx,hr]
 exact h v1 w1 h2 h3 h5
theorem R_app_int {k:IntKind} {W:World} (base:Nat) (hgd:o.guard=none) (s x:Operand) (t e:TypeId) (bytes:Nat)
  (ho:o.op = .call { callee:=.builtin .append,args:=#[s,x],argTypes:=#[t,t] })
  (ht:P.underlying t=some (.slice e)) (hinfo:(P.info? e).map (fun i=>(i.zero,i.size,i.bytes))=some (some (.int k 0),1,bytes)) (hb0:0<bytes)
  (v:Value) (xs ys:List Int) (A:Option Addr) (m c:Nat) (ok:Nat→Prop) (hs:a.eval s=v) (hx:a.eval x = .slice A m c) (hfresh:ok W.heap.size)
  (HO:(Kd.int k).R e W base ok v xs) (HR:(Kd.int k).C W A m ys) (hbase:base≤W.heap.size) (hl:(xs.length+m)*bytes≤140737488355328)
  (h:∀ v1 w1,(Kd.int k).R e w1 base ok v1 (xs ++ ys)→W.grownBy w1 v.ownBlock→(v1.ownBlock=v.ownBlock∨(v1.ownBlock=some W.heap.size∧W.grownBy w1 none))→wpList P ops Q rest (a.put o.dst v1) w1) :
  wpList P ops Q (o ::rest) a W :=
 wpList_plain hgd fun K hK=>wp_app_int base s x t e bytes ho ht hinfo hb0 v xs ys A m c ok hs hx hfresh HO HR hbase hl (fun v1 w1 h2 h3 h5=>hK _ _ (h v1 w1 h2 h3 h5))
end
end Kd
end Go.Proofs.YtbnifpfnjhdenaaW.PrintWords
end
section
set_option linter.unusedVariables false
set_option linter.unusedSimpArgs false
namespace Go.Proofs.Ytbnifpfnjhdenaa.Q
open Go.RowKit Go.Proofs.YtbnifpfnjhdenaaW.PrintWords Go.Proofs.YtbnifpfnjhdenaaW.PrintLast Go.Proofs.YtbnifpfnjhdenaaW.PrintMore Go.Proofs.Ytbnifpfnjhdenaa.Pl
def RK (k:IntKind) (T:Nat) (W:World) (lo hi:Nat) (v:Value) (xs:List Int):Prop:=Kd.R (Kd.int k) T W lo (fun b=>lo≤b∧b<hi) v xs
section
variable {k:IntKind} {T:Nat} {w w' W W1:World} {lo hi:Nat} {v:Value} {xs:List Int} {ok:Nat→Prop}
theorem RK.of (h:Kd.R (Kd.int k) T w' w.heap.size ok v xs):RK k T w' w.heap.size w'.heap.size v xs:=Kd.R_mono (Kd.R_bound h) (fun b hb=>⟨hb.2.1,hb.2.2.1⟩)
theorem RK.below (h:RK k T W lo hi v xs) (hb:Below W.heap.size W W1):RK k T W1 lo hi v xs:=Kd.R_step h (fun b _ hlt=>hb.block b hlt)
theorem RK.off {r:Option Nat} (h:RK k T W lo hi v xs) (hg:W.grownBy W1 r) (hn:∀ g,r=some g→¬ (lo≤g∧g<hi)):RK k T W1 lo hi v xs:=Kd.R_step h (fun b hb hlt=>hg.block b hlt (fun e=>hn b e.symm hb))
theorem RK.lit (h:RK k T W lo hi v xs):∃ A c,v = .slice A xs.length c:=by
 obtain⟨A,c,rfl,-⟩:=Kd.R_reads h
 exact⟨_,_,rfl⟩
theorem RK.reads {A:Option Addr} {n c:Nat} (h:RK k T W lo hi (.slice A n c) xs):Kd.C (Kd.int k) W A xs.length xs∧xs.length≤c:=by
 obtain⟨rfl,a,b⟩:=Kd.R_reads' h
 exact⟨b,a⟩
theorem RK.put {g n c:Nat} (h:RK k T W lo hi (.slice (some ⟨g,0,none⟩) n c) xs) (hn:xs.length=n) (j:Nat) (hj:j<n) (z:Int) :
  RK k T (W.setCell ⟨g,j,none⟩ (.int k z)) lo hi (.slice (some ⟨g,0,none⟩) n c) (xs.set j z)∧W.grownBy (W.setCell ⟨g,j,none⟩ (.int k z)) (some g)∧lo≤g∧g<hi∧W.cell? ⟨g,j,none⟩=some (.int k (xs.getD j 0))∧W.frozen? ⟨g,j,none⟩=false:=by
 obtain⟨hp,hg⟩:=Kd.R_putg h (j:Int) z
 simp only[Int.toNat_natCast] at hp hg
 have h2:=Kd.R_celln (0:Int) h (j:Int) (by omega) (by omega)
 simp only[Int.toNat_natCast,rdOf] at h2
 exact⟨hp,hg,(h.1 g rfl).1,(h.1 g rfl).2,h2.1,h2.2⟩
theorem RK.head {n c:Nat} {A:Option Addr} (h:RK k T W lo hi (.slice A n c) xs) (hn:0<n):∃ g,A=some ⟨g,0,none⟩:=by
 have h2:=Kd.R_reads' h
 obtain⟨ad,rfl,-⟩:=Kd.at_int h2.2.2 0 (by omega) (by omega)
 obtain⟨p,rfl⟩:=Kd.R_head h
 exact⟨p,rfl⟩
end
structure Rw where
 k:IntKind
 T:Nat
 lo:Nat
 hi:Nat
 v:Value
 xs:List Int
def Bag (W:World) (L:List Rw):Prop:=∀ r ∈ L,RK r.k r.T W r.lo r.hi r.v r.xs
section
variable {k:IntKind} {T:Nat} {W W1:World} {L:List Rw} {lo hi:Nat} {v:Value} {xs:List Int}
theorem Bag.nil (W:World):Bag W []:=fun r hr=>by simp at hr
theorem Bag.at_ {r:Rw} (h:Bag W L) (hr:r ∈ L):RK r.k r.T W r.lo r.hi r.v r.xs:=h r hr
theorem Bag.next (h:Bag W L) (hb:Below W.heap.size W W1):Bag W1 L:=fun r hr=>(h r hr).below hb
theorem Bag.off {g:Option Nat} (h:Bag W L) (hg:W.grownBy W1 g) (hn:∀ r ∈ L,∀ b,g=some b→¬ (r.lo≤b∧b<r.hi)):Bag W1 L:=fun r hr=>(h r hr).off hg (hn r hr)
theorem Bag.add (h:Bag W L) (r:RK k T W lo hi v xs):Bag W (⟨k,T,lo,hi,v,xs⟩ ::L):=by
 intro x hx
 rcases List.mem_cons.1 hx with rfl|hx
 ·exact r
 ·exact h x hx
end
def Byt (xs:List Int):Prop:=∀ x ∈ xs,0≤x∧x≤255
theorem Byt.set {xs:List Int} (h:Byt xs) (j:Nat) (z:Int) (hz:0≤z∧z≤255):Byt (xs.set j z):=by
 intro x hx
 rcases List.mem_or_eq_of_mem_set hx with h1|rfl
 ·exact h x h1
 ·exact hz
theorem rc_slice {P:Program} {t e:TypeId} {n:Nat} (ht:P.underlying t=some (.array n e)) (hi:(P.info? e).map (·.size)=some 1) (W:World) (g:Nat) :
  (Instr.sliceAt t (.pointer (some ⟨g,0,none⟩)) none none none).run P W = .ok (.slice (some ⟨g,0,none⟩) n n) W:=by
 obtain⟨i,hi,hs⟩:=Option.map_eq_some_iff.1 hi
 have ha:P.arrayLen t=n:=by simp[Program.arrayLen,ht]
 have he:P.elem t=e:=by simp[Program.elem,ht]
 rw[run_sliceAt_array_all]
 ·simp[he,ha,sizeOf,typeInfo,hi,hs,slicedAt,Addr.add]
 all_goals simp_all
end Go.Proofs.Ytbnifpfnjhdenaa.Q
end
section
namespace Go.Proofs.Ytbnifpfnjhdenaa.Q
open Go.RowKit Go.Proofs.YtbnifpfnjhdenaaW.PrintWords Go.Proofs.YtbnifpfnjhdenaaW.PrintLast Go.Proofs.YtbnifpfnjhdenaaW.PrintMore
open Go.Proofs.YtbnifpfnjhdenaaW.PrintLast renaming i64_w → jD, i32_w → jE
open Go.Proofs.YtbnifpfnjhdenaaW.PrintMore renaming max_three → jK, min_three → jL
open Go.Proofs.YtbnifpfnjhdenaaW.PrintWords renaming below_size → ja, below_step → ji, blk_drew → jl, blk_alloc → jn, blk_drewN → jp, blk_below → jr, blk_put → jt, below_drew1 → jG, below_set → jJ
open Go.Proofs.YtbnifpfnjhdenaaW.PrintWords.Kd renaming int → jb, R_mono → jc, R_below → jd, R_far → je, R_base → jf, R_elder' → jg, R_reads' → jh, R_lt → jj, R_new' → jk, R_lower → jm, R_slice → jo, R_drew → jq, R_types → js, R → ju, C_below → jv, R_after → jw, R_over' → jx, slice → jy, R_typed → jz, S_below → jA, S_mono → jB, S_far → jC, fresh' → jF, at_int → jH, S_elder' → jI, S_reads' → jM
attribute [local go_sem] max2_int min2_int max_two min_two jK jL max_four min_four
set_option linter.unusedVariables false
set_option linter.unusedSimpArgs false
mutual
def braid_Sizes.j0:Nat→Int→Int→Bool→Option (List Int×Int)
 | 0,_,_,_=>none
 | k+1,x0,x1,x21=>if x21=true then(some (([]:List Int),2)) else(if 0≤x1 then(if(x1:Int).toNat≤35184372088832 then((some (List.replicate (x1:Int).toNat 0:List Int)).bind fun y101=>(braid_Sizes.l0 k x0 x1 y101 (y101.length:Int) 0)) else(none)) else(none))
def braid_Sizes.l0:Nat→Int→Int→List Int→Int→Int→Option (List Int×Int)
 | 0,_,_,_,_,_=>none
 | k+1,x0,x1,x6,x25,x26=>if x26<x25 then(if x1=0 then(none) else(if 0≤x26 then(if x26<(x6.length:Int) then((some (x6.set (x26:Int).toNat (wrap64 (Int.tdiv x0 x1)):List Int)).bind fun y104=>(if x26<(Int.tmod x0 x1) then(braid_Sizes.l0 k x0 x1 (y104.set (x26:Int).toNat (wrap64 ((rd y104 x26)+1))) x25 (wrap64 (x26+1))) else(braid_Sizes.l0 k x0 x1 y104 x25 (wrap64 (x26+1))))) else(none)) else(none))) else(some (x6,0))
end
def braid_Sizes.f (k:Nat) (a0:Int) (a1:Int):Option (List Int×Int):=if a0<0 then(braid_Sizes.j0 k a0 a1 true) else(if a0 > 256 then(braid_Sizes.j0 k a0 a1 true) else(if a1<1 then(braid_Sizes.j0 k a0 a1 true) else(braid_Sizes.j0 k a0 a1 (decide (a1 > 64)))))
theorem braid_Sizes.mono_l:∀ k,(∀ y0 y1 y2,LeO (braid_Sizes.j0 k y0 y1 y2) (braid_Sizes.j0 (k+1) y0 y1 y2))∧(∀ y0 y1 y2 y3 y4,LeO (braid_Sizes.l0 k y0 y1 y2 y3 y4) (braid_Sizes.l0 (k+1) y0 y1 y2 y3 y4))
 | 0=>⟨fun _ _ _ r h=>by simp[braid_Sizes.j0] at h,fun _ _ _ _ _ r h=>by simp[braid_Sizes.l0] at h⟩
 | k+1=>by
  obtain⟨ih0,ih1⟩:=braid_Sizes.mono_l k
  refine⟨?_,?_⟩
  ·intro y0 y1 y2
   unfold braid_Sizes.j0
   with_reducible repeat' first|exact ih0 _ _ _|exact ih1 _ _ _ _ _|exact LeO.refl _|exact LeO.none _|refine LeO.ite ?_ ?_|refine LeO.bind ?_ (fun _=>?_)
  intro y0 y1 y2 y3 y4
  unfold braid_Sizes.l0
  with_reducible repeat' first|exact ih0 _ _ _|exact ih1 _ _ _ _ _|exact LeO.refl _|exact LeO.none _|refine LeO.ite ?_ ?_|refine LeO.bind ?_ (fun _=>?_)
theorem braid_Sizes.mono:∀ a0 a1 k,LeO (braid_Sizes.f k a0 a1) (braid_Sizes.f (k+1) a0 a1):=by
 intro a0 a1 k
 obtain⟨ih0,ih1⟩:=braid_Sizes.mono_l k
 unfold braid_Sizes.f
 with_reducible repeat' first|exact ih0 _ _ _|exact ih1 _ _ _ _ _|exact LeO.refl _|exact LeO.none _|refine LeO.ite ?_ ?_|refine LeO.bind ?_ (fun _=>?_)
set_option maxHeartbeats 8000000 in
set_option maxRecDepth 100000 in
theorem braid_Sizes.calls (k:Nat) (a0:Int) (a1:Int) (r1:List Int) (r2:Int) (w:World) (h:braid_Sizes.f k a0 a1=some (r1,r2)) :
  Calls Try.prog 32 #[.int .i64 a0,.int .i64 a1] w fun e w'=>∃ v0_:Value,e = .returned (.tuple #[v0_,.int .i64 r2])∧ju (jb .i64) 3 w' w.heap.size (fun _=>True) v0_ r1∧Below w.heap.size w w':=by
 have HB:=am_ (Below.refl w.heap.size w)
 have H:(if a0<0 then(braid_Sizes.j0 k a0 a1 true) else(if a0 > 256 then(braid_Sizes.j0 k a0 a1 true) else(if a1<1 then(braid_Sizes.j0 k a0 a1 true) else(braid_Sizes.j0 k a0 a1 (decide (a1 > 64))))))=some (r1,r2):=h
 clear h
 have HC3:=am_ H
 clear H
 go_enter Try.func32,Try.ntmps32
 go_upto_region 1 with(fail)
 go_cut [21] (fun v21 wc=>∃ (kq:Nat) (x21_2:Bool),v21 = .bool x21_2∧Aside0 (braid_Sizes.j0 kq a0 a1 x21_2=some (r1,r2))∧Aside0 (kq≤k)∧Aside0 (Below w.heap.size w wc))
 case first =>
  have H:=HC3.out
  clear HC3
  by_cases c4:a0<0
  ·rw[if_pos c4] at H
   have c4b0:=decide_eq_true c4
   clear c4
   (first|rw[c4b0]|(simp only[jD,jE];rw[c4b0])|skip)
   have H':=am_ H
   clear H
   go_wp2
   go_meet
   case rel=>exact⟨_,(true),T9_,H',⟨T8_⟩,⟨T16_⟩⟩
  rw[if_neg c4] at H
  have c4b0:=decide_eq_false c4
  clear c4
  (first|rw[c4b0]|(simp only[jD,jE];rw[c4b0])|skip)
  by_cases c5:a0 > 256
  ·rw[if_pos c5] at H
   have c5b0:=decide_eq_true c5
   clear c5
   have H':=am_ H
   clear H
   go_wp2
   go_meet
   case rel=>exact⟨_,(true),T9_,H',⟨T8_⟩,⟨T16_⟩⟩
  rw[if_neg c5] at H
  have c5b0:=decide_eq_false c5
  clear c5
  by_cases c6:a1<1
  ·rw[if_pos c6] at H
   have c6b0:=decide_eq_true c6
   clear c6
   have H':=am_ H
   clear H
   go_wp2
   go_meet
   case rel=>exact⟨_,(true),T9_,H',⟨T8_⟩,⟨T16_⟩⟩
  rw[if_neg c6] at H
  have c6b0:=decide_eq_false c6
  clear c6
  have H':=am_ H
  clear H
  go_wp2
  go_meet
  case rel=>exact⟨_,(decide (a1 > 64)),T9_,H',⟨T8_⟩,⟨T16_⟩⟩
 clear HC3
 obtain⟨kq,x21_2,rfl,HA,HJ2,HB⟩:=hcut
 cases kq with
 | zero=>exact absurd HA.out (by simp[braid_Sizes.j0])
 | succ kj2 =>
  have H:=HA.out
  clear HA
  simp only[braid_Sizes.j0] at H
  by_cases c7:x21_2=true
  ·subst c7
   have H1:(some (([]:List Int),2))=some (r1,r2):=by rw[if_pos rfl] at H;exact H
   clear H
   have H:=H1
   clear H1
   obtain⟨rfl,rfl⟩:=sj2_ H
   go_wp2
   go_ret2
   exact⟨_,T14_,T18_,T16_⟩
  replace c7:=Bool.eq_false_iff.mpr c7
  subst c7
  have H1:(if 0≤a1 then(if(a1:Int).toNat≤35184372088832 then((some (List.replicate (a1:Int).toNat 0:List Int)).bind fun y101=>(braid_Sizes.l0 kj2 a0 a1 y101 (y101.length:Int) 0)) else(none)) else(none))=some (r1,r2):=by rw[if_neg (show ¬ (false=true) by decide)] at H;exact H
  clear H
  have H:=H1
  clear H1
  replace H:=ifn_ H;obtain⟨c8,H⟩:=H
  have c8b0:=eq_true c8
  have c8b1:decide (0≤a1)=true:=decide_eq_true c8
  clear c8
  replace H:=ifn_ H;obtain⟨c9,H⟩:=H
  have c9b0:=eq_true c9
  have c9b1:decide ((a1:Int).toNat≤35184372088832)=true:=decide_eq_true c9
  clear c9
  obtain⟨y101,hy_⟩:∃ y_:List Int,y_=(List.replicate (a1:Int).toNat 0):=⟨_,rfl⟩
  replace H:(braid_Sizes.l0 kj2 a0 a1 y101 (y101.length:Int) 0)=some (r1,r2):=hyw_
  have Ny101:=am_ hy_
  clear hy_
  have H':=am_ H
  clear H
  go_wp2_with(first|(refine gd_ 23 ?_;refine Kd.R_make (jb .i64) _ 3 rfl (N:=23) rfl 24 _ _ rfl a1 rfl rfl Try.underlying24 (.int .i64 0) 8 info3 rfl T3_ T2_ 0 (ok:=fun _=>True) (okp:=fun _=>True) rfl (fun _ hk=>hk) trivial (od_) (Nat.le_trans (Nat.mul_le_mul_right _ (od_:a1.toNat≤35184372088832)) T2_) (Below.refl _ _) (Nat.le_refl _) ?_;intro v102 w10 ho11 hb hg_ hnew_;clear hg_ hnew_;(first|rw[←Ny101.out] at ho11|(simp only[Int.reduceToNat] at ho11;rw[←Ny101.out] at ho11));have n_:=P2_ (jm ho11 (ja T16_)) (ji T16_ hb);clear HB;obtain⟨HO103,HB⟩:=n_;clear hb ho11;obtain⟨Ao12,co12,eo12⟩:=jo HO103.out;subst eo12))
  go_loopg [26] kj2 (fun kq v26 w'=>∃ (x6_2:List Int) (x26_2:Int),v26 = .int .i64 x26_2∧Aside0 (braid_Sizes.l0 kq a0 a1 x6_2 (y101.length:Int) x26_2=some (r1,r2))∧Aside0 (kq≤kj2)∧Aside0 (ju (jb .i64) 3 w' w.heap.size (fun _=>True) (.slice Ao12 y101.length co12) x6_2)∧Aside0 (Below w.heap.size w w'))
  case atStart=>exact⟨(y101),(0),T9_,H',⟨Nat.le_refl _⟩,⟨ru_ HO103.out⟩,⟨T16_⟩⟩
  clear H'
  (try clear c7);(try clear c8);(try clear c8b0 c8b1);(try clear c9);(try clear c9b0 c9b1)
  obtain⟨x6_2,x26_2,rfl,HA,HK2,HO_6,HB⟩:=hrel
  have hl6_2:=(jh HO_6.out).1
  rw[hl6_2] at HO_6
  (try simp only[hl6_2])
  cases gk with
  | zero=>exact absurd HA.out (by simp[braid_Sizes.l0])
  | succ k2 =>
   have H:=HA.out
   clear HA
   simp only[braid_Sizes.l0] at H
   by_cases c13:x26_2<(y101.length:Int)
   rotate_left
   ·rw[if_neg c13] at H
    have c13b0:=decide_eq_false c13
    (try(have c13b0_:=c13b0;simp only[hl6_2] at c13b0_))
    clear c13
    obtain⟨rfl,rfl⟩:=sj2_ H
    go_wp2
    go_ret2
    exact⟨_,T14_,ru_ HO_6.out,T16_⟩
   rw[if_pos c13] at H
   have c13b0:=decide_eq_true c13
   (try(have c13b0_:=c13b0;simp only[hl6_2] at c13b0_))
   clear c13
   by_cases c14:a1=0
   ·rw[if_pos c14] at H
    exact absurd H T1_
   rw[if_neg c14] at H
   obtain⟨c14b0,c14b1⟩:=en_ c14
   replace H:=ifn_ H;obtain⟨c15,H⟩:=H
   have c15b0:=decide_eq_true c15
   (try(have c15b0_:=c15b0;simp only[hl6_2] at c15b0_))
   clear c15
   replace H:=ifn_ H;obtain⟨c16,H⟩:=H
   have c16b0:=decide_eq_true c16
   (try(have c16b0_:=c16b0;simp only[hl6_2] at c16b0_))
   clear c16
   obtain⟨y104,hy_⟩:∃ y_:List Int,y_=(x6_2.set (x26_2:Int).toNat (wrap64 (Int.tdiv a0 a1))):=⟨_,rfl⟩
   replace H:(if x26_2<(Int.tmod a0 a1) then(braid_Sizes.l0 k2 a0 a1 (y104.set (x26_2:Int).toNat (wrap64 ((rd y104 x26_2)+1))) (y101.length:Int) (wrap64 (x26_2+1))) else(braid_Sizes.l0 k2 a0 a1 y104 (y101.length:Int) (wrap64 (x26_2+1))))=some (r1,r2):=hyw_
   have Ny104:=am_ hy_
   clear hy_
   by_cases c18:x26_2<(Int.tmod a0 a1)
   rotate_left
   ·rw[if_neg c18] at H
    have c18b0:=decide_eq_false c18
    (try(have c18b0_:=c18b0;simp only[hl6_2] at c18b0_))
    clear c18
    have H':=am_ H
    clear H
    have p17:0≤(x26_2:Int):=od_
    have q17:(x26_2:Int)<((x6_2.length:Int):Int):=od_
    obtain⟨go17,co17,eo17,gb17,gl17,cl17,HG17⟩:=Kd.R_form HO_6.out T2_
    (first|cases eo17|(injection eo17 with ea_ en_ ec_;(first|subst ea_|(injection ea_ with ea_;subst ea_));subst ec_;clear en_))
    have GB17:=am_ gb17
    have GG17:=am_ HG17
    clear gb17 gl17 HG17
    obtain⟨hx17_0,hf17_0⟩:=Kd.R_celln 0 HO_6.out (x26_2:Int) p17 q17
    replace p17:=eq_true p17
    replace q17:=eq_true q17
    have HP24:=Kd.R_putg HO_6.out (x26_2:Int) (wrap64 (Int.tdiv a0 a1))
    go_wp2_with(first|(refine gs_ 3 34 ?_;refine sv_ 3 34 (wr.setCell ⟨go17,(x26_2:Int).toNat,none⟩ (.int .i64 (wrap64 (Int.tdiv a0 a1)))) ?_;intro w25 hw;have hg:wr.grownBy w25 (some go17):=(by rw[hw];exact HP24.2);have hp_:ju (jb .i64) 3 w25 w.heap.size (fun _=>True) (.slice (some ⟨go17,0,none⟩) x6_2.length co12) y104:=(by rw[hw,Ny104.out];exact HP24.1);clear HP24;have n_:=P2_ (hp_) ((by rw[hw];exact jJ (HB.out) GB17.out:Below w.heap.size w w25));clear HO_6 HB;obtain⟨HO_6,HB⟩:=n_;clear hg hw hp_))
    (try simp only[←hl6_2])
    go_roundg k2
    case measure=>have:=HJ2.out;have:=HK2.out;omega
    case rel=>exact⟨(y104),(wrap64 (x26_2+1)),T9_,H',⟨(by have:=HJ2.out;have:=HK2.out;omega)⟩,⟨(by(try simp only[hl6_2]);(with_reducible repeat(first|apply Kd.R_alloc|apply Kd.R_drewN|apply jq));exact HO_6.out)⟩,⟨T16_⟩⟩
   rw[if_pos c18] at H
   have c18b0:=decide_eq_true c18
   (try(have c18b0_:=c18b0;simp only[hl6_2] at c18b0_))
   clear c18
   obtain⟨y106,hy_⟩:∃ y_:List Int,y_=(y104.set (x26_2:Int).toNat (wrap64 ((rd y104 x26_2)+1))):=⟨_,rfl⟩
   replace H:(braid_Sizes.l0 k2 a0 a1 y106 (y101.length:Int) (wrap64 (x26_2+1)))=some (r1,r2):=hyw_
   have Ny106:=am_ hy_
   clear hy_
   have H':=am_ H
   clear H
   have p17:0≤(x26_2:Int):=od_
   have q17:(x26_2:Int)<((x6_2.length:Int):Int):=od_
   obtain⟨go17,co17,eo17,gb17,gl17,cl17,HG17⟩:=Kd.R_form HO_6.out T2_
   (first|cases eo17|(injection eo17 with ea_ en_ ec_;(first|subst ea_|(injection ea_ with ea_;subst ea_));subst ec_;clear en_))
   have GB17:=am_ gb17
   have GG17:=am_ HG17
   clear gb17 gl17 HG17
   obtain⟨hx17_0,hf17_0⟩:=Kd.R_celln 0 HO_6.out (x26_2:Int) p17 q17
   replace p17:=eq_true p17
   replace q17:=eq_true q17
   have HP20:=Kd.R_putg HO_6.out (x26_2:Int) (wrap64 (Int.tdiv a0 a1))
   go_wp2_with(first|(refine gs_ 3 34 ?_;refine sv_ 3 34 (wr.setCell ⟨go17,(x26_2:Int).toNat,none⟩ (.int .i64 (wrap64 (Int.tdiv a0 a1)))) ?_;intro w21 hw;have hg:wr.grownBy w21 (some go17):=(by rw[hw];exact HP20.2);have hp_:ju (jb .i64) 3 w21 w.heap.size (fun _=>True) (.slice (some ⟨go17,0,none⟩) x6_2.length co12) y104:=(by rw[hw,Ny104.out];exact HP20.1);clear HP20;have n_:=P2_ (hp_) ((by rw[hw];exact jJ (HB.out) GB17.out:Below w.heap.size w w21));clear HO_6 HB;obtain⟨HO_6,HB⟩:=n_;clear hg hw hp_;have p105:0≤(x26_2:Int):=od_;have q105:x26_2<(y104.length:Int):=(by have h_:(x26_2:Int)<((x6_2.length:Int):Int):=od_;first|(have e_:=(jh HO_6.out).1;omega)|simpa only[Ny104.out,List.length_set] using h_);have ql105:((x26_2:Int)<((x6_2.length:Int):Int))=True:=eq_true (od_);obtain⟨ad105,e105,hx105_0⟩:=jH (jh HO_6.out).2.2 x26_2 p105 q105;obtain rfl:(⟨go17,0,none⟩:Addr)=ad105:=(by injection e105);(first|simp only[add_plain] at hx105_0|simp only[add_at] at hx105_0|simp only[Addr.add,Nat.zero_add] at hx105_0|skip);replace p105:=eq_true p105;replace q105:=eq_true q105;have p19:0≤(x26_2:Int):=od_;have q19:(x26_2:Int)<((x6_2.length:Int):Int):=od_;obtain⟨hx19_0,hf19_0⟩:=Kd.R_celln 0 HO_6.out (x26_2:Int) p19 q19;replace p19:=eq_true p19;replace q19:=eq_true q19;obtain⟨hy22_,hz22_⟩:=Kd.R_celln 0 HO_6.out (x26_2:Int) (od_) (od_);have HP22:=Kd.R_putg HO_6.out (x26_2:Int) (wrap64 ((rd y104 x26_2)+1)))|(refine gs_ 3 45 ?_;refine sv_ 3 45 (w21.setCell ⟨go17,(x26_2:Int).toNat,none⟩ (.int .i64 (wrap64 ((rd y104 x26_2)+1)))) ?_;intro w23 hw;have hg:w21.grownBy w23 (some go17):=(by rw[hw];exact HP22.2);have hp_:ju (jb .i64) 3 w23 w.heap.size (fun _=>True) (.slice (some ⟨go17,0,none⟩) x6_2.length co12) y106:=(by rw[hw,Ny106.out];exact HP22.1);clear HP22;have n_:=P2_ (hp_) ((by rw[hw];exact jJ (HB.out) GB17.out:Below w.heap.size w w23));clear HO_6 HB;obtain⟨HO_6,HB⟩:=n_;clear hg hw hp_))
   (try simp only[←hl6_2])
   go_roundg k2
   case measure=>have:=HJ2.out;have:=HK2.out;omega
   case rel=>exact⟨(y106),(wrap64 (x26_2+1)),T9_,H',⟨(by have:=HJ2.out;have:=HK2.out;omega)⟩,⟨(by(try simp only[hl6_2]);(with_reducible repeat(first|apply Kd.R_alloc|apply Kd.R_drewN|apply jq));exact HO_6.out)⟩,⟨T16_⟩⟩
mutual
def braid_Bounds.j0:Nat→Int→Bool→Option (List Int)
 | 0,_,_=>none
 | k+1,x0,x10=>if x10=true then(some ([]:List Int)) else(if 0≤x0 then(if(x0:Int).toNat≤35184372088832 then(braid_Bounds.l0 k (([]:List Int)) x0) else(none)) else(none))
def braid_Bounds.l0:Nat→List Int→Int→Option (List Int)
 | 0,_,_=>none
 | k+1,x3,x4=>if x4 ≥ 1 then(if x3.length<17592186044416 then(braid_Bounds.l0 k (x3 ++ [x4]) (wrap64 (x4-1))) else(none)) else(some x3)
end
def braid_Bounds.f (k:Nat) (a0:Int):Option (List Int):=if a0<1 then(braid_Bounds.j0 k a0 true) else(braid_Bounds.j0 k a0 (decide (a0 > 256)))
theorem braid_Bounds.mono_l:∀ k,(∀ y0 y1,LeO (braid_Bounds.j0 k y0 y1) (braid_Bounds.j0 (k+1) y0 y1))∧(∀ y0 y1,LeO (braid_Bounds.l0 k y0 y1) (braid_Bounds.l0 (k+1) y0 y1))
 | 0=>⟨fun _ _ r h=>by simp[braid_Bounds.j0] at h,fun _ _ r h=>by simp[braid_Bounds.l0] at h⟩
 | k+1=>by
  obtain⟨ih0,ih1⟩:=braid_Bounds.mono_l k
  refine⟨?_,?_⟩
  ·intro y0 y1
   unfold braid_Bounds.j0
   with_reducible repeat' first|exact ih0 _ _|exact ih1 _ _|exact LeO.refl _|exact LeO.none _|refine LeO.ite ?_ ?_|refine LeO.bind ?_ (fun _=>?_)
  intro y0 y1
  unfold braid_Bounds.l0
  with_reducible repeat' first|exact ih0 _ _|exact ih1 _ _|exact LeO.refl _|exact LeO.none _|refine LeO.ite ?_ ?_|refine LeO.bind ?_ (fun _=>?_)
theorem braid_Bounds.mono:∀ a0 k,LeO (braid_Bounds.f k a0) (braid_Bounds.f (k+1) a0):=by
 intro a0 k
 obtain⟨ih0,ih1⟩:=braid_Bounds.mono_l k
 unfold braid_Bounds.f
 with_reducible repeat' first|exact ih0 _ _|exact ih1 _ _|exact LeO.refl _|exact LeO.none _|refine LeO.ite ?_ ?_|refine LeO.bind ?_ (fun _=>?_)
set_option maxHeartbeats 8000000 in
set_option maxRecDepth 100000 in
theorem braid_Bounds.calls (k:Nat) (a0:Int) (r:List Int) (w:World) (h:braid_Bounds.f k a0=some r) :
  Calls Try.prog 36 #[.int .i64 a0] w fun e w'=>∃ v0_:Value,e = .returned (v0_)∧ju (jb .i64) 3 w' w.heap.size (fun _=>True) v0_ r∧Below w.heap.size w w':=by
 have HB:=am_ (Below.refl w.heap.size w)
 have H:(if a0<1 then(braid_Bounds.j0 k a0 true) else(braid_Bounds.j0 k a0 (decide (a0 > 256))))=some r:=h
 clear h
 have HC2:=am_ H
 clear H
 go_enter Try.func36,Try.ntmps36
 go_upto_region 1 with(fail)
 go_cut [10] (fun v10 wc=>∃ (kq:Nat) (x10_1:Bool),v10 = .bool x10_1∧Aside0 (braid_Bounds.j0 kq a0 x10_1=some r)∧Aside0 (kq≤k)∧Aside0 (Below w.heap.size w wc))
 case first =>
  have H:=HC2.out
  clear HC2
  by_cases c3:a0<1
  ·rw[if_pos c3] at H
   have c3b0:=decide_eq_true c3
   clear c3
   (first|rw[c3b0]|(simp only[jD,jE];rw[c3b0])|skip)
   have H':=am_ H
   clear H
   go_wp2
   go_meet
   case rel=>exact⟨_,(true),T9_,H',⟨T8_⟩,⟨T16_⟩⟩
  rw[if_neg c3] at H
  have c3b0:=decide_eq_false c3
  clear c3
  (first|rw[c3b0]|(simp only[jD,jE];rw[c3b0])|skip)
  have H':=am_ H
  clear H
  go_wp2
  go_meet
  case rel=>exact⟨_,(decide (a0 > 256)),T9_,H',⟨T8_⟩,⟨T16_⟩⟩
 clear HC2
 obtain⟨kq,x10_1,rfl,HA,HJ1,HB⟩:=hcut
 cases kq with
 | zero=>exact absurd HA.out (by simp[braid_Bounds.j0])
 | succ kj1 =>
  have H:=HA.out
  clear HA
  simp only[braid_Bounds.j0] at H
  by_cases c4:x10_1=true
  ·subst c4
   have H1:(some ([]:List Int))=some r:=by rw[if_pos rfl] at H;exact H
   clear H
   have H:=H1
   clear H1
   obtain rfl:=Option.some.inj H
   obtain⟨rfl⟩:=sj1_ H
   go_wp2
   go_ret
   exact⟨_,T14_,T18_,T16_⟩
  replace c4:=Bool.eq_false_iff.mpr c4
  subst c4
  have H1:(if 0≤a0 then(if(a0:Int).toNat≤35184372088832 then(braid_Bounds.l0 kj1 (([]:List Int)) a0) else(none)) else(none))=some r:=by rw[if_neg (show ¬ (false=true) by decide)] at H;exact H
  clear H
  have H:=H1
  clear H1
  replace H:=ifn_ H;obtain⟨c5,H⟩:=H
  have c5b0:=eq_true c5
  have c5b1:decide (0≤a0)=true:=decide_eq_true c5
  clear c5
  replace H:=ifn_ H;obtain⟨c6,H⟩:=H
  have c6b0:=eq_true c6
  have c6b1:decide ((a0:Int).toNat≤35184372088832)=true:=decide_eq_true c6
  clear c6
  obtain⟨y107,hy_⟩:∃ y_:List Int,y_=(([]:List Int)):=⟨_,rfl⟩
  replace H:(braid_Bounds.l0 kj1 y107 a0)=some r:=hyw_
  have Ny107:=am_ hy_
  clear hy_
  have H':=am_ H
  clear H
  go_wp2_with(first|(refine gd_ 12 ?_;refine Kd.R_make0 (jb .i64) _ 3 rfl (N:=12) rfl 24 _ _ rfl a0 rfl rfl Try.underlying24 (.int .i64 0) 8 info3 rfl T3_ T2_ 0 (ok:=fun _=>True) (okp:=fun _=>True) rfl (fun _ hk=>hk) trivial (od_) (Nat.le_trans (Nat.mul_le_mul_right _ (od_:a0.toNat≤35184372088832)) T2_) (Below.refl _ _) (Nat.le_refl _) ?_;intro v108 w7 ho8 hb hg_ hnew_;clear hg_ hnew_;(first|rw[←Ny107.out] at ho8|(simp only[Int.reduceToNat] at ho8;rw[←Ny107.out] at ho8));have n_:=P2_ (jm ho8 (ja T16_)) (ji T16_ hb);clear HB;obtain⟨HO109,HB⟩:=n_;clear hb ho8))
  go_loopg [3,4] kj1 (fun kq v3 v4 w'=>∃ (x3_2:List Int) (x4_2:Int),v4 = .int .i64 x4_2∧Aside0 (braid_Bounds.l0 kq x3_2 x4_2=some r)∧Aside0 (kq≤kj1)∧Aside0 (ju (jb .i64) 3 w' w.heap.size (fun _=>True) v3 x3_2)∧Aside0 (Below w.heap.size w w'))
  case atStart=>exact⟨(y107),(a0),T9_,H',⟨Nat.le_refl _⟩,⟨ru_ HO109.out⟩,⟨T16_⟩⟩
  clear H'
  (try clear c4);(try clear c5);(try clear c5b0 c5b1);(try clear c6);(try clear c6b0 c6b1)
  obtain⟨x3_2,x4_2,rfl,HA,HK2,HO_3,HB⟩:=hrel
  cases gk with
  | zero=>exact absurd HA.out (by simp[braid_Bounds.l0])
  | succ k2 =>
   have H:=HA.out
   clear HA
   simp only[braid_Bounds.l0] at H
   by_cases c9:x4_2 ≥ 1
   rotate_left
   ·rw[if_neg c9] at H
    have c9b0:=decide_eq_false c9
    clear c9
    obtain rfl:=Option.some.inj H
    obtain⟨rfl⟩:=sj1_ H
    go_wp2
    go_ret
    exact⟨_,T14_,ru_ HO_3.out,T16_⟩
   rw[if_pos c9] at H
   have c9b0:=decide_eq_true c9
   clear c9
   replace H:=ifa_ H;obtain⟨LMc10,H⟩:=H
   obtain⟨y110,hy_⟩:∃ y_:List Int,y_=(x3_2 ++ [x4_2]):=⟨_,rfl⟩
   replace H:(braid_Bounds.l0 k2 y110 (wrap64 (x4_2-1)))=some r:=hyw_
   have Ny110:=am_ hy_
   clear hy_
   have H':=am_ H
   clear H
   go_wp2_with(first|(refine gb_ .append #[.tmp 18,.tmp 20] ?_;at_builtin;refine Kd.R_append (jb .i64) (w0:=w) w.heap.size rfl (.tmp 18) (.tmp 20) 24 3 (.int .i64 0) 8 rfl Try.underlying24 info3 rfl T3_ T2_ u3 x3_2 x4_2 [.int .i64 x4_2] (fun _=>True) (fun _=>False) rfl rfl ?aP (fun _ hk=>hk.elim) ?aF ?aO ?aB ?aS ?aL ?_;(case aP=>exact rfl);(case aB=>exact T16_);(case aF=>exact(fun _ _=>trivial));(case aO=>exact(ru_ HO_3.out));(case aS=>exact(ja T16_));(case aL=>have:=LMc10.out;omega);intro v111 w11 ho hb hg hat;rw[←Ny110.out] at ho;have n_:=P2_ (hb) (ho);clear HB HO_3;obtain⟨HB,HO112⟩:=n_;clear ho hb hg hat))
   go_roundg k2
   case measure=>have:=HJ1.out;have:=HK2.out;omega
   case rel=>exact⟨(y110),(wrap64 (x4_2-1)),T9_,H',⟨(by have:=HJ1.out;have:=HK2.out;omega)⟩,⟨ru_ HO112.out⟩,⟨T16_⟩⟩
def perm_Bounds.l0:Nat→List Int→Int→Option (List Int)
 | 0,_,_=>none
 | k+1,x3,x4=>if x4 ≥ 2 then(if x3.length<17592186044416 then(perm_Bounds.l0 k (x3 ++ [x4]) (wrap64 (x4-1))) else(none)) else(some x3)
def perm_Bounds.f (k:Nat) (a0:Int):Option (List Int):=perm_Bounds.l0 k ([]:List Int) a0
theorem perm_Bounds.mono_l:∀ k,(∀ y0 y1,LeO (perm_Bounds.l0 k y0 y1) (perm_Bounds.l0 (k+1) y0 y1))
 | 0=>fun _ _ r h=>by simp[perm_Bounds.l0] at h
 | k+1=>by
  have ih0:=perm_Bounds.mono_l k
  intro y0 y1
  unfold perm_Bounds.l0
  with_reducible repeat' first|exact ih0 _ _|exact LeO.refl _|exact LeO.none _|refine LeO.ite ?_ ?_|refine LeO.bind ?_ (fun _=>?_)
theorem perm_Bounds.mono:∀ a0 k,LeO (perm_Bounds.f k a0) (perm_Bounds.f (k+1) a0):=by
 intro a0 k
 have ih0:=perm_Bounds.mono_l k
 unfold perm_Bounds.f
 with_reducible repeat' first|exact ih0 _ _|exact LeO.refl _|exact LeO.none _|refine LeO.ite ?_ ?_|refine LeO.bind ?_ (fun _=>?_)
set_option maxHeartbeats 8000000 in
set_option maxRecDepth 100000 in
theorem perm_Bounds.calls (k:Nat) (a0:Int) (r:List Int) (w:World) (h:perm_Bounds.f k a0=some r) :
  Calls Try.prog 38 #[.int .i64 a0] w fun e w'=>∃ v0_:Value,e = .returned (v0_)∧ju (jb .i64) 3 w' w.heap.size (fun _=>True) v0_ r∧Below w.heap.size w w':=by
 have HB:=am_ (Below.refl w.heap.size w)
 have H:(perm_Bounds.l0 k ([]:List Int) a0)=some r:=h
 clear h
 have H':=am_ H
 clear H
 go_enter Try.func38,Try.ntmps38
 go_wp2
 go_loopg [3,4] k (fun kq v3 v4 w'=>∃ (x3_1:List Int) (x4_1:Int),v4 = .int .i64 x4_1∧Aside0 (perm_Bounds.l0 kq x3_1 x4_1=some r)∧Aside0 (kq≤k)∧Aside0 (ju (jb .i64) 3 w' w.heap.size (fun _=>True) v3 x3_1)∧Aside0 (Below w.heap.size w w'))
 case atStart=>exact⟨(([]:List Int)),(a0),T9_,H',⟨Nat.le_refl _⟩,⟨T18_⟩,⟨T16_⟩⟩
 clear H'
 obtain⟨x3_1,x4_1,rfl,HA,HK1,HO_3,HB⟩:=hrel
 cases gk with
 | zero=>exact absurd HA.out (by simp[perm_Bounds.l0])
 | succ k1 =>
  have H:=HA.out
  clear HA
  simp only[perm_Bounds.l0] at H
  by_cases c2:x4_1 ≥ 2
  rotate_left
  ·rw[if_neg c2] at H
   have c2b0:=decide_eq_false c2
   clear c2
   obtain rfl:=Option.some.inj H
   obtain⟨rfl⟩:=sj1_ H
   go_wp2
   go_ret
   exact⟨_,T14_,ru_ HO_3.out,T16_⟩
  rw[if_pos c2] at H
  have c2b0:=decide_eq_true c2
  clear c2
  replace H:=ifa_ H;obtain⟨LMc3,H⟩:=H
  obtain⟨y113,hy_⟩:∃ y_:List Int,y_=(x3_1 ++ [x4_1]):=⟨_,rfl⟩
  replace H:(perm_Bounds.l0 k1 y113 (wrap64 (x4_1-1)))=some r:=hyw_
  have Ny113:=am_ hy_
  clear hy_
  have H':=am_ H
  clear H
  go_wp2_with(first|(refine gb_ .append #[.tmp 10,.tmp 12] ?_;at_builtin;refine Kd.R_append (jb .i64) (w0:=w) w.heap.size rfl (.tmp 10) (.tmp 12) 24 3 (.int .i64 0) 8 rfl Try.underlying24 info3 rfl T3_ T2_ u3 x3_1 x4_1 [.int .i64 x4_1] (fun _=>True) (fun _=>False) rfl rfl ?aP (fun _ hk=>hk.elim) ?aF ?aO ?aB ?aS ?aL ?_;(case aP=>exact rfl);(case aB=>exact T16_);(case aF=>exact(fun _ _=>trivial));(case aO=>exact(ru_ HO_3.out));(case aS=>exact(ja T16_));(case aL=>have:=LMc3.out;omega);intro v114 w4 ho hb hg hat;rw[←Ny113.out] at ho;have n_:=P2_ (hb) (ho);clear HB HO_3;obtain⟨HB,HO115⟩:=n_;clear ho hb hg hat))
  go_roundg k1
  case measure=>have:=HK1.out;omega
  case rel=>exact⟨(y113),(wrap64 (x4_1-1)),T9_,H',⟨T7_⟩,⟨ru_ HO115.out⟩,⟨T16_⟩⟩
def slices_Clone_byte_byte.f (l0:List Int):Option (List Int):=if l0.length<140737488355328 then some l0 else none
set_option maxHeartbeats 8000000 in
set_option maxRecDepth 100000 in
theorem slices_Clone_byte_byte.calls (A0:Option Addr) (c0:Nat) (l0:List Int) (r:List Int) (w:World) (hr0:Kd.C (jb .u8) w A0 l0.length l0) (hc0:l0.length≤c0) (h:slices_Clone_byte_byte.f l0=some r) :
  Calls Try.prog 57 #[.slice A0 l0.length c0] w fun e w'=>∃ v0_:Value,e = .returned (v0_)∧ju (jb .u8) 5 w' w.heap.size (fun _=>True) v0_ r∧Below w.heap.size w w':=by
 have HR0:=am_ hr0
 have HC0:=am_ hc0
 clear hc0
 have HB:=am_ (Below.refl w.heap.size w)
 unfold slices_Clone_byte_byte.f at h
 by_cases c2:l0.length<140737488355328
 rotate_left
 ·rw[if_neg c2] at h
  exact absurd h T1_
 rw[if_pos c2] at h
 have LMc2:=am_ c2
 obtain rfl:=Option.some.inj h
 clear h c2
 have hnil:=fun(W:World)=>Lib.run_eql_slice_nil (P:=Try.prog) W 23 5 A0 l0.length c0 0 0 Try.underlying23
 cases A0 with
 | none =>
  have hl:l0=[]:=by
   rcases Nat.eq_zero_or_pos l0.length with h0|h0
   ·exact List.eq_nil_of_length_eq_zero h0
   obtain⟨ad,he,_⟩:=hr0.2.2 h0
   cases he
  subst hl
  clear hr0
  simp only[Option.isNone_none,List.length_nil] at hnil
  go_enter Try.func57,Try.ntmps57
  go_wp2
  go_ret
  exact⟨_,rfl,Kd.R_nil _ _ _ _ _,HB.out⟩
 | some ad0 =>
  clear hr0
  simp only[Option.isNone_some] at hnil
  go_enter Try.func57,Try.ntmps57
  go_wp2_with(first|(refine gd_ 5 ?_;refine Kd.R_lit (jb .u8) _ 5 ?hg (N:=5) ?hd (xs:=([]:List Int)) (inner:=[]) (ok:=fun _=>True) (okp:=fun _=>True) ?hr ?hp (fun _ hk=>hk) trivial (Below.refl _ _) (Nat.le_refl _) T1_ ?_;(case hd=>rfl);(case hg=>rfl);(case hr=>first|(go_simp;done)|(go_simp;rfl));(case hp=>exact(Reps.none _ _));intro v1 w1 ho1 hb hg_ hnew_;clear hg_ hnew_;have n_:=P2_ (jm ho1 (ja HB.out)) (ji HB.out hb);clear HB;obtain⟨HO1,HB⟩:=n_;clear hb ho1)|(refine gb_ .append #[.tmp 5,.tmp 6] ?_;at_builtin;refine Kd.R_append_rows (jb .u8) (w0:=w) w.heap.size rfl (.tmp 5) (.tmp 6) 23 5 (.int .u8 0) 1 rfl Try.underlying23 info5 rfl T3_ T2_ v1 ([]:List Int) l0 _ _ _ (fun _=>True) (fun _=>False) rfl rfl ?aO ?aR (fun _ _ h=>h) (fun _ h=>h.elim) ?aF ?aB ?aS ?aL ?_;(case aR=>exact(jv HR0.out HB.out));(case aB=>exact HB.out);(case aF=>exact(fun _ _=>trivial));(case aO=>exact HO1.out);(case aS=>exact(ja HB.out));(case aL=>have:=LMc2.out;simp;omega);intro v2 w2 ho hb hg hat;have n_:=P2_ (hb) (ho);clear HB HO1;obtain⟨HB,HO2⟩:=n_;clear ho hb hg hat))
  go_ret
  exact⟨_,rfl,(by have h_:=HO2.out;rw[List.nil_append] at h_;exact h_),HB.out⟩
mutual
def tape_Split.j0:Nat→List Int→Int→Bool→Option (List Int×List Int×(List (List Int))×Int)
 | 0,_,_,_=>none
 | k+1,x0,x1,x16=>if x16=true then(some (([]:List Int),([]:List Int),([]:List (List Int)),2)) else(if(x0.length:Int)<18 then(some (([]:List Int),([]:List Int),([]:List (List Int)),3)) else(if 18≤(x0.length:Int) then((some (x0.drop 18:List Int)).bind fun y117=>((slices_Clone_byte_byte.f (x0.take 18)).bind fun t125=>(if 0≤(wrap64 ((y117.length:Int) / 2)) then(if(wrap64 ((y117.length:Int) / 2))≤(y117.length:Int) then((slices_Clone_byte_byte.f (y117.take ((wrap64 ((y117.length:Int) / 2)):Int).toNat)).bind fun t132=>((some (y117.drop ((wrap64 ((y117.length:Int) / 2)):Int).toNat:List Int)).bind fun y136=>(if x1=0 then(none) else(tape_Split.l0 k y136 (wrap64 ((y136.length:Int) / x1)) x1 0 t125 t132 ([]:List (List Int)))))) else(none)) else(none)))) else(none)))
def tape_Split.l0:Nat→List Int→Int→Int→Int→List Int→List Int→List (List Int)→Option (List Int×List Int×(List (List Int))×Int)
 | 0,_,_,_,_,_,_,_=>none
 | k+1,x6,x9,x42,x43,x136000,x136001,x136002=>if x43<x42 then(if 0≤(wrap64 (x43*x9)) then(if(wrap64 (x43*x9))≤(wrap64 ((wrap64 (x43+1))*x9)) then(if(wrap64 ((wrap64 (x43+1))*x9))≤(x6.length:Int) then((slices_Clone_byte_byte.f ((x6.take ((wrap64 ((wrap64 (x43+1))*x9)):Int).toNat).drop ((wrap64 (x43*x9)):Int).toNat)).bind fun t144=>(if x136002.length<5864062014805 then(tape_Split.l0 k x6 x9 x42 (wrap64 (x43+1)) x136000 x136001 (x136002 ++ [t144])) else(none))) else(none)) else(none)) else(none)) else(some (x136000,x136001,x136002,0))
end
def tape_Split.f (k:Nat) (l0:List Int) (a1:Int):Option (List Int×List Int×(List (List Int))×Int):=if a1<1 then(tape_Split.j0 k l0 a1 true) else(tape_Split.j0 k l0 a1 (decide (a1 > 64)))
theorem tape_Split.mono_l:∀ k,(∀ y0 y1 y2,LeO (tape_Split.j0 k y0 y1 y2) (tape_Split.j0 (k+1) y0 y1 y2))∧(∀ y0 y1 y2 y3 y4 y5 y6,LeO (tape_Split.l0 k y0 y1 y2 y3 y4 y5 y6) (tape_Split.l0 (k+1) y0 y1 y2 y3 y4 y5 y6))
 | 0=>⟨fun _ _ _ r h=>by simp[tape_Split.j0] at h,fun _ _ _ _ _ _ _ r h=>by simp[tape_Split.l0] at h⟩
 | k+1=>by
  obtain⟨ih0,ih1⟩:=tape_Split.mono_l k
  refine⟨?_,?_⟩
  ·intro y0 y1 y2
   unfold tape_Split.j0
   with_reducible repeat' first|exact ih0 _ _ _|exact ih1 _ _ _ _ _ _ _|exact LeO.refl _|exact LeO.none _|refine LeO.ite ?_ ?_|refine LeO.bind ?_ (fun _=>?_)
  intro y0 y1 y2 y3 y4 y5 y6
  unfold tape_Split.l0
  with_reducible repeat' first|exact ih0 _ _ _|exact ih1 _ _ _ _ _ _ _|exact LeO.refl _|exact LeO.none _|refine LeO.ite ?_ ?_|refine LeO.bind ?_ (fun _=>?_)
theorem tape_Split.mono:∀ a0 a1 k,LeO (tape_Split.f k a0 a1) (tape_Split.f (k+1) a0 a1):=by
 intro a0 a1 k
 obtain⟨ih0,ih1⟩:=tape_Split.mono_l k
 unfold tape_Split.f
 with_reducible repeat' first|exact ih0 _ _ _|exact ih1 _ _ _ _ _ _ _|exact LeO.refl _|exact LeO.none _|refine LeO.ite ?_ ?_|refine LeO.bind ?_ (fun _=>?_)
def tape_Split.T7:Bool×List (List Nat×List Nat):=(true,[([],[]),([0],[0]),([1],[1]),([],[]),([],[]),([3,4],[3,4]),([5,2],[5]),([2,6],[2,6]),([],[]),([8,7,6,0,1,2,3,4,5,6,7,8],[7,8])])
def tape_Split.B7:List Nat:=[0,1,3,0,0,24,63,127,0,511]
theorem tape_Split.tab7:rtab .any (opsOf Try.f40 7)=tape_Split.T7:=by kernel_rfl
theorem tape_Split.bits7:waitsOk tape_Split.T7.2 tape_Split.B7=true:=by kernel_rfl
def tape_Split.T13:Bool×List (List Nat×List Nat):=(true,[([],[]),([0],[0]),([],[]),([],[]),([],[]),([3,4],[3,4]),([],[]),([6],[6]),([],[]),([7,8],[7,8]),([2,5,9],[2,5,9]),([10],[10]),([11],[11]),([1,12,11],[1,12]),([0,1,2,3,4,5,6,7,8,9,10,11,12,13],[]),([14,13,13,0,1,2,3,4,5,6,7,8,9,10,11,12,13],[13,14])])
def tape_Split.B13:List Nat:=[0,1,0,0,0,24,0,64,0,448,1020,2044,4092,8191,16383,32767]
theorem tape_Split.tab13:rtab .any (opsOf Try.f40 13)=tape_Split.T13:=by kernel_rfl
theorem tape_Split.bits13:waitsOk tape_Split.T13.2 tape_Split.B13=true:=by kernel_rfl
set_option maxHeartbeats 8000000 in
set_option maxRecDepth 100000 in
theorem tape_Split.calls (k:Nat) (A0:Option Addr) (c0:Nat) (l0:List Int) (a1:Int) (r1:List Int) (r2:List Int) (r3:List (List Int)) (r4:Int) (w:World) (hr0:Kd.C (jb .u8) w A0 l0.length l0) (hc0:l0.length≤c0) (h:tape_Split.f k l0 a1=some (r1,r2,r3,r4)) :
  Calls Try.prog 40 #[.slice A0 l0.length c0,.int .i64 a1] w fun e w'=>∃ v0_ v1_ v2_:Value,e = .returned (.tuple #[.agg #[v0_,v1_,v2_],.int .i64 r4])∧ju (jb .u8) 5 w' w.heap.size (fun k_=>ne_ k_ v1_) v0_ r1∧ju (jb .u8) 5 w' w.heap.size (fun k_=>ne_ k_ v0_) v1_ r2∧Kd.S (jy 5 (jb .u8)) 23 w' w.heap.size (fun k_=>ne_ k_ v0_∧ne_ k_ v1_) v2_ r3∧Below w.heap.size w w':=by
 have hu55:=Try.underlying55
 have HR0:=am_ hr0
 have HC0:=am_ hc0
 clear hr0 hc0
 have HB:=am_ (Below.refl w.heap.size w)
 have H:(if a1<1 then(tape_Split.j0 k l0 a1 true) else(tape_Split.j0 k l0 a1 (decide (a1 > 64))))=some (r1,r2,r3,r4):=h
 clear h
 have HC3:=am_ H
 clear H
 go_enter Try.func40,Try.ntmps40
 go_upto_region 1 with(first|(refine gd_ 4 ?_;refine bx_ 4 #[.slice none 0 0,.slice none 0 0,.slice none 0 0] 55 ?_;intro gb116 hg w4 hbox hb;have n_:=P4_ (ji T16_ hb) (hbox) ((by rw[hg];exact(ja T16_):w.heap.size≤gb116)) ((by rw[hg];exact(ja T16_):w.heap.size≤gb116));clear HB;obtain⟨HB,BK116,GW116,GE116⟩:=n_;clear hb hbox hg))
 (try simp only[Act.put,List.setIfInBounds_toArray,List.set_cons_zero,List.set_cons_succ])
 go_cut [16] (fun v16 wc=>∃ (kq:Nat) (x16_2:Bool),v16 = .bool x16_2∧Aside0 (tape_Split.j0 kq l0 a1 x16_2=some (r1,r2,r3,r4))∧Aside0 (kq≤k)∧Aside0 (wc.heap[gb116]? = some (.cells #[(.slice none 0 0),(.slice none 0 0),(.slice none 0 0)] 55 (0,0)))∧Aside0 (Below w.heap.size w wc))
 case first =>
  have H:=HC3.out
  clear HC3
  by_cases c5:a1<1
  ·rw[if_pos c5] at H
   have c5b0:=decide_eq_true c5
   clear c5
   (first|rw[c5b0]|(simp only[jD,jE];rw[c5b0])|skip)
   have H':=am_ H
   clear H
   go_wp2
   go_meet
   case rel=>exact⟨_,(true),T9_,H',⟨T8_⟩,⟨bu_ BK116.out⟩,⟨T20_⟩⟩
  rw[if_neg c5] at H
  have c5b0:=decide_eq_false c5
  clear c5
  (first|rw[c5b0]|(simp only[jD,jE];rw[c5b0])|skip)
  have H':=am_ H
  clear H
  go_wp2
  go_meet
  case rel=>exact⟨_,(decide (a1 > 64)),T9_,H',⟨T8_⟩,⟨bu_ BK116.out⟩,⟨T20_⟩⟩
 clear HC3
 obtain⟨kq,x16_2,rfl,HA,HJ2,BK116,HB⟩:=hcut
 cases kq with
 | zero=>exact absurd HA.out (by simp[tape_Split.j0])
 | succ kj2 =>
  have H:=HA.out
  clear HA
  simp only[tape_Split.j0] at H
  by_cases c6:x16_2=true
  ·subst c6
   have H1:(some (([]:List Int),([]:List Int),([]:List (List Int)),2))=some (r1,r2,r3,r4):=by rw[if_pos rfl] at H;exact H
   clear H
   have H:=H1
   clear H1
   obtain⟨rfl,rfl,rfl,rfl⟩:=sj4_ H
   obtain⟨hcz7_0,hcz7_1,hcz7_2,hfz7_0,hfz7_1,hfz7_2⟩:=cz3_ BK116.out
   go_wp2
   refine bodyPost_ret (results_ct rfl _ _ gb116 55 #[.slice none 0 0,.slice none 0 0,.slice none 0 0] (0,0) _ rfl (by(with_reducible repeat(first|refine jp ?_ _|refine jl ?_|refine jn ?_ _));refine jt (cs:=#[.slice none 0 0,.slice none 0 0,.slice none 0 0]) ?_ 2 _ rfl;(with_reducible repeat(first|refine jp ?_ _|refine jl ?_|refine jn ?_ _));refine jt (cs:=#[.slice none 0 0,.slice none 0 0,.slice none 0 0]) ?_ 1 _ rfl;(with_reducible repeat(first|refine jp ?_ _|refine jl ?_|refine jn ?_ _));refine jt (cs:=#[.slice none 0 0,.slice none 0 0,.slice none 0 0]) ?_ 0 _ rfl;exact bu_ BK116.out) Try.underlying55 rfl T4_) rfl ?_
   exact⟨_,_,_,T14_,T18_,T18_,T19_,T20_⟩
  replace c6:=Bool.eq_false_iff.mpr c6
  subst c6
  have H1:(if(l0.length:Int)<18 then(some (([]:List Int),([]:List Int),([]:List (List Int)),3)) else(if 18≤(l0.length:Int) then((some (l0.drop 18:List Int)).bind fun y117=>((slices_Clone_byte_byte.f (l0.take 18)).bind fun t125=>(if 0≤(wrap64 ((y117.length:Int) / 2)) then(if(wrap64 ((y117.length:Int) / 2))≤(y117.length:Int) then((slices_Clone_byte_byte.f (y117.take ((wrap64 ((y117.length:Int) / 2)):Int).toNat)).bind fun t132=>((some (y117.drop ((wrap64 ((y117.length:Int) / 2)):Int).toNat:List Int)).bind fun y136=>(if a1=0 then(none) else(tape_Split.l0 kj2 y136 (wrap64 ((y136.length:Int) / a1)) a1 0 t125 t132 ([]:List (List Int)))))) else(none)) else(none)))) else(none)))=some (r1,r2,r3,r4):=by rw[if_neg (show ¬ (false=true) by decide)] at H;exact H
  clear H
  have H:=H1
  clear H1
  by_cases c8:(l0.length:Int)<18
  ·rw[if_pos c8] at H
   have c8b0:=decide_eq_true c8
   have c8b1:decide (l0.length<18)=true:=decide_eq_true T2_
   clear c8
   obtain⟨rfl,rfl,rfl,rfl⟩:=sj4_ H
   obtain⟨hcz9_0,hcz9_1,hcz9_2,hfz9_0,hfz9_1,hfz9_2⟩:=cz3_ BK116.out
   go_wp2
   refine bodyPost_ret (results_ct rfl _ _ gb116 55 #[.slice none 0 0,.slice none 0 0,.slice none 0 0] (0,0) _ rfl (by(with_reducible repeat(first|refine jp ?_ _|refine jl ?_|refine jn ?_ _));refine jt (cs:=#[.slice none 0 0,.slice none 0 0,.slice none 0 0]) ?_ 2 _ rfl;(with_reducible repeat(first|refine jp ?_ _|refine jl ?_|refine jn ?_ _));refine jt (cs:=#[.slice none 0 0,.slice none 0 0,.slice none 0 0]) ?_ 1 _ rfl;(with_reducible repeat(first|refine jp ?_ _|refine jl ?_|refine jn ?_ _));refine jt (cs:=#[.slice none 0 0,.slice none 0 0,.slice none 0 0]) ?_ 0 _ rfl;exact bu_ BK116.out) Try.underlying55 rfl T4_) rfl ?_
   exact⟨_,_,_,T14_,T18_,T18_,T19_,T20_⟩
  rw[if_neg c8] at H
  have c8b0:=decide_eq_false c8
  have c8b1:decide (l0.length<18)=false:=decide_eq_false T2_
  clear c8
  replace H:=ifn_ H;obtain⟨c10,H⟩:=H
  have c10b0:=eq_true c10
  have c10b1:decide (18≤(l0.length:Int))=true:=decide_eq_true c10
  clear c10
  obtain⟨y117,hy_⟩:∃ y_:List Int,y_=(l0.drop 18):=⟨_,rfl⟩
  replace H:((slices_Clone_byte_byte.f (l0.take 18)).bind fun t125=>(if 0≤(wrap64 ((y117.length:Int) / 2)) then(if(wrap64 ((y117.length:Int) / 2))≤(y117.length:Int) then((slices_Clone_byte_byte.f (y117.take ((wrap64 ((y117.length:Int) / 2)):Int).toNat)).bind fun t132=>((some (y117.drop ((wrap64 ((y117.length:Int) / 2)):Int).toNat:List Int)).bind fun y136=>(if a1=0 then(none) else(tape_Split.l0 kj2 y136 (wrap64 ((y136.length:Int) / a1)) a1 0 t125 t132 ([]:List (List Int)))))) else(none)) else(none)))=some (r1,r2,r3,r4):=hyw_
  have Ny117:=am_ hy_
  clear hy_
  have c11b0:=eq_true (od_:18≤(l0.length:Int))
  obtain⟨y121,hy_⟩:∃ y_:List Int,y_=(l0.take 18):=⟨_,rfl⟩
  replace H:((slices_Clone_byte_byte.f y121).bind fun t125=>(if 0≤(wrap64 ((y117.length:Int) / 2)) then(if(wrap64 ((y117.length:Int) / 2))≤(y117.length:Int) then((slices_Clone_byte_byte.f (y117.take ((wrap64 ((y117.length:Int) / 2)):Int).toNat)).bind fun t132=>((some (y117.drop ((wrap64 ((y117.length:Int) / 2)):Int).toNat:List Int)).bind fun y136=>(if a1=0 then(none) else(tape_Split.l0 kj2 y136 (wrap64 ((y136.length:Int) / a1)) a1 0 t125 t132 ([]:List (List Int)))))) else(none)) else(none)))=some (r1,r2,r3,r4):=hyw_
  have Ny121:=am_ hy_
  clear hy_
  replace H:=Option.bind_eq_some_iff.mp H
  obtain⟨t125,A120,H⟩:=H
  try dsimp only at H
  have A12:=am_ A120
  clear A120
  obtain⟨ji13,hji13⟩:∃ j_:Int,(wrap64 ((y117.length:Int) / 2))=j_:=⟨_,rfl⟩
  replace H:(if 0≤(ji13) then(if(ji13)≤(y117.length:Int) then((slices_Clone_byte_byte.f (y117.take ((ji13):Int).toNat)).bind fun t132=>((some (y117.drop ((ji13):Int).toNat:List Int)).bind fun y136=>(if a1=0 then(none) else(tape_Split.l0 kj2 y136 (wrap64 ((y136.length:Int) / a1)) a1 0 t125 t132 ([]:List (List Int)))))) else(none)) else(none))=some (r1,r2,r3,r4):=by first|(rw[hji13] at H;exact H)|(simp only[hji13] at H ⊢;exact H)
  (try rw[hji13] at A12)
  have hji13w:(IntKind.i64.wrap ((y117.length:Int) / 2))=ji13:=(jD _).trans hji13
  replace H:=ifn_ H;obtain⟨c14,H⟩:=H
  have c14b0:=eq_true c14
  have c14b1:decide (0≤(ji13))=true:=decide_eq_true c14
  clear c14
  replace H:=ifn_ H;obtain⟨c15,H⟩:=H
  have c15b0:=eq_true c15
  have c15b1:decide ((ji13)≤(y117.length:Int))=true:=decide_eq_true c15
  clear c15
  obtain⟨y128,hy_⟩:∃ y_:List Int,y_=(y117.take ((ji13):Int).toNat):=⟨_,rfl⟩
  replace H:((slices_Clone_byte_byte.f y128).bind fun t132=>((some (y117.drop ((ji13):Int).toNat:List Int)).bind fun y136=>(if a1=0 then(none) else(tape_Split.l0 kj2 y136 (wrap64 ((y136.length:Int) / a1)) a1 0 t125 t132 ([]:List (List Int))))))=some (r1,r2,r3,r4):=hyw_
  have Ny128:=am_ hy_
  clear hy_
  replace H:=Option.bind_eq_some_iff.mp H
  obtain⟨t132,A160,H⟩:=H
  try dsimp only at H
  have A16:=am_ A160
  clear A160
  have c17b0:=eq_true (od_:0≤(ji13))
  have c18b0:=eq_true (od_:(ji13)≤(y117.length:Int))
  obtain⟨y136,hy_⟩:∃ y_:List Int,y_=(y117.drop ((ji13):Int).toNat):=⟨_,rfl⟩
  replace H:(if a1=0 then(none) else(tape_Split.l0 kj2 y136 (wrap64 ((y136.length:Int) / a1)) a1 0 t125 t132 ([]:List (List Int))))=some (r1,r2,r3,r4):=hyw_
  have Ny136:=am_ hy_
  clear hy_
  by_cases c19:a1=0
  ·rw[if_pos c19] at H
   exact absurd H T1_
  rw[if_neg c19] at H
  obtain⟨c19b0,c19b1⟩:=en_ c19
  have H':=am_ H
  clear H
  have q20:(18:Int)≤((l0.length:Int):Int):=od_
  obtain⟨i020,hi020,_,hsz20,_⟩:=info_parts info5
  have hroom20:l0.length≤c0:=HC0.out
  have hC20:Kd.C (jb .u8) _ A0 l0.length l0:=HR0.out
  have hcut20:=cut_from (P:=Try.prog) 23 5 .i64 Try.underlying23 hi020 1 hsz20 A0 l0.length c0 18 T2_ q20
  have hr20:=Kd.C_drop (m:=(18:Int).toNat) (c:=c0) hC20 T2_ hroom20
  obtain⟨A20,hA20⟩:∃ A1,A1=(if c0=(18:Int).toNat then A0 else(A0:Option Addr).map (·.add ((18:Int).toNat*1))):=⟨_,rfl⟩
  obtain⟨c20,hc20⟩:∃ c1,c1=c0-(18:Int).toNat:=⟨_,rfl⟩
  have hy20:y117.length=l0.length-(18:Int).toNat:=(by rw[Ny117.out,List.length_drop] <;> omega)
  rw[show(l0).drop (18:Int).toNat=y117 from Ny117.out.symm] at hr20
  replace hr20:Kd.C (jb .u8) _ A20 y117.length y117:=(by rw[hA20];exact hr20)
  rw[←hy20,←hA20,←hc20] at hcut20
  have HR120:=am_ hr20
  have HC120:=am_ (show y117.length≤c20 from by rw[hy20,hc20];exact Nat.sub_le_sub_right hroom20 _)
  clear hr20 hC20 hroom20 hi020 hsz20 hc20
  have KY20:=am_ hy20
  have KA20:=am_ hA20
  clear hy20 hA20
  replace q20:=eq_true q20
  try go_wp2
  have n_:=P2_ (jl BK116.out) (jG HB.out)
  clear BK116 HB
  obtain⟨BK116,HB⟩:=n_
  have q22:(18:Int)≤((l0.length:Int):Int):=od_
  obtain⟨i022,hi022,_,hsz22,_⟩:=info_parts info5
  have hroom22:l0.length≤c0:=HC0.out
  have hC22:Kd.C (jb .u8) _ A0 l0.length l0:=HR0.out
  have hcut22:=cut_to (P:=Try.prog) 23 5 .i64 Try.underlying23 hi022 A0 l0.length c0 18 T2_ q22 hroom22
  have hr22:=Kd.C_take (m:=18) hC22 T2_
  have hy22:y121.length=(18:Int).toNat:=(by rw[Ny121.out,List.length_take];omega)
  rw[←Ny121.out] at hr22
  rw[←hy22] at hcut22
  have HR124:=am_ hr22
  have HC124:=am_ (show y121.length≤c0 from by omega)
  clear hr22 hC22 hroom22 hi022 hsz22
  have KY22:=am_ hy22
  clear hy22
  replace q22:=eq_true q22
  have q23:((ji13):Int)≤((y117.length:Int):Int):=od_
  obtain⟨i023,hi023,_,hsz23,_⟩:=info_parts info5
  have hroom23:y117.length≤c20:=HC120.out
  have hC23:Kd.C (jb .u8) _ A20 y117.length y117:=HR120.out
  have hcut23:=cut_to (P:=Try.prog) 23 5 .i64 Try.underlying23 hi023 A20 y117.length c20 (ji13) (od_) q23 hroom23
  have hr23:=Kd.C_take (m:=((ji13):Int).toNat) hC23 T2_
  have hy23:y128.length=((ji13):Int).toNat:=(by rw[Ny128.out,List.length_take];omega)
  rw[←Ny128.out] at hr23
  rw[←hy23] at hcut23
  have HR131:=am_ hr23
  have HC131:=am_ (show y128.length≤c20 from by omega)
  clear hr23 hC23 hroom23 hi023 hsz23
  have KY23:=am_ hy23
  clear hy23
  replace q23:=eq_true q23
  refine start_ (n:=10) (S:=fun w'=>True) (ds:=[]) #[false,false,false,false,false,false,false,false,false,false] T4_ rfl rfl trivial (fun hHeld=>?_);refine with_tabW tape_Split.tab7 tape_Split.bits7 (fun HT_ HW_=>?_)
  generalize wc.drew=w21 at BK116 HB HR124 HR131 hHeld ⊢
  refine pz_ 0 (some 27) ?_
  refine pz_ 1 (some 28) ?_
  refine pz_ 3 (some 30) ?_
  refine pz_ 4 (some 31) ?_
  refine pz_ 5 (some 32) ?_
  refine join_ (σ:=Value×Value×Nat) 1 #[true,true,true,true,true,true,true,true,true,false] (fun s_=>[(29,s_.1),(33,s_.2.1),(8,.pointer (some ⟨s_.2.2,0,none⟩)),(34,.agg #[s_.1,s_.2.1,.slice none 0 0])]) (fun s_ w'=>(ju (jb .u8) 5 w' w.heap.size (fun k_=>ne_ k_ (s_.2.1)) s_.1 t125)∧(ju (jb .u8) 5 w' w.heap.size (fun k_=>ne_ k_ (s_.1)) s_.2.1 t132)∧(w'.heap[gb116]? = some (.cells #[.slice none 0 0,.slice none 0 0,.slice none 0 0] 55 (0,0)))∧(w'.heap[s_.2.2]? = some (.cells #[.slice none 0 0,.slice none 0 0,.slice none 0 0] 55 (0,0)))∧(w.heap.size≤s_.2.2)∧(w.heap.size≤s_.2.2)∧(gb116≠s_.2.2)∧(s_.2.2≠gb116)∧(Below w.heap.size w w')) ?_ ?_
  rotate_left
  ·intro hCont
   refine two_ (i:=2) (j:=8) (Ni:=some 29) (Nj:=some 8) #[true,true,true,true,true,true,false,false,false,false] #[true,true,false,true,true,true,false,false,true,false] rfl rfl rfl rfl (two_of HT_.out T4_) T3_ T3_ (fun K hK=>?_) (fun K hK=>?_)
   ·skip
    refine goes_ Try.func57 T4_ rfl #[.slice A0 y121.length c0] T0_ rfl rfl T17_ ?_
    with_reducible refine(slices_Clone_byte_byte.calls _ _ y121 t125 _ ?side1 ?side2 A12.out).mono ?_
    (case side1=>exact cu_ (jv HR124.out HB.out))
    (case side2=>exact HC124.out)
    rintro e w24 ⟨v126,rfl,ho0,hb⟩
    refine⟨_,rfl,?_⟩
    have n_:=P3_ (jm ho0 (ja T20_)) (jr (bu_ BK116.out) hb) (ji T20_ hb)
    clear BK116 HB
    obtain⟨HO127,BK116,HB⟩:=n_
    (try clear hb);(try clear ho0)
    refine hK.out _ _ trivial (fun hHeld=>?_)
    clear hK K
    refine norm_ (a':=?_) ?_ ?_
    rotate_left
    ·show Act.put _ (some 29) _=_
     simp only[Act.put,List.setIfInBounds_toArray,List.set_cons_zero,List.set_cons_succ,jD,jE]
     rfl
    refine two_ (i:=6) (j:=8) (Ni:=some 33) (Nj:=some 8) #[true,true,true,true,true,true,true,false,false,false] #[true,true,true,true,true,true,false,false,true,false] rfl rfl rfl rfl (two_of HT_.out T4_) T3_ T3_ (fun K hK=>?_) (fun K hK=>?_)
    ·skip
     refine goes_ Try.func57 T4_ rfl #[.slice A20 y128.length c20] T0_ rfl rfl T17_ ?_
     with_reducible refine(slices_Clone_byte_byte.calls _ _ y128 t132 _ ?side1 ?side2 A16.out).mono ?_
     (case side1=>exact cu_ (jv HR131.out HB.out))
     (case side2=>exact HC131.out)
     rintro e w25 ⟨v133,rfl,ho0,hb⟩
     refine⟨_,rfl,?_⟩
     have n_:=P4_ (jg (ru_ HO127.out) (jf ho0) hb) (jm (jk ho0 (jj (ru_ HO127.out))) (ja T20_)) (jr (bu_ BK116.out) hb) (ji T20_ hb)
     clear HO127 BK116 HB
     obtain⟨HO127,HO134,BK116,HB⟩:=n_
     (try clear hb);(try clear ho0)
     obtain⟨Ao26,co26,eo26⟩:=jo HO134.out
     (first|subst eo26|(injection eo26 with f1_ f2_ f3_;have f4_:=f1_.symm;have f5_:=f3_.symm;clear f1_ f2_ f3_;subst f4_;subst f5_))
     obtain⟨Ao27,co27,eo27⟩:=jo HO127.out
     (first|subst eo27|(injection eo27 with f1_ f2_ f3_;have f4_:=f1_.symm;have f5_:=f3_.symm;clear f1_ f2_ f3_;subst f4_;subst f5_))
     refine hK.out _ _ trivial (fun hHeld=>?_)
     clear hK K
     refine norm_ (a':=?_) ?_ ?_
     rotate_left
     ·show Act.put _ (some 33) _=_
      simp only[Act.put,List.setIfInBounds_toArray,List.set_cons_zero,List.set_cons_succ,jD,jE]
      rfl
     refine pz_ 7 (some 34) ?_
     refine oz_ 8 (some 8) (fun K hK=>?_)
     refine box_step ?hg (N:=8) ?hd (cs:=#[.slice none 0 0,.slice none 0 0,.slice none 0 0]) (t:=55) ?hr ?_;(case hd=>rfl);(case hg=>rfl);(case hr=>first|(go_simp;done)|(go_simp;rfl))
     intro gb135 hg w28 hbox hb
     have n_:=P9_ (jd (ru_ HO127.out) hb) (jd (ru_ HO134.out) hb) (jr (bu_ BK116.out) hb) (ji T20_ hb) (hbox) ((by rw[hg];exact(ja T20_):w.heap.size≤gb135)) ((by rw[hg];exact(ja T20_):w.heap.size≤gb135)) ((by rw[hg];exact Nat.ne_of_lt (blk_lt (g:=gb116) (o:=.cells #[.slice none 0 0,.slice none 0 0,.slice none 0 0] 55 (0,0)) (bu_ BK116.out)):gb116≠gb135)) ((by rw[hg];exact Nat.ne_of_gt (blk_lt (g:=gb116) (o:=.cells #[.slice none 0 0,.slice none 0 0,.slice none 0 0] 55 (0,0)) (bu_ BK116.out)):gb135≠gb116))
     clear HO127 HO134 BK116 HB
     obtain⟨HO127,HO134,BK116,HB,BK135,GW135,GE135,NB116_135,NB135_116⟩:=n_
     clear hb hbox hg
     refine hK.out _ _ trivial (fun hHeld=>?_)
     clear hK K
     refine norm_ (a':=?_) ?_ ?_
     rotate_left
     ·show Act.put _ (some 8) _=_
      simp only[Act.put,List.setIfInBounds_toArray,List.set_cons_zero,List.set_cons_succ,jD,jE]
      rfl
     exact norm_ T15_ (hCont (.slice Ao27 t125.length co27,.slice Ao26 t132.length co26,gb135) _ ⟨(ru_ (jc HO127.out (fun _ hk=>hk.2))),(ru_ (jc HO134.out (fun _ hk=>hk.2))),(bu_ BK116.out),(bu_ BK135.out),GW135.out,GE135.out,NB116_135.out,NB135_116.out,T28_⟩)
    skip
    refine box_step ?hg (N:=8) ?hd (cs:=#[.slice none 0 0,.slice none 0 0,.slice none 0 0]) (t:=55) ?hr ?_;(case hd=>rfl);(case hg=>rfl);(case hr=>first|(go_simp;done)|(go_simp;rfl))
    intro gb135 hg w25 hbox hb
    have n_:=P8_ (jd (ru_ HO127.out) hb) (jr (bu_ BK116.out) hb) (ji T20_ hb) (hbox) ((by rw[hg];exact(ja T20_):w.heap.size≤gb135)) ((by rw[hg];exact(ja T20_):w.heap.size≤gb135)) ((by rw[hg];exact Nat.ne_of_lt (blk_lt (g:=gb116) (o:=.cells #[.slice none 0 0,.slice none 0 0,.slice none 0 0] 55 (0,0)) (bu_ BK116.out)):gb116≠gb135)) ((by rw[hg];exact Nat.ne_of_gt (blk_lt (g:=gb116) (o:=.cells #[.slice none 0 0,.slice none 0 0,.slice none 0 0] 55 (0,0)) (bu_ BK116.out)):gb135≠gb116))
    clear HO127 BK116 HB
    obtain⟨HO127,BK116,HB,BK135,GW135,GE135,NB116_135,NB135_116⟩:=n_
    clear hb hbox hg
    refine hK.out _ _ trivial (fun hHeld=>?_)
    clear hK K
    refine norm_ (a':=?_) ?_ ?_
    rotate_left
    ·show Act.put _ (some 8) _=_
     simp only[Act.put,List.setIfInBounds_toArray,List.set_cons_zero,List.set_cons_succ,jD,jE]
     rfl
    refine oz_ 6 (some 33) (fun K hK=>?_)
    refine goes_ Try.func57 T4_ rfl #[.slice A20 y128.length c20] T0_ rfl rfl T17_ ?_
    with_reducible refine(slices_Clone_byte_byte.calls _ _ y128 t132 _ ?side1 ?side2 A16.out).mono ?_
    (case side1=>exact cu_ (jv HR131.out HB.out))
    (case side2=>exact HC131.out)
    rintro e w26 ⟨v133,rfl,ho0,hb⟩
    refine⟨_,rfl,?_⟩
    have n_:=P5_ (jg (ru_ HO127.out) (jf ho0) hb) (jm (jk ho0 (jj (ru_ HO127.out))) (ja T28_)) (jr (bu_ BK116.out) hb) (jr (bu_ BK135.out) hb) (ji T28_ hb)
    clear HO127 BK116 BK135 HB
    obtain⟨HO127,HO134,BK116,BK135,HB⟩:=n_
    (try clear hb);(try clear ho0)
    obtain⟨Ao27,co27,eo27⟩:=jo HO134.out
    (first|subst eo27|(injection eo27 with f1_ f2_ f3_;have f4_:=f1_.symm;have f5_:=f3_.symm;clear f1_ f2_ f3_;subst f4_;subst f5_))
    obtain⟨Ao28,co28,eo28⟩:=jo HO127.out
    (first|subst eo28|(injection eo28 with f1_ f2_ f3_;have f4_:=f1_.symm;have f5_:=f3_.symm;clear f1_ f2_ f3_;subst f4_;subst f5_))
    refine hK.out _ _ trivial (fun hHeld=>?_)
    clear hK K
    refine norm_ (a':=?_) ?_ ?_
    rotate_left
    ·show Act.put _ (some 33) _=_
     simp only[Act.put,List.setIfInBounds_toArray,List.set_cons_zero,List.set_cons_succ,jD,jE]
     rfl
    refine pz_ 7 (some 34) ?_
    exact norm_ T15_ (hCont (.slice Ao28 t125.length co28,.slice Ao27 t132.length co27,gb135) _ ⟨(ru_ (jc HO127.out (fun _ hk=>hk.2))),(ru_ (jc HO134.out (fun _ hk=>hk.2))),(bu_ BK116.out),(bu_ BK135.out),GW135.out,GE135.out,NB116_135.out,NB135_116.out,T28_⟩)
   skip
   refine box_step ?hg (N:=8) ?hd (cs:=#[.slice none 0 0,.slice none 0 0,.slice none 0 0]) (t:=55) ?hr ?_;(case hd=>rfl);(case hg=>rfl);(case hr=>first|(go_simp;done)|(go_simp;rfl))
   intro gb135 hg w24 hbox hb
   have n_:=P7_ (jr (bu_ BK116.out) hb) (ji T20_ hb) (hbox) ((by rw[hg];exact(ja T20_):w.heap.size≤gb135)) ((by rw[hg];exact(ja T20_):w.heap.size≤gb135)) ((by rw[hg];exact Nat.ne_of_lt (blk_lt (g:=gb116) (o:=.cells #[.slice none 0 0,.slice none 0 0,.slice none 0 0] 55 (0,0)) (bu_ BK116.out)):gb116≠gb135)) ((by rw[hg];exact Nat.ne_of_gt (blk_lt (g:=gb116) (o:=.cells #[.slice none 0 0,.slice none 0 0,.slice none 0 0] 55 (0,0)) (bu_ BK116.out)):gb135≠gb116))
   clear BK116 HB
   obtain⟨BK116,HB,BK135,GW135,GE135,NB116_135,NB135_116⟩:=n_
   clear hb hbox hg
   refine hK.out _ _ trivial (fun hHeld=>?_)
   clear hK K
   refine norm_ (a':=?_) ?_ ?_
   rotate_left
   ·show Act.put _ (some 8) _=_
    simp only[Act.put,List.setIfInBounds_toArray,List.set_cons_zero,List.set_cons_succ,jD,jE]
    rfl
   refine oz_ 2 (some 29) (fun K hK=>?_)
   refine goes_ Try.func57 T4_ rfl #[.slice A0 y121.length c0] T0_ rfl rfl T17_ ?_
   with_reducible refine(slices_Clone_byte_byte.calls _ _ y121 t125 _ ?side1 ?side2 A12.out).mono ?_
   (case side1=>exact cu_ (jv HR124.out HB.out))
   (case side2=>exact HC124.out)
   rintro e w25 ⟨v126,rfl,ho0,hb⟩
   refine⟨_,rfl,?_⟩
   have n_:=P4_ (jm ho0 (ja T28_)) (jr (bu_ BK116.out) hb) (jr (bu_ BK135.out) hb) (ji T28_ hb)
   clear BK116 BK135 HB
   obtain⟨HO127,BK116,BK135,HB⟩:=n_
   (try clear hb);(try clear ho0)
   refine hK.out _ _ trivial (fun hHeld=>?_)
   clear hK K
   refine norm_ (a':=?_) ?_ ?_
   rotate_left
   ·show Act.put _ (some 29) _=_
    simp only[Act.put,List.setIfInBounds_toArray,List.set_cons_zero,List.set_cons_succ,jD,jE]
    rfl
   refine oz_ 6 (some 33) (fun K hK=>?_)
   refine goes_ Try.func57 T4_ rfl #[.slice A20 y128.length c20] T0_ rfl rfl T17_ ?_
   with_reducible refine(slices_Clone_byte_byte.calls _ _ y128 t132 _ ?side1 ?side2 A16.out).mono ?_
   (case side1=>exact cu_ (jv HR131.out HB.out))
   (case side2=>exact HC131.out)
   rintro e w26 ⟨v133,rfl,ho0,hb⟩
   refine⟨_,rfl,?_⟩
   have n_:=P5_ (jg (ru_ HO127.out) (jf ho0) hb) (jm (jk ho0 (jj (ru_ HO127.out))) (ja T28_)) (jr (bu_ BK116.out) hb) (jr (bu_ BK135.out) hb) (ji T28_ hb)
   clear HO127 BK116 BK135 HB
   obtain⟨HO127,HO134,BK116,BK135,HB⟩:=n_
   (try clear hb);(try clear ho0)
   obtain⟨Ao27,co27,eo27⟩:=jo HO134.out
   (first|subst eo27|(injection eo27 with f1_ f2_ f3_;have f4_:=f1_.symm;have f5_:=f3_.symm;clear f1_ f2_ f3_;subst f4_;subst f5_))
   obtain⟨Ao28,co28,eo28⟩:=jo HO127.out
   (first|subst eo28|(injection eo28 with f1_ f2_ f3_;have f4_:=f1_.symm;have f5_:=f3_.symm;clear f1_ f2_ f3_;subst f4_;subst f5_))
   refine hK.out _ _ trivial (fun hHeld=>?_)
   clear hK K
   refine norm_ (a':=?_) ?_ ?_
   rotate_left
   ·show Act.put _ (some 33) _=_
    simp only[Act.put,List.setIfInBounds_toArray,List.set_cons_zero,List.set_cons_succ,jD,jE]
    rfl
   refine pz_ 7 (some 34) ?_
   exact norm_ T15_ (hCont (.slice Ao28 t125.length co28,.slice Ao27 t132.length co27,gb135) _ ⟨(ru_ (jc HO127.out (fun _ hk=>hk.2))),(ru_ (jc HO134.out (fun _ hk=>hk.2))),(bu_ BK116.out),(bu_ BK135.out),GW135.out,GE135.out,NB116_135.out,NB135_116.out,T28_⟩)
  rintro⟨v126,v133,gb135⟩ w29 ⟨h0_,h1_,h2_,h3_,h4_,h5_,h6_,h7_,h8_⟩
  have n0_:Aside0 (ju (jb .u8) 5 w29 w.heap.size (fun k_=>ne_ k_ v133) v126 t125):=⟨h0_⟩
  have n1_:Aside0 (ju (jb .u8) 5 w29 w.heap.size (fun k_=>ne_ k_ v126) v133 t132):=⟨h1_⟩
  have n2_:Aside0 (w29.heap[gb116]? = some (.cells #[.slice none 0 0,.slice none 0 0,.slice none 0 0] 55 (0,0))):=⟨h2_⟩
  have n3_:Aside0 (w29.heap[gb135]? = some (.cells #[.slice none 0 0,.slice none 0 0,.slice none 0 0] 55 (0,0))):=⟨h3_⟩
  have n4_:Aside0 (w.heap.size≤gb135):=⟨h4_⟩
  have n5_:Aside0 (w.heap.size≤gb135):=⟨h5_⟩
  have n6_:Aside0 (gb116≠gb135):=⟨h6_⟩
  have n7_:Aside0 (gb135≠gb116):=⟨h7_⟩
  have n8_:Aside0 (Below w.heap.size w w29):=⟨h8_⟩
  clear BK116 HB h0_ h1_ h2_ h3_ h4_ h5_ h6_ h7_ h8_
  have HO127:=n0_
  have HO134:=n1_
  have BK116:=n2_
  have BK135:=n3_
  have GW135:=n4_
  have GE135:=n5_
  have NB116_135:=n6_
  have NB135_116:=n7_
  have HB:=n8_
  clear n0_ n1_ n2_ n3_ n4_ n5_ n6_ n7_ n8_
  have hHeld:=trivial
  obtain⟨Ao30,co30,eo30⟩:=jo HO134.out
  (first|subst eo30|(injection eo30 with f1_ f2_ f3_;have f4_:=f1_.symm;have f5_:=f3_.symm;clear f1_ f2_ f3_;subst f4_;subst f5_))
  obtain⟨Ao31,co31,eo31⟩:=jo HO127.out
  (first|subst eo31|(injection eo31 with f1_ f2_ f3_;have f4_:=f1_.symm;have f5_:=f3_.symm;clear f1_ f2_ f3_;subst f4_;subst f5_))
  refine norm_ (a':=?_) ?_ ?_
  rotate_left
  ·simp only[putAll,Act.put,List.setIfInBounds_toArray,List.set_cons_zero,List.set_cons_succ]
   rfl
  refine oz_ 9 (none) (fun K hK=>?_)
  have hs32:w29.cell? ⟨gb135,0,none⟩=some (.slice none 0 0):=bc_ BK135.out 0
  have hfs32:=blk_frozen BK135.out 0
  have hns32_0:=NB116_135.out
  have hms32_0:=NB135_116.out
  have hs33:w29.cell? ⟨gb135,1,none⟩=some (.slice none 0 0):=bc_ BK135.out 1
  have hfs33:=blk_frozen BK135.out 1
  have hns33_0:=NB116_135.out
  have hms33_0:=NB135_116.out
  have hs34:w29.cell? ⟨gb135,2,none⟩=some (.slice none 0 0):=bc_ BK135.out 2
  have hfs34:=blk_frozen BK135.out 2
  have hns34_0:=NB116_135.out
  have hms34_0:=NB135_116.out
  refine skip_ (w1:=?_) T0_ rfl ?_ ?_
  rotate_left
  ·go_simp
   rfl
  refine hK.out _ _ trivial (fun hHeld=>?_)
  clear hK K
  refine done_ (done_of HT_.out T4_) ?_
  have n0_:Aside0 (ju (jb .u8) 5 (((w29.setCell ⟨gb135,0,none⟩ (.slice Ao31 t125.length co31)).setCell ⟨gb135,1,none⟩ (.slice Ao30 t132.length co30)).setCell ⟨gb135,2,none⟩ (.slice none 0 0)) w.heap.size (fun k_=>ne_ k_ (.slice Ao30 t132.length co30)) (.slice Ao31 t125.length co31) t125):=⟨ru_ (jc (je (p:=⟨gb135,2,none⟩) (je (p:=⟨gb135,1,none⟩) (je (p:=⟨gb135,0,none⟩) (js HO127.out BK135.out T3_) (fun _ hk=>hk.2) (.slice Ao31 t125.length co31)) (fun _ hk=>hk.2) (.slice Ao30 t132.length co30)) (fun _ hk=>hk.2) (.slice none 0 0)) (fun _ hk=>hk.1))⟩
  have n1_:Aside0 (ju (jb .u8) 5 (((w29.setCell ⟨gb135,0,none⟩ (.slice Ao31 t125.length co31)).setCell ⟨gb135,1,none⟩ (.slice Ao30 t132.length co30)).setCell ⟨gb135,2,none⟩ (.slice none 0 0)) w.heap.size (fun k_=>ne_ k_ (.slice Ao31 t125.length co31)) (.slice Ao30 t132.length co30) t132):=⟨ru_ (jc (je (p:=⟨gb135,2,none⟩) (je (p:=⟨gb135,1,none⟩) (je (p:=⟨gb135,0,none⟩) (js HO134.out BK135.out T3_) (fun _ hk=>hk.2) (.slice Ao31 t125.length co31)) (fun _ hk=>hk.2) (.slice Ao30 t132.length co30)) (fun _ hk=>hk.2) (.slice none 0 0)) (fun _ hk=>hk.1))⟩
  have n2_:Aside0 ((((w29.setCell ⟨gb135,0,none⟩ (.slice Ao31 t125.length co31)).setCell ⟨gb135,1,none⟩ (.slice Ao30 t132.length co30)).setCell ⟨gb135,2,none⟩ (.slice none 0 0)).heap[gb116]? = some (.cells #[.slice none 0 0,.slice none 0 0,.slice none 0 0] 55 (0,0))):=⟨(by(with_reducible repeat(first|refine jp ?_ _|refine jl ?_|refine jn ?_ _));refine blk_far ?_ NB116_135.out _;(with_reducible repeat(first|refine jp ?_ _|refine jl ?_|refine jn ?_ _));refine blk_far ?_ NB116_135.out _;(with_reducible repeat(first|refine jp ?_ _|refine jl ?_|refine jn ?_ _));refine blk_far ?_ NB116_135.out _;exact bu_ BK116.out)⟩
  have n3_:Aside0 ((((w29.setCell ⟨gb135,0,none⟩ (.slice Ao31 t125.length co31)).setCell ⟨gb135,1,none⟩ (.slice Ao30 t132.length co30)).setCell ⟨gb135,2,none⟩ (.slice none 0 0)).heap[gb135]? = some (.cells #[.slice Ao31 t125.length co31,.slice Ao30 t132.length co30,.slice none 0 0] 55 (0,0))):=⟨(by(with_reducible repeat(first|refine jp ?_ _|refine jl ?_|refine jn ?_ _));refine jt (cs:=#[.slice Ao31 t125.length co31,.slice Ao30 t132.length co30,.slice none 0 0]) ?_ 2 _ rfl;(with_reducible repeat(first|refine jp ?_ _|refine jl ?_|refine jn ?_ _));refine jt (cs:=#[.slice Ao31 t125.length co31,.slice none 0 0,.slice none 0 0]) ?_ 1 _ rfl;(with_reducible repeat(first|refine jp ?_ _|refine jl ?_|refine jn ?_ _));refine jt (cs:=#[.slice none 0 0,.slice none 0 0,.slice none 0 0]) ?_ 0 _ rfl;exact bu_ BK135.out)⟩
  have n4_:Aside0 (Below w.heap.size w (((w29.setCell ⟨gb135,0,none⟩ (.slice Ao31 t125.length co31)).setCell ⟨gb135,1,none⟩ (.slice Ao30 t132.length co30)).setCell ⟨gb135,2,none⟩ (.slice none 0 0))):=⟨T28_⟩
  (try clear HO127);(try clear HO134);(try clear BK116);(try clear BK135);(try clear HB)
  generalize (((w29.setCell ⟨gb135,0,none⟩ (.slice Ao31 t125.length co31)).setCell ⟨gb135,1,none⟩ (.slice Ao30 t132.length co30)).setCell ⟨gb135,2,none⟩ (.slice none 0 0))=w35 at n0_ n1_ n2_ n3_ n4_ ⊢
  have HO127:=n0_
  have HO134:=n1_
  have BK116:=n2_
  have BK135:=n3_
  have HB:=n4_
  clear n0_ n1_ n2_ n3_ n4_
  have q36:((ji13):Int)≤((y117.length:Int):Int):=od_
  obtain⟨i036,hi036,_,hsz36,_⟩:=info_parts info5
  have hroom36:y117.length≤c20:=HC120.out
  have hC36:Kd.C (jb .u8) _ A20 y117.length y117:=HR120.out
  have q036:(0:Int)≤((ji13):Int):=od_
  have hcut36:=cut_from (P:=Try.prog) 23 5 .i64 Try.underlying23 hi036 1 hsz36 A20 y117.length c20 (ji13) q036 q36
  have hr36:=Kd.C_drop (m:=((ji13):Int).toNat) (c:=c20) hC36 T2_ hroom36
  obtain⟨A36,hA36⟩:∃ A1,A1=(if c20=((ji13):Int).toNat then A20 else(A20:Option Addr).map (·.add (((ji13):Int).toNat*1))):=⟨_,rfl⟩
  obtain⟨c36,hc36⟩:∃ c1,c1=c20-((ji13):Int).toNat:=⟨_,rfl⟩
  have hy36:y136.length=y117.length-((ji13):Int).toNat:=(by rw[Ny136.out,List.length_drop] <;> omega)
  rw[show(y117).drop ((ji13):Int).toNat=y136 from Ny136.out.symm] at hr36
  replace hr36:Kd.C (jb .u8) _ A36 y136.length y136:=(by rw[hA36];exact hr36)
  rw[←hy36,←hA36,←hc36] at hcut36
  have HR139:=am_ hr36
  have HC139:=am_ (show y136.length≤c36 from by rw[hy36,hc36];exact Nat.sub_le_sub_right hroom36 _)
  clear hr36 hC36 hroom36 hi036 hsz36 hc36
  have KY36:=am_ hy36
  have KA36:=am_ hA36
  clear hy36 hA36
  replace q36:=eq_true q36
  try go_wp2
  go_loopg [43] kj2 (fun kq v43 w'=>∃ (x43_2:Int) (x136002_2:List (List Int)) (u136002:Value),v43 = .int .i64 x43_2∧Aside0 (tape_Split.l0 kq y136 (wrap64 ((y136.length:Int) / a1)) a1 x43_2 t125 t132 x136002_2=some (r1,r2,r3,r4))∧Aside0 (kq≤kj2)∧Aside0 (ju (jb .u8) 5 w' w.heap.size (fun k_=>ne_ k_ (.slice Ao30 t132.length co30)) (.slice Ao31 t125.length co31) t125)∧Aside0 (ju (jb .u8) 5 w' w.heap.size (fun k_=>ne_ k_ (.slice Ao31 t125.length co31)) (.slice Ao30 t132.length co30) t132)∧Aside0 (Kd.S (jy 5 (jb .u8)) 23 w' w.heap.size (fun k_=>ne_ k_ (.slice Ao31 t125.length co31)∧ne_ k_ (.slice Ao30 t132.length co30)) u136002 x136002_2)∧Aside0 (w'.heap[gb116]? = some (.cells #[(.slice none 0 0),(.slice none 0 0),(.slice none 0 0)] 55 (0,0)))∧Aside0 (w'.heap[gb135]? = some (.cells #[(.slice Ao31 t125.length co31),(.slice Ao30 t132.length co30),u136002] 55 (0,0)))∧Aside0 (Below w.heap.size w w'))
  case atStart=>exact⟨(0),(([]:List (List Int))),(.slice none 0 0),T9_,H',⟨Nat.le_refl _⟩,⟨ru_ HO127.out⟩,⟨ru_ HO134.out⟩,⟨T19_⟩,⟨bu_ BK116.out⟩,⟨bu_ BK135.out⟩,⟨T28_⟩⟩
  clear H'
  (try clear c1);(try clear c6);(try clear c8);(try clear c8b0 c8b1);(try clear c10);(try clear c10b0 c10b1);(try clear c11b0);(try clear c14);(try clear c14b0 c14b1);(try clear c15);(try clear c15b0 c15b1);(try clear c17b0);(try clear c18b0);(try clear c19);(try clear c19b0 c19b1);(try clear c20);(try clear q20);(try clear q22);(try clear q23);(try clear c36);(try clear q36);(try clear q036);(try clear BK116);(try clear BK135)
  obtain⟨x43_2,x136002_2,u136002,rfl,HA,HK2,HO_136000,HO_136001,HO_136002,BK116,BK135,HB⟩:=hrel
  cases gk with
  | zero=>exact absurd HA.out (by simp[tape_Split.l0])
  | succ k2 =>
   have H:=HA.out
   clear HA
   simp only[tape_Split.l0] at H
   by_cases c37:x43_2<a1
   rotate_left
   ·rw[if_neg c37] at H
    have c37b0:=decide_eq_false c37
    clear c37
    obtain⟨rfl,rfl,rfl,rfl⟩:=sj4_ H
    have hnb51:=NB135_116.out
    have hnc51:=NB116_135.out
    obtain⟨hcz52_0,hcz52_1,hcz52_2,hfz52_0,hfz52_1,hfz52_2⟩:=cz3_ BK135.out
    obtain⟨hcz53_0,hcz53_1,hcz53_2,hfz53_0,hfz53_1,hfz53_2⟩:=cz3_ BK116.out
    obtain⟨Ao54,co54,eo54⟩:=Kd.S_slice HO_136002.out
    subst eo54
    go_wp2
    refine bodyPost_ret (results_ct rfl _ _ gb116 55 #[.slice Ao31 t125.length co31,.slice Ao30 t132.length co30,.slice Ao54 x136002_2.length co54] (0,0) _ rfl (by(with_reducible repeat(first|refine jp ?_ _|refine jl ?_|refine jn ?_ _));refine jt (cs:=#[.slice Ao31 t125.length co31,.slice Ao30 t132.length co30,.slice none 0 0]) ?_ 2 _ rfl;(with_reducible repeat(first|refine jp ?_ _|refine jl ?_|refine jn ?_ _));refine jt (cs:=#[.slice Ao31 t125.length co31,.slice none 0 0,.slice none 0 0]) ?_ 1 _ rfl;(with_reducible repeat(first|refine jp ?_ _|refine jl ?_|refine jn ?_ _));refine jt (cs:=#[.slice none 0 0,.slice none 0 0,.slice none 0 0]) ?_ 0 _ rfl;exact bu_ BK116.out) Try.underlying55 rfl T4_) rfl ?_
    exact⟨_,_,_,(by first|rfl|(simp[errW_none,errW_some] <;> rfl)|(simp only[←hji13];first|rfl|(simp[errW_none,errW_some] <;> rfl))|(simp[*,errW_none,errW_some] <;> rfl)),ru_ (jc (je (p:=⟨gb116,2,none⟩) (je (p:=⟨gb116,1,none⟩) (je (p:=⟨gb116,0,none⟩) (js HO_136000.out BK116.out T3_) (fun _ hk=>hk.2) (.slice Ao31 t125.length co31)) (fun _ hk=>hk.2) (.slice Ao30 t132.length co30)) (fun _ hk=>hk.2) (.slice Ao54 x136002_2.length co54)) (fun _ hk=>hk.1)),ru_ (jc (je (p:=⟨gb116,2,none⟩) (je (p:=⟨gb116,1,none⟩) (je (p:=⟨gb116,0,none⟩) (js HO_136001.out BK116.out T3_) (fun _ hk=>hk.2) (.slice Ao31 t125.length co31)) (fun _ hk=>hk.2) (.slice Ao30 t132.length co30)) (fun _ hk=>hk.2) (.slice Ao54 x136002_2.length co54)) (fun _ hk=>hk.1)),su_ (jB (jC (p:=⟨gb116,2,none⟩) (jC (p:=⟨gb116,1,none⟩) (jC (p:=⟨gb116,0,none⟩) (Kd.S_types HO_136002.out BK116.out T3_) (fun _ hk=>hk.2) (.slice Ao31 t125.length co31)) (fun _ hk=>hk.2) (.slice Ao30 t132.length co30)) (fun _ hk=>hk.2) (.slice Ao54 x136002_2.length co54)) (fun _ hk=>⟨hk.1.1,hk.1.2⟩)),T28_⟩
   rw[if_pos c37] at H
   have c37b0:=decide_eq_true c37
   clear c37
   obtain⟨ji38,hji38⟩:∃ j_:Int,(wrap64 (x43_2*(wrap64 ((y136.length:Int) / a1))))=j_:=⟨_,rfl⟩
   replace H:(if 0≤(ji38) then(if(ji38)≤(wrap64 ((wrap64 (x43_2+1))*(wrap64 ((y136.length:Int) / a1)))) then(if(wrap64 ((wrap64 (x43_2+1))*(wrap64 ((y136.length:Int) / a1))))≤(y136.length:Int) then((slices_Clone_byte_byte.f ((y136.take ((wrap64 ((wrap64 (x43_2+1))*(wrap64 ((y136.length:Int) / a1)))):Int).toNat).drop ((ji38):Int).toNat)).bind fun t144=>(if x136002_2.length<5864062014805 then(tape_Split.l0 k2 y136 (wrap64 ((y136.length:Int) / a1)) a1 (wrap64 (x43_2+1)) t125 t132 (x136002_2 ++ [t144])) else(none))) else(none)) else(none)) else(none))=some (r1,r2,r3,r4):=by first|(rw[hji38] at H;exact H)|(simp only[hji38] at H ⊢;exact H)
   have hji38w:(IntKind.i64.wrap (x43_2*(wrap64 ((y136.length:Int) / a1))))=ji38:=(jD _).trans hji38
   replace H:=ifn_ H;obtain⟨c39,H⟩:=H
   have c39b0:=eq_true c39
   have c39b1:decide (0≤(ji38))=true:=decide_eq_true c39
   clear c39
   replace H:=ifn_ H;obtain⟨c40,H⟩:=H
   have c40b0:=eq_true c40
   have c40b1:decide ((ji38)≤(wrap64 ((wrap64 (x43_2+1))*(wrap64 ((y136.length:Int) / a1)))))=true:=decide_eq_true c40
   replace H:=ifn_ H;obtain⟨c41,H⟩:=H
   have c41b0:=eq_true c41
   have c41b1:decide ((wrap64 ((wrap64 (x43_2+1))*(wrap64 ((y136.length:Int) / a1))))≤(y136.length:Int))=true:=decide_eq_true c41
   obtain⟨y140,hy_⟩:∃ y_:List Int,y_=((y136.take ((wrap64 ((wrap64 (x43_2+1))*(wrap64 ((y136.length:Int) / a1)))):Int).toNat).drop ((ji38):Int).toNat):=⟨_,rfl⟩
   replace H:((slices_Clone_byte_byte.f y140).bind fun t144=>(if x136002_2.length<5864062014805 then(tape_Split.l0 k2 y136 (wrap64 ((y136.length:Int) / a1)) a1 (wrap64 (x43_2+1)) t125 t132 (x136002_2 ++ [t144])) else(none)))=some (r1,r2,r3,r4):=hyw_
   have Ny140:=am_ hy_
   clear hy_
   replace H:=Option.bind_eq_some_iff.mp H
   obtain⟨t144,A420,H⟩:=H
   try dsimp only at H
   have A42:=am_ A420
   clear A420
   replace H:=ifa_ H;obtain⟨LMc43,H⟩:=H
   obtain⟨y147,hy_⟩:∃ y_:List (List Int),y_=(x136002_2 ++ [t144]):=⟨_,rfl⟩
   replace H:(tape_Split.l0 k2 y136 (wrap64 ((y136.length:Int) / a1)) a1 (wrap64 (x43_2+1)) t125 t132 y147)=some (r1,r2,r3,r4):=hyw_
   have Ny147:=am_ hy_
   clear hy_
   have H':=am_ H
   clear H
   try go_wp2
   have n_:=P6_ (jq HO_136000.out) (jq HO_136001.out) (Kd.S_drew HO_136002.out) (jl BK116.out) (jl BK135.out) (jG HB.out)
   clear HO_136000 HO_136001 HO_136002 BK116 BK135 HB
   obtain⟨HO_136000,HO_136001,HO_136002,BK116,BK135,HB⟩:=n_
   have q45:((wrap64 ((wrap64 (x43_2+1))*(wrap64 ((y136.length:Int) / a1)))):Int)≤((y136.length:Int):Int):=od_
   obtain⟨i045,hi045,_,hsz45,_⟩:=info_parts info5
   have hroom45:y136.length≤c36:=HC139.out
   have hC45:Kd.C (jb .u8) _ A36 y136.length y136:=HR139.out
   have ql45:((ji38):Int)≤((wrap64 ((wrap64 (x43_2+1))*(wrap64 ((y136.length:Int) / a1)))):Int):=od_
   have q045:(0:Int)≤((ji38):Int):=od_
   have hcut45:=cut_mid (P:=Try.prog) 23 5 .i64 .i64 Try.underlying23 hi045 1 hsz45 A36 y136.length c36 (ji38) (wrap64 ((wrap64 (x43_2+1))*(wrap64 ((y136.length:Int) / a1)))) q045 ql45 q45 hroom45
   have hr45:=Kd.C_mid (lo:=((ji38):Int).toNat) (hi:=((wrap64 ((wrap64 (x43_2+1))*(wrap64 ((y136.length:Int) / a1)))):Int).toNat) (c:=c36) hC45 T2_ T2_ hroom45
   obtain⟨A45,hA45⟩:∃ A1,A1=(if c36=((ji38):Int).toNat then A36 else(A36:Option Addr).map (·.add (((ji38):Int).toNat*1))):=⟨_,rfl⟩
   obtain⟨c45,hc45⟩:∃ c1,c1=c36-((ji38):Int).toNat:=⟨_,rfl⟩
   have hy45:y140.length=((wrap64 ((wrap64 (x43_2+1))*(wrap64 ((y136.length:Int) / a1)))):Int).toNat-((ji38):Int).toNat:=(by rw[Ny140.out,List.length_drop,List.length_take] <;> omega)
   rw[show((y136).take ((wrap64 ((wrap64 (x43_2+1))*(wrap64 ((y136.length:Int) / a1)))):Int).toNat).drop ((ji38):Int).toNat=y140 from Ny140.out.symm] at hr45
   replace hr45:Kd.C (jb .u8) _ A45 y140.length y140:=(by rw[hA45];exact hr45)
   rw[←hy45,←hA45,←hc45] at hcut45
   have HR143:=am_ hr45
   have HC143:=am_ (show y140.length≤c45 from by rw[hy45,hc45];exact Nat.sub_le_sub_right (Nat.le_trans T2_ hroom45) _)
   clear hr45 hC45 hroom45 hi045 hsz45 hc45
   have KY45:=am_ hy45
   have KA45:=am_ hA45
   clear hy45 hA45
   replace q45:=eq_true q45
   refine start_ (n:=16) (S:=fun w'=>w'.cell? ⟨gb135,0,none⟩=some (.slice Ao31 t125.length co31)∧w'.cell? ⟨gb135,1,none⟩=some (.slice Ao30 t132.length co30)∧w'.cell? ⟨gb135,2,none⟩=some (u136002)) (ds:=[15]) #[false,false,false,false,false,false,false,false,false,false,false,false,false,false,false,false] T4_ rfl rfl ⟨bc_ BK135.out 0,bc_ BK135.out 1,bc_ BK135.out 2⟩ (fun hHeld=>?_);refine with_tabW tape_Split.tab13 tape_Split.bits13 (fun HT_ HW_=>?_)
   generalize wr.drew=w44 at HO_136000 HO_136001 HO_136002 BK116 BK135 HB HR143 hHeld ⊢
   refine pz_ 0 (some 46) ?_
   refine pz_ 2 (some 48) ?_
   refine pz_ 3 (some 49) ?_
   refine pz_ 4 (some 50) ?_
   refine pz_ 5 (some 51) ?_
   refine pz_ 6 (some 52) ?_
   refine pz_ 7 (some 53) ?_
   refine pz_ 8 (some 54) ?_
   refine pz_ 9 (some 55) ?_
   refine pz_ 10 (some 56) ?_
   refine tz3_ 1 (some 47) hHeld ?_
   refine oz_ 11 (some 57) (fun K hK=>?_)
   refine goes_ Try.func57 T4_ rfl #[.slice A45 y140.length c45] T0_ rfl rfl T17_ ?_
   with_reducible refine(slices_Clone_byte_byte.calls _ _ y140 t144 _ ?side1 ?side2 A42.out).mono ?_
   (case side1=>exact cu_ (jv HR143.out HB.out))
   (case side2=>exact HC143.out)
   rintro e w46 ⟨v145,rfl,ho0,hb⟩
   refine⟨_,rfl,?_⟩
   have n_:=P7_ (jg (ru_ HO_136000.out) (jf ho0) hb) (jg (ru_ HO_136001.out) (jf ho0) hb) (jI (su_ HO_136002.out) (jf ho0) hb) (jm (jk (jk ho0 (jj (ru_ HO_136000.out))) (jj (ru_ HO_136001.out))) (ja T28_)) (jr (bu_ BK116.out) hb) (jr (bu_ BK135.out) hb) (ji T28_ hb)
   clear HO_136000 HO_136001 HO_136002 BK116 BK135 HB
   obtain⟨HO_136000,HO_136001,HO_136002,HO146,BK116,BK135,HB⟩:=n_
   (try clear hb);(try clear hk);(try clear hi);(try clear ho0)
   obtain⟨Ao48,co48,eo48⟩:=jo HO146.out
   (first|subst eo48|(injection eo48 with f1_ f2_ f3_;have f4_:=f1_.symm;have f5_:=f3_.symm;clear f1_ f2_ f3_;subst f4_;subst f5_))
   refine hK.out _ _ ⟨bc_ BK135.out 0,bc_ BK135.out 1,bc_ BK135.out 2⟩ (fun hHeld=>?_)
   clear hK K
   refine norm_ (a':=?_) ?_ ?_
   rotate_left
   ·show Act.put _ (some 57) _=_
    simp only[Act.put,List.setIfInBounds_toArray,List.set_cons_zero,List.set_cons_succ,jD,jE]
    rfl
   refine oz_ 12 (some 58) (fun K hK=>?_)
   refine value_ (w1:=?_) (v:=?_) T0_ rfl ?_ ?_
   rotate_left 2
   ·go_simp
    constructor
    ·rfl
    rfl
   refine hK.out _ _ ⟨(blk_cell (jn BK135.out _) 0).trans rfl,(blk_cell (jn BK135.out _) 1).trans rfl,(blk_cell (jn BK135.out _) 2).trans rfl⟩ (fun hHeld=>?_)
   clear hK K
   refine norm_ (a':=?_) ?_ ?_
   rotate_left
   ·show Act.put _ (some 58) _=_
    simp only[Act.put,List.setIfInBounds_toArray,List.set_cons_zero,List.set_cons_succ,jD,jE]
    rfl
   refine oz_ 13 (some 59) (fun K hK=>?_)
   refine Kd.S_append_step (jy 5 (jb .u8)) (w0:=w) w.heap.size T0_ (.tmp 47) (.tmp 58) 53 23 (.slice none 0 0) 24 rfl Try.underlying53 info23 rfl T3_ T2_ u136002 x136002_2 t144 [.slice Ao48 t144.length co48] (fun k_=>ne_ k_ (.slice Ao31 t125.length co31)∧ne_ k_ (.slice Ao30 t132.length co30)) (fun k_=>some k_=(.slice Ao48 t144.length co48:Value).ownBlock) rfl rfl ?aP (fun k_ hk_=>((jc (ok':=fun k_=>((fun k_=>ne_ k_ (.slice Ao31 t125.length co31)∧ne_ k_ (.slice Ao30 t132.length co30))) k_∧ne_ k_ u136002) (Kd.R_apart' (HO146.out) (Kd.S_typed HO_136002.out) T3_) (fun k_ hk=>⟨⟨hk.1.1.2,hk.1.2⟩,hk.2⟩))).1 k_ hk_.symm) ?aF ?aO ?aB ?aS ?aL ?_
   (case aP=>exact Kd.M_row (jc (Kd.R_tight rfl (jc (ok':=fun k_=>((fun k_=>ne_ k_ (.slice Ao31 t125.length co31)∧ne_ k_ (.slice Ao30 t132.length co30))) k_∧ne_ k_ u136002) (Kd.R_apart' (HO146.out) (Kd.S_typed HO_136002.out) T3_) (fun k_ hk=>⟨⟨hk.1.1.2,hk.1.2⟩,hk.2⟩))) (fun _ h_=>h_)))
   (case aB=>exact T28_)
   (case aF=>exact(fun k_ hk=>⟨jF (jj (ru_ HO_136000.out)) k_ hk,jF (jj (ru_ HO_136001.out)) k_ hk⟩))
   (case aO=>exact(su_ (jB HO_136002.out (fun k_ hk=>⟨⟨hk.1.1,hk.1.2⟩,fun e_=>hk.2 e_⟩))))
   (case aS=>exact(ja T28_))
   (case aL=>have:=LMc43.out;omega)
   intro v148 w47 ho hb hg hat
   rw[←Ny147.out] at ho
   have n_:=P6_ (jx (ru_ HO_136000.out) (Kd.S_typed (su_ HO_136002.out)) T3_ hg) (jx (ru_ HO_136001.out) (Kd.S_typed (su_ HO_136002.out)) T3_ hg) (blk_grown (g:=gb116) (o:=.cells #[.slice none 0 0,.slice none 0 0,.slice none 0 0] 55 (0,0)) (bu_ BK116.out) hg (Kd.S_ne HO_136002.out BK116.out T3_)) (blk_grown (g:=gb135) (o:=.cells #[.slice Ao31 t125.length co31,.slice Ao30 t132.length co30,u136002] 55 (0,0)) (bu_ BK135.out) hg (Kd.S_ne HO_136002.out BK135.out T3_)) (hb) (ho)
   clear HO_136000 HO_136001 BK116 BK135 HB HO_136002 HO146
   obtain⟨HO_136000,HO_136001,BK116,BK135,HB,HO149⟩:=n_
   clear ho hb hg hat
   obtain⟨Ao49,co49,eo49⟩:=Kd.S_slice HO149.out
   (first|subst eo49|(injection eo49 with f1_ f2_ f3_;have f4_:=f1_.symm;have f5_:=f3_.symm;clear f1_ f2_ f3_;subst f4_;subst f5_))
   refine hK.out _ _ ⟨bc_ BK135.out 0,bc_ BK135.out 1,bc_ BK135.out 2⟩ (fun hHeld=>?_)
   clear hK K
   refine norm_ (a':=?_) ?_ ?_
   rotate_left
   ·show Act.put _ (some 59) _=_
    simp only[Act.put,List.setIfInBounds_toArray,List.set_cons_zero,List.set_cons_succ,jD,jE]
    rfl
   refine pz_ 14 (some 60) ?_
   refine last_ (i:=15) (N:=none) #[true,true,true,true,true,true,true,true,true,true,true,true,true,true,true,true] rfl rfl (one_of HT_.out T4_) T3_ (fun K hK=>?_)
   have hs50:w47.cell? ⟨gb135,2,none⟩=some (u136002):=bc_ BK135.out 2
   have hfs50:=blk_frozen BK135.out 2
   have hns50_0:=NB116_135.out
   have hms50_0:=NB135_116.out
   refine skip_ (w1:=?_) T0_ rfl ?_ ?_
   rotate_left
   ·go_simp
    rfl
   refine hK.out _ _ ?_
   clear hK K
   refine done_ (done_of HT_.out T4_) ?_
   try go_wp2
   go_roundg k2
   case measure=>have:=HJ2.out;have:=HK2.out;omega
   case rel=>exact⟨(wrap64 (x43_2+1)),(y147),(.slice Ao49 y147.length co49),T9_,H',⟨(by have:=HJ2.out;have:=HK2.out;omega)⟩,⟨ru_ (jc (je (p:=⟨gb135,2,none⟩) (js HO_136000.out BK135.out T3_) (fun _ hk=>hk.2) (.slice Ao49 y147.length co49)) (fun _ hk=>hk.1.1))⟩,⟨ru_ (jc (je (p:=⟨gb135,2,none⟩) (js HO_136001.out BK135.out T3_) (fun _ hk=>hk.2) (.slice Ao49 y147.length co49)) (fun _ hk=>hk.1.1))⟩,⟨su_ (jB (jC (p:=⟨gb135,2,none⟩) (Kd.S_types HO149.out BK135.out T3_) (fun _ hk=>hk.2) (.slice Ao49 y147.length co49)) (fun _ hk=>⟨hk.1.1,hk.1.2⟩))⟩,⟨(by(with_reducible repeat(first|refine jp ?_ _|refine jl ?_|refine jn ?_ _));refine blk_far ?_ NB116_135.out _;exact bu_ BK116.out)⟩,⟨(by(with_reducible repeat(first|refine jp ?_ _|refine jl ?_|refine jn ?_ _));refine jt (cs:=#[.slice Ao31 t125.length co31,.slice Ao30 t132.length co30,u136002]) ?_ 2 _ rfl;exact bu_ BK135.out)⟩,⟨T28_⟩⟩
def tape_New.f (l0:List Int):Option (ByteArray×Int):=some (strOfNums l0,0)
set_option maxHeartbeats 8000000 in
set_option maxRecDepth 100000 in
theorem tape_New.calls (A0:Option Addr) (c0:Nat) (l0:List Int) (r1:ByteArray) (r2:Int) (w:World) (hr0:Kd.C (jb .u8) w A0 l0.length l0) (hc0:l0.length≤c0) (h:tape_New.f l0=some (r1,r2)) :
  Calls Try.prog 65 #[.slice A0 l0.length c0] w fun e w'=>e = .returned (.agg #[.string r1,.int .i64 r2])∧Below w.heap.size w w':=by
 have hu108:=Try.underlying108
 have HR0:=am_ hr0
 have HC0:=am_ hc0
 clear hr0 hc0
 have HB:=am_ (Below.refl w.heap.size w)
 have H:(some (strOfNums l0,0))=some (r1,r2):=h
 clear h
 obtain⟨rfl,rfl⟩:=sj2_ H
 go_enter Try.func65,Try.ntmps65
 go_wp2_with(first|(refine gd_ 2 ?_;refine bx_ 2 #[.string (⟨#[]⟩:ByteArray),.int .i64 0] 108 ?_;intro gb150 hg w2 hbox hb;have n_:=P4_ (ji T16_ hb) (hbox) ((by rw[hg];exact(ja T16_):w.heap.size≤gb150)) ((by rw[hg];exact(ja T16_):w.heap.size≤gb150));clear HB;obtain⟨HB,BK150,GW150,GE150⟩:=n_;clear hb hbox hg;have hcv3:=Kd.C_string (P:=Try.prog) (A:=A0) (c:=c0) Try.underlying23 Try.underlying5 Try.underlying9 (jv HR0.out HB.out);obtain⟨hcz4_0,hcz4_1,hfz4_0,hfz4_1⟩:=cz2_ BK150.out))
 refine bodyPost_ret (results_cell_row rfl _ _ gb150 108 #[.string (strOfNums l0),.int .i64 0] (0,0) _ rfl (by(with_reducible repeat(first|refine jp ?_ _|refine jl ?_|refine jn ?_ _));refine jt (cs:=#[.string (strOfNums l0),.int .i64 0]) ?_ 1 _ rfl;(with_reducible repeat(first|refine jp ?_ _|refine jl ?_|refine jn ?_ _));refine jt (cs:=#[.string (⟨#[]⟩:ByteArray),.int .i64 0]) ?_ 0 _ rfl;exact bu_ BK150.out) Try.underlying108 rfl T4_) rfl ?_
 exact⟨T14_,(by repeat(first|(with_reducible first|exact HB.out|apply below_alloc|apply pw_below_drewN|apply jG|refine jJ ?_ GE150.out)|exact HB.out))⟩
def draw_isBound.f (a0:Int):Option (Bool):=if a0 ≥ 1 then(some (decide (a0≤256))) else(some false)
set_option maxHeartbeats 8000000 in
set_option maxRecDepth 100000 in
theorem draw_isBound.calls (a0:Int) (r:Bool) (w:World) (h:draw_isBound.f a0=some r) :
  Calls Try.prog 56 #[.int .i64 a0] w fun e w'=>e = .returned (.bool r)∧Drawn0 w w':=by
 have H:(if a0 ≥ 1 then(some (decide (a0≤256))) else(some false))=some r:=h
 clear h
 by_cases c2:a0 ≥ 1
 ·rw[if_pos c2] at H
  have c2b0:=decide_eq_true c2
  clear c2
  obtain rfl:=Option.some.inj H
  obtain⟨rfl⟩:=sj1_ H
  go_enter Try.func56,Try.ntmps56
  go_wp2
  go_ret
  exact⟨T9_,T10_⟩
 rw[if_neg c2] at H
 have c2b0:=decide_eq_false c2
 clear c2
 obtain rfl:=Option.some.inj H
 obtain⟨rfl⟩:=sj1_ H
 go_enter Try.func56,Try.ntmps56
 go_wp2
 go_ret
 exact⟨T9_,T10_⟩
def tape_Tape_Left.f (a0_0:ByteArray) (a0_1:Int):Option (Int):=some (wrap64 ((a0_0.size:Int)-a0_1))
set_option maxHeartbeats 8000000 in
set_option maxRecDepth 100000 in
theorem tape_Tape_Left.calls (a0_0:ByteArray) (a0_1:Int) (r:Int) (w:World) (h:tape_Tape_Left.f a0_0 a0_1=some r) :
  Calls Try.prog 70 #[.agg #[.string a0_0,.int .i64 a0_1]] w fun e w'=>e = .returned (.int .i64 r)∧Below w.heap.size w w':=by
 have hu108:=Try.underlying108
 have HB:=am_ (Below.refl w.heap.size w)
 have H:(some (wrap64 ((a0_0.size:Int)-a0_1)))=some r:=h
 clear h
 obtain rfl:=Option.some.inj H
 obtain⟨rfl⟩:=sj1_ H
 go_enter Try.func70,Try.ntmps70
 go_wp2_with(first|(refine gd_ 1 ?_;refine bx_ 1 #[.string a0_0,.int .i64 a0_1] 108 ?_;intro gb151 hg w2 hbox hb;have n_:=P4_ (ji T16_ hb) (hbox) ((by rw[hg];exact(ja T16_):w.heap.size≤gb151)) ((by rw[hg];exact(ja T16_):w.heap.size≤gb151));clear HB;obtain⟨HB,BK151,GW151,GE151⟩:=n_;clear hb hbox hg;obtain⟨hcz3_0,hcz3_1,hfz3_0,hfz3_1⟩:=cz2_ BK151.out))
 go_ret
 exact⟨T14_,(by repeat(first|(with_reducible first|exact HB.out|apply below_alloc|apply pw_below_drewN|apply jG|refine jJ ?_ GE151.out)|exact HB.out))⟩
def tape_Tape_Byte.f (a0_0:ByteArray) (a0_1:Int):Option (Int×ByteArray×Int×Int):=(tape_Tape_Left.f a0_0 a0_1).bind fun t154=>(if t154=0 then(some (0,(⟨#[]⟩:ByteArray),0,3)) else(if 0≤a0_1 then(if a0_1<(a0_0.size:Int) then(some (bt a0_0 a0_1,a0_0,wrap64 (a0_1+1),0)) else(none)) else(none)))
def tape_Tape_Byte.T3:Bool×List (List Nat×List Nat):=(true,[([],[]),([0],[0]),([],[]),([2],[2]),([1,3],[1,3]),([],[]),([5],[5]),([],[]),([7],[7]),([8],[8]),([6,9],[6,9]),([4,0,1,2,3,4],[4]),([10,11,0,1,2,3,4,5,6,7,8,9,10,11],[10]),([12,0,1,2,3,4,5,6,7,8,9,10,11,12],[])])
def tape_Tape_Byte.B3:List Nat:=[0,1,0,4,15,0,32,0,128,384,992,31,4095,8191]
theorem tape_Tape_Byte.tab3:rtab .any (opsOf Try.f69 3)=tape_Tape_Byte.T3:=by kernel_rfl
theorem tape_Tape_Byte.bits3:waitsOk tape_Tape_Byte.T3.2 tape_Tape_Byte.B3=true:=by kernel_rfl
set_option maxHeartbeats 8000000 in
set_option maxRecDepth 100000 in
theorem tape_Tape_Byte.calls (a0_0:ByteArray) (a0_1:Int) (r1:Int) (r2:ByteArray) (r3:Int) (r4:Int) (w:World) (h:tape_Tape_Byte.f a0_0 a0_1=some (r1,r2,r3,r4)) :
  Calls Try.prog 69 #[.agg #[.string a0_0,.int .i64 a0_1]] w fun e w'=>e = .returned (.tuple #[.int .u8 r1,.agg #[.string r2,.int .i64 r3],.int .i64 r4])∧Below w.heap.size w w':=by
 have hu108:=Try.underlying108
 have HB:=am_ (Below.refl w.heap.size w)
 have H:((tape_Tape_Left.f a0_0 a0_1).bind fun t154=>(if t154=0 then(some (0,(⟨#[]⟩:ByteArray),0,3)) else(if 0≤a0_1 then(if a0_1<(a0_0.size:Int) then(some (bt a0_0 a0_1,a0_0,wrap64 (a0_1+1),0)) else(none)) else(none))))=some (r1,r2,r3,r4):=h
 clear h
 replace H:=Option.bind_eq_some_iff.mp H
 obtain⟨t154,A20,H⟩:=H
 try dsimp only at H
 have A2:=am_ A20
 clear A20
 by_cases c3:t154=0
 ·rw[if_pos c3] at H
  obtain⟨c3b0,c3b1⟩:=ep_ c3
  clear c3
  obtain⟨rfl,rfl,rfl,rfl⟩:=sj4_ H
  go_enter Try.func69,Try.ntmps69
  go_wp2_with(first|(refine gd_ 1 ?_;refine bx_ 1 #[.string a0_0,.int .i64 a0_1] 108 ?_;intro gb152 hg w4 hbox hb;have n_:=P4_ (ji T16_ hb) (hbox) ((by rw[hg];exact(ja T16_):w.heap.size≤gb152)) ((by rw[hg];exact(ja T16_):w.heap.size≤gb152));clear HB;obtain⟨HB,BK152,GW152,GE152⟩:=n_;clear hb hbox hg)|(refine gd_ 3 ?_;refine bx_ 3 #[.string (⟨#[]⟩:ByteArray),.int .i64 0] 108 ?_;intro gb153 hg w5 hbox hb;have n_:=P7_ (jr (bu_ BK152.out) hb) (ji T21_ hb) (hbox) ((by rw[hg];exact(ja T21_):w.heap.size≤gb153)) ((by rw[hg];exact(ja T21_):w.heap.size≤gb153)) ((by rw[hg];exact Nat.ne_of_lt (blk_lt (g:=gb152) (o:=.cells #[.string a0_0,.int .i64 a0_1] 108 (0,0)) (bu_ BK152.out)):gb152≠gb153)) ((by rw[hg];exact Nat.ne_of_gt (blk_lt (g:=gb152) (o:=.cells #[.string a0_0,.int .i64 a0_1] 108 (0,0)) (bu_ BK152.out)):gb153≠gb152));clear BK152 HB;obtain⟨BK152,HB,BK153,GW153,GE153,NB152_153,NB153_152⟩:=n_;clear hb hbox hg;have hnb6:=NB152_153.out;have hnc6:=NB153_152.out;obtain⟨hcz7_0,hcz7_1,hfz7_0,hfz7_1⟩:=cz2_ BK152.out)|(refine gc_ 70 ?_;refine gl_ (some 6) Try.func70 #[.agg #[.string a0_0,.int .i64 a0_1]] ?_;(with_reducible refine(tape_Tape_Left.calls a0_0 a0_1 t154 _ A2.out).mono ?_);rintro e w8 ⟨rfl,hb⟩;refine⟨_,rfl,?_⟩;have n_:=P3_ (jr (bu_ BK152.out) hb) (jr (bu_ BK153.out) hb) (ji T29_ hb);clear BK152 BK153 HB;obtain⟨BK152,BK153,HB⟩:=n_;clear hb;obtain⟨hcz9_0,hcz9_1,hfz9_0,hfz9_1⟩:=cz2_ BK153.out))
  refine bodyPost_ret (results_list (rs:=[.tmp 2,.cell 3 108,.tmp 4]) rfl T1_ (.tmp (.cell gb153 108 #[.string (⟨#[]⟩:ByteArray),.int .i64 0] (0,0) _ rfl (by(with_reducible repeat(first|refine jp ?_ _|refine jl ?_|refine jn ?_ _));refine jt (cs:=#[.string (⟨#[]⟩:ByteArray),.int .i64 0]) ?_ 1 _ rfl;(with_reducible repeat(first|refine jp ?_ _|refine jl ?_|refine jn ?_ _));refine jt (cs:=#[.string (⟨#[]⟩:ByteArray),.int .i64 0]) ?_ 0 _ rfl;exact bu_ BK153.out) Try.underlying108 rfl T4_ (.tmp .nil)))) rfl ?_
  exact⟨T14_,T29_⟩
 rw[if_neg c3] at H
 obtain⟨c3b0,c3b1⟩:=en_ c3
 replace H:=ifn_ H;obtain⟨c10,H⟩:=H
 have c10b0:=decide_eq_true c10
 clear c10
 replace H:=ifn_ H;obtain⟨c11,H⟩:=H
 have c11b0:=decide_eq_true c11
 clear c11
 obtain⟨rfl,rfl,rfl,rfl⟩:=sj4_ H
 go_enter Try.func69,Try.ntmps69
 try go_wp2_with(first|(refine gd_ 1 ?_;refine bx_ 1 #[.string a0_0,.int .i64 a0_1] 108 ?_;intro gb152 hg w13 hbox hb;have n_:=P4_ (ji T16_ hb) (hbox) ((by rw[hg];exact(ja T16_):w.heap.size≤gb152)) ((by rw[hg];exact(ja T16_):w.heap.size≤gb152));clear HB;obtain⟨HB,BK152,GW152,GE152⟩:=n_;clear hb hbox hg)|(refine gd_ 3 ?_;refine bx_ 3 #[.string (⟨#[]⟩:ByteArray),.int .i64 0] 108 ?_;intro gb153 hg w14 hbox hb;have n_:=P7_ (jr (bu_ BK152.out) hb) (ji T21_ hb) (hbox) ((by rw[hg];exact(ja T21_):w.heap.size≤gb153)) ((by rw[hg];exact(ja T21_):w.heap.size≤gb153)) ((by rw[hg];exact Nat.ne_of_lt (blk_lt (g:=gb152) (o:=.cells #[.string a0_0,.int .i64 a0_1] 108 (0,0)) (bu_ BK152.out)):gb152≠gb153)) ((by rw[hg];exact Nat.ne_of_gt (blk_lt (g:=gb152) (o:=.cells #[.string a0_0,.int .i64 a0_1] 108 (0,0)) (bu_ BK152.out)):gb153≠gb152));clear BK152 HB;obtain⟨BK152,HB,BK153,GW153,GE153,NB152_153,NB153_152⟩:=n_;clear hb hbox hg;have hnb15:=NB152_153.out;have hnc15:=NB153_152.out;obtain⟨hcz16_0,hcz16_1,hfz16_0,hfz16_1⟩:=cz2_ BK152.out)|(refine gc_ 70 ?_;refine gl_ (some 6) Try.func70 #[.agg #[.string a0_0,.int .i64 a0_1]] ?_;(with_reducible refine(tape_Tape_Left.calls a0_0 a0_1 t154 _ A2.out).mono ?_);rintro e w17 ⟨rfl,hb⟩;refine⟨_,rfl,?_⟩;have n_:=P3_ (jr (bu_ BK152.out) hb) (jr (bu_ BK153.out) hb) (ji T29_ hb);clear BK152 BK153 HB;obtain⟨BK152,BK153,HB⟩:=n_;clear hb))
 have n_:=P3_ (jl BK152.out) (jl BK153.out) (jG HB.out)
 clear BK152 BK153 HB
 obtain⟨BK152,BK153,HB⟩:=n_
 have p12:0≤(a0_1:Int):=od_
 have q12:a0_1<(a0_0.size:Int):=od_
 have hx12:=bt_at a0_0 a0_1
 replace p12:=eq_true p12
 replace q12:=eq_true q12
 refine start_ (n:=14) (S:=fun w'=>w'.cell? ⟨gb152,0,none⟩=some (.string a0_0)∧w'.cell? ⟨gb152,1,none⟩=some (.int .i64 a0_1)) (ds:=[]) #[false,false,false,false,false,false,false,false,false,false,false,false,false,false] T4_ rfl rfl ⟨bc_ BK152.out 0,bc_ BK152.out 1⟩ (fun hHeld=>?_);refine with_tabW tape_Tape_Byte.tab3 tape_Tape_Byte.bits3 (fun HT_ HW_=>?_)
 generalize w17.drew=w18 at BK152 BK153 HB hHeld ⊢
 refine pz_ 0 (some 9) ?_
 refine pz_ 2 (some 11) ?_
 refine pz_ 5 (some 14) ?_
 refine pz_ 7 (some 16) ?_
 refine tz2_ 1 (some 10) hHeld ?_
 refine tz2_ 3 (some 12) hHeld ?_
 refine tz2_ 4 (some 13) hHeld ?_
 refine pz_ 11 (some 2) ?_
 refine tz2_ 6 (some 15) hHeld ?_
 refine tz2_ 8 (some 17) hHeld ?_
 refine pz_ 9 (some 18) ?_
 refine pz_ 10 (some 19) ?_
 refine oz_ 12 (none) (fun K hK=>?_)
 have hs19:w18.cell? ⟨gb153,0,none⟩=some (.string (⟨#[]⟩:ByteArray)):=bc_ BK153.out 0
 have hfs19:=blk_frozen BK153.out 0
 have hns19_0:=NB152_153.out
 have hms19_0:=NB153_152.out
 have hs20:w18.cell? ⟨gb153,1,none⟩=some (.int .i64 0):=bc_ BK153.out 1
 have hfs20:=blk_frozen BK153.out 1
 have hns20_0:=NB152_153.out
 have hms20_0:=NB153_152.out
 refine skip_ (w1:=?_) T0_ rfl ?_ ?_
 rotate_left
 ·go_simp
  rfl
 refine hK.out _ _ ⟨((cell_far (p:=⟨gb153,_,none⟩) NB152_153.out _).trans (((cell_far (p:=⟨gb153,_,none⟩) NB152_153.out _).trans (hHeld.1)))),((cell_far (p:=⟨gb153,_,none⟩) NB152_153.out _).trans (((cell_far (p:=⟨gb153,_,none⟩) NB152_153.out _).trans (hHeld.2))))⟩ (fun hHeld=>?_)
 clear hK K
 refine pz_ 13 (some 4) ?_
 refine done_ (done_of HT_.out T4_) ?_
 try go_wp2
 refine bodyPost_ret (results_list (rs:=[.tmp 2,.cell 3 108,.tmp 4]) rfl T1_ (.tmp (.cell gb153 108 #[.string a0_0,.int .i64 (wrap64 (a0_1+1))] (0,0) _ rfl (by(with_reducible repeat(first|refine jp ?_ _|refine jl ?_|refine jn ?_ _));refine jt (cs:=#[.string a0_0,.int .i64 0]) ?_ 1 _ rfl;(with_reducible repeat(first|refine jp ?_ _|refine jl ?_|refine jn ?_ _));refine jt (cs:=#[.string (⟨#[]⟩:ByteArray),.int .i64 0]) ?_ 0 _ rfl;exact bu_ BK153.out) Try.underlying108 rfl T4_ (.tmp .nil)))) rfl ?_
 exact⟨T14_,T29_⟩
def draw_Below.l0:Nat→Int→ByteArray→Int→Option (Int×ByteArray×Int×Int)
 | 0,_,_,_=>none
 | k+1,x1,x156000,x156001=>(tape_Tape_Byte.f x156000 x156001).bind fun bt158=>(if bt158.2.2.2=0 then(if x1=0 then(none) else(if(wrap64 (bt158.1))<(wrap64 (256-((256:Int) % x1))) then(some (Int.tmod (wrap64 (bt158.1)) x1,bt158.2.1,bt158.2.2.1,0)) else(draw_Below.l0 k x1 bt158.2.1 bt158.2.2.1))) else(some (0,(⟨#[]⟩:ByteArray),0,bt158.2.2.2)))
def draw_Below.f (k:Nat) (a0_0:ByteArray) (a0_1:Int) (a1:Int):Option (Int×ByteArray×Int×Int):=(draw_isBound.f a1).bind fun t157=>(if t157=true then(if a1=1 then(some (0,a0_0,a0_1,0)) else(draw_Below.l0 k a1 a0_0 a0_1)) else(some (0,(⟨#[]⟩:ByteArray),0,2)))
def draw_Below.T9:Bool×List (List Nat×List Nat):=(true,[([],[]),([0],[0]),([],[]),([1,2],[1,2]),([],[]),([3,0,1,2,3],[3]),([4,5,0,1,2,3,4,5],[4]),([6,0,1,2,3,4,5,6],[])])
def draw_Below.B9:List Nat:=[0,1,0,7,0,15,63,127]
theorem draw_Below.tab9:rtab .any (opsOf Try.f66 9)=draw_Below.T9:=by kernel_rfl
theorem draw_Below.bits9:waitsOk draw_Below.T9.2 draw_Below.B9=true:=by kernel_rfl
set_option maxHeartbeats 8000000 in
set_option maxRecDepth 100000 in
theorem draw_Below.calls (k:Nat) (a0_0:ByteArray) (a0_1:Int) (a1:Int) (r1:Int) (r2:ByteArray) (r3:Int) (r4:Int) (w:World) (h:draw_Below.f k a0_0 a0_1 a1=some (r1,r2,r3,r4)) :
  Calls Try.prog 66 #[.agg #[.string a0_0,.int .i64 a0_1],.int .i64 a1] w fun e w'=>e = .returned (.tuple #[.int .i64 r1,.agg #[.string r2,.int .i64 r3],.int .i64 r4])∧Below w.heap.size w w':=by
 have hu108:=Try.underlying108
 have HB:=am_ (Below.refl w.heap.size w)
 have H:((draw_isBound.f a1).bind fun t157=>(if t157=true then(if a1=1 then(some (0,a0_0,a0_1,0)) else(draw_Below.l0 k a1 a0_0 a0_1)) else(some (0,(⟨#[]⟩:ByteArray),0,2))))=some (r1,r2,r3,r4):=h
 clear h
 replace H:=Option.bind_eq_some_iff.mp H
 obtain⟨t157,A30,H⟩:=H
 try dsimp only at H
 have A3:=am_ A30
 clear A30
 by_cases c4:t157=true
 rotate_left
 ·replace c4:=Bool.eq_false_iff.mpr c4
  subst c4
  have H1:(some (0,(⟨#[]⟩:ByteArray),0,2))=some (r1,r2,r3,r4):=by rw[if_neg (show ¬ (false=true) by decide)] at H;exact H
  clear H
  have H:=H1
  clear H1
  obtain⟨rfl,rfl,rfl,rfl⟩:=sj4_ H
  go_enter Try.func66,Try.ntmps66
  go_wp2_with(first|(refine gd_ 2 ?_;refine bx_ 2 #[.string a0_0,.int .i64 a0_1] 108 ?_;intro gb155 hg w44 hbox hb;have n_:=P4_ (ji T16_ hb) (hbox) ((by rw[hg];exact(ja T16_):w.heap.size≤gb155)) ((by rw[hg];exact(ja T16_):w.heap.size≤gb155));clear HB;obtain⟨HB,BK155,GW155,GE155⟩:=n_;clear hb hbox hg)|(refine gd_ 5 ?_;refine bx_ 5 #[.string (⟨#[]⟩:ByteArray),.int .i64 0] 108 ?_;intro gb156 hg w45 hbox hb;have n_:=P7_ (jr (bu_ BK155.out) hb) (ji T22_ hb) (hbox) ((by rw[hg];exact(ja T22_):w.heap.size≤gb156)) ((by rw[hg];exact(ja T22_):w.heap.size≤gb156)) ((by rw[hg];exact Nat.ne_of_lt (blk_lt (g:=gb155) (o:=.cells #[.string a0_0,.int .i64 a0_1] 108 (0,0)) (bu_ BK155.out)):gb155≠gb156)) ((by rw[hg];exact Nat.ne_of_gt (blk_lt (g:=gb155) (o:=.cells #[.string a0_0,.int .i64 a0_1] 108 (0,0)) (bu_ BK155.out)):gb156≠gb155));clear BK155 HB;obtain⟨BK155,HB,BK156,GW156,GE156,NB155_156,NB156_155⟩:=n_;clear hb hbox hg)|(refine gc_ 56 ?_;refine gl_ (some 11) Try.func56 #[.int .i64 a1] ?_;(with_reducible refine(draw_isBound.calls a1 false _ A3.out).mono ?_);rintro e w' ⟨rfl,⟨nd,rfl⟩⟩;refine⟨_,rfl,?_⟩;(try(rw[drewN_self w45];generalize hq_:World.drewN w45 _=w45;have n0_:Aside0 (w45.heap[gb155]? = some (.cells #[.string a0_0,.int .i64 a0_1] 108 (0,0))):=⟨(by rw[←hq_];exact(bu_ BK155.out))⟩;have n1_:Aside0 (w45.heap[gb156]? = some (.cells #[.string (⟨#[]⟩:ByteArray),.int .i64 0] 108 (0,0))):=⟨(by rw[←hq_];exact(bu_ BK156.out))⟩;have n2_:Aside0 (Below w.heap.size w w45):=⟨(by rw[←hq_];exact T30_)⟩;clear BK155 BK156 HB hq_;have BK155:=n0_;have BK156:=n1_;have HB:=n2_;clear n0_ n1_ n2_));have hnb46:=NB156_155.out;have hnc46:=NB155_156.out;obtain⟨hcz47_0,hcz47_1,hfz47_0,hfz47_1⟩:=cz2_ BK156.out))
  refine bodyPost_ret (results_list (rs:=[.tmp 4,.cell 5 108,.tmp 6]) rfl T1_ (.tmp (.cell gb156 108 #[.string (⟨#[]⟩:ByteArray),.int .i64 0] (0,0) _ rfl (by(with_reducible repeat(first|refine jp ?_ _|refine jl ?_|refine jn ?_ _));refine jt (cs:=#[.string (⟨#[]⟩:ByteArray),.int .i64 0]) ?_ 1 _ rfl;(with_reducible repeat(first|refine jp ?_ _|refine jl ?_|refine jn ?_ _));refine jt (cs:=#[.string (⟨#[]⟩:ByteArray),.int .i64 0]) ?_ 0 _ rfl;exact bu_ BK156.out) Try.underlying108 rfl T4_ (.tmp .nil)))) rfl ?_
  exact⟨T14_,T30_⟩
 subst c4
 have H1:(if a1=1 then(some (0,a0_0,a0_1,0)) else(draw_Below.l0 k a1 a0_0 a0_1))=some (r1,r2,r3,r4):=by rw[if_pos rfl] at H;exact H
 clear H
 have H:=H1
 clear H1
 by_cases c5:a1=1
 ·rw[if_pos c5] at H
  obtain⟨c5b0,c5b1⟩:=ep_ c5
  clear c5
  obtain⟨rfl,rfl,rfl,rfl⟩:=sj4_ H
  go_enter Try.func66,Try.ntmps66
  try go_wp2_with(first|(refine gd_ 2 ?_;refine bx_ 2 #[.string a0_0,.int .i64 a0_1] 108 ?_;intro gb155 hg w6 hbox hb;have n_:=P4_ (ji T16_ hb) (hbox) ((by rw[hg];exact(ja T16_):w.heap.size≤gb155)) ((by rw[hg];exact(ja T16_):w.heap.size≤gb155));clear HB;obtain⟨HB,BK155,GW155,GE155⟩:=n_;clear hb hbox hg)|(refine gd_ 5 ?_;refine bx_ 5 #[.string (⟨#[]⟩:ByteArray),.int .i64 0] 108 ?_;intro gb156 hg w7 hbox hb;have n_:=P7_ (jr (bu_ BK155.out) hb) (ji T22_ hb) (hbox) ((by rw[hg];exact(ja T22_):w.heap.size≤gb156)) ((by rw[hg];exact(ja T22_):w.heap.size≤gb156)) ((by rw[hg];exact Nat.ne_of_lt (blk_lt (g:=gb155) (o:=.cells #[.string a0_0,.int .i64 a0_1] 108 (0,0)) (bu_ BK155.out)):gb155≠gb156)) ((by rw[hg];exact Nat.ne_of_gt (blk_lt (g:=gb155) (o:=.cells #[.string a0_0,.int .i64 a0_1] 108 (0,0)) (bu_ BK155.out)):gb156≠gb155));clear BK155 HB;obtain⟨BK155,HB,BK156,GW156,GE156,NB155_156,NB156_155⟩:=n_;clear hb hbox hg)|(refine gc_ 56 ?_;refine gl_ (some 11) Try.func56 #[.int .i64 a1] ?_;(with_reducible refine(draw_isBound.calls a1 true _ A3.out).mono ?_);rintro e w' ⟨rfl,⟨nd,rfl⟩⟩;refine⟨_,rfl,?_⟩;(try(rw[drewN_self w7];generalize hq_:World.drewN w7 _=w7;have n0_:Aside0 (w7.heap[gb155]? = some (.cells #[.string a0_0,.int .i64 a0_1] 108 (0,0))):=⟨(by rw[←hq_];exact(bu_ BK155.out))⟩;have n1_:Aside0 (w7.heap[gb156]? = some (.cells #[.string (⟨#[]⟩:ByteArray),.int .i64 0] 108 (0,0))):=⟨(by rw[←hq_];exact(bu_ BK156.out))⟩;have n2_:Aside0 (Below w.heap.size w w7):=⟨(by rw[←hq_];exact T30_)⟩;clear BK155 BK156 HB hq_;have BK155:=n0_;have BK156:=n1_;have HB:=n2_;clear n0_ n1_ n2_))))
  have n_:=P3_ (jl BK155.out) (jl BK156.out) (jG HB.out)
  clear BK155 BK156 HB
  obtain⟨BK155,BK156,HB⟩:=n_
  refine start_ (n:=4) (S:=fun w'=>w'.cell? ⟨gb155,0,none⟩=some (.string a0_0)∧w'.cell? ⟨gb155,1,none⟩=some (.int .i64 a0_1)) (ds:=[]) #[false,false,false,false] T4_ rfl rfl ⟨bc_ BK155.out 0,bc_ BK155.out 1⟩ (fun hHeld=>?_)
  generalize w7.drew=w8 at BK155 BK156 HB hHeld ⊢
  refine pure_ (i:=1) (N:=some 4) (v:=?_) (a':=?_) #[false,true,false,false] rfl rfl T4_ (fun _ _ _ h=>h) (Or.inl ⟨T0_,?_⟩) ?_ ?_
  rotate_left
  ·intro w'
   go_simp
   with_reducible rfl
  rotate_left
  ·simp only[Act.put,List.setIfInBounds_toArray,List.set_cons_zero,List.set_cons_succ,jD,jE]
   rfl
  refine take_ (i:=0) (N:=some 16) (v:=?_) (a':=?_) #[true,true,false,false] rfl rfl T4_ (fun _ _ _ h=>h) (Or.inl ⟨T0_,?_⟩) hHeld ?_ ?_
  rotate_left
  ·rintro w' ⟨s0,s1⟩
   go_simp
   with_reducible rfl
  rotate_left
  ·simp only[Act.put,List.setIfInBounds_toArray,List.set_cons_zero,List.set_cons_succ,jD,jE]
   rfl
  refine one_ (i:=2) (N:=none) #[true,true,true,false] rfl rfl T4_ T3_ (fun K hK=>?_)
  have hs9:w8.cell? ⟨gb156,0,none⟩=some (.string (⟨#[]⟩:ByteArray)):=bc_ BK156.out 0
  have hfs9:=blk_frozen BK156.out 0
  have hns9_0:=NB155_156.out
  have hms9_0:=NB156_155.out
  have hs10:w8.cell? ⟨gb156,1,none⟩=some (.int .i64 0):=bc_ BK156.out 1
  have hfs10:=blk_frozen BK156.out 1
  have hns10_0:=NB155_156.out
  have hms10_0:=NB156_155.out
  refine skip_ (w1:=?_) T0_ rfl ?_ ?_
  rotate_left
  ·go_simp
   rfl
  refine hK.out _ _ ⟨((cell_far (p:=⟨gb156,_,none⟩) NB155_156.out _).trans (((cell_far (p:=⟨gb156,_,none⟩) NB155_156.out _).trans (hHeld.1)))),((cell_far (p:=⟨gb156,_,none⟩) NB155_156.out _).trans (((cell_far (p:=⟨gb156,_,none⟩) NB155_156.out _).trans (hHeld.2))))⟩ (fun hHeld=>?_)
  clear hK K
  refine pure_ (i:=3) (N:=some 6) (v:=?_) (a':=?_) #[true,true,true,true] rfl rfl T4_ (fun _ _ _ h=>h) (Or.inl ⟨T0_,?_⟩) ?_ ?_
  rotate_left
  ·intro w'
   go_simp
   with_reducible rfl
  rotate_left
  ·simp only[Act.put,List.setIfInBounds_toArray,List.set_cons_zero,List.set_cons_succ,jD,jE]
   rfl
  refine done_ T4_ ?_
  try go_wp2
  refine bodyPost_ret (results_list (rs:=[.tmp 4,.cell 5 108,.tmp 6]) rfl T1_ (.tmp (.cell gb156 108 #[.string a0_0,.int .i64 a0_1] (0,0) _ rfl (by(with_reducible repeat(first|refine jp ?_ _|refine jl ?_|refine jn ?_ _));refine jt (cs:=#[.string a0_0,.int .i64 0]) ?_ 1 _ rfl;(with_reducible repeat(first|refine jp ?_ _|refine jl ?_|refine jn ?_ _));refine jt (cs:=#[.string (⟨#[]⟩:ByteArray),.int .i64 0]) ?_ 0 _ rfl;exact bu_ BK156.out) Try.underlying108 rfl T4_ (.tmp .nil)))) rfl ?_
  exact⟨T14_,T30_⟩
 rw[if_neg c5] at H
 obtain⟨c5b0,c5b1⟩:=en_ c5
 have H':=am_ H
 clear H
 go_enter Try.func66,Try.ntmps66
 go_wp2_with(first|(refine gd_ 2 ?_;refine bx_ 2 #[.string a0_0,.int .i64 a0_1] 108 ?_;intro gb155 hg w11 hbox hb;have n_:=P4_ (ji T16_ hb) (hbox) ((by rw[hg];exact(ja T16_):w.heap.size≤gb155)) ((by rw[hg];exact(ja T16_):w.heap.size≤gb155));clear HB;obtain⟨HB,BK155,GW155,GE155⟩:=n_;clear hb hbox hg)|(refine gd_ 5 ?_;refine bx_ 5 #[.string (⟨#[]⟩:ByteArray),.int .i64 0] 108 ?_;intro gb156 hg w12 hbox hb;have n_:=P7_ (jr (bu_ BK155.out) hb) (ji T22_ hb) (hbox) ((by rw[hg];exact(ja T22_):w.heap.size≤gb156)) ((by rw[hg];exact(ja T22_):w.heap.size≤gb156)) ((by rw[hg];exact Nat.ne_of_lt (blk_lt (g:=gb155) (o:=.cells #[.string a0_0,.int .i64 a0_1] 108 (0,0)) (bu_ BK155.out)):gb155≠gb156)) ((by rw[hg];exact Nat.ne_of_gt (blk_lt (g:=gb155) (o:=.cells #[.string a0_0,.int .i64 a0_1] 108 (0,0)) (bu_ BK155.out)):gb156≠gb155));clear BK155 HB;obtain⟨BK155,HB,BK156,GW156,GE156,NB155_156,NB156_155⟩:=n_;clear hb hbox hg)|(refine gc_ 56 ?_;refine gl_ (some 11) Try.func56 #[.int .i64 a1] ?_;(with_reducible refine(draw_isBound.calls a1 true _ A3.out).mono ?_);rintro e w' ⟨rfl,⟨nd,rfl⟩⟩;refine⟨_,rfl,?_⟩))
 go_loopg [] k (fun kq w'=>∃ (x156000_1:ByteArray) (x156001_1:Int) (x157000_1:ByteArray) (x157001_1:Int),Aside0 (draw_Below.l0 kq a1 x156000_1 x156001_1=some (r1,r2,r3,r4))∧Aside0 (kq≤k)∧Aside0 (w'.heap[gb155]? = some (.cells #[.string x156000_1,.int .i64 x156001_1] 108 (0,0)))∧Aside0 (w'.heap[gb156]? = some (.cells #[.string x157000_1,.int .i64 x157001_1] 108 (0,0)))∧Aside0 (Below w.heap.size w w'))
 case atStart=>exact⟨(a0_0),(a0_1),((⟨#[]⟩:ByteArray)),(0),H',⟨Nat.le_refl _⟩,⟨bu_ BK155.out⟩,⟨bu_ BK156.out⟩,⟨T30_⟩⟩
 clear H'
 (try clear c4);(try clear c5);(try clear c5b0 c5b1);(try clear BK155);(try clear BK156)
 obtain⟨x156000_1,x156001_1,x157000_1,x157001_1,HA,HK1,BK155,BK156,HB⟩:=hrel
 cases gk with
 | zero=>exact absurd HA.out (by simp[draw_Below.l0])
 | succ k1 =>
  have H:=HA.out
  clear HA
  simp only[draw_Below.l0] at H
  replace H:=Option.bind_eq_some_iff.mp H
  obtain⟨⟨t158,t159,t160,t161⟩,A130,H⟩:=H
  try dsimp only at H
  have A13:=am_ A130
  clear A130
  by_cases c14:t161=0
  rotate_left
  ·rw[if_neg c14] at H
   obtain⟨c14b0,c14b1⟩:=en_ c14
   obtain⟨rfl,rfl,rfl,rfl⟩:=sj4_ H
   have hnb36:=NB155_156.out
   have hnc36:=NB156_155.out
   obtain⟨hcz37_0,hcz37_1,hfz37_0,hfz37_1⟩:=cz2_ BK155.out
   go_wp2_with(first|(refine gc_ 69 ?_;refine gl_ (some 19) Try.func69 #[.agg #[.string x156000_1,.int .i64 x156001_1]] ?_;(with_reducible refine(tape_Tape_Byte.calls x156000_1 x156001_1 t158 t159 t160 t161 _ A13.out).mono ?_);rintro e w38 ⟨rfl,hb⟩;refine⟨_,rfl,?_⟩;have n_:=P3_ (jr (bu_ BK155.out) hb) (jr (bu_ BK156.out) hb) (ji T30_ hb);clear BK155 BK156 HB;obtain⟨BK155,BK156,HB⟩:=n_;clear hb)|(refine gd_ 8 ?_;refine bx_ 8 #[.string (⟨#[]⟩:ByteArray),.int .i64 0] 108 ?_;intro gb162 hg w39 hbox hb;have n_:=P10_ (jr (bu_ BK155.out) hb) (jr (bu_ BK156.out) hb) (ji T30_ hb) (hbox) ((by rw[hg];exact(ja T30_):w.heap.size≤gb162)) ((by rw[hg];exact(ja T30_):w.heap.size≤gb162)) ((by rw[hg];exact Nat.ne_of_lt (blk_lt (g:=gb155) (o:=.cells #[.string x156000_1,.int .i64 x156001_1] 108 (0,0)) (bu_ BK155.out)):gb155≠gb162)) ((by rw[hg];exact Nat.ne_of_gt (blk_lt (g:=gb155) (o:=.cells #[.string x156000_1,.int .i64 x156001_1] 108 (0,0)) (bu_ BK155.out)):gb162≠gb155)) ((by rw[hg];exact Nat.ne_of_lt (blk_lt (g:=gb156) (o:=.cells #[.string x157000_1,.int .i64 x157001_1] 108 (0,0)) (bu_ BK156.out)):gb156≠gb162)) ((by rw[hg];exact Nat.ne_of_gt (blk_lt (g:=gb156) (o:=.cells #[.string x157000_1,.int .i64 x157001_1] 108 (0,0)) (bu_ BK156.out)):gb162≠gb156));clear BK155 BK156 HB;obtain⟨BK155,BK156,HB,BK162,GW162,GE162,NB155_162,NB162_155,NB156_162,NB162_156⟩:=n_;clear hb hbox hg;have hnb40:=NB162_155.out;have hnc40:=NB155_162.out;have hnb41:=NB162_156.out;have hnc41:=NB156_162.out;obtain⟨hcz42_0,hcz42_1,hfz42_0,hfz42_1⟩:=cz2_ BK162.out;obtain⟨hcz43_0,hcz43_1,hfz43_0,hfz43_1⟩:=cz2_ BK156.out))
   refine bodyPost_ret (results_list (rs:=[.tmp 4,.cell 5 108,.tmp 6]) rfl T1_ (.tmp (.cell gb156 108 #[.string (⟨#[]⟩:ByteArray),.int .i64 0] (0,0) _ rfl (by(with_reducible repeat(first|refine jp ?_ _|refine jl ?_|refine jn ?_ _));refine jt (cs:=#[.string (⟨#[]⟩:ByteArray),.int .i64 x157001_1]) ?_ 1 _ rfl;(with_reducible repeat(first|refine jp ?_ _|refine jl ?_|refine jn ?_ _));refine jt (cs:=#[.string x157000_1,.int .i64 x157001_1]) ?_ 0 _ rfl;(with_reducible repeat(first|refine jp ?_ _|refine jl ?_|refine jn ?_ _));refine blk_far ?_ NB156_162.out _;(with_reducible repeat(first|refine jp ?_ _|refine jl ?_|refine jn ?_ _));refine blk_far ?_ NB156_162.out _;exact bu_ BK156.out) Try.underlying108 rfl T4_ (.tmp .nil)))) rfl ?_
   exact⟨T14_,T31_⟩
  rw[if_pos c14] at H
  obtain⟨c14b0,c14b1⟩:=ep_ c14
  clear c14
  by_cases c15:a1=0
  ·rw[if_pos c15] at H
   exact absurd H T1_
  rw[if_neg c15] at H
  obtain⟨c15b0,c15b1⟩:=en_ c15
  by_cases c16:(wrap64 (t158))<(wrap64 (256-((256:Int) % a1)))
  rotate_left
  ·rw[if_neg c16] at H
   have c16b0:=decide_eq_false c16
   clear c16
   have H':=am_ H
   clear H
   have hnb28:=NB155_156.out
   have hnc28:=NB156_155.out
   obtain⟨hcz29_0,hcz29_1,hfz29_0,hfz29_1⟩:=cz2_ BK155.out
   go_wp2_with(first|(refine gc_ 69 ?_;refine gl_ (some 19) Try.func69 #[.agg #[.string x156000_1,.int .i64 x156001_1]] ?_;(with_reducible refine(tape_Tape_Byte.calls x156000_1 x156001_1 t158 t159 t160 t161 _ A13.out).mono ?_);rintro e w30 ⟨rfl,hb⟩;refine⟨_,rfl,?_⟩;have n_:=P3_ (jr (bu_ BK155.out) hb) (jr (bu_ BK156.out) hb) (ji T30_ hb);clear BK155 BK156 HB;obtain⟨BK155,BK156,HB⟩:=n_;clear hb)|(refine gd_ 8 ?_;refine bx_ 8 #[.string (⟨#[]⟩:ByteArray),.int .i64 0] 108 ?_;intro gb162 hg w31 hbox hb;have n_:=P10_ (jr (bu_ BK155.out) hb) (jr (bu_ BK156.out) hb) (ji T30_ hb) (hbox) ((by rw[hg];exact(ja T30_):w.heap.size≤gb162)) ((by rw[hg];exact(ja T30_):w.heap.size≤gb162)) ((by rw[hg];exact Nat.ne_of_lt (blk_lt (g:=gb155) (o:=.cells #[.string x156000_1,.int .i64 x156001_1] 108 (0,0)) (bu_ BK155.out)):gb155≠gb162)) ((by rw[hg];exact Nat.ne_of_gt (blk_lt (g:=gb155) (o:=.cells #[.string x156000_1,.int .i64 x156001_1] 108 (0,0)) (bu_ BK155.out)):gb162≠gb155)) ((by rw[hg];exact Nat.ne_of_lt (blk_lt (g:=gb156) (o:=.cells #[.string x157000_1,.int .i64 x157001_1] 108 (0,0)) (bu_ BK156.out)):gb156≠gb162)) ((by rw[hg];exact Nat.ne_of_gt (blk_lt (g:=gb156) (o:=.cells #[.string x157000_1,.int .i64 x157001_1] 108 (0,0)) (bu_ BK156.out)):gb162≠gb156));clear BK155 BK156 HB;obtain⟨BK155,BK156,HB,BK162,GW162,GE162,NB155_162,NB162_155,NB156_162,NB162_156⟩:=n_;clear hb hbox hg;have hnb32:=NB162_155.out;have hnc32:=NB155_162.out;have hnb33:=NB162_156.out;have hnc33:=NB156_162.out;obtain⟨hcz34_0,hcz34_1,hfz34_0,hfz34_1⟩:=cz2_ BK162.out;obtain⟨hcz35_0,hcz35_1,hfz35_0,hfz35_1⟩:=cz2_ BK155.out))
   go_roundg k1
   case measure=>have:=HK1.out;omega
   case rel=>exact⟨(t159),(t160),(x157000_1),(x157001_1),H',⟨T7_⟩,⟨(by(with_reducible repeat(first|refine jp ?_ _|refine jl ?_|refine jn ?_ _));refine jt (cs:=#[.string t159,.int .i64 x156001_1]) ?_ 1 _ rfl;(with_reducible repeat(first|refine jp ?_ _|refine jl ?_|refine jn ?_ _));refine jt (cs:=#[.string x156000_1,.int .i64 x156001_1]) ?_ 0 _ rfl;(with_reducible repeat(first|refine jp ?_ _|refine jl ?_|refine jn ?_ _));refine blk_far ?_ NB155_162.out _;(with_reducible repeat(first|refine jp ?_ _|refine jl ?_|refine jn ?_ _));refine blk_far ?_ NB155_162.out _;exact bu_ BK155.out)⟩,⟨(by(with_reducible repeat(first|refine jp ?_ _|refine jl ?_|refine jn ?_ _));refine blk_far ?_ NB156_155.out _;(with_reducible repeat(first|refine jp ?_ _|refine jl ?_|refine jn ?_ _));refine blk_far ?_ NB156_155.out _;(with_reducible repeat(first|refine jp ?_ _|refine jl ?_|refine jn ?_ _));refine blk_far ?_ NB156_162.out _;(with_reducible repeat(first|refine jp ?_ _|refine jl ?_|refine jn ?_ _));refine blk_far ?_ NB156_162.out _;exact bu_ BK156.out)⟩,⟨T31_⟩⟩
  rw[if_pos c16] at H
  have c16b0:=decide_eq_true c16
  clear c16
  obtain⟨rfl,rfl,rfl,rfl⟩:=sj4_ H
  have hnb17:=NB155_156.out
  have hnc17:=NB156_155.out
  obtain⟨hcz18_0,hcz18_1,hfz18_0,hfz18_1⟩:=cz2_ BK155.out
  try go_wp2_with(first|(refine gc_ 69 ?_;refine gl_ (some 19) Try.func69 #[.agg #[.string x156000_1,.int .i64 x156001_1]] ?_;(with_reducible refine(tape_Tape_Byte.calls x156000_1 x156001_1 t158 t159 t160 t161 _ A13.out).mono ?_);rintro e w19 ⟨rfl,hb⟩;refine⟨_,rfl,?_⟩;have n_:=P3_ (jr (bu_ BK155.out) hb) (jr (bu_ BK156.out) hb) (ji T30_ hb);clear BK155 BK156 HB;obtain⟨BK155,BK156,HB⟩:=n_;clear hb)|(refine gd_ 8 ?_;refine bx_ 8 #[.string (⟨#[]⟩:ByteArray),.int .i64 0] 108 ?_;intro gb162 hg w20 hbox hb;have n_:=P10_ (jr (bu_ BK155.out) hb) (jr (bu_ BK156.out) hb) (ji T30_ hb) (hbox) ((by rw[hg];exact(ja T30_):w.heap.size≤gb162)) ((by rw[hg];exact(ja T30_):w.heap.size≤gb162)) ((by rw[hg];exact Nat.ne_of_lt (blk_lt (g:=gb155) (o:=.cells #[.string x156000_1,.int .i64 x156001_1] 108 (0,0)) (bu_ BK155.out)):gb155≠gb162)) ((by rw[hg];exact Nat.ne_of_gt (blk_lt (g:=gb155) (o:=.cells #[.string x156000_1,.int .i64 x156001_1] 108 (0,0)) (bu_ BK155.out)):gb162≠gb155)) ((by rw[hg];exact Nat.ne_of_lt (blk_lt (g:=gb156) (o:=.cells #[.string x157000_1,.int .i64 x157001_1] 108 (0,0)) (bu_ BK156.out)):gb156≠gb162)) ((by rw[hg];exact Nat.ne_of_gt (blk_lt (g:=gb156) (o:=.cells #[.string x157000_1,.int .i64 x157001_1] 108 (0,0)) (bu_ BK156.out)):gb162≠gb156));clear BK155 BK156 HB;obtain⟨BK155,BK156,HB,BK162,GW162,GE162,NB155_162,NB162_155,NB156_162,NB162_156⟩:=n_;clear hb hbox hg;have hnb21:=NB162_155.out;have hnc21:=NB155_162.out;have hnb22:=NB162_156.out;have hnc22:=NB156_162.out;obtain⟨hcz23_0,hcz23_1,hfz23_0,hfz23_1⟩:=cz2_ BK162.out))
  have n0_:Aside0 (((w20.setCell ⟨gb162,0,none⟩ (.string t159)).setCell ⟨gb162,1,none⟩ (.int .i64 t160)).heap[gb155]? = some (.cells #[.string x156000_1,.int .i64 x156001_1] 108 (0,0))):=⟨(by(with_reducible repeat(first|refine jp ?_ _|refine jl ?_|refine jn ?_ _));refine blk_far ?_ NB155_162.out _;(with_reducible repeat(first|refine jp ?_ _|refine jl ?_|refine jn ?_ _));refine blk_far ?_ NB155_162.out _;exact bu_ BK155.out)⟩
  have n1_:Aside0 (((w20.setCell ⟨gb162,0,none⟩ (.string t159)).setCell ⟨gb162,1,none⟩ (.int .i64 t160)).heap[gb156]? = some (.cells #[.string x157000_1,.int .i64 x157001_1] 108 (0,0))):=⟨(by(with_reducible repeat(first|refine jp ?_ _|refine jl ?_|refine jn ?_ _));refine blk_far ?_ NB156_162.out _;(with_reducible repeat(first|refine jp ?_ _|refine jl ?_|refine jn ?_ _));refine blk_far ?_ NB156_162.out _;exact bu_ BK156.out)⟩
  have n2_:Aside0 (((w20.setCell ⟨gb162,0,none⟩ (.string t159)).setCell ⟨gb162,1,none⟩ (.int .i64 t160)).heap[gb162]? = some (.cells #[.string t159,.int .i64 t160] 108 (0,0))):=⟨(by(with_reducible repeat(first|refine jp ?_ _|refine jl ?_|refine jn ?_ _));refine jt (cs:=#[.string t159,.int .i64 0]) ?_ 1 _ rfl;(with_reducible repeat(first|refine jp ?_ _|refine jl ?_|refine jn ?_ _));refine jt (cs:=#[.string (⟨#[]⟩:ByteArray),.int .i64 0]) ?_ 0 _ rfl;exact bu_ BK162.out)⟩
  have n3_:Aside0 (Below w.heap.size w ((w20.setCell ⟨gb162,0,none⟩ (.string t159)).setCell ⟨gb162,1,none⟩ (.int .i64 t160))):=⟨T31_⟩
  (try clear BK155);(try clear BK156);(try clear BK162);(try clear HB)
  generalize ((w20.setCell ⟨gb162,0,none⟩ (.string t159)).setCell ⟨gb162,1,none⟩ (.int .i64 t160))=w24 at n0_ n1_ n2_ n3_ ⊢
  have BK155:=n0_
  have BK156:=n1_
  have BK162:=n2_
  have HB:=n3_
  clear n0_ n1_ n2_ n3_
  have n_:=P4_ (jl BK155.out) (jl BK156.out) (jl BK162.out) (jG HB.out)
  clear BK155 BK156 BK162 HB
  obtain⟨BK155,BK156,BK162,HB⟩:=n_
  refine start_ (n:=8) (S:=fun w'=>w'.cell? ⟨gb162,0,none⟩=some (.string t159)∧w'.cell? ⟨gb162,1,none⟩=some (.int .i64 t160)) (ds:=[]) #[false,false,false,false,false,false,false,false] T4_ rfl rfl ⟨bc_ BK162.out 0,bc_ BK162.out 1⟩ (fun hHeld=>?_);refine with_tabW draw_Below.tab9 draw_Below.bits9 (fun HT_ HW_=>?_)
  generalize w24.drew=w25 at BK155 BK156 BK162 HB hHeld ⊢
  refine pz_ 0 (some 33) ?_
  refine pz_ 1 (some 34) ?_
  refine pz_ 2 (some 35) ?_
  refine pz_ 3 (some 36) ?_
  refine pz_ 5 (some 4) ?_
  refine tz2_ 4 (some 37) hHeld ?_
  refine oz_ 6 (none) (fun K hK=>?_)
  have hs26:w25.cell? ⟨gb156,0,none⟩=some (.string x157000_1):=bc_ BK156.out 0
  have hfs26:=blk_frozen BK156.out 0
  have hns26_0:=NB155_156.out
  have hns26_2:=NB162_156.out
  have hms26_0:=NB156_155.out
  have hms26_2:=NB156_162.out
  have hs27:w25.cell? ⟨gb156,1,none⟩=some (.int .i64 x157001_1):=bc_ BK156.out 1
  have hfs27:=blk_frozen BK156.out 1
  have hns27_0:=NB155_156.out
  have hns27_2:=NB162_156.out
  have hms27_0:=NB156_155.out
  have hms27_2:=NB156_162.out
  refine skip_ (w1:=?_) T0_ rfl ?_ ?_
  rotate_left
  ·go_simp
   rfl
  refine hK.out _ _ ⟨((cell_far (p:=⟨gb156,_,none⟩) NB162_156.out _).trans (((cell_far (p:=⟨gb156,_,none⟩) NB162_156.out _).trans (hHeld.1)))),((cell_far (p:=⟨gb156,_,none⟩) NB162_156.out _).trans (((cell_far (p:=⟨gb156,_,none⟩) NB162_156.out _).trans (hHeld.2))))⟩ (fun hHeld=>?_)
  clear hK K
  refine pz_ 7 (some 6) ?_
  refine done_ (done_of HT_.out T4_) ?_
  try go_wp2
  refine bodyPost_ret (results_list (rs:=[.tmp 4,.cell 5 108,.tmp 6]) rfl T1_ (.tmp (.cell gb156 108 #[.string t159,.int .i64 t160] (0,0) _ rfl (by(with_reducible repeat(first|refine jp ?_ _|refine jl ?_|refine jn ?_ _));refine jt (cs:=#[.string t159,.int .i64 x157001_1]) ?_ 1 _ rfl;(with_reducible repeat(first|refine jp ?_ _|refine jl ?_|refine jn ?_ _));refine jt (cs:=#[.string x157000_1,.int .i64 x157001_1]) ?_ 0 _ rfl;exact bu_ BK156.out) Try.underlying108 rfl T4_ (.tmp .nil)))) rfl ?_
  exact⟨T14_,T31_⟩
def tape_Tape_Used.f (a0_0:ByteArray) (a0_1:Int):Option (Int):=some a0_1
set_option maxHeartbeats 8000000 in
set_option maxRecDepth 100000 in
theorem tape_Tape_Used.calls (a0_0:ByteArray) (a0_1:Int) (r:Int) (w:World) (h:tape_Tape_Used.f a0_0 a0_1=some r) :
  Calls Try.prog 67 #[.agg #[.string a0_0,.int .i64 a0_1]] w fun e w'=>e = .returned (.int .i64 r)∧Below w.heap.size w w':=by
 have hu108:=Try.underlying108
 have HB:=am_ (Below.refl w.heap.size w)
 have H:(some a0_1)=some r:=h
 clear h
 obtain rfl:=Option.some.inj H
 obtain⟨rfl⟩:=sj1_ H
 go_enter Try.func67,Try.ntmps67
 go_wp2_with(first|(refine gd_ 1 ?_;refine bx_ 1 #[.string a0_0,.int .i64 a0_1] 108 ?_;intro gb163 hg w2 hbox hb;have n_:=P4_ (ji T16_ hb) (hbox) ((by rw[hg];exact(ja T16_):w.heap.size≤gb163)) ((by rw[hg];exact(ja T16_):w.heap.size≤gb163));clear HB;obtain⟨HB,BK163,GW163,GE163⟩:=n_;clear hb hbox hg;obtain⟨hcz3_0,hcz3_1,hfz3_0,hfz3_1⟩:=cz2_ BK163.out))
 go_ret
 exact⟨T14_,(by repeat(first|(with_reducible first|exact HB.out|apply below_alloc|apply pw_below_drewN|apply jG|refine jJ ?_ GE163.out)|exact HB.out))⟩
def okBound (b:Int):Bool:=decide (1≤b) && decide (b≤256)
theorem isBound_f (b:Int):draw_isBound.f b=some (okBound b):=by
 unfold draw_isBound.f okBound
 by_cases h:b ≥ 1
 ·rw[if_pos h];simp;omega
 rw[if_neg h];simp;omega
theorem reads_C {k:IntKind} {w:World} {A:Option Addr} {n:Nat} {xs:List Int} (h:(jb k).C w A n xs):ReadsInt w k A n xs :=
 ⟨h.1,h.2.1,fun hn=>by
  obtain⟨ad,e,hc⟩:=h.2.2 hn
  refine⟨ad,e,fun j hj=>?_⟩
  have hjl:j<xs.length:=by rw[h.1];exact hj
  obtain⟨c,hs,hr,hcell⟩:=hc j _ (List.getElem?_eq_getElem hjl)
  have hr':c=[.int k xs[j]]:=hr
  subst hr'
  have:=hcell 0 _ rfl
  rw[show j*(jb k).sz+0=j from Nat.mul_one j] at this
  rw[this,List.getD_eq_getElem?_getD,List.getElem?_eq_getElem hjl]
  rfl⟩
theorem each_pred (b:Int) (w:World):Calls Try.prog 64 #[.int .i64 b] w fun e w'=>e = .returned (.bool (!okBound b))∧∃ q,w'=w.drewN q:=by
 go_enter Try.func64,Try.ntmps64
 go_wp2_with(go_at_call 56;refine(draw_isBound.calls b (okBound b) _ (isBound_f b)).mono ?_;rintro e w' ⟨rfl,⟨nd,rfl⟩⟩)
 go_ret
 exact⟨rfl,_,rfl⟩
theorem idx_calls (A1:Option Addr) (c1:Nat) (l1:List Int) (w:World) (hr1:(jb .i64).C w A1 l1.length l1) :
  Calls Try.prog 68 #[.slice A1 l1.length c1,.func (.func 64) #[] #[]] w fun e w'=>(∃ i:Int,e = .returned (.int .i64 i)∧decide (i ≥ 0)=l1.any (fun b => !okBound b))∧∃ q,w'=w.drewN q:=by
 have hri:=reads_C hr1
 have hlen:=hri.2.1
 have key:∃ ad:Addr,(0<l1.length→A1=some ad)∧∀ j,j<l1.length→w.cell? (ad.add j)=some (.int .i64 (l1.getD j 0)):=by
  rcases Nat.eq_zero_or_pos l1.length with h|h
  ·exact⟨⟨0,0,none⟩,fun h2=>by omega,fun j hj=>by omega⟩
  obtain⟨ad,e,hc⟩:=hri.2.2 h
  exact⟨ad,fun _=>e,hc⟩
 obtain⟨ad,hA,hc⟩:=key
 have HA:=am_ hA
 clear hA hr1 hri
 go_enter Try.func68,Try.ntmps68
 go_wp2
 go_loopg [5,8] l1.length (fun gg _ s8 wr=>∃ kk q:Nat,kk≤l1.length∧l1.length-kk≤gg∧s8 = .int .i64 kk∧wr=w.drewN q∧Aside0 (∀ j,j<kk→okBound (l1.getD j 0)=true))
 case atStart=>exact⟨0,0,Nat.zero_le _,T2_,rfl,rfl,⟨fun j hj=>absurd hj (Nat.not_lt_zero _)⟩⟩
 obtain⟨kk,q,hkk,hg,rfl,rfl,A⟩:=hrel
 by_cases hlt:kk<l1.length
 ·have hltz:(kk:Int)<(l1.length:Int):=by omega
  obtain rfl:=HA.out T2_
  have hcell:w.cell? (ad.add kk)=some (.int .i64 (l1.getD kk 0)):=hc kk hlt
  clear hc
  obtain⟨y,hy⟩:∃ y,l1.getD kk 0=y:=⟨_,rfl⟩
  rw[hy] at hcell
  have B:=am_ hy
  clear hy
  have hcall:=each_pred y
  cases hq:okBound y with
  | false =>
   rw[hq] at hcall
   go_wp2_with(go_at_call 64;refine(hcall _).mono ?_;rintro e w' ⟨rfl,q',rfl⟩)
   go_ret
   refine⟨⟨_,rfl,?_⟩,_,rfl⟩
   symm
   rw[decide_eq_true T2_,List.any_eq_true]
   refine⟨l1[kk],List.getElem_mem _,?_⟩
   have:=B.out
   rw[List.getD_eq_getElem?_getD,List.getElem?_eq_getElem hlt,Option.getD_some] at this
   rw[this,hq];rfl
  | true =>
   rw[hq] at hcall
   go_wp2_with(go_at_call 64;refine(hcall _).mono ?_;rintro e w' ⟨rfl,q',rfl⟩)
   go_roundg (l1.length-(kk+1))
   case measure=>omega
   refine⟨kk+1,_,T2_,T2_,by go_num,rfl,⟨fun j hj=>?_⟩⟩
   by_cases e:j=kk
   ·subst e
    rw[B.out];exact hq
   exact A.out j T2_
 have hltz:¬ (kk:Int)<(l1.length:Int):=by omega
 have hk:kk=l1.length:=by omega
 subst hk
 go_wp2
 go_ret
 refine⟨⟨_,rfl,?_⟩,q,rfl⟩
 rw[decide_eq_false T2_]
 symm
 rw[List.any_eq_false]
 intro x hx
 obtain⟨j,hj,rfl⟩:=List.getElem_of_mem hx
 have:=A.out j hj
 rw[List.getD_eq_getElem?_getD,List.getElem?_eq_getElem hj,Option.getD_some] at this
 simp[this]
theorem contains_calls (A1:Option Addr) (c1:Nat) (l1:List Int) (w:World) (hr1:(jb .i64).C w A1 l1.length l1) :
  Calls Try.prog 63 #[.slice A1 l1.length c1,.func (.func 64) #[] #[]] w fun e w'=>e = .returned (.bool (l1.any fun b => !okBound b))∧∃ q,w'=w.drewN q:=by
 have HR:=fun W (h:(jb .i64).C W A1 l1.length l1)=>idx_calls A1 c1 l1 W h
 have HC:=am_ hr1
 clear hr1
 go_enter Try.func63,Try.ntmps63
 go_wp2_with(go_at_call 68;refine(HR _ HC.out).mono ?_;rintro e w' ⟨⟨i,rfl,hi⟩,q',rfl⟩)
 go_ret
 exact⟨(by simp[hi]),_,rfl⟩
def eachl (G:Nat→Int→Int→Bool):Nat→List Int→ByteArray→Int→List (Int×Int)→Option (List (Int×Int)×Int×Int)
 | 0,_,_,_,_=>none
 | k+1,bs,s,u,L=>if L.length<bs.length then(draw_Below.f k s u (bs.getD L.length 0)).bind fun q=>(if q.2.2.2=0 then(if G L.length (wrap64 (q.2.2.1-1)) q.1=true then eachl G k bs q.2.1 q.2.2.1 (L ++ [(q.1,wrap64 (q.2.2.1-1))]) else none) else some (L,0,q.2.2.2)) else some (L,u,0)
def eachf (G:Nat→Int→Int→Bool) (k:Nat) (p bs:List Int):Option (List (Int×Int)×Int×Int) :=
 if bs.any (fun b => !okBound b)=true then some ([],0,2) else eachl G k bs (strOfNums p) 0 []
theorem each_after {w0 w wr w4 w5:World} {gb gb2:Nat} {s q2:ByteArray} {u q3:Int} (H0:w0.heap.size≤w.heap.size) (HS:w.heap.size≤wr.heap.size) (HB:Below w0.heap.size w0 wr) (HB4:Below wr.heap.size wr w4)
  (BK4:w4.heap[gb]? = some (.cells #[.string s,.int .i64 u] 108 (0,0))) (NE:gb≠gb2) (GE:w.heap.size≤gb) (GE2:wr.heap.size≤gb2)
  (hb5:Below ((((w4.setCell ⟨gb2,0,none⟩ (.string q2)).setCell ⟨gb2,1,none⟩ (.int .i64 q3)).setCell ⟨gb,0,none⟩ (.string q2)).setCell ⟨gb,1,none⟩ (.int .i64 q3)).heap.size ((((w4.setCell ⟨gb2,0,none⟩ (.string q2)).setCell ⟨gb2,1,none⟩ (.int .i64 q3)).setCell ⟨gb,0,none⟩ (.string q2)).setCell ⟨gb,1,none⟩ (.int .i64 q3)) w5) :
  w5.heap[gb]? = some (.cells #[.string q2,.int .i64 q3] 108 (0,0))∧Below w.heap.size wr w5∧Below w0.heap.size w0 w5∧w.heap.size≤w5.heap.size:=by
 have low:Below w.heap.size wr w4:=⟨HB4.os,HB4.tape,HB4.output,HB4.size,fun i hi=>HB4.block i T2_⟩
 have a1:Below w.heap.size wr ((((w4.setCell ⟨gb2,0,none⟩ (.string q2)).setCell ⟨gb2,1,none⟩ (.int .i64 q3)).setCell ⟨gb,0,none⟩ (.string q2)).setCell ⟨gb,1,none⟩ (.int .i64 q3)) :=
  (((low.setCell (p:=⟨gb2,0,none⟩) (Nat.le_trans HS GE2) _).setCell (p:=⟨gb2,1,none⟩) (Nat.le_trans HS GE2) _).setCell (p:=⟨gb,0,none⟩) GE _).setCell (p:=⟨gb,1,none⟩) GE _
 have a2:Below w.heap.size wr w5:=below_then a1 (Nat.le_trans HS a1.size) hb5
 refine⟨jr (jt (cs:=#[.string q2,.int .i64 u]) (jt (cs:=#[.string s,.int .i64 u]) (blk_far (blk_far BK4 NE _) NE _) 0 _ rfl) 1 _ rfl) hb5,a2,?_,Nat.le_trans HS a2.size⟩
 exact HB.trans ⟨a2.os,a2.tape,a2.output,a2.size,fun i hi=>a2.block i T2_⟩
set_option maxHeartbeats 4000000 in
set_option maxRecDepth 100000 in
theorem each_calls (G:Nat→Int→Int→Bool) (F:Nat) (lb:Array Value) (eF:∀ args w,(callFunc F args).run Try.prog w = .ok (.enter F args) w)
  (k:Nat) (A0:Option Addr) (c0:Nat) (l0:List Int) (A1:Option Addr) (c1:Nat) (l1:List Int) (w0 w:World)
  (hr0:(jb .u8).C w A0 l0.length l0) (hc0:l0.length≤c0) (hr1:(jb .i64).C w0 A1 l1.length l1) (hc1:l1.length≤c1)
  (hB:Below w0.heap.size w0 w) (Inv:List (Int×Int)→World→Prop) (hI0:Inv [] w)
  (hIF:∀ L W W',Inv L W→Below w.heap.size W W'→Inv L W')
  (hcb:∀ L d at_ W,L.length<l1.length→G L.length at_ d=true→Inv L W→Below w0.heap.size w0 W→w.heap.size≤W.heap.size →
   Calls Try.prog F (#[.int .i64 (L.length:Int),.int .i64 at_,.int .i64 d] ++ lb) W fun e W'=>e = .returned (.tuple #[])∧Inv (L ++ [(d,at_)]) W'∧Below w0.heap.size w0 W'∧Kept W W' (fun k=>k<w.heap.size))
  (Lr:List (Int×Int)) (n er:Int) (h:eachf G k l0 l1=some (Lr,n,er)) :
  Calls Try.prog 58 #[.slice A0 l0.length c0,.slice A1 l1.length c1,.func (.func F) #[] lb] w fun e w'=>e = .returned (.tuple #[.int .i64 n,.int .i64 er])∧Inv Lr w'∧Below w0.heap.size w0 w':=by
 have hu38_:=Try.underlying108
 have hcc:=contains_calls A1 c1 l1 w (jv hr1 hB)
 have hri:=reads_C hr1
 have hlen:=hri.2.1
 have key:∃ ad:Addr,(0<l1.length→A1=some ad)∧∀ j,j<l1.length→w0.cell? (ad.add j)=some (.int .i64 (l1.getD j 0)):=by
  rcases Nat.eq_zero_or_pos l1.length with h|h
  ·exact⟨⟨0,0,none⟩,fun h2=>by omega,fun j hj=>by omega⟩
  obtain⟨ad,e,hc⟩:=hri.2.2 h
  exact⟨ad,fun _=>e,hc⟩
 obtain⟨ad,hA,hc⟩:=key
 have HA:=am_ hA
 have HC:=am_ hc
 have HR0:=am_ hr0
 have HC0:=am_ hc0
 have HB:=am_ hB
 have HI0:=am_ hI0
 have H0:=am_ hB.size
 have HIF:=am_ hIF
 have HCB:=am_ hcb
 clear hA hc hr0 hc0 hr1 hri hB hI0 hIF hcb hc1
 unfold eachf at h
 by_cases hany:l1.any (fun b => !okBound b)=true
 ·rw[if_pos hany] at h
  simp only[Option.some.injEq,Prod.mk.injEq] at h
  obtain⟨rfl,rfl,rfl⟩:=h
  rw[hany] at hcc
  clear hany
  go_enter Try.func58,Try.ntmps58
  go_wp2_with(go_at_call 63;refine hcc.mono ?_;rintro e w1 ⟨rfl,q,rfl⟩)
  go_ret2
  exact⟨rfl,HIF.out _ _ _ HI0.out (pw_below_drewN (Below.refl _ _) _),pw_below_drewN HB.out _⟩
 rw[if_neg hany] at h
 have hf:l1.any (fun b => !okBound b)=false:=by simpa using hany
 rw[hf] at hcc
 clear hany hf
 have H:=am_ h
 clear h
 go_enter Try.func58,Try.ntmps58
 go_wp2_with(first
  | (go_at_call 63;refine hcc.mono ?_;rintro e w1 ⟨rfl,q,rfl⟩;clear hcc)
  | (go_at_call 65;refine(tape_New.calls A0 c0 l0 (strOfNums l0) 0 _ (jv HR0.out (pw_below_drewN (Below.refl _ _) _)) HC0.out rfl).mono ?_;rintro e w2 ⟨rfl,hb2⟩;have HB2:=am_ (show Below w.heap.size w w2 from ji (pw_below_drewN (Below.refl _ w) _) hb2);clear hb2)
  | (refine gd_ 8 ?_;refine bx_ 8 #[.string (⟨#[]⟩:ByteArray),.int .i64 0] 108 ?_;intro gb hg w3 hbox hb;have BK:=am_ hbox;have GE:=am_ (show w.heap.size≤gb by rw[hg];exact HB2.out.size);have HB3:=am_ (show Below w.heap.size w w3 from ji HB2.out hb);clear HB2 hbox hg hb;have hz0:w3.cell? ⟨gb,0,none⟩=some (.string (⟨#[]⟩:ByteArray)):=bc_ BK.out 0;have hz1:w3.cell? ⟨gb,1,none⟩=some (.int .i64 0):=bc_ BK.out 1;have hf0:=blk_frozen BK.out 0;have hf1:=blk_frozen BK.out 1))
 go_loopg [20] k (fun kq v20 wr=>∃ (L:List (Int×Int)) (s:ByteArray) (u:Int),v20 = .int .i64 (L.length:Int)∧Aside0 (eachl G kq l1 s u L=some (Lr,n,er))∧Aside0 (L.length≤l1.length)∧Aside0 (wr.heap[gb]? = some (.cells #[.string s,.int .i64 u] 108 (0,0)))∧Aside0 (Inv L wr)∧Aside0 (Below w0.heap.size w0 wr)∧Aside0 (w.heap.size≤wr.heap.size))
 case atStart =>
  refine⟨[],strOfNums l0,0,rfl,H,⟨Nat.zero_le _⟩,⟨?_⟩,⟨?_⟩,⟨?_⟩,⟨?_⟩⟩
  ·exact jt (cs:=#[.string (strOfNums l0),.int .i64 0]) (jt (cs:=#[.string (⟨#[]⟩:ByteArray),.int .i64 0]) BK.out 0 _ rfl) 1 _ rfl
  ·exact HIF.out _ _ _ HI0.out (jJ (jJ HB3.out GE.out) GE.out)
  ·exact jJ (jJ (below_then HB.out H0.out HB3.out) (Nat.le_trans H0.out GE.out)) (Nat.le_trans H0.out GE.out)
  simpa using HB3.out.size
 clear H BK HB3 HI0 hz0 hz1 hf0 hf1 HB
 obtain⟨L,s,u,rfl,HL,HLL,BK,HI,HB,HS⟩:=hrel
 cases gk with
 | zero=>exact absurd HL.out (by simp[eachl])
 | succ k1 =>
  have H:=HL.out
  clear HL
  rw[eachl] at H
  have hz0:wr.cell? ⟨gb,0,none⟩=some (.string s):=bc_ BK.out 0
  have hz1:wr.cell? ⟨gb,1,none⟩=some (.int .i64 u):=bc_ BK.out 1
  by_cases hlt:L.length<l1.length
  ·rw[if_pos hlt] at H
   replace H:=Option.bind_eq_some_iff.1 H
   obtain⟨⟨q1,q2,q3,q4⟩,hq,H⟩:=H
   have HQ:=am_ hq
   clear hq
   have hltz:(L.length:Int)<(l1.length:Int):=by omega
   have HLT:=am_ hlt
   have hcell:wr.cell? (ad.add L.length)=some (.int .i64 (l1.getD L.length 0)):=by
    have:=HC.out L.length hlt
    exact(HB.out.cell (World.block_lt_of_cell? _ _ this)).trans this
   obtain rfl:=HA.out T2_
   obtain⟨b,hb0⟩:∃ b,l1.getD L.length 0=b:=⟨_,rfl⟩
   rw[hb0] at HQ hcell
   clear hb0
   simp only at H
   by_cases c4:q4=0
   rotate_left
   ·rw[if_neg c4] at H
    obtain⟨rfl,rfl,rfl⟩:=sj3_ H
    have c4b1:(q4 != 0)=true:=bne_iff_ne.mpr c4
    go_wp2_with(first
      | (go_at_call 66;refine(draw_Below.calls k1 s u b q1 q2 q3 q4 _ HQ.out).mono ?_;rintro e w3 ⟨rfl,hb3⟩;have BK3:=am_ (jr BK.out hb3);have HB3:=am_ (show Below wr.heap.size wr w3 from hb3);clear hb3 BK)
      | (refine gd_ 12 ?_;refine bx_ 12 #[.string (⟨#[]⟩:ByteArray),.int .i64 0] 108 ?_;intro gb2 hg w4 hbox hb;have BX4:=am_ hbox;have GE2:=am_ (show wr.heap.size≤gb2 by have:=HB3.out.size;omega);have HB4:=am_ (show Below wr.heap.size wr w4 from ji HB3.out hb);clear HB3 BK3 hbox hg hb;have hx0:w4.cell? ⟨gb2,0,none⟩=some (.string (⟨#[]⟩:ByteArray)):=bc_ BX4.out 0;have hx1:w4.cell? ⟨gb2,1,none⟩=some (.int .i64 0):=bc_ BX4.out 1;have hxf0:=blk_frozen BX4.out 0;have hxf1:=blk_frozen BX4.out 1))
    have low:Below w.heap.size wr w4:=⟨HB4.out.os,HB4.out.tape,HB4.out.output,HB4.out.size,fun i hi=>HB4.out.block i (by have:=HS.out;omega)⟩
    have GG:=Nat.le_trans HS.out GE2.out
    have low2:Below w.heap.size wr ((w4.setCell ⟨gb2,0,none⟩ (.string q2)).setCell ⟨gb2,1,none⟩ (.int .i64 q3)):=(low.setCell (p:=⟨gb2,0,none⟩) GG _).setCell (p:=⟨gb2,1,none⟩) GG _
    try rw[Exit.noGoto_ret]
    go_ret2
    exact⟨rfl,HIF.out _ _ _ HI.out low2,HB.out.trans ⟨low2.os,low2.tape,low2.output,low2.size,fun i hi=>low2.block i (by have:=H0.out;omega)⟩⟩
   rw[if_pos c4] at H
   subst c4
   obtain⟨at_,hat⟩:∃ at_,wrap64 (q3-1)=at_:=⟨_,rfl⟩
   rw[hat] at H
   have hat':IntKind.i64.wrap (q3-1)=at_:=(jD _).trans hat
   by_cases cG:G L.length at_ q1=true
   ·rw[if_pos cG] at H
    have HN:=am_ H
    have HG:=am_ cG
    clear H cG
    go_wp2_with(first
     | (go_at_call 66;refine(draw_Below.calls k1 s u b q1 q2 q3 0 _ HQ.out).mono ?_;rintro e w3 ⟨rfl,hb3⟩;have BK3:=am_ (jr BK.out hb3);have HB3:=am_ (show Below wr.heap.size wr w3 from hb3);clear hb3 BK)
     | (refine gd_ 12 ?_;refine bx_ 12 #[.string (⟨#[]⟩:ByteArray),.int .i64 0] 108 ?_;intro gb2 hg w4 hbox hb;have BK4:=am_ (jr BK3.out hb);have BX4:=am_ hbox;have NE:=am_ (show gb≠gb2 by have:=blk_lt BK3.out;omega);have GE2:=am_ (show wr.heap.size≤gb2 by have:=HB3.out.size;omega);have HB4:=am_ (show Below wr.heap.size wr w4 from ji HB3.out hb);clear HB3 BK3 hbox hg hb;have hx0:w4.cell? ⟨gb2,0,none⟩=some (.string (⟨#[]⟩:ByteArray)):=bc_ BX4.out 0;have hx1:w4.cell? ⟨gb2,1,none⟩=some (.int .i64 0):=bc_ BX4.out 1;have hxf0:=blk_frozen BX4.out 0;have hxf1:=blk_frozen BX4.out 1;have hy0:w4.cell? ⟨gb,0,none⟩=some (.string s):=bc_ BK4.out 0;have hy1:w4.cell? ⟨gb,1,none⟩=some (.int .i64 u):=bc_ BK4.out 1;have hyf0:=blk_frozen BK4.out 0;have hyf1:=blk_frozen BK4.out 1;have hne:=NE.out;have hne':=NE.out.symm)
     | (go_at_call 67;refine(tape_Tape_Used.calls q2 q3 q3 _ rfl).mono ?_;rintro e w5 ⟨rfl,hb5⟩;obtain⟨e1,e2,e3,e4⟩:=each_after H0.out HS.out HB.out HB4.out BK4.out NE.out GE.out GE2.out hb5;have BK5:=am_ e1;have HI5:=am_ (HIF.out _ _ _ HI.out e2);have HB5:=am_ e3;have HS5:=am_ e4;clear hb5 e1 e2 e3 e4 BK4 BX4 hx0 hx1 hxf0 hxf1 hy0 hy1 hyf0 hyf1))
    refine(HCB.out L q1 at_ _ hlt HG.out HI5.out HB5.out HS5.out).mono ?_
    rintro e w6 ⟨rfl,hi6,hb6,hk6⟩
    have BK6:=am_ (blk_kept BK5.out hk6 (by have:=GE.out;omega))
    have HI6:=am_ hi6
    have HB6:=am_ hb6
    have HS6:=am_ (Nat.le_trans HS5.out hk6.1)
    clear hi6 hb6 hk6 BK5 HI5 HB5 HS5 hcell hz0 hz1 hat hat' hne hne' hlt hltz
    go_wp2
    go_roundg k1
    case measure=>omega
    refine⟨L ++ [(q1,at_)],q2,q3,?_,HN,⟨?_⟩,BK6,HI6,HB6,HS6⟩
    ·have:=HLT.out;congr 1;unfold wrap64;simp;omega
    have:=HLT.out;simp;omega
   rw[if_neg cG] at H
   exact absurd H T1_
  rw[if_neg hlt] at H
  obtain⟨rfl,rfl,rfl⟩:=sj3_ H
  have hltz:¬ (L.length:Int)<(l1.length:Int):=by omega
  go_wp2_with(go_at_call 67;refine(tape_Tape_Used.calls s u u _ rfl).mono ?_;rintro e w5 ⟨rfl,hb5⟩;have HB5:=am_ (show Below wr.heap.size wr w5 from hb5);clear hb5)
  have low:Below w.heap.size wr w5:=⟨HB5.out.os,HB5.out.tape,HB5.out.output,HB5.out.size,fun i hi=>HB5.out.block i (by have:=HS.out;omega)⟩
  go_ret2
  exact⟨rfl,HIF.out _ _ _ HI.out low,HB.out.trans ⟨low.os,low.tape,low.output,low.size,fun i hi=>low.block i (by have:=H0.out;omega)⟩⟩
def filled (n:Nat) (L:List (Int×Int)):List Int:=L.map (·.1) ++ List.replicate (n-L.length) 0
theorem filled_len (n:Nat) (L:List (Int×Int)) (h:L.length≤n):(filled n L).length=n:=by simp[filled];omega
theorem filled_set (n:Nat) (L:List (Int×Int)) (h:L.length<n) (d a:Int):(filled n L).set L.length d=filled n (L ++ [(d,a)]):=by
 unfold filled
 obtain⟨m,hm⟩:∃ m,n-L.length=m+1:=⟨n-L.length-1,T2_⟩
 have hm2:n-(L ++ [(d,a)]).length=m:=by simp;omega
 rw[hm,hm2,List.set_append_right _ _ T1_,List.replicate_succ]
 simp
def InvA (go n B:Nat) (v:Value) (L:List (Int×Int)) (W:World):Prop :=
 W.heap[go]? = some (.cells #[v] 24 (0,0))∧(jb .i64).R 3 W B (fun k=>k<go) v (filled n L)
set_option maxHeartbeats 1000000 in
theorem all_cb (go n:Nat) (v:Value) (w0 w:World) (L:List (Int×Int)) (d a:Int) (W:World) (hgo:go<w.heap.size) (hL:L.length<n) (hI:InvA go n w0.heap.size v L W) (hB:Below w0.heap.size w0 W) :
  Calls Try.prog 61 (#[.int .i64 (L.length:Int),.int .i64 a,.int .i64 d] ++ #[.pointer (some ⟨go,0,none⟩)]) W fun e W'=>e = .returned (.tuple #[])∧InvA go n w0.heap.size v (L ++ [(d,a)]) W'∧Below w0.heap.size w0 W'∧Kept W W' (fun k=>k<w.heap.size):=by
 obtain⟨hg,hR⟩:=hI
 have hlen:=filled_len n L T2_
 obtain⟨g,cap,hv,hbg,hgW,cells,hcl⟩:=Kd.R_form hR T2_
 rw[hlen] at hv
 subst hv
 have hlt:g<go:=hR.1 g T6_
 obtain⟨c,hcs,_,hcc,hff⟩:=Kd.R_elem hR (0:Int) (L.length:Int) T2_ T2_
 have hcell:∃ u,W.cell? ⟨g,L.length,none⟩=some u:=by
  have h1:c.length=1:=hcs
  obtain⟨u,hu⟩:∃ u,c[0]? = some u:=⟨c[0],List.getElem?_eq_getElem T2_⟩
  have:=hcc 0 u hu
  rw[show(L.length:Int).toNat*(jb .i64).sz+0=L.length from by rw[Int.toNat_natCast];exact Nat.mul_one _] at this
  exact⟨u,this⟩
 obtain⟨u,hu⟩:=hcell
 have hfz:W.frozen? ⟨g,L.length,none⟩=false:=by
  have:=hff 0
  rwa [show(L.length:Int).toNat*(jb .i64).sz+0=L.length from by rw[Int.toNat_natCast];exact Nat.mul_one _] at this
 have hR':=Kd.R_putn hR (L.length:Int) d
 rw[Int.toNat_natCast,filled_set n L hL d a] at hR'
 have hg':(W.setCell ⟨g,L.length,none⟩ (.int .i64 d)).heap[go]? = some (.cells #[.slice (some ⟨g,0,none⟩) n cap] 24 (0,0)):=blk_far hg (by show go≠g;omega) _
 have F:=am_ (show InvA go n w0.heap.size (.slice (some ⟨g,0,none⟩) n cap) (L ++ [(d,a)]) (W.setCell ⟨g,L.length,none⟩ (.int .i64 d))∧Below w0.heap.size w0 (W.setCell ⟨g,L.length,none⟩ (.int .i64 d))∧Kept W (W.setCell ⟨g,L.length,none⟩ (.int .i64 d)) (fun k=>k<w.heap.size) from
  ⟨⟨hg',hR'⟩,jJ hB hbg,Kept.setCell (Kept.refl _ _) (Or.inl (show g<w.heap.size by omega)) _⟩)
 have hz:W.cell? ⟨go,0,none⟩=some (.slice (some ⟨g,0,none⟩) n cap):=(blk_cell hg 0).trans rfl
 clear hR hR' hg' hg hB hcl hcs hcc hff
 have hltz:(L.length:Int)<(n:Int):=by omega
 have hl0:0≤(L.length:Int):=by omega
 show Calls Try.prog 61 #[.int .i64 (L.length:Int),.int .i64 a,.int .i64 d,.pointer (some ⟨go,0,none⟩)] W _
 go_enter Try.func61,Try.ntmps61
 go_wp2
 trace_state
 go_end0
 exact⟨rfl,F.out⟩
theorem invA_far {go n B:Nat} {v:Value} {L:List (Int×Int)} {W W':World} {b:Nat} (hgo:go<b) (hI:InvA go n B v L W) (hb:Below b W W'):InvA go n B v L W' :=
 ⟨(hb.block go hgo).trans hI.1,Kd.R_step hI.2 (fun k hk _=>hb.block k T2_)⟩
theorem invA_start {w w1 w2:World} {gb n:Nat} {v1:Value} (ho:(jb .i64).R 3 w1 w.heap.size (fun _=>True) v1 (List.replicate n 0)) (hg:w1.heap.size≤gb) (hb:Below w1.heap.size w1 w2) (hbox:w2.heap[gb]? = some (.cells #[.slice none 0 0] 24 (0,0))) :
  InvA gb n w.heap.size v1 [] (w2.setCell ⟨gb,0,none⟩ v1):=by
 refine⟨jt (cs:=#[.slice none 0 0]) hbox 0 _ rfl,?_⟩
 have e:filled n []=List.replicate n 0:=by simp[filled]
 rw[e]
 have h1:(jb .i64).R 3 w1 w.heap.size (fun k=>k<gb) v1 (List.replicate n 0):=jc (Kd.R_bound ho) (fun k hk=>by have:=hk.2.2.1;omega)
 exact je (p:=⟨gb,0,none⟩) (jd h1 hb) (fun k hk=>by show k≠gb;omega) _
def draw_All.f (l0:List Int) (l1:List Int):Option (List Int×Int×Int) :=
 if l1.length≤35184372088832 then((eachf (fun _ _ _=>true) (l0.length+l1.length+5) l0 l1).bind fun q=>(if q.2.2=0 then some (filled l1.length q.1,q.2.1,0) else some ([],0,q.2.2))) else none
set_option maxHeartbeats 4000000 in
set_option maxRecDepth 100000 in
theorem draw_All.calls (A0:Option Addr) (c0:Nat) (l0:List Int) (A1:Option Addr) (c1:Nat) (l1:List Int) (r1:List Int) (r2:Int) (r3:Int) (w:World) (hr0:Kd.C (jb .u8) w A0 l0.length l0) (hc0:l0.length≤c0) (hr1:Kd.C (jb .i64) w A1 l1.length l1) (hc1:l1.length≤c1) (h:draw_All.f l0 l1=some (r1,r2,r3)) :
  Calls Try.prog 41 #[.slice A0 l0.length c0,.slice A1 l1.length c1] w fun e w'=>∃ v0_:Value,e = .returned (.tuple #[v0_,.int .i64 r2,.int .i64 r3])∧ju (jb .i64) 3 w' w.heap.size (fun _=>True) v0_ r1∧Below w.heap.size w w':=by
 unfold draw_All.f at h
 by_cases hl:l1.length≤35184372088832
 ·rw[if_pos hl] at h
  replace h:=Option.bind_eq_some_iff.1 h
  obtain⟨⟨Lr,n,er⟩,he,h⟩:=h
  simp only at h
  have E:=am_ he
  have HR0:=am_ hr0
  have HR1:=am_ hr1
  have HC0:=am_ hc0
  have HC1:=am_ hc1
  have HL:=am_ hl
  have H:=am_ h
  have eF:∀ args w,(callFunc 61 args).run Try.prog w = .ok (.enter 61 args) w:=enters_of Try.func61 T4_ rfl
  have hmf:∀ (fn:Fn) (first cap:Array Value) (w:World),(Instr.makeFunc fn first cap).run Try.prog w = .ok (.func fn first cap) w:=fun _ _ _ _=>rfl
  clear he hr0 hr1 hc0 hc1 h hl
  go_enter Try.func41,Try.ntmps41
  go_wp2_with(first
   | (refine gd_ 12 ?_;refine Kd.R_make (jb .i64) _ 3 rfl (N:=12) rfl 24 _ _ rfl (l1.length:Int) rfl rfl Try.underlying24 (.int .i64 0) 8 info3 rfl T3_ T2_ 0 (ok:=fun _=>True) (okp:=fun _=>True) rfl (fun _ hk=>hk) trivial T2_ (by have:=HL.out;omega) (Below.refl _ _) (Nat.le_refl _) ?_;intro v1 w1 ho hb hg_ hnew_;rw[Int.toNat_natCast] at ho;obtain⟨A2,c2,hv1⟩:=jo ho;rw[List.length_replicate] at hv1;subst hv1;have HO:=am_ ho;have HB:=am_ hb;clear ho hb hg_ hnew_)
   | (refine gd_ 7 ?_;refine bx_ 7 #[.slice none 0 0] 24 ?_;intro gb hg w3 hbox hb;have BK:=am_ hbox;have GE:=am_ (show w1.heap.size≤gb by omega);have HB3:=am_ (show Below w1.heap.size w1 w3 from hb);clear hbox hg hb;have hz0:w3.cell? ⟨gb,0,none⟩=some (.slice none 0 0):=bc_ BK.out 0;have hf0:=blk_frozen BK.out 0))
  have BW:Below w.heap.size w (w3.setCell ⟨gb,0,none⟩ (.slice A2 l1.length c2)):=jJ (ji HB.out HB3.out) (Nat.le_trans HB.out.size GE.out)
  have HGW:gb<(w3.setCell ⟨gb,0,none⟩ (.slice A2 l1.length c2)).heap.size:=by have:=blk_lt BK.out;simpa using this
  have ST:=invA_start HO.out GE.out HB3.out BK.out
  have HE:=each_calls (fun _ _ _=>true) 61 #[.pointer (some ⟨gb,0,none⟩)] eF (l0.length+l1.length+5) A0 c0 l0 A1 c1 l1 w (w3.setCell ⟨gb,0,none⟩ (.slice A2 l1.length c2)) (jv HR0.out BW) HC0.out HR1.out HC1.out BW (InvA gb l1.length w.heap.size (.slice A2 l1.length c2)) ST
   (fun L W W' hI hb=>invA_far HGW hI hb) (fun L d at_ W hL _ hI hB hS=>all_cb gb l1.length _ w _ L d at_ W HGW hL hI hB) Lr n er E.out
  generalize (w3.setCell ⟨gb,0,none⟩ (.slice A2 l1.length c2))=w4 at HE BW HGW ST ⊢
  clear hz0 hf0 BK HB HB3 HO GE ST BW eF E
  by_cases c4:er=0
  ·subst c4
   have H':=H.out
   rw[if_pos rfl] at H'
   simp only[Option.some.injEq,Prod.mk.injEq] at H'
   obtain⟨rfl,rfl,rfl⟩:=H'
   clear H
   go_wp2_with(go_at_call 58;refine HE.mono ?_;rintro e w5 ⟨rfl,hI,hb5⟩;have HI5:=am_ hI;have HB5:=am_ hb5;have hz0:w5.cell? ⟨gb,0,none⟩=some (.slice A2 l1.length c2):=(blk_cell hI.1 0).trans rfl;clear HE hI hb5)
   refine bodyPost_ret (results_list (rs:=[.tmp 4,.tmp 5,.tmp 6]) rfl T1_ (.tmp (.tmp (.tmp .nil)))) rfl ?_
   exact⟨_,rfl,jc HI5.out.2 (fun _ _=>trivial),HB5.out⟩
  have H':=H.out
  rw[if_neg c4] at H'
  simp only[Option.some.injEq,Prod.mk.injEq] at H'
  obtain⟨rfl,rfl,rfl⟩:=H'
  clear H
  have c4b1:(er != 0)=true:=bne_iff_ne.mpr c4
  go_wp2_with(go_at_call 58;refine HE.mono ?_;rintro e w5 ⟨rfl,hI,hb5⟩;have HB5:=am_ hb5;clear HE hI hb5)
  refine bodyPost_ret (results_list (rs:=[.tmp 4,.tmp 5,.tmp 6]) rfl T1_ (.tmp (.tmp (.tmp .nil)))) rfl ?_
  exact⟨_,rfl,Kd.R_nil _ _ _ _ _,HB5.out⟩
 rw[if_neg hl] at h
 exact absurd h T1_
def perm_Identity.l0:Nat→List Int→Int→Int→Option (List Int)
 | 0,_,_,_=>none
 | k+1,x3,x6,x7=>if x7<x6 then(if x3.length<17592186044416 then(perm_Identity.l0 k (x3 ++ [x7]) x6 (wrap64 (x7+1))) else(none)) else(some x3)
def perm_Identity.f (k:Nat) (a0:Int):Option (List Int):=perm_Identity.l0 k ([]:List Int) (mx a0 0) 0
theorem perm_Identity.mono_l:∀ k,(∀ y0 y1 y2,LeO (perm_Identity.l0 k y0 y1 y2) (perm_Identity.l0 (k+1) y0 y1 y2))
 | 0=>fun _ _ _ r h=>by simp[perm_Identity.l0] at h
 | k+1=>by
  have ih0:=perm_Identity.mono_l k
  intro y0 y1 y2
  unfold perm_Identity.l0
  with_reducible repeat' first|exact ih0 _ _ _|exact LeO.refl _|exact LeO.none _|refine LeO.ite ?_ ?_|refine LeO.bind ?_ (fun _=>?_)
theorem perm_Identity.mono:∀ a0 k,LeO (perm_Identity.f k a0) (perm_Identity.f (k+1) a0):=by
 intro a0 k
 have ih0:=perm_Identity.mono_l k
 unfold perm_Identity.f
 with_reducible repeat' first|exact ih0 _ _ _|exact LeO.refl _|exact LeO.none _|refine LeO.ite ?_ ?_|refine LeO.bind ?_ (fun _=>?_)
set_option maxHeartbeats 8000000 in
set_option maxRecDepth 100000 in
theorem perm_Identity.calls (k:Nat) (a0:Int) (r:List Int) (w:World) (h:perm_Identity.f k a0=some r) :
  Calls Try.prog 60 #[.int .i64 a0] w fun e w'=>∃ v0_:Value,e = .returned (v0_)∧ju (jb .i64) 3 w' w.heap.size (fun _=>True) v0_ r∧Below w.heap.size w w':=by
 have HB:=am_ (Below.refl w.heap.size w)
 have H:(perm_Identity.l0 k ([]:List Int) (mx a0 0) 0)=some r:=h
 clear h
 obtain⟨ji2,hji2⟩:∃ j_:Int,(mx a0 0)=j_:=⟨_,rfl⟩
 replace H:(perm_Identity.l0 k ([]:List Int) ji2 0)=some r:=by first|(rw[hji2] at H;exact H)|(simp only[hji2] at H ⊢;exact H)
 (try(have hji2l:0≤ji2:=by(rw[←hji2];unfold mx;(repeat' split) <;> omega)))
 (try(have hji2m:0≤ji2:=by omega))
 have hji2_:(if a0<0 then 0 else a0)=ji2:=hji2
 have H':=am_ H
 clear H
 go_enter Try.func60,Try.ntmps60
 go_wp2
 go_loopg [3,7] k (fun kq v3 v7 w'=>∃ (x3_1:List Int) (x7_1:Int),v7 = .int .i64 x7_1∧Aside0 (perm_Identity.l0 kq x3_1 ji2 x7_1=some r)∧Aside0 (kq≤k)∧Aside0 (ju (jb .i64) 3 w' w.heap.size (fun _=>True) v3 x3_1)∧Aside0 (Below w.heap.size w w'))
 case atStart=>exact⟨(([]:List Int)),(0),T9_,H',⟨Nat.le_refl _⟩,⟨T18_⟩,⟨T16_⟩⟩
 clear H'
 try clear p2
 obtain⟨x3_1,x7_1,rfl,HA,HK1,HO_3,HB⟩:=hrel
 cases gk with
 | zero=>exact absurd HA.out (by simp[perm_Identity.l0])
 | succ k1 =>
  have H:=HA.out
  clear HA
  simp only[perm_Identity.l0] at H
  by_cases c3:x7_1<ji2
  rotate_left
  ·rw[if_neg c3] at H
   have c3b0:=decide_eq_false c3
   clear c3
   obtain rfl:=Option.some.inj H
   obtain⟨rfl⟩:=sj1_ H
   go_wp2
   go_ret
   exact⟨_,(by first|rfl|(simp[errW_none,errW_some] <;> rfl)|(simp only[←hji2];first|rfl|(simp[errW_none,errW_some] <;> rfl))|(simp[*,errW_none,errW_some] <;> rfl)),ru_ HO_3.out,T16_⟩
  rw[if_pos c3] at H
  have c3b0:=decide_eq_true c3
  clear c3
  replace H:=ifa_ H;obtain⟨LMc4,H⟩:=H
  obtain⟨y164,hy_⟩:∃ y_:List Int,y_=(x3_1 ++ [x7_1]):=⟨_,rfl⟩
  replace H:(perm_Identity.l0 k1 y164 ji2 (wrap64 (x7_1+1)))=some r:=hyw_
  have Ny164:=am_ hy_
  clear hy_
  have H':=am_ H
  clear H
  go_wp2_with(first|(refine gb_ .append #[.tmp 10,.tmp 12] ?_;at_builtin;refine Kd.R_append (jb .i64) (w0:=w) w.heap.size rfl (.tmp 10) (.tmp 12) 24 3 (.int .i64 0) 8 rfl Try.underlying24 info3 rfl T3_ T2_ u3 x3_1 x7_1 [.int .i64 x7_1] (fun _=>True) (fun _=>False) rfl rfl ?aP (fun _ hk=>hk.elim) ?aF ?aO ?aB ?aS ?aL ?_;(case aP=>exact rfl);(case aB=>exact T16_);(case aF=>exact(fun _ _=>trivial));(case aO=>exact(ru_ HO_3.out));(case aS=>exact(ja T16_));(case aL=>have:=LMc4.out;omega);intro v165 w5 ho hb hg hat;rw[←Ny164.out] at ho;have n_:=P2_ (hb) (ho);clear HB HO_3;obtain⟨HB,HO166⟩:=n_;clear ho hb hg hat))
  go_roundg k1
  case measure=>have:=HK1.out;omega
  case rel=>exact⟨(y164),(wrap64 (x7_1+1)),T9_,H',⟨T7_⟩,⟨ru_ HO166.out⟩,⟨T16_⟩⟩
mutual
def perm_From.l0:Nat→Int→List Int→List Int→Int→Int→Option (List Int×Int)
 | 0,_,_,_,_,_=>none
 | k+1,x0,x1,x20,x21,x22=>if x22<x21 then(if 0≤x22 then(if x22<(x20.length:Int) then(if(rd x20 x22)<0 then(some (([]:List Int),110)) else(if(rd x20 x22) ≥ (wrap64 (x0-x22)) then(some (([]:List Int),110)) else(perm_From.l0 k x0 x1 x20 x21 (wrap64 (x22+1))))) else(none)) else(none)) else((perm_Identity.f k x0).bind fun t168=>(perm_From.l1 k x0 t168 x1 (x1.length:Int) 0))
def perm_From.l1:Nat→Int→List Int→List Int→Int→Int→Option (List Int×Int)
 | 0,_,_,_,_,_=>none
 | k+1,x0,x8,x39,x40,x41=>if x41<x40 then(if 0≤x41 then(if x41<(x39.length:Int) then(if 0≤(rd x39 x41) then(if(rd x39 x41)<(x8.length:Int) then(if 0≤(wrap64 ((wrap64 (x0-1))-x41)) then(if(wrap64 ((wrap64 (x0-1))-x41))<(x8.length:Int) then(perm_From.l1 k x0 ((x8.set ((wrap64 ((wrap64 (x0-1))-x41)):Int).toNat (rd x8 (rd x39 x41))).set ((rd x39 x41):Int).toNat (rd x8 (wrap64 ((wrap64 (x0-1))-x41)))) x39 x40 (wrap64 (x41+1))) else(none)) else(none)) else(none)) else(none)) else(none)) else(none)) else(some (x8,0))
end
def perm_From.f (k:Nat) (a0:Int) (l1:List Int):Option (List Int×Int):=if a0<0 then(some (([]:List Int),2)) else(if(l1.length:Int)=(mx (wrap64 (a0-1)) 0) then(perm_From.l0 k a0 l1 l1 (l1.length:Int) 0) else(some (([]:List Int),110)))
theorem perm_From.mono_l:∀ k,(∀ y0 y1 y2 y3 y4,LeO (perm_From.l0 k y0 y1 y2 y3 y4) (perm_From.l0 (k+1) y0 y1 y2 y3 y4))∧(∀ y0 y1 y2 y3 y4,LeO (perm_From.l1 k y0 y1 y2 y3 y4) (perm_From.l1 (k+1) y0 y1 y2 y3 y4))
 | 0=>⟨fun _ _ _ _ _ r h=>by simp[perm_From.l0] at h,fun _ _ _ _ _ r h=>by simp[perm_From.l1] at h⟩
 | k+1=>by
  obtain⟨ih0,ih1⟩:=perm_From.mono_l k
  refine⟨?_,?_⟩
  ·intro y0 y1 y2 y3 y4
   unfold perm_From.l0
   with_reducible repeat' first|exact ih0 _ _ _ _ _|exact ih1 _ _ _ _ _|exact perm_Identity.mono _ _|exact LeO.refl _|exact LeO.none _|refine LeO.ite ?_ ?_|refine LeO.bind ?_ (fun _=>?_)
  intro y0 y1 y2 y3 y4
  unfold perm_From.l1
  with_reducible repeat' first|exact ih0 _ _ _ _ _|exact ih1 _ _ _ _ _|exact perm_Identity.mono _ _|exact LeO.refl _|exact LeO.none _|refine LeO.ite ?_ ?_|refine LeO.bind ?_ (fun _=>?_)
theorem perm_From.mono:∀ a0 a1 k,LeO (perm_From.f k a0 a1) (perm_From.f (k+1) a0 a1):=by
 intro a0 a1 k
 obtain⟨ih0,ih1⟩:=perm_From.mono_l k
 unfold perm_From.f
 with_reducible repeat' first|exact ih0 _ _ _ _ _|exact ih1 _ _ _ _ _|exact perm_Identity.mono _ _|exact LeO.refl _|exact LeO.none _|refine LeO.ite ?_ ?_|refine LeO.bind ?_ (fun _=>?_)
def perm_From.T16:Bool×List (List Nat×List Nat):=(true,[([],[]),([],[]),([],[]),([],[]),([],[]),([],[]),([4,5],[4,5]),([6],[6]),([],[]),([],[]),([8,9],[8,9]),([10],[10]),([0,1,0,1,4,5,6,7,11],[0,1]),([12,7,0,1,4,5,6,7,11],[7,12]),([2,3,0,1,2,3,4,5,6,7,8,9,10,11,12,13],[2,3]),([14,11,13,0,1,2,3,4,5,6,7,8,9,10,11,12,13],[11,14])])
def perm_From.B16:List Nat:=[0,0,0,0,0,0,48,112,0,0,768,1792,4083,8179,16383,32767]
theorem perm_From.tab16:rtab .any (opsOf Try.f42 16)=perm_From.T16:=by kernel_rfl
theorem perm_From.bits16:waitsOk perm_From.T16.2 perm_From.B16=true:=by kernel_rfl
set_option maxHeartbeats 8000000 in
set_option maxRecDepth 100000 in
theorem perm_From.calls (k:Nat) (a0:Int) (A1:Option Addr) (c1:Nat) (l1:List Int) (r1:List Int) (r2:Int) (w:World) (hr1:Kd.C (jb .i64) w A1 l1.length l1) (hc1:l1.length≤c1) (h:perm_From.f k a0 l1=some (r1,r2)) :
  Calls Try.prog 42 #[.int .i64 a0,.slice A1 l1.length c1] w fun e w'=>∃ v0_:Value,e = .returned (.tuple #[v0_,.int .i64 r2])∧ju (jb .i64) 3 w' w.heap.size (fun _=>True) v0_ r1∧Below w.heap.size w w':=by
 have HR1:=am_ hr1
 have HC1:=am_ hc1
 clear hr1 hc1
 have HB:=am_ (Below.refl w.heap.size w)
 have H:(if a0<0 then(some (([]:List Int),2)) else(if(l1.length:Int)=(mx (wrap64 (a0-1)) 0) then(perm_From.l0 k a0 l1 l1 (l1.length:Int) 0) else(some (([]:List Int),110))))=some (r1,r2):=h
 clear h
 by_cases c3:a0<0
 ·rw[if_pos c3] at H
  have c3b0:=decide_eq_true c3
  clear c3
  obtain⟨rfl,rfl⟩:=sj2_ H
  go_enter Try.func42,Try.ntmps42
  go_wp2
  go_ret2
  exact⟨_,T14_,T18_,T16_⟩
 rw[if_neg c3] at H
 have c3b0:=decide_eq_false c3
 clear c3
 obtain⟨ji4,hji4⟩:∃ j_:Int,(mx (wrap64 (a0-1)) 0)=j_:=⟨_,rfl⟩
 replace H:(if(l1.length:Int)=(ji4) then(perm_From.l0 k a0 l1 l1 (l1.length:Int) 0) else(some (([]:List Int),110)))=some (r1,r2):=by first|(rw[hji4] at H;exact H)|(simp only[hji4] at H ⊢;exact H)
 (try(have hji4l:0≤ji4:=by(rw[←hji4];unfold mx;(repeat' split) <;> omega)))
 (try(have hji4m:0≤ji4:=by omega))
 have hji4_:(if(wrap64 (a0-1))<0 then 0 else(wrap64 (a0-1)))=ji4:=hji4
 by_cases c5:(l1.length:Int)=(ji4)
 rotate_left
 ·rw[if_neg c5] at H
  obtain⟨c5b0,c5b1⟩:=en_ c5
  obtain⟨rfl,rfl⟩:=sj2_ H
  go_enter Try.func42,Try.ntmps42
  go_wp2
  go_ret2
  exact⟨_,T27_,T18_,T16_⟩
 rw[if_pos c5] at H
 obtain⟨c5b0,c5b1⟩:=ep_ c5
 clear c5
 have H':=am_ H
 clear H
 go_enter Try.func42,Try.ntmps42
 go_wp2
 go_loopg [22] k (fun kq v22 w'=>∃ (x22_1:Int),v22 = .int .i64 x22_1∧Aside0 (perm_From.l0 kq a0 l1 l1 (l1.length:Int) x22_1=some (r1,r2))∧Aside0 (kq≤k)∧Aside0 (Below w.heap.size w w'))
 case atStart=>exact⟨(0),T9_,H',⟨Nat.le_refl _⟩,⟨T16_⟩⟩
 clear H'
 (try clear c3);(try clear c3b0);(try clear c5);(try clear c5b0 c5b1)
 obtain⟨x22_1,rfl,HA,HK1,HB⟩:=hrel
 cases gk with
 | zero=>exact absurd HA.out (by simp[perm_From.l0])
 | succ k1 =>
  have H:=HA.out
  clear HA
  simp only[perm_From.l0] at H
  by_cases c6:x22_1<(l1.length:Int)
  ·rw[if_pos c6] at H
   have c6b0:=decide_eq_true c6
   clear c6
   replace H:=ifn_ H;obtain⟨c7,H⟩:=H
   have c7b0:=decide_eq_true c7
   clear c7
   replace H:=ifn_ H;obtain⟨c8,H⟩:=H
   have c8b0:=decide_eq_true c8
   clear c8
   by_cases c9:(rd l1 x22_1)<0
   ·rw[if_pos c9] at H
    have c9b0:=decide_eq_true c9
    clear c9
    obtain⟨rfl,rfl⟩:=sj2_ H
    have p167:0≤(x22_1:Int):=od_
    have q167:x22_1<(l1.length:Int):=od_
    obtain⟨ad167,e167,hx167_0⟩:=jH HR1.out x22_1 p167 q167
    cases e167
    (try(replace hx167_0:=(HB.out.cell (World.block_lt_of_cell? w _ hx167_0)).trans hx167_0))
    replace p167:=eq_true p167
    replace q167:=eq_true q167
    go_wp2
    go_ret2
    exact⟨_,T27_,T18_,T16_⟩
   rw[if_neg c9] at H
   have c9b0:=decide_eq_false c9
   clear c9
   by_cases c10:(rd l1 x22_1) ≥ (wrap64 (a0-x22_1))
   ·rw[if_pos c10] at H
    have c10b0:=decide_eq_true c10
    clear c10
    obtain⟨rfl,rfl⟩:=sj2_ H
    have p167:0≤(x22_1:Int):=od_
    have q167:x22_1<(l1.length:Int):=od_
    obtain⟨ad167,e167,hx167_0⟩:=jH HR1.out x22_1 p167 q167
    cases e167
    (try(replace hx167_0:=(HB.out.cell (World.block_lt_of_cell? w _ hx167_0)).trans hx167_0))
    replace p167:=eq_true p167
    replace q167:=eq_true q167
    go_wp2
    go_ret2
    exact⟨_,T27_,T18_,T16_⟩
   rw[if_neg c10] at H
   have c10b0:=decide_eq_false c10
   clear c10
   have H':=am_ H
   clear H
   have p167:0≤(x22_1:Int):=od_
   have q167:x22_1<(l1.length:Int):=od_
   obtain⟨ad167,e167,hx167_0⟩:=jH HR1.out x22_1 p167 q167
   cases e167
   (try(replace hx167_0:=(HB.out.cell (World.block_lt_of_cell? w _ hx167_0)).trans hx167_0))
   replace p167:=eq_true p167
   replace q167:=eq_true q167
   go_wp2
   go_roundg k1
   case measure=>have:=HK1.out;omega
   case rel=>exact⟨(wrap64 (x22_1+1)),T9_,H',⟨T7_⟩,⟨T16_⟩⟩
  rw[if_neg c6] at H
  have c6b0:=decide_eq_false c6
  clear c6
  replace H:=Option.bind_eq_some_iff.mp H
  obtain⟨t168,A110,H⟩:=H
  try dsimp only at H
  have A11:=am_ A110
  clear A110
  have H':=am_ H
  clear H
  go_wp2_with(first|(refine gc_ 60 ?_;refine gl_ (some 38) Try.func60 #[.int .i64 a0] ?_;(with_reducible refine(perm_Identity.calls k1 a0 t168 _ A11.out).mono ?_);rintro e w12 ⟨v169,rfl,ho0,hb⟩;refine⟨_,rfl,?_⟩;have n_:=P2_ (jm ho0 (ja T16_)) (ji T16_ hb);clear HB;obtain⟨HO170,HB⟩:=n_;clear hb ho0))
  go_loopg [41] k1 (fun kq v41 w'=>∃ (x8_2:List Int) (x41_2:Int),v41 = .int .i64 x41_2∧Aside0 (perm_From.l1 kq a0 x8_2 l1 (l1.length:Int) x41_2=some (r1,r2))∧Aside0 (kq≤k1)∧Aside0 (ju (jb .i64) 3 w' w.heap.size (fun _=>True) v169 x8_2)∧Aside0 (Below w.heap.size w w'))
  case atStart=>exact⟨(t168),(0),T9_,H',⟨Nat.le_refl _⟩,⟨ru_ HO170.out⟩,⟨T16_⟩⟩
  clear H'
  (try clear c3);(try clear c3b0);(try clear c5);(try clear c5b0 c5b1);(try clear c6);(try clear c6b0)
  obtain⟨x8_2,x41_2,rfl,HA,HK2,HO_8,HB⟩:=hrel
  cases gk with
  | zero=>exact absurd HA.out (by simp[perm_From.l1])
  | succ k2 =>
   have H:=HA.out
   clear HA
   simp only[perm_From.l1] at H
   by_cases c13:x41_2<(l1.length:Int)
   rotate_left
   ·rw[if_neg c13] at H
    have c13b0:=decide_eq_false c13
    clear c13
    obtain⟨rfl,rfl⟩:=sj2_ H
    go_wp2
    go_ret2
    exact⟨_,T27_,ru_ HO_8.out,T16_⟩
   rw[if_pos c13] at H
   have c13b0:=decide_eq_true c13
   clear c13
   replace H:=ifn_ H;obtain⟨c14,H⟩:=H
   have c14b0:=decide_eq_true c14
   clear c14
   replace H:=ifn_ H;obtain⟨c15,H⟩:=H
   have c15b0:=decide_eq_true c15
   clear c15
   replace H:=ifn_ H;obtain⟨c16,H⟩:=H
   have c16b0:=decide_eq_true c16
   clear c16
   replace H:=ifn_ H;obtain⟨c17,H⟩:=H
   have c17b0:=decide_eq_true c17
   clear c17
   obtain⟨ji18,hji18⟩:∃ j_:Int,(wrap64 ((wrap64 (a0-1))-x41_2))=j_:=⟨_,rfl⟩
   replace H:(if 0≤(ji18) then(if(ji18)<(x8_2.length:Int) then(perm_From.l1 k2 a0 ((x8_2.set ((ji18):Int).toNat (rd x8_2 (rd l1 x41_2))).set ((rd l1 x41_2):Int).toNat (rd x8_2 (ji18))) l1 (l1.length:Int) (wrap64 (x41_2+1))) else(none)) else(none))=some (r1,r2):=by first|(rw[hji18] at H;exact H)|(simp only[hji18] at H ⊢;exact H)
   have hji18w:(IntKind.i64.wrap ((wrap64 (a0-1))-x41_2))=ji18:=(jD _).trans hji18
   replace H:=ifn_ H;obtain⟨c19,H⟩:=H
   have c19b0:=decide_eq_true c19
   clear c19
   replace H:=ifn_ H;obtain⟨c20,H⟩:=H
   have c20b0:=decide_eq_true c20
   clear c20
   obtain⟨y174,hy_⟩:∃ y_:List Int,y_=(x8_2.set ((ji18):Int).toNat (rd x8_2 (rd l1 x41_2))):=⟨_,rfl⟩
   replace H:(perm_From.l1 k2 a0 (y174.set ((rd l1 x41_2):Int).toNat (rd x8_2 (ji18))) l1 (l1.length:Int) (wrap64 (x41_2+1)))=some (r1,r2):=hyw_
   have Ny174:=am_ hy_
   clear hy_
   obtain⟨y175,hy_⟩:∃ y_:List Int,y_=(y174.set ((rd l1 x41_2):Int).toNat (rd x8_2 (ji18))):=⟨_,rfl⟩
   replace H:(perm_From.l1 k2 a0 y175 l1 (l1.length:Int) (wrap64 (x41_2+1)))=some (r1,r2):=hyw_
   have Ny175:=am_ hy_
   clear hy_
   have H':=am_ H
   clear H
   have p171:0≤(x41_2:Int):=od_
   have q171:x41_2<(l1.length:Int):=od_
   obtain⟨ad171,e171,hx171_0⟩:=jH HR1.out x41_2 p171 q171
   cases e171
   (try(replace hx171_0:=(HB.out.cell (World.block_lt_of_cell? w _ hx171_0)).trans hx171_0))
   replace p171:=eq_true p171
   replace q171:=eq_true q171
   try go_wp2
   have n_:=P2_ (jq HO_8.out) (jG HB.out)
   clear HO_8 HB
   obtain⟨HO_8,HB⟩:=n_
   obtain⟨Ao24,co24,eo24⟩:=jo HO_8.out
   (first|subst eo24|(injection eo24 with f1_ f2_ f3_;have f4_:=f1_.symm;have f5_:=f3_.symm;clear f1_ f2_ f3_;subst f4_;subst f5_))
   obtain⟨ad172,e172,hx172_0,p172,q172⟩:=ai_ (jh HO_8.out).2.2 (rd l1 x41_2)
   cases e172
   have p173:0≤((ji18):Int):=od_
   have q173:(ji18)<(x8_2.length:Int):=od_
   obtain⟨ad173,e173,hx173_0⟩:=jH (jh HO_8.out).2.2 (ji18) p173 q173
   obtain rfl:ad172=ad173:=(by injection e173)
   replace p173:=eq_true p173
   replace q173:=eq_true q173
   have p21:0≤((ji18):Int):=od_
   have q21:((ji18):Int)<((x8_2.length:Int):Int):=od_
   obtain⟨go21,co21,eo21,gb21,gl21,cl21,HG21⟩:=Kd.R_form HO_8.out T2_
   (first|cases eo21|(injection eo21 with ea_ en_ ec_;(first|subst ea_|(injection ea_ with ea_;subst ea_));subst ec_;clear en_))
   have GB21:=am_ gb21
   have GG21:=am_ HG21
   clear gb21 gl21 HG21
   (first|simp only[add_plain] at hx172_0|skip)
   (first|simp only[add_plain] at hx173_0|skip)
   obtain⟨hx21_0,hf21_0⟩:=Kd.R_celln 0 HO_8.out ((ji18):Int) p21 q21
   replace p21:=eq_true p21
   replace q21:=eq_true q21
   have HP25:=Kd.R_putn HO_8.out ((ji18):Int) (rd x8_2 (rd l1 x41_2))
   rw[←Ny174.out] at HP25
   have HQ25:=am_ HP25
   clear HP25
   have p22:0≤((rd l1 x41_2):Int):=od_
   have q22:((rd l1 x41_2):Int)<((x8_2.length:Int):Int):=od_
   obtain⟨hx22_0,hf22_0⟩:=Kd.R_celln 0 HQ25.out ((rd l1 x41_2):Int) p22 q22
   replace p22:=eq_true p22
   replace q22:=eq_true q22
   have HP26:=Kd.R_putn HQ25.out ((rd l1 x41_2):Int) (rd x8_2 (ji18))
   rw[←Ny175.out] at HP26
   have HQ26:=am_ HP26
   clear HP26
   refine start_ (n:=16) (S:=fun w'=>w'.cell? ⟨go21,((rd l1 x41_2)).toNat,none⟩=some (.int .i64 (rd x8_2 (rd l1 x41_2)))∧w'.cell? ⟨go21,((ji18)).toNat,none⟩=some (.int .i64 (rd x8_2 (ji18)))) (ds:=[13,15]) #[false,false,false,false,false,false,false,false,false,false,false,false,false,false,false,false] T4_ rfl rfl ⟨hx172_0,hx173_0⟩ (fun hHeld=>?_);refine with_tabW perm_From.tab16 perm_From.bits16 (fun HT_ HW_=>?_)
   generalize wr.drew=w23 at HO_8 HB GG21 HQ25 HQ26 hf21_0 hf22_0 hx172_0 hx173_0 hx21_0 hx22_0 hHeld ⊢
   refine pz_ 0 (some 50) ?_
   refine pz_ 1 (some 51) ?_
   refine pz_ 2 (some 52) ?_
   refine pz_ 3 (some 53) ?_
   refine pz_ 4 (some 54) ?_
   refine pz_ 5 (some 55) ?_
   refine pz_ 6 (some 56) ?_
   refine pz_ 8 (some 58) ?_
   refine pz_ 9 (some 59) ?_
   refine pz_ 10 (some 60) ?_
   refine tz2_ 7 (some 57) hHeld ?_
   refine tz2_ 11 (some 61) hHeld ?_
   refine pz_ 12 (some 62) ?_
   refine last_ (i:=13) (N:=none) #[true,true,true,true,true,true,true,true,true,true,true,true,true,true,false,false] rfl rfl (one_of HT_.out T4_) T3_ (fun K hK=>?_)
   refine skip_ (w1:=?_) T0_ rfl ?_ ?_
   rotate_left
   ·go_simp
    rfl
   refine hK.out _ _ ?_
   clear hK K
   refine pz_ 14 (some 63) ?_
   refine last_ (i:=15) (N:=none) #[true,true,true,true,true,true,true,true,true,true,true,true,true,true,true,true] rfl rfl (one_of HT_.out T4_) T3_ (fun K hK=>?_)
   refine skip_ (w1:=?_) T0_ rfl ?_ ?_
   rotate_left
   ·go_simp
    rfl
   refine hK.out _ _ ?_
   clear hK K
   refine done_ (done_of HT_.out T4_) ?_
   try go_wp2
   go_roundg k2
   case measure=>have:=HK1.out;have:=HK2.out;omega
   case rel=>exact⟨(y175),(wrap64 (x41_2+1)),T9_,H',⟨(by have:=HK1.out;have:=HK2.out;omega)⟩,⟨(by(with_reducible repeat(first|apply Kd.R_alloc|apply Kd.R_drewN|apply jq));exact HQ26.out)⟩,⟨(by repeat(first|(with_reducible first|exact HB.out|apply below_alloc|apply pw_below_drewN|apply jG|refine jJ ?_ GB21.out|refine jJ ?_ GB21.out)|exact HB.out))⟩⟩
mutual
def braid_total.j0:Nat→List Int→Bool→Option (Int×Bool)
 | 0,_,_=>none
 | k+1,x0,x14=>if x14=true then(some (0,false)) else(braid_total.l0 k 0 x0 (x0.length:Int) 0)
def braid_total.l0:Nat→Int→List Int→Int→Int→Option (Int×Bool)
 | 0,_,_,_,_=>none
 | k+1,x4,x15,x16,x17=>if x17<x16 then(if 0≤x17 then(if x17<(x15.length:Int) then(if(rd x15 x17)<0 then(some (0,false)) else(if(rd x15 x17) > 256 then(some (0,false)) else(braid_total.l0 k (wrap64 (x4+(rd x15 x17))) x15 x16 (wrap64 (x17+1))))) else(none)) else(none)) else(some (x4,decide (x4≤256)))
end
def braid_total.f (k:Nat) (l0:List Int):Option (Int×Bool):=if(l0.length:Int)<1 then(braid_total.j0 k l0 true) else(braid_total.j0 k l0 (decide ((l0.length:Int) > 64)))
theorem braid_total.mono_l:∀ k,(∀ y0 y1,LeO (braid_total.j0 k y0 y1) (braid_total.j0 (k+1) y0 y1))∧(∀ y0 y1 y2 y3,LeO (braid_total.l0 k y0 y1 y2 y3) (braid_total.l0 (k+1) y0 y1 y2 y3))
 | 0=>⟨fun _ _ r h=>by simp[braid_total.j0] at h,fun _ _ _ _ r h=>by simp[braid_total.l0] at h⟩
 | k+1=>by
  obtain⟨ih0,ih1⟩:=braid_total.mono_l k
  refine⟨?_,?_⟩
  ·intro y0 y1
   unfold braid_total.j0
   with_reducible repeat' first|exact ih0 _ _|exact ih1 _ _ _ _|exact LeO.refl _|exact LeO.none _|refine LeO.ite ?_ ?_|refine LeO.bind ?_ (fun _=>?_)
  intro y0 y1 y2 y3
  unfold braid_total.l0
  with_reducible repeat' first|exact ih0 _ _|exact ih1 _ _ _ _|exact LeO.refl _|exact LeO.none _|refine LeO.ite ?_ ?_|refine LeO.bind ?_ (fun _=>?_)
theorem braid_total.mono:∀ a0 k,LeO (braid_total.f k a0) (braid_total.f (k+1) a0):=by
 intro a0 k
 obtain⟨ih0,ih1⟩:=braid_total.mono_l k
 unfold braid_total.f
 with_reducible repeat' first|exact ih0 _ _|exact ih1 _ _ _ _|exact LeO.refl _|exact LeO.none _|refine LeO.ite ?_ ?_|refine LeO.bind ?_ (fun _=>?_)
set_option maxHeartbeats 8000000 in
set_option maxRecDepth 100000 in
theorem braid_total.calls (k:Nat) (A0:Option Addr) (c0:Nat) (l0:List Int) (r1:Int) (r2:Bool) (w:World) (hr0:Kd.C (jb .i64) w A0 l0.length l0) (hc0:l0.length≤c0) (h:braid_total.f k l0=some (r1,r2)) :
  Calls Try.prog 55 #[.slice A0 l0.length c0] w fun e w'=>e = .returned (.tuple #[.int .i64 r1,.bool r2])∧Drawn0 w w':=by
 have HR0:=am_ hr0
 have HC0:=am_ hc0
 clear hr0 hc0
 have H:(if(l0.length:Int)<1 then(braid_total.j0 k l0 true) else(braid_total.j0 k l0 (decide ((l0.length:Int) > 64))))=some (r1,r2):=h
 clear h
 have HC2:=am_ H
 clear H
 go_enter Try.func55,Try.ntmps55
 go_upto_region 1 with(fail)
 go_cut [14] (fun v14 wc=>∃ (kq:Nat) (x14_1:Bool),v14 = .bool x14_1∧Aside0 (braid_total.j0 kq l0 x14_1=some (r1,r2))∧Aside0 (kq≤k)∧Drawn0 w wc)
 case first =>
  have H:=HC2.out
  clear HC2
  by_cases c3:(l0.length:Int)<1
  ·rw[if_pos c3] at H
   have c3b0:=decide_eq_true c3
   have c3b1:decide (l0.length<1)=true:=decide_eq_true T2_
   clear c3
   (first|rw[c3b0]|(simp only[jD,jE];rw[c3b0])|skip)
   have H':=am_ H
   clear H
   go_wp2
   go_meet
   case rel=>exact⟨_,(true),T9_,H',⟨T8_⟩,T10_⟩
  rw[if_neg c3] at H
  have c3b0:=decide_eq_false c3
  have c3b1:decide (l0.length<1)=false:=decide_eq_false T2_
  clear c3
  (first|rw[c3b0]|(simp only[jD,jE];rw[c3b0])|skip)
  have H':=am_ H
  clear H
  go_wp2
  go_meet
  case rel=>exact⟨_,(decide ((l0.length:Int) > 64)),T9_,H',⟨T8_⟩,T10_⟩
 clear HC2
 obtain⟨kq,x14_1,rfl,HA,HJ1,⟨mc1,rfl⟩⟩:=hcut
 cases kq with
 | zero=>exact absurd HA.out (by simp[braid_total.j0])
 | succ kj1 =>
  have H:=HA.out
  clear HA
  simp only[braid_total.j0] at H
  by_cases c4:x14_1=true
  ·subst c4
   have H1:(some (0,false))=some (r1,r2):=by rw[if_pos rfl] at H;exact H
   clear H
   have H:=H1
   clear H1
   obtain⟨rfl,rfl⟩:=sj2_ H
   go_wp2
   go_ret2
   exact⟨T9_,T10_⟩
  replace c4:=Bool.eq_false_iff.mpr c4
  subst c4
  have H1:(braid_total.l0 kj1 0 l0 (l0.length:Int) 0)=some (r1,r2):=by rw[if_neg (show ¬ (false=true) by decide)] at H;exact H
  clear H
  have H:=H1
  clear H1
  have H':=am_ H
  clear H
  go_wp2
  go_loopg [4,17] kj1 (fun kq v4 v17 w'=>∃ (x4_2:Int) (x17_2:Int),v4 = .int .i64 x4_2∧v17 = .int .i64 x17_2∧Aside0 (braid_total.l0 kq x4_2 l0 (l0.length:Int) x17_2=some (r1,r2))∧Aside0 (kq≤kj1)∧Drawn0 w w')
  case atStart=>exact⟨(0),(0),T9_,T9_,H',⟨Nat.le_refl _⟩,T10_⟩
  clear H'
  (try clear c4)
  obtain⟨x4_2,x17_2,rfl,rfl,HA,HK2,⟨m2,rfl⟩⟩:=hrel
  cases gk with
  | zero=>exact absurd HA.out (by simp[braid_total.l0])
  | succ k2 =>
   have H:=HA.out
   clear HA
   simp only[braid_total.l0] at H
   by_cases c5:x17_2<(l0.length:Int)
   rotate_left
   ·rw[if_neg c5] at H
    have c5b0:=decide_eq_false c5
    clear c5
    obtain⟨rfl,rfl⟩:=sj2_ H
    go_wp2
    go_ret2
    exact⟨T9_,T10_⟩
   rw[if_pos c5] at H
   have c5b0:=decide_eq_true c5
   clear c5
   replace H:=ifn_ H;obtain⟨c6,H⟩:=H
   have c6b0:=decide_eq_true c6
   clear c6
   replace H:=ifn_ H;obtain⟨c7,H⟩:=H
   have c7b0:=decide_eq_true c7
   clear c7
   by_cases c8:(rd l0 x17_2)<0
   ·rw[if_pos c8] at H
    have c8b0:=decide_eq_true c8
    clear c8
    obtain⟨rfl,rfl⟩:=sj2_ H
    obtain⟨ad176,e176,hx176_0,p176,q176⟩:=ai_ HR0.out x17_2
    cases e176
    go_wp2
    go_ret2
    exact⟨T9_,T10_⟩
   rw[if_neg c8] at H
   have c8b0:=decide_eq_false c8
   clear c8
   by_cases c9:(rd l0 x17_2) > 256
   ·rw[if_pos c9] at H
    have c9b0:=decide_eq_true c9
    clear c9
    obtain⟨rfl,rfl⟩:=sj2_ H
    obtain⟨ad176,e176,hx176_0,p176,q176⟩:=ai_ HR0.out x17_2
    cases e176
    go_wp2
    go_ret2
    exact⟨T9_,T10_⟩
   rw[if_neg c9] at H
   have c9b0:=decide_eq_false c9
   clear c9
   have H':=am_ H
   clear H
   obtain⟨ad176,e176,hx176_0,p176,q176⟩:=ai_ HR0.out x17_2
   cases e176
   go_wp2
   go_roundg k2
   case measure=>have:=HJ1.out;have:=HK2.out;omega
   case rel=>exact⟨(wrap64 (x4_2+(rd l0 x17_2))),(wrap64 (x17_2+1)),T9_,T9_,H',⟨(by have:=HJ1.out;have:=HK2.out;omega)⟩,T10_⟩
mutual
def braid_Pattern.j0:Nat→List Int→List Int→List Int→List Int→Int→Bool→Option (List Int×List Int×Int)
 | 0,_,_,_,_,_,_=>none
 | k+1,x0,x1,x4,x5,x7,x28=>if x28=true then(some (([]:List Int),([]:List Int),2)) else((some (([]:List Int):List Int)).bind fun y179=>(if y179.length+x0.length<17592186044416 then(if 0≤(x0.length:Int) then(if((x0.length:Int):Int).toNat≤11728124029610 then(braid_Pattern.l0 k x4 x5 x7 (y179 ++ x0) (List.replicate ((x0.length:Int):Int).toNat []) x1 (x1.length:Int) 0) else(none)) else(none)) else(none)))
def braid_Pattern.l0:Nat→List Int→List Int→Int→List Int→List (List Int)→List Int→Int→Int→Option (List Int×List Int×Int)
 | 0,_,_,_,_,_,_,_,_=>none
 | k+1,x4,x5,x7,x9,x10,x35,x36,x37=>if x37<x36 then(if 0≤x37 then(if x37<(x35.length:Int) then(if(rd x35 x37)<0 then(braid_Pattern.j2 k x4 x5 x7 x9 x10 (rd x35 x37) x35 x36 x37 true) else(braid_Pattern.j2 k x4 x5 x7 x9 x10 (rd x35 x37) x35 x36 x37 (decide ((rd x35 x37) ≥ (wrap64 (x7-x37)))))) else(none)) else(none)) else(braid_Pattern.l2 k x4 x5 x10 (x10.length:Int) 0)
def braid_Pattern.j2:Nat→List Int→List Int→Int→List Int→List (List Int)→Int→List Int→Int→Int→Bool→Option (List Int×List Int×Int)
 | 0,_,_,_,_,_,_,_,_,_,_=>none
 | k+1,x4,x5,x7,x9,x10,x12,x35,x36,x37,x50=>if x50=true then(some (([]:List Int),([]:List Int),2)) else(braid_Pattern.l1 k x4 x5 x7 x9 x10 x12 0 x35 x36 x37)
def braid_Pattern.l1:Nat→List Int→List Int→Int→List Int→List (List Int)→Int→Int→List Int→Int→Int→Option (List Int×List Int×Int)
 | 0,_,_,_,_,_,_,_,_,_,_=>none
 | k+1,x4,x5,x7,x9,x10,x12,x13,x35,x36,x37=>if 0≤x13 then(if x13<(x9.length:Int) then(if x12 ≥ (rd x9 x13) then(braid_Pattern.l1 k x4 x5 x7 x9 x10 (wrap64 (x12-(rd x9 x13))) (wrap64 (x13+1)) x35 x36 x37) else(if x4.length<17592186044416 then(if x13<(x10.length:Int) then(if(rd_L3 x10 x13).length<17592186044416 then(braid_Pattern.l0 k (x4 ++ [x13]) x5 x7 (x9.set (x13:Int).toNat (wrap64 ((rd x9 x13)-1))) (x10.set (x13:Int).toNat ((rd_L3 x10 x13) ++ [x12])) x35 x36 (wrap64 (x37+1))) else(none)) else(none)) else(none))) else(none)) else(none)
def braid_Pattern.l2:Nat→List Int→List Int→List (List Int)→Int→Int→Option (List Int×List Int×Int)
 | 0,_,_,_,_,_=>none
 | k+1,x4,x5,x86,x87,x88=>if x88<x87 then(if 0≤x88 then(if x88<(x86.length:Int) then(if x5.length+(rd_L3 x86 x88).length<17592186044416 then(braid_Pattern.l2 k x4 (x5 ++ (rd_L3 x86 x88)) x86 x87 (wrap64 (x88+1))) else(none)) else(none)) else(none)) else(some (x4,x5,0))
end
def braid_Pattern.f (k:Nat) (l0:List Int) (l1:List Int):Option (List Int×List Int×Int):=(braid_total.f k l0).bind fun bt177=>(if bt177.2=true then(braid_Pattern.j0 k l0 l1 ([]:List Int) ([]:List Int) bt177.1 ((l1.length:Int) != bt177.1)) else(braid_Pattern.j0 k l0 l1 ([]:List Int) ([]:List Int) bt177.1 true))
theorem braid_Pattern.mono_l:∀ k,(∀ y0 y1 y2 y3 y4 y5,LeO (braid_Pattern.j0 k y0 y1 y2 y3 y4 y5) (braid_Pattern.j0 (k+1) y0 y1 y2 y3 y4 y5))∧(∀ y0 y1 y2 y3 y4 y5 y6 y7,LeO (braid_Pattern.l0 k y0 y1 y2 y3 y4 y5 y6 y7) (braid_Pattern.l0 (k+1) y0 y1 y2 y3 y4 y5 y6 y7))∧(∀ y0 y1 y2 y3 y4 y5 y6 y7 y8 y9,LeO (braid_Pattern.j2 k y0 y1 y2 y3 y4 y5 y6 y7 y8 y9) (braid_Pattern.j2 (k+1) y0 y1 y2 y3 y4 y5 y6 y7 y8 y9))∧(∀ y0 y1 y2 y3 y4 y5 y6 y7 y8 y9,LeO (braid_Pattern.l1 k y0 y1 y2 y3 y4 y5 y6 y7 y8 y9) (braid_Pattern.l1 (k+1) y0 y1 y2 y3 y4 y5 y6 y7 y8 y9))∧(∀ y0 y1 y2 y3 y4,LeO (braid_Pattern.l2 k y0 y1 y2 y3 y4) (braid_Pattern.l2 (k+1) y0 y1 y2 y3 y4))
 | 0=>⟨fun _ _ _ _ _ _ r h=>by simp[braid_Pattern.j0] at h,fun _ _ _ _ _ _ _ _ r h=>by simp[braid_Pattern.l0] at h,fun _ _ _ _ _ _ _ _ _ _ r h=>by simp[braid_Pattern.j2] at h,fun _ _ _ _ _ _ _ _ _ _ r h=>by simp[braid_Pattern.l1] at h,fun _ _ _ _ _ r h=>by simp[braid_Pattern.l2] at h⟩
 | k+1=>by
  obtain⟨ih0,ih1,ih2,ih3,ih4⟩:=braid_Pattern.mono_l k
  refine⟨?_,?_,?_,?_,?_⟩
  ·intro y0 y1 y2 y3 y4 y5
   unfold braid_Pattern.j0
   with_reducible repeat' first|exact ih0 _ _ _ _ _ _|exact ih1 _ _ _ _ _ _ _ _|exact ih2 _ _ _ _ _ _ _ _ _ _|exact ih3 _ _ _ _ _ _ _ _ _ _|exact ih4 _ _ _ _ _|exact braid_total.mono _ _|exact LeO.refl _|exact LeO.none _|refine LeO.ite ?_ ?_|refine LeO.bind ?_ (fun _=>?_)
  ·intro y0 y1 y2 y3 y4 y5 y6 y7
   unfold braid_Pattern.l0
   with_reducible repeat' first|exact ih0 _ _ _ _ _ _|exact ih1 _ _ _ _ _ _ _ _|exact ih2 _ _ _ _ _ _ _ _ _ _|exact ih3 _ _ _ _ _ _ _ _ _ _|exact ih4 _ _ _ _ _|exact braid_total.mono _ _|exact LeO.refl _|exact LeO.none _|refine LeO.ite ?_ ?_|refine LeO.bind ?_ (fun _=>?_)
  ·intro y0 y1 y2 y3 y4 y5 y6 y7 y8 y9
   unfold braid_Pattern.j2
   with_reducible repeat' first|exact ih0 _ _ _ _ _ _|exact ih1 _ _ _ _ _ _ _ _|exact ih2 _ _ _ _ _ _ _ _ _ _|exact ih3 _ _ _ _ _ _ _ _ _ _|exact ih4 _ _ _ _ _|exact braid_total.mono _ _|exact LeO.refl _|exact LeO.none _|refine LeO.ite ?_ ?_|refine LeO.bind ?_ (fun _=>?_)
  ·intro y0 y1 y2 y3 y4 y5 y6 y7 y8 y9
   unfold braid_Pattern.l1
   with_reducible repeat' first|exact ih0 _ _ _ _ _ _|exact ih1 _ _ _ _ _ _ _ _|exact ih2 _ _ _ _ _ _ _ _ _ _|exact ih3 _ _ _ _ _ _ _ _ _ _|exact ih4 _ _ _ _ _|exact braid_total.mono _ _|exact LeO.refl _|exact LeO.none _|refine LeO.ite ?_ ?_|refine LeO.bind ?_ (fun _=>?_)
  intro y0 y1 y2 y3 y4
  unfold braid_Pattern.l2
  with_reducible repeat' first|exact ih0 _ _ _ _ _ _|exact ih1 _ _ _ _ _ _ _ _|exact ih2 _ _ _ _ _ _ _ _ _ _|exact ih3 _ _ _ _ _ _ _ _ _ _|exact ih4 _ _ _ _ _|exact braid_total.mono _ _|exact LeO.refl _|exact LeO.none _|refine LeO.ite ?_ ?_|refine LeO.bind ?_ (fun _=>?_)
theorem braid_Pattern.mono:∀ a0 a1 k,LeO (braid_Pattern.f k a0 a1) (braid_Pattern.f (k+1) a0 a1):=by
 intro a0 a1 k
 obtain⟨ih0,ih1,ih2,ih3,ih4⟩:=braid_Pattern.mono_l k
 unfold braid_Pattern.f
 with_reducible repeat' first|exact ih0 _ _ _ _ _ _|exact ih1 _ _ _ _ _ _ _ _|exact ih2 _ _ _ _ _ _ _ _ _ _|exact ih3 _ _ _ _ _ _ _ _ _ _|exact ih4 _ _ _ _ _|exact braid_total.mono _ _|exact LeO.refl _|exact LeO.none _|refine LeO.ite ?_ ?_|refine LeO.bind ?_ (fun _=>?_)
set_option maxHeartbeats 8000000 in
set_option maxRecDepth 100000 in
theorem braid_Pattern.calls (k:Nat) (A0:Option Addr) (c0:Nat) (l0:List Int) (A1:Option Addr) (c1:Nat) (l1:List Int) (r1:List Int) (r2:List Int) (r3:Int) (w:World) (hr0:Kd.C (jb .i64) w A0 l0.length l0) (hc0:l0.length≤c0) (hr1:Kd.C (jb .i64) w A1 l1.length l1) (hc1:l1.length≤c1) (h:braid_Pattern.f k l0 l1=some (r1,r2,r3)) :
  Calls Try.prog 43 #[.slice A0 l0.length c0,.slice A1 l1.length c1] w fun e w'=>∃ v0_ v1_:Value,e = .returned (.tuple #[v0_,v1_,.int .i64 r3])∧ju (jb .i64) 3 w' w.heap.size (fun k_=>ne_ k_ v1_) v0_ r1∧ju (jb .i64) 3 w' w.heap.size (fun k_=>ne_ k_ v0_) v1_ r2∧Below w.heap.size w w':=by
 have HR0:=am_ hr0
 have HC0:=am_ hc0
 clear hr0 hc0
 have HR1:=am_ hr1
 have HC1:=am_ hc1
 clear hr1 hc1
 have HB:=am_ (Below.refl w.heap.size w)
 have H:((braid_total.f k l0).bind fun bt177=>(if bt177.2=true then(braid_Pattern.j0 k l0 l1 ([]:List Int) ([]:List Int) bt177.1 ((l1.length:Int) != bt177.1)) else(braid_Pattern.j0 k l0 l1 ([]:List Int) ([]:List Int) bt177.1 true)))=some (r1,r2,r3):=h
 clear h
 replace H:=Option.bind_eq_some_iff.mp H
 obtain⟨⟨t177,t178⟩,A30,H⟩:=H
 try dsimp only at H
 have A3:=am_ A30
 clear A30
 have HC4:=am_ H
 clear H
 go_enter Try.func43,Try.ntmps43
 go_upto_region 2 with(first|(refine gc_ 55 ?_;refine gl_ (some 18) Try.func55 #[.slice A0 l0.length c0] ?_;(with_reducible refine(braid_total.calls k _ _ l0 t177 t178 _ ?side1 ?side2 A3.out).mono ?_);(case side1=>exact cu_ HR0.out);(case side2=>exact HC0.out);rintro e w' ⟨rfl,⟨nd,rfl⟩⟩;refine⟨_,rfl,?_⟩))
 (try simp only[Act.put,List.setIfInBounds_toArray,List.set_cons_zero,List.set_cons_succ])
 go_cut [28] (fun v28 wc=>∃ (kq:Nat) (x28_3:Bool),v28 = .bool x28_3∧Aside0 (braid_Pattern.j0 kq l0 l1 ([]:List Int) ([]:List Int) t177 x28_3=some (r1,r2,r3))∧Aside0 (kq≤k)∧Aside0 (ju (jb .i64) 3 wc w.heap.size (fun k_=>ne_ k_ (.slice none 0 0)) (.slice none 0 0) ([]:List Int))∧Aside0 (ju (jb .i64) 3 wc w.heap.size (fun k_=>ne_ k_ (.slice none 0 0)) (.slice none 0 0) ([]:List Int))∧Aside0 (Below w.heap.size w wc))
 case first =>
  have H:=HC4.out
  clear HC4
  by_cases c5:t178=true
  ·subst c5
   have H1:(braid_Pattern.j0 k l0 l1 ([]:List Int) ([]:List Int) t177 ((l1.length:Int) != t177))=some (r1,r2,r3):=by rw[if_pos rfl] at H;exact H
   clear H
   have H:=H1
   clear H1
   have H':=am_ H
   clear H
   go_wp2
   go_meet
   case rel=>exact⟨_,(((l1.length:Int) != t177)),T9_,H',⟨T8_⟩,⟨T18_⟩,⟨T18_⟩,⟨T16_⟩⟩
  replace c5:=Bool.eq_false_iff.mpr c5
  subst c5
  have H1:(braid_Pattern.j0 k l0 l1 ([]:List Int) ([]:List Int) t177 true)=some (r1,r2,r3):=by rw[if_neg (show ¬ (false=true) by decide)] at H;exact H
  clear H
  have H:=H1
  clear H1
  have H':=am_ H
  clear H
  go_wp2
  go_meet
  case rel=>exact⟨_,(true),T9_,H',⟨T8_⟩,⟨T18_⟩,⟨T18_⟩,⟨T16_⟩⟩
 clear HC4
 obtain⟨kq,x28_3,rfl,HA,HJ3,HO_4,HO_5,HB⟩:=hcut
 cases kq with
 | zero=>exact absurd HA.out (by simp[braid_Pattern.j0])
 | succ kj3 =>
  have H:=HA.out
  clear HA
  simp only[braid_Pattern.j0] at H
  by_cases c6:x28_3=true
  ·subst c6
   have H1:(some (([]:List Int),([]:List Int),2))=some (r1,r2,r3):=by rw[if_pos rfl] at H;exact H
   clear H
   have H:=H1
   clear H1
   obtain⟨rfl,rfl,rfl⟩:=sj3_ H
   go_wp2
   go_ret3
   exact⟨_,_,T14_,T18_,T18_,T16_⟩
  replace c6:=Bool.eq_false_iff.mpr c6
  subst c6
  have H1:((some (([]:List Int):List Int)).bind fun y179=>(if y179.length+l0.length<17592186044416 then(if 0≤(l0.length:Int) then(if((l0.length:Int):Int).toNat≤11728124029610 then(braid_Pattern.l0 kj3 ([]:List Int) ([]:List Int) t177 (y179 ++ l0) (List.replicate ((l0.length:Int):Int).toNat []) l1 (l1.length:Int) 0) else(none)) else(none)) else(none)))=some (r1,r2,r3):=by rw[if_neg (show ¬ (false=true) by decide)] at H;exact H
  clear H
  have H:=H1
  clear H1
  obtain⟨y179,hy_⟩:∃ y_:List Int,y_=(([]:List Int)):=⟨_,rfl⟩
  replace H:(if y179.length+l0.length<17592186044416 then(if 0≤(l0.length:Int) then(if((l0.length:Int):Int).toNat≤11728124029610 then(braid_Pattern.l0 kj3 ([]:List Int) ([]:List Int) t177 (y179 ++ l0) (List.replicate ((l0.length:Int):Int).toNat []) l1 (l1.length:Int) 0) else(none)) else(none)) else(none))=some (r1,r2,r3):=hyw_
  have Ny179:=am_ hy_
  clear hy_
  replace H:=ifa_ H;obtain⟨LMc7,H⟩:=H
  obtain⟨y182,hy_⟩:∃ y_:List Int,y_=(y179 ++ l0):=⟨_,rfl⟩
  replace H:(if 0≤(l0.length:Int) then(if((l0.length:Int):Int).toNat≤11728124029610 then(braid_Pattern.l0 kj3 ([]:List Int) ([]:List Int) t177 y182 (List.replicate ((l0.length:Int):Int).toNat []) l1 (l1.length:Int) 0) else(none)) else(none))=some (r1,r2,r3):=hyw_
  have Ny182:=am_ hy_
  clear hy_
  replace H:=ifn_ H;obtain⟨c8,H⟩:=H
  have c8b0:=eq_true c8
  have c8b1:decide (0≤(l0.length:Int))=true:=decide_eq_true c8
  clear c8
  replace H:=ifn_ H;obtain⟨c9,H⟩:=H
  have c9b0:=eq_true c9
  have c9b1:decide (((l0.length:Int):Int).toNat≤11728124029610)=true:=decide_eq_true c9
  clear c9
  obtain⟨y185,hy_⟩:∃ y_:List (List Int),y_=(List.replicate ((l0.length:Int):Int).toNat []):=⟨_,rfl⟩
  replace H:(braid_Pattern.l0 kj3 ([]:List Int) ([]:List Int) t177 y182 y185 l1 (l1.length:Int) 0)=some (r1,r2,r3):=hyw_
  have Ny185:=am_ hy_
  clear hy_
  have H':=am_ H
  clear H
  go_wp2_with(first|(refine gd_ 29 ?_;(try(refine gate_guard T0_ ?_;dsimp only));refine Kd.R_lit (jb .i64) _ 3 ?hg (N:=29) ?hd (xs:=([]:List Int)) (inner:=[]) (ok:=fun _=>True) (okp:=fun _=>True) ?hr ?hp (fun _ hk=>hk) trivial (Below.refl _ _) (Nat.le_refl _) T1_ ?_;(case hd=>rfl);(case hg=>rfl);(case hr=>first|(go_simp;done)|(go_simp;rfl));(case hp=>exact(Reps.none _ _));intro v180 w10 ho11 hb hg_ hnew_;clear hg_ hnew_;(first|rw[←Ny179.out] at ho11|(simp only[Int.reduceToNat] at ho11;rw[←Ny179.out] at ho11));have n_:=P4_ (jg (ru_ HO_4.out) (jf ho11) hb) (jg (ru_ HO_5.out) (jf ho11) hb) (jm (jk (jk ho11 (jj (ru_ HO_4.out))) (jj (ru_ HO_5.out))) (ja T16_)) (ji T16_ hb);clear HO_4 HO_5 HB;obtain⟨HO_4,HO_5,HO181,HB⟩:=n_;clear hb ho11)|(refine gb_ .append #[.tmp 29,.tmp 30] ?_;(try(refine gate_guard T0_ ?_;dsimp only));at_builtin;refine Kd.R_append_rows (jb .i64) (w0:=w) w.heap.size rfl (.tmp 29) (.tmp 30) 24 3 (.int .i64 0) 8 rfl Try.underlying24 info3 rfl T3_ T2_ v180 y179 l0 _ _ _ (fun k_=>ne_ k_ (.slice none 0 0)∧ne_ k_ (.slice none 0 0)) (fun _=>False) rfl rfl ?aO ?aR (fun _ _ h=>h) (fun _ h=>h.elim) ?aF ?aB ?aS ?aL ?_;(case aR=>exact cu_ (jv HR0.out HB.out));(case aB=>exact T16_);(case aF=>exact(fun k_ hk=>⟨jF (jj (ru_ HO_4.out)) k_ hk,jF (jj (ru_ HO_5.out)) k_ hk⟩));(case aO=>exact(ru_ (jc HO181.out (fun _ hk=>⟨hk.1.2,hk.2⟩))));(case aS=>exact(ja T16_));(case aL=>have:=LMc7.out;omega);intro v183 w12 ho hb hg hat;rw[←Ny182.out] at ho;have n_:=P4_ (jw (ok:=(fun k_=>ne_ k_ (.slice none 0 0))) (ru_ HO_4.out) hg hat) (jw (ok:=(fun k_=>ne_ k_ (.slice none 0 0))) (ru_ HO_5.out) hg hat) (hb) (ho);clear HO_4 HO_5 HB HO181;obtain⟨HO_4,HO_5,HB,HO184⟩:=n_;clear ho hb hg hat)|(refine gd_ 34 ?_;(try(refine gate_guard T0_ ?_;dsimp only));refine Kd.S_make (jy 3 (jb .i64)) _ 24 rfl (N:=34) rfl 51 _ _ rfl (l0.length:Int) rfl rfl Try.underlying51 (.slice none 0 0) 24 info24 rfl T3_ T2_ [] (ok:=fun _=>True) (okp:=fun _=>True) ⟨_,rfl,Kd.R_nil _ _ _ _ _⟩ (fun _ hk=>hk) trivial (od_) (Nat.le_trans (Nat.mul_le_mul_right _ (od_:(l0.length:Int).toNat≤11728124029610)) T2_) (Below.refl _ _) (Nat.le_refl _) ?_;intro v186 w13 ho14 hb hg_ hnew_;clear hg_ hnew_;(first|rw[←Ny185.out] at ho14|(simp only[Int.reduceToNat] at ho14;rw[←Ny185.out] at ho14));have n_:=P5_ (jd (ru_ HO_4.out) hb) (jd (ru_ HO_5.out) hb) (jd (ru_ HO184.out) hb) (Kd.S_lower (Kd.S_new' (Kd.S_new' (Kd.S_new' ho14 (jj (ru_ HO_4.out))) (jj (ru_ HO_5.out))) (jj (ru_ HO184.out))) (ja T16_)) (ji T16_ hb);clear HO_4 HO_5 HO184 HB;obtain⟨HO_4,HO_5,HO184,HO187,HB⟩:=n_;clear hb ho14))
  go_loopg [4,5,37] kj3 (fun kq v4 v5 v37 w'=>∃ (x4_2:List Int) (x5_2:List Int) (x9_2:List Int) (x10_2:List (List Int)) (x37_2:Int),v37 = .int .i64 x37_2∧Aside0 (braid_Pattern.l0 kq x4_2 x5_2 t177 x9_2 x10_2 l1 (l1.length:Int) x37_2=some (r1,r2,r3))∧Aside0 (kq≤kj3)∧Aside0 (ju (jb .i64) 3 w' w.heap.size (fun k_=>ne_ k_ v5∧ne_ k_ v183) v4 x4_2)∧Aside0 (ju (jb .i64) 3 w' w.heap.size (fun k_=>ne_ k_ v4∧ne_ k_ v183) v5 x5_2)∧Aside0 (ju (jb .i64) 3 w' w.heap.size (fun k_=>ne_ k_ v4∧ne_ k_ v5) v183 x9_2)∧Aside0 (Kd.S (jy 3 (jb .i64)) 24 w' w.heap.size (fun k_=>ne_ k_ v4∧ne_ k_ v5∧ne_ k_ v183) v186 x10_2)∧Aside0 (Below w.heap.size w w'))
  case atStart=>exact⟨(([]:List Int)),(([]:List Int)),(y182),(y185),(0),T9_,H',⟨Nat.le_refl _⟩,⟨ru_ HO_4.out⟩,⟨ru_ HO_5.out⟩,⟨ru_ HO184.out⟩,⟨su_ (jB HO187.out (fun _ hk=>⟨hk.1.1.2,⟨hk.1.2,hk.2⟩⟩))⟩,⟨T16_⟩⟩
  clear H'
  (try clear c6);(try clear c8);(try clear c8b0 c8b1);(try clear c9);(try clear c9b0 c9b1)
  obtain⟨x4_2,x5_2,x9_2,x10_2,x37_2,rfl,HA,HK2,HO_4,HO_5,HO_9,HO_10,HB⟩:=hrel
  cases gk with
  | zero=>exact absurd HA.out (by simp[braid_Pattern.l0])
  | succ k2 =>
   have H:=HA.out
   clear HA
   simp only[braid_Pattern.l0] at H
   by_cases c15:x37_2<(l1.length:Int)
   rotate_left
   ·rw[if_neg c15] at H
    have c15b0:=decide_eq_false c15
    clear c15
    have H':=am_ H
    clear H
    obtain⟨Ao40,co40,eo40⟩:=Kd.S_slice HO_10.out
    subst eo40
    go_wp2
    go_loopg [5,88] k2 (fun kq v5 v88 w'=>∃ (x5_3:List Int) (x88_3:Int),v88 = .int .i64 x88_3∧Aside0 (braid_Pattern.l2 kq x4_2 x5_3 x10_2 (x10_2.length:Int) x88_3=some (r1,r2,r3))∧Aside0 (kq≤k2)∧Aside0 (ju (jb .i64) 3 w' w.heap.size (fun k_=>ne_ k_ v5) u4 x4_2)∧Aside0 (ju (jb .i64) 3 w' w.heap.size (fun k_=>ne_ k_ u4) v5 x5_3)∧Aside0 (Kd.S (jy 3 (jb .i64)) 24 w' w.heap.size (fun k_=>ne_ k_ u4∧ne_ k_ v5) (.slice Ao40 x10_2.length co40) x10_2)∧Aside0 (Below w.heap.size w w'))
    case atStart=>exact⟨(x5_2),(0),T9_,H',⟨Nat.le_refl _⟩,⟨ru_ (jc HO_4.out (fun _ hk=>hk.1))⟩,⟨ru_ (jc HO_5.out (fun _ hk=>hk.1))⟩,⟨su_ (jB HO_10.out (fun _ hk=>⟨hk.1,hk.2.1⟩))⟩,⟨T16_⟩⟩
    clear H'
    (try clear c6);(try clear c8);(try clear c8b0 c8b1);(try clear c9);(try clear c9b0 c9b1);(try clear c15);(try clear c15b0)
    obtain⟨x5_3,x88_3,rfl,HA,HK3,HO_4,HO_5,HO_86,HB⟩:=hrel
    cases gk with
    | zero=>exact absurd HA.out (by simp[braid_Pattern.l2])
    | succ k3 =>
     have H:=HA.out
     clear HA
     simp only[braid_Pattern.l2] at H
     by_cases c41:x88_3<(x10_2.length:Int)
     rotate_left
     ·rw[if_neg c41] at H
      have c41b0:=decide_eq_false c41
      clear c41
      obtain⟨rfl,rfl,rfl⟩:=sj3_ H
      go_wp2
      go_ret3
      exact⟨_,_,T14_,ru_ HO_4.out,ru_ HO_5.out,T16_⟩
     rw[if_pos c41] at H
     have c41b0:=decide_eq_true c41
     clear c41
     replace H:=ifn_ H;obtain⟨c42,H⟩:=H
     have c42b0:=decide_eq_true c42
     clear c42
     replace H:=ifn_ H;obtain⟨c43,H⟩:=H
     have c43b0:=decide_eq_true c43
     clear c43
     replace H:=ifa_ H;obtain⟨LMc44,H⟩:=H
     obtain⟨y202,hy_⟩:∃ y_:List Int,y_=(x5_3 ++ (rd_L3 x10_2 x88_3)):=⟨_,rfl⟩
     replace H:(braid_Pattern.l2 k3 x4_2 y202 x10_2 (x10_2.length:Int) (wrap64 (x88_3+1)))=some (r1,r2,r3):=hyw_
     have Ny202:=am_ hy_
     clear hy_
     have H':=am_ H
     clear H
     have p201:0≤(x88_3:Int):=od_
     have q201:x88_3<(x10_2.length:Int):=od_
     obtain⟨ad201,A201_0,c201_0,e201,hx201_0,hl201_0,hi201_0⟩:=at_L3 (jM HO_86.out).2.2 x88_3 p201 q201
     cases e201
     obtain⟨ce201,hce201,hMe201,hcc201⟩:=Kd.S_get HO_86.out [] x88_3 p201 (by first|exact q201|exact od_|(have e_:=(jM HO_86.out).1;omega))
     obtain⟨ve201_0,rfl,ge201_0⟩:=hMe201
     have hv201_0:=hcc201 0 _ rfl
     rw[Nat.add_zero,show((jy 3 (jb .i64))).sz=1 from rfl,Nat.mul_one] at hv201_0
     replace hv201_0:=Option.some.inj (hv201_0.symm.trans hx201_0)
     rw[hv201_0] at ge201_0
     have HL201_0:=am_ (show ju (jb .i64) 3 _ _ _ _ (rd_L3 x10_2 x88_3) from ge201_0)
     clear hv201_0 ge201_0
     have HX201_0:=am_ hx201_0
     clear hcc201 hce201
     have HR201_0:=am_ hi201_0
     have HC201_0:=am_ hl201_0
     clear hi201_0 hl201_0
     replace p201:=eq_true p201
     replace q201:=eq_true q201
     go_wp2_with(first|(refine gb_ .append #[.tmp 92,.tmp 93] ?_;(try(refine gate_guard T0_ ?_;dsimp only));at_builtin;refine Kd.R_append_rows (jb .i64) (w0:=w) w.heap.size rfl (.tmp 92) (.tmp 93) 24 3 (.int .i64 0) 8 rfl Try.underlying24 info3 rfl T3_ T2_ u5 x5_3 (rd_L3 x10_2 x88_3) _ _ _ (fun k_=>ne_ k_ u4) (fun _=>False) rfl rfl ?aO ?aR (fun _ _ h=>h) (fun _ h=>h.elim) ?aF ?aB ?aS ?aL ?_;(case aR=>exact cu_ HR201_0.out);(case aB=>exact T16_);(case aF=>exact(fun k_ hk=>jF (jj (ru_ HO_4.out)) k_ hk));(case aO=>exact(ru_ HO_5.out));(case aS=>exact(ja T16_));(case aL=>have:=LMc44.out;omega);intro v203 w45 ho hb hg hat;rw[←Ny202.out] at ho;have n_:=P5_ (jw (ok:=(fun _=>True)) (ru_ (jc HO_4.out (fun _ hk=>⟨trivial,hk⟩))) hg hat) (Kd.S_after (ok:=(fun k_=>ne_ k_ u4)) (su_ HO_86.out) hg hat) (jw (ok:=(fun k_=>ne_ k_ u4∧ne_ k_ (.slice (some ad201) x10_2.length co40))) (ru_ (jc HL201_0.out (fun _ hk=>⟨⟨hk.1.1,hk.2⟩,hk.1.2⟩))) hg hat) (hb) (ho);clear HO_4 HO_86 HL201_0 HB HO_5;obtain⟨HO_4,HO_86,HL201_0,HB,HO204⟩:=n_;clear ho hb hg hat))
     go_roundg k3
     case measure=>have:=HJ3.out;have:=HK2.out;have:=HK3.out;omega
     case rel=>exact⟨(y202),(wrap64 (x88_3+1)),T9_,H',⟨(by have:=HJ3.out;have:=HK2.out;have:=HK3.out;omega)⟩,⟨ru_ (jc HO_4.out (fun _ hk=>hk.2))⟩,⟨ru_ HO204.out⟩,⟨su_ HO_86.out⟩,⟨T16_⟩⟩
   rw[if_pos c15] at H
   have c15b0:=decide_eq_true c15
   clear c15
   replace H:=ifn_ H;obtain⟨c16,H⟩:=H
   have c16b0:=decide_eq_true c16
   clear c16
   replace H:=ifn_ H;obtain⟨c17,H⟩:=H
   have c17b0:=decide_eq_true c17
   clear c17
   have HC18:=am_ H
   clear H
   have p188:0≤(x37_2:Int):=od_
   have q188:x37_2<(l1.length:Int):=od_
   obtain⟨ad188,e188,hx188_0⟩:=jH HR1.out x37_2 p188 q188
   cases e188
   (try(replace hx188_0:=(HB.out.cell (World.block_lt_of_cell? w _ hx188_0)).trans hx188_0))
   replace p188:=eq_true p188
   replace q188:=eq_true q188
   go_upto_region 9 with(fail)
   go_cut [50] (fun v50 wc=>∃ (kq:Nat) (x50_17:Bool),v50 = .bool x50_17∧Aside0 (braid_Pattern.j2 kq x4_2 x5_2 t177 x9_2 x10_2 (rd l1 x37_2) l1 (l1.length:Int) x37_2 x50_17=some (r1,r2,r3))∧Aside0 (kq≤k2)∧Aside0 (ju (jb .i64) 3 wc w.heap.size (fun k_=>ne_ k_ u5∧ne_ k_ v183) u4 x4_2)∧Aside0 (ju (jb .i64) 3 wc w.heap.size (fun k_=>ne_ k_ u4∧ne_ k_ v183) u5 x5_2)∧Aside0 (ju (jb .i64) 3 wc w.heap.size (fun k_=>ne_ k_ u4∧ne_ k_ u5) v183 x9_2)∧Aside0 (Kd.S (jy 3 (jb .i64)) 24 wc w.heap.size (fun k_=>ne_ k_ u4∧ne_ k_ u5∧ne_ k_ v183) v186 x10_2)∧Aside0 (Below w.heap.size w wc))
   case first =>
    have H:=HC18.out
    clear HC18
    by_cases c19:(rd l1 x37_2)<0
    ·rw[if_pos c19] at H
     have c19b0:=decide_eq_true c19
     clear c19
     (first|rw[c19b0]|(simp only[jD,jE];rw[c19b0])|skip)
     have H':=am_ H
     clear H
     go_wp2
     go_meet
     case rel=>exact⟨_,(true),T9_,H',⟨(by have:=HJ3.out;have:=HK2.out;first|omega|exact Nat.le_refl _)⟩,⟨ru_ HO_4.out⟩,⟨ru_ HO_5.out⟩,⟨ru_ HO_9.out⟩,⟨su_ HO_10.out⟩,⟨T16_⟩⟩
    rw[if_neg c19] at H
    have c19b0:=decide_eq_false c19
    clear c19
    (first|rw[c19b0]|(simp only[jD,jE];rw[c19b0])|skip)
    have H':=am_ H
    clear H
    go_wp2
    go_meet
    case rel=>exact⟨_,(decide ((rd l1 x37_2) ≥ (wrap64 (t177-x37_2)))),T9_,H',⟨(by have:=HJ3.out;have:=HK2.out;first|omega|exact Nat.le_refl _)⟩,⟨ru_ HO_4.out⟩,⟨ru_ HO_5.out⟩,⟨ru_ HO_9.out⟩,⟨su_ HO_10.out⟩,⟨T16_⟩⟩
   clear HC18
   (try clear c6);(try clear c8);(try clear c8b0 c8b1);(try clear c9);(try clear c9b0 c9b1);(try clear c15);(try clear c15b0);(try clear c16);(try clear c16b0);(try clear c17);(try clear c17b0);(try clear hx188_0);(try clear p188 q188)
   obtain⟨kq,x50_17,rfl,HA,HJ17,HO_4,HO_5,HO_9,HO_10,HB⟩:=hcut
   cases kq with
   | zero=>exact absurd HA.out (by simp[braid_Pattern.j2])
   | succ kj17 =>
    have H:=HA.out
    clear HA
    simp only[braid_Pattern.j2] at H
    by_cases c20:x50_17=true
    ·subst c20
     have H1:(some (([]:List Int),([]:List Int),2))=some (r1,r2,r3):=by rw[if_pos rfl] at H;exact H
     clear H
     have H:=H1
     clear H1
     obtain⟨rfl,rfl,rfl⟩:=sj3_ H
     go_wp2
     go_ret3
     exact⟨_,_,T14_,T18_,T18_,T16_⟩
    replace c20:=Bool.eq_false_iff.mpr c20
    subst c20
    have H1:(braid_Pattern.l1 kj17 x4_2 x5_2 t177 x9_2 x10_2 (rd l1 x37_2) 0 l1 (l1.length:Int) x37_2)=some (r1,r2,r3):=by rw[if_neg (show ¬ (false=true) by decide)] at H;exact H
    clear H
    have H:=H1
    clear H1
    have H':=am_ H
    clear H
    go_wp2
    go_loopg [12,13] kj17 (fun kq v12 v13 w'=>∃ (x12_4:Int) (x13_4:Int),v12 = .int .i64 x12_4∧v13 = .int .i64 x13_4∧Aside0 (braid_Pattern.l1 kq x4_2 x5_2 t177 x9_2 x10_2 x12_4 x13_4 l1 (l1.length:Int) x37_2=some (r1,r2,r3))∧Aside0 (kq≤kj17)∧Aside0 (ju (jb .i64) 3 w' w.heap.size (fun k_=>ne_ k_ u5∧ne_ k_ v183) u4 x4_2)∧Aside0 (ju (jb .i64) 3 w' w.heap.size (fun k_=>ne_ k_ u4∧ne_ k_ v183) u5 x5_2)∧Aside0 (ju (jb .i64) 3 w' w.heap.size (fun k_=>ne_ k_ u4∧ne_ k_ u5) v183 x9_2)∧Aside0 (Kd.S (jy 3 (jb .i64)) 24 w' w.heap.size (fun k_=>ne_ k_ u4∧ne_ k_ u5∧ne_ k_ v183) v186 x10_2)∧Aside0 (Below w.heap.size w w'))
    case atStart=>exact⟨((rd l1 x37_2)),(0),T9_,T9_,H',⟨Nat.le_refl _⟩,⟨ru_ HO_4.out⟩,⟨ru_ HO_5.out⟩,⟨ru_ HO_9.out⟩,⟨su_ HO_10.out⟩,⟨T16_⟩⟩
    clear H'
    (try clear c6);(try clear c8);(try clear c8b0 c8b1);(try clear c9);(try clear c9b0 c9b1);(try clear c15);(try clear c15b0);(try clear c16);(try clear c16b0);(try clear c17);(try clear c17b0);(try clear c20);(try clear hx188_0);(try clear p188 q188)
    obtain⟨x12_4,x13_4,rfl,rfl,HA,HK4,HO_4,HO_5,HO_9,HO_10,HB⟩:=hrel
    cases gk with
    | zero=>exact absurd HA.out (by simp[braid_Pattern.l1])
    | succ k4 =>
     have H:=HA.out
     clear HA
     simp only[braid_Pattern.l1] at H
     replace H:=ifn_ H;obtain⟨c21,H⟩:=H
     have c21b0:=decide_eq_true c21
     clear c21
     replace H:=ifn_ H;obtain⟨c22,H⟩:=H
     have c22b0:=decide_eq_true c22
     clear c22
     by_cases c23:x12_4 ≥ (rd x9_2 x13_4)
     ·rw[if_pos c23] at H
      have c23b0:=decide_eq_true c23
      clear c23
      have H':=am_ H
      clear H
      obtain⟨Ao24,co24,eo24⟩:=jo HO_9.out
      subst eo24
      obtain⟨ad189,e189,hx189_0,p189,q189⟩:=ai_ (jh HO_9.out).2.2 x13_4
      cases e189
      have p190:0≤(x13_4:Int):=od_
      have q190:x13_4<(x9_2.length:Int):=od_
      obtain⟨ad190,e190,hx190_0⟩:=jH (jh HO_9.out).2.2 x13_4 p190 q190
      obtain rfl:ad189=ad190:=(by injection e190)
      replace p190:=eq_true p190
      replace q190:=eq_true q190
      go_wp2
      go_roundg k4
      case measure=>have:=HJ3.out;have:=HK2.out;have:=HJ17.out;have:=HK4.out;omega
      case rel=>exact⟨(wrap64 (x12_4-(rd x9_2 x13_4))),(wrap64 (x13_4+1)),T9_,T9_,H',⟨(by have:=HJ3.out;have:=HK2.out;have:=HJ17.out;have:=HK4.out;omega)⟩,⟨ru_ HO_4.out⟩,⟨ru_ HO_5.out⟩,⟨ru_ HO_9.out⟩,⟨su_ HO_10.out⟩,⟨T16_⟩⟩
     rw[if_neg c23] at H
     have c23b0:=decide_eq_false c23
     clear c23
     obtain⟨y192,hy_⟩:∃ y_:List Int,y_=(x9_2.set (x13_4:Int).toNat (wrap64 ((rd x9_2 x13_4)-1))):=⟨_,rfl⟩
     replace H:(if x4_2.length<17592186044416 then(if x13_4<(x10_2.length:Int) then(if(rd_L3 x10_2 x13_4).length<17592186044416 then(braid_Pattern.l0 k4 (x4_2 ++ [x13_4]) x5_2 t177 y192 (x10_2.set (x13_4:Int).toNat ((rd_L3 x10_2 x13_4) ++ [x12_4])) l1 (l1.length:Int) (wrap64 (x37_2+1))) else(none)) else(none)) else(none))=some (r1,r2,r3):=hyw_
     have Ny192:=am_ hy_
     clear hy_
     replace H:=ifa_ H;obtain⟨LMc26,H⟩:=H
     obtain⟨y193,hy_⟩:∃ y_:List Int,y_=(x4_2 ++ [x13_4]):=⟨_,rfl⟩
     replace H:(if x13_4<(x10_2.length:Int) then(if(rd_L3 x10_2 x13_4).length<17592186044416 then(braid_Pattern.l0 k4 y193 x5_2 t177 y192 (x10_2.set (x13_4:Int).toNat ((rd_L3 x10_2 x13_4) ++ [x12_4])) l1 (l1.length:Int) (wrap64 (x37_2+1))) else(none)) else(none))=some (r1,r2,r3):=hyw_
     have Ny193:=am_ hy_
     clear hy_
     replace H:=ifn_ H;obtain⟨c27,H⟩:=H
     have c27b0:=decide_eq_true c27
     clear c27
     replace H:=ifa_ H;obtain⟨LMc28,H⟩:=H
     obtain⟨y197,hy_⟩:∃ y_:List Int,y_=((rd_L3 x10_2 x13_4) ++ [x12_4]):=⟨_,rfl⟩
     replace H:(braid_Pattern.l0 k4 y193 x5_2 t177 y192 (x10_2.set (x13_4:Int).toNat y197) l1 (l1.length:Int) (wrap64 (x37_2+1)))=some (r1,r2,r3):=hyw_
     have Ny197:=am_ hy_
     clear hy_
     obtain⟨y200,hy_⟩:∃ y_:List (List Int),y_=(x10_2.set (x13_4:Int).toNat y197):=⟨_,rfl⟩
     replace H:(braid_Pattern.l0 k4 y193 x5_2 t177 y192 y200 l1 (l1.length:Int) (wrap64 (x37_2+1)))=some (r1,r2,r3):=hyw_
     have Ny200:=am_ hy_
     clear hy_
     have H':=am_ H
     clear H
     obtain⟨Ao30,co30,eo30⟩:=jo HO_9.out
     subst eo30
     obtain⟨ad189,e189,hx189_0,p189,q189⟩:=ai_ (jh HO_9.out).2.2 x13_4
     cases e189
     have p191:0≤(x13_4:Int):=od_
     have q191:x13_4<(x9_2.length:Int):=od_
     obtain⟨ad191,e191,hx191_0⟩:=jH (jh HO_9.out).2.2 x13_4 p191 q191
     obtain rfl:ad189=ad191:=(by injection e191)
     replace p191:=eq_true p191
     replace q191:=eq_true q191
     have p25:0≤(x13_4:Int):=od_
     have q25:(x13_4:Int)<((x9_2.length:Int):Int):=od_
     obtain⟨go25,co25,eo25,gb25,gl25,cl25,HG25⟩:=Kd.R_form HO_9.out T2_
     (first|cases eo25|(injection eo25 with ea_ en_ ec_;(first|subst ea_|(injection ea_ with ea_;subst ea_));subst ec_;clear en_))
     have GB25:=am_ gb25
     have GG25:=am_ HG25
     clear gb25 gl25 HG25
     (first|simp only[add_plain] at hx189_0|skip)
     (first|simp only[add_plain] at hx190_0|skip)
     (first|simp only[add_plain] at hx191_0|skip)
     obtain⟨hx25_0,hf25_0⟩:=Kd.R_celln 0 HO_9.out (x13_4:Int) p25 q25
     replace p25:=eq_true p25
     replace q25:=eq_true q25
     have HP31:=Kd.R_putg HO_9.out (x13_4:Int) (wrap64 ((rd x9_2 x13_4)-1))
     go_wp2_with(first|(refine gs_ 3 70 ?_;refine sv_ 3 70 (wr.setCell ⟨go25,(x13_4:Int).toNat,none⟩ (.int .i64 (wrap64 ((rd x9_2 x13_4)-1)))) ?_;intro w32 hw;have hg:wr.grownBy w32 (some go25):=(by rw[hw];exact HP31.2);have hp_:ju (jb .i64) 3 w32 w.heap.size (fun k_=>ne_ k_ u4∧ne_ k_ u5) (.slice (some ⟨go25,0,none⟩) x9_2.length co30) y192:=(by rw[hw,Ny192.out];exact HP31.1);clear HP31;have n_:=P5_ (jw (v:=(.slice (some ⟨go25,0,none⟩) x9_2.length co30)) (v1:=(.slice (some ⟨go25,0,none⟩) x9_2.length co30)) (ok:=(fun k_=>ne_ k_ u5)) (ru_ HO_4.out) hg (.inl rfl)) (jw (v:=(.slice (some ⟨go25,0,none⟩) x9_2.length co30)) (v1:=(.slice (some ⟨go25,0,none⟩) x9_2.length co30)) (ok:=(fun k_=>ne_ k_ u4)) (ru_ HO_5.out) hg (.inl rfl)) (hp_) (Kd.S_after (v:=(.slice (some ⟨go25,0,none⟩) x9_2.length co30)) (v1:=(.slice (some ⟨go25,0,none⟩) x9_2.length co30)) (ok:=(fun k_=>ne_ k_ u4∧ne_ k_ u5)) (su_ (jB HO_10.out (fun _ hk=>⟨⟨hk.1,hk.2.1⟩,hk.2.2⟩))) hg (.inl rfl)) ((by rw[hw];exact jJ (HB.out) GB25.out:Below w.heap.size w w32));clear HO_4 HO_5 HO_9 HO_10 HB;obtain⟨HO_4,HO_5,HO_9,HO_10,HB⟩:=n_;clear hg hw hp_)|(refine gb_ .append #[.tmp 71,.tmp 73] ?_;(try(refine gate_guard T0_ ?_;dsimp only));at_builtin;refine Kd.R_append (jb .i64) (w0:=w) w.heap.size rfl (.tmp 71) (.tmp 73) 24 3 (.int .i64 0) 8 rfl Try.underlying24 info3 rfl T3_ T2_ u4 x4_2 x13_4 [.int .i64 x13_4] (fun k_=>ne_ k_ u5∧ne_ k_ (.slice (some ⟨go25,0,none⟩) x9_2.length co30)) (fun _=>False) rfl rfl ?aP (fun _ hk=>hk.elim) ?aF ?aO ?aB ?aS ?aL ?_;(case aP=>exact rfl);(case aB=>exact T16_);(case aF=>exact(fun k_ hk=>⟨jF (jj (ru_ HO_5.out)) k_ hk,jF (jj (ru_ HO_9.out)) k_ hk⟩));(case aO=>exact(ru_ HO_4.out));(case aS=>exact(ja T16_));(case aL=>have:=LMc26.out;omega);intro v194 w33 ho hb hg hat;rw[←Ny193.out] at ho;have n_:=P5_ (jw (ok:=(fun k_=>ne_ k_ (.slice (some ⟨go25,0,none⟩) x9_2.length co30))) (ru_ (jc HO_5.out (fun _ hk=>⟨hk.2,hk.1⟩))) hg hat) (jw (ok:=(fun k_=>ne_ k_ u5)) (ru_ (jc HO_9.out (fun _ hk=>⟨hk.2,hk.1⟩))) hg hat) (Kd.S_after (ok:=(fun k_=>ne_ k_ u5∧ne_ k_ (.slice (some ⟨go25,0,none⟩) x9_2.length co30))) (su_ (jB HO_10.out (fun _ hk=>⟨⟨hk.1.2,hk.2⟩,hk.1.1⟩))) hg hat) (hb) (ho);clear HO_5 HO_9 HO_10 HB HO_4;obtain⟨HO_5,HO_9,HO_10,HB,HO195⟩:=n_;clear ho hb hg hat;obtain⟨Ao34,co34,eo34⟩:=Kd.S_slice HO_10.out;subst eo34;have p196:0≤(x13_4:Int):=od_;have q196:x13_4<(x10_2.length:Int):=od_;obtain⟨ad196,A196_0,c196_0,e196,hx196_0,hl196_0,hi196_0⟩:=at_L3 (jM HO_10.out).2.2 x13_4 p196 q196;cases e196;obtain⟨ce196,hce196,hMe196,hcc196⟩:=Kd.S_get HO_10.out [] x13_4 p196 (by first|exact q196|exact od_|(have e_:=(jM HO_10.out).1;omega));obtain⟨ve196_0,rfl,ge196_0⟩:=hMe196;have hv196_0:=hcc196 0 _ rfl;rw[Nat.add_zero,show((jy 3 (jb .i64))).sz=1 from rfl,Nat.mul_one] at hv196_0;replace hv196_0:=Option.some.inj (hv196_0.symm.trans hx196_0);rw[hv196_0] at ge196_0;have HL196_0:=am_ (show ju (jb .i64) 3 _ _ _ _ (rd_L3 x10_2 x13_4) from ge196_0);clear hv196_0 ge196_0;have HX196_0:=am_ hx196_0;clear hcc196 hce196;have HR196_0:=am_ hi196_0;have HC196_0:=am_ hl196_0;clear hi196_0 hl196_0;replace p196:=eq_true p196;replace q196:=eq_true q196;have n_:=am_ (jB (ok':=(fun k_=>ne_ k_ u5∧ne_ k_ (.slice (some ⟨go25,0,none⟩) x9_2.length co30)∧ne_ k_ v194)) HO_10.out (fun k_ hk=>⟨hk.1.1,⟨hk.1.2,hk.2⟩⟩));clear HO_10;have HO_10:=n_;clear n_;obtain⟨go35,co35,eo35,gb35,gl35,cl35,HG35⟩:=Kd.S_form HO_10.out (by have h_:(x13_4:Int)<((x10_2.length:Int):Int):=od_;have h2_:0≤(x13_4:Int):=(od_);omega);(first|cases eo35|(injection eo35 with ea_ en_ ec_;(first|subst ea_|(injection ea_ with ea_;subst ea_));subst ec_;clear en_));have GB35:=am_ gb35;have GG35:=am_ HG35;clear gb35 gl35 HG35;(first|simp only[add_plain] at hx196_0|skip);obtain⟨oki35,ce35,hcl35,hM35,hcc35,_,_,hH35⟩:=Kd.S_elem HO_10.out [] (x13_4:Int) (od_) (by have h_:(x13_4:Int)<((x10_2.length:Int):Int):=od_;first|exact h_|(have e_:=(jM HO_10.out).1;omega)|simpa using h_);obtain⟨ve35_0,rfl,ge35_0⟩:=hM35;have hv35:=hcc35 0 _ rfl;have hX35:=HX196_0.out;(try simp only[add_plain] at hX35);(try simp only[Nat.add_zero] at hv35);(try rw[show((jy 3 (jb .i64))).sz=1 from rfl,Nat.mul_one] at hv35);replace hv35:=Option.some.inj (hv35.symm.trans hX35);subst hv35;clear hX35 hcc35 hcl35;have UU35:=am_ (show ju (jb .i64) 3 _ w.heap.size oki35 (.slice A196_0 (rd_L3 x10_2 x13_4).length c196_0) (rd_L3 x10_2 x13_4) from ge35_0);have HH35:=am_ hH35;have HN35:=am_ (jM HO_10.out).1;clear hH35 ge35_0)|(refine gb_ .append #[.tmp 80,.tmp 82] ?_;(try(refine gate_guard T0_ ?_;dsimp only));at_builtin;refine Kd.R_append (jb .i64) (w0:=w) w.heap.size rfl (.tmp 80) (.tmp 82) 24 3 (.int .i64 0) 8 rfl Try.underlying24 info3 rfl T3_ T2_ (.slice A196_0 (rd_L3 x10_2 x13_4).length c196_0) (rd_L3 x10_2 x13_4) x12_4 [.int .i64 x12_4] (fun k_=>oki35 k_∨((fun k_=>ne_ k_ u5∧ne_ k_ (.slice (some ⟨go25,0,none⟩) x9_2.length co30)∧ne_ k_ v194)) k_∧w33.heap.size≤k_) (fun _=>False) rfl rfl ?aP (fun _ hk=>hk.elim) ?aF ?aO ?aB ?aS ?aL ?_;(case aP=>exact rfl);(case aB=>exact T16_);(case aF=>exact(fun k_ hk=>.inr ⟨⟨jF (jj (ru_ HO_5.out)) k_ hk,jF (jj (ru_ HO_9.out)) k_ hk,jF (jj (ru_ HO195.out)) k_ hk⟩,hk⟩));(case aO=>exact(ru_ (jc UU35.out (fun _ hk=>.inl hk))));(case aS=>exact(ja T16_));(case aL=>have:=LMc28.out;omega);intro v198 w36 ho hb hg hat;rw[←Ny197.out] at ho;have n_:=P6_ (Kd.R_grown2 (ru_ HO_5.out) rfl hg (fun k_ e_=>(HL196_0.out.1 k_ e_).1.1.1)) (Kd.R_grown2 (ru_ HO_9.out) rfl hg (fun k_ e_=>(HL196_0.out.1 k_ e_).1.1.2)) (Kd.R_grown2 (ru_ HO195.out) rfl hg (fun k_ e_=>(HL196_0.out.1 k_ e_).1.2)) (hb) (Kd.H_grown (Kd.H_widen (by repeat(first|exact HH35.out|refine Kd.H_alloc ?_ _|refine Kd.H_drewN ?_ _|refine Kd.H_drew ?_))) hg (fun k_ e_=>.inl (UU35.out.1 k_ e_))) (ho);clear HO_5 HO_9 HO195 HB HH35 HO_10 UU35 HL196_0;obtain⟨HO_5,HO_9,HO195,HB,HH35,HO199⟩:=n_;clear ho hb hg hat;have p29:0≤(x13_4:Int):=od_;have q29:(x13_4:Int)<((x10_2.length:Int):Int):=od_;replace p29:=eq_true p29;replace q29:=eq_true q29;obtain⟨Ao39,co39,eo39⟩:=jo HO199.out;subst eo39;obtain⟨_,_,hraw37,_,_,hcc37,_⟩:=Kd.H_raw HH35.out (od_) (by have h_:(x13_4:Int)<((x10_2.length:Int):Int):=od_;first|exact h_|(have e_:=(HN35.out);omega)|simpa using h_);obtain⟨_,hfr37⟩:=Kd.H_at HH35.out (od_) (by have h_:(x13_4:Int)<((x10_2.length:Int):Int):=od_;first|exact h_|(have e_:=(HN35.out);omega)|simpa using h_);have hx37_0:=hcc37 0 _ rfl;have hf37_0:=hfr37 0;(try simp only[Nat.add_zero] at hx37_0 hf37_0);(try rw[show((jy 3 (jb .i64))).sz=1 from rfl,Nat.mul_one] at hx37_0);(try rw[show((jy 3 (jb .i64))).sz=1 from rfl,Nat.mul_one] at hf37_0);have HP37:=Kd.S_seg0 HH35.out (od_) (by have h_:(x13_4:Int)<((x10_2.length:Int):Int):=od_;first|exact h_|(have e_:=(HN35.out);omega)|simpa using h_) (seg:=[.slice Ao39 y197.length co39]) (j:=0) (show 1≤1 from by decide) (x':=y197) (Kd.M_row HO199.out) (fun _ hk=>hk);(try simp only[show((jy 3 (jb .i64))).sz=1 from rfl,Nat.mul_one,Nat.add_zero] at HP37);clear hcc37 hfr37)|(refine gs_ 24 84 ?_;refine sv_ 24 84 (w36.setCell ⟨go35,(x13_4:Int).toNat,none⟩ (.slice Ao39 y197.length co39)) ?_;intro w38 hw;have hg:w36.grownBy w38 (some go35):=(by rw[hw];exact HP37.2);have hp_:Kd.S (jy 3 (jb .i64)) 24 w38 w.heap.size (fun k_=>ne_ k_ u5∧ne_ k_ (.slice (some ⟨go25,0,none⟩) x9_2.length co30)∧ne_ k_ v194) (.slice (some ⟨go35,0,none⟩) x10_2.length co34) y200:=(by rw[hw,Ny200.out];exact HP37.1);clear HP37;have n_:=P5_ (jx (v:=(.slice (some ⟨go35,0,none⟩) x10_2.length co34)) (ru_ HO_5.out) (jz hraw37) T3_ hg) (jx (v:=(.slice (some ⟨go35,0,none⟩) x10_2.length co34)) (ru_ HO_9.out) (jz hraw37) T3_ hg) (jx (v:=(.slice (some ⟨go35,0,none⟩) x10_2.length co34)) (ru_ HO195.out) (jz hraw37) T3_ hg) ((by rw[hw];exact jJ HB.out GB35.out:Below w.heap.size w w38)) (hp_);clear HO_5 HO_9 HO195 HB HO199 HH35;obtain⟨HO_5,HO_9,HO195,HB,HO_10⟩:=n_;clear hg hw hp_ hraw37))
     go_roundg k4
     case measure=>have:=HJ3.out;have:=HK2.out;have:=HJ17.out;have:=HK4.out;omega
     case rel=>exact⟨(y193),(x5_2),(y192),(y200),(wrap64 (x37_2+1)),T9_,H',⟨(by have:=HJ3.out;have:=HK2.out;have:=HJ17.out;have:=HK4.out;omega)⟩,⟨ru_ HO195.out⟩,⟨ru_ (jc HO_5.out (fun _ hk=>⟨hk.2,hk.1⟩))⟩,⟨ru_ (jc HO_9.out (fun _ hk=>⟨hk.2,hk.1⟩))⟩,⟨su_ (jB HO_10.out (fun _ hk=>⟨hk.2.2,⟨hk.1,hk.2.1⟩⟩))⟩,⟨T16_⟩⟩
end Go.Proofs.Ytbnifpfnjhdenaa.Q
end
