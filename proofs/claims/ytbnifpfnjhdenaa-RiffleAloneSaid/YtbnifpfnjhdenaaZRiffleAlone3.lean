/- Functions of the program as plain Lean functions, each with a proof that its call comes to just these answers, and the row that joins them to the given statement; no condition beside the statement's own. Written for this claim by this session's programs (pf.py, pack.py) over the kit's print. -/
import Derived.Test.YtbnifpfnjhdenaaProg
import Derived.Below
import Derived.Deep.Draws
import Derived.Deep.AppendLies
import Derived.Maps.AppendAt
import Derived.OwnWalk
import Derived.Laws.BytesArg
import Derived.Laws.MakeOwn
import Derived.Laws.OwnMore
import Derived.Deep.OwnRows
import Derived.Tactics
import Derived.Lib.ConvBytes
import Derived.Laws.Slices
import Derived.WalkKit
import Derived.KernelRfl
import Derived.RowKit3
import Derived.Deep.LoopGhost
import Derived.Deep.QuietTactic
import Derived.BigQuiet
import Derived.WideLaws
import Derived.Deep.DeepCutAuto
import Derived.Deep.CutBlock
import Derived.Deep.RegionHeld3
import Derived.Laws.Rows
import Derived.Lib.AppendStr
import Derived.ArgAppend
import Derived.Laws.IdiomCopy
import Derived.OrdersHeld
import Derived.Laws.BitsLemmas
import Derived.RowKit
import Derived.Shelf.Abstract
import Derived.Laws.StructEq
import Derived.Test.YtbnifpfnjhdenaaZRiffleAlone0
import Derived.Test.YtbnifpfnjhdenaaZRiffleAlone1
import Derived.Test.YtbnifpfnjhdenaaZRiffleAlone2
section
namespace Go.Proofs.Ytbnifpfnjhdenaa.Q
open Go.RowKit Go.Proofs.YtbnifpfnjhdenaaW.PrintWords Go.Proofs.YtbnifpfnjhdenaaW.PrintLast Go.Proofs.YtbnifpfnjhdenaaW.PrintMore
open Go.Proofs.YtbnifpfnjhdenaaW.PrintLast renaming i64_w → jD, i32_w → jE
open Go.Proofs.YtbnifpfnjhdenaaW.PrintMore renaming max_three → jK, min_three → jL
open Go.Proofs.YtbnifpfnjhdenaaW.PrintWords renaming below_size → ja, below_step → ji, blk_drew → jl, blk_alloc → jn, blk_drewN → jp, blk_below → jr, blk_put → jt, below_drew1 → jG, below_set → jJ
open Go.Proofs.YtbnifpfnjhdenaaW.PrintWords.Kd renaming int → jb, R_mono → jc, R_below → jd, R_far → je, R_base → jf, R_elder' → jg, R_reads' → jh, R_lt → jj, R_new' → jk, R_lower → jm, R_slice → jo, R_drew → jq, R_types → js, R → ju, C_below → jv, R_after → jw, R_over' → jx, slice → jy, R_typed → jz, S_below → jA, S_mono → jB, S_far → jC, fresh' → jF, at_int → jH, S_elder' → jI, S_reads' → jM
def UpR (w w':World):Prop:=Below w.heap.size w w'
instance upR0 (w:World):Nonempty (UpR w w):=⟨Below.refl _ _⟩
instance upR1 (w w':World) (o:Obj) [h:Nonempty (UpR w w')]:Nonempty (UpR w (w'.alloc o)):=h.elim fun h=>⟨below_alloc h o⟩
instance upR2 (w w':World) [h:Nonempty (UpR w w')]:Nonempty (UpR w w'.drew):=h.elim fun h=>⟨below_drew h⟩
instance upR3 (w w':World) (n:Nat) [h:Nonempty (UpR w w')]:Nonempty (UpR w (w'.drewN n)):=h.elim fun h=>⟨pw_below_drewN h n⟩
instance upRs (w:World) (g i:Nat) (v:Value):Nonempty (UpR (w.setCells g i [v]) (w.setCell ⟨g,i,none⟩ v)):=⟨(Below.refl _ _:Below (w.setCells g i [v]).heap.size (w.setCells g i [v]) (w.setCells g i [v]))⟩
theorem bu_ {g:Nat} {o:Obj} {w w':World} (x:w.heap[g]? = some o) [h:Nonempty (UpR w w')]:w'.heap[g]? = some o:=h.elim fun h=>blk_below x h
theorem cu_ {α:Type} {d:Kd α} {A:Option Addr} {n:Nat} {xs:List α} {w w':World} (x:Kd.C d w A n xs) [h:Nonempty (UpR w w')]:Kd.C d w' A n xs:=h.elim fun h=>Kd.C_below x h
theorem ru_ {α:Type} {d:Kd α} {e:TypeId} {base:Nat} {ok:Nat→Prop} {v:Value} {xs:List α} {w w':World} (x:Kd.R d e w base ok v xs) [h:Nonempty (UpR w w')]:Kd.R d e w' base ok v xs:=h.elim fun h=>Kd.R_below x h
theorem su_ {α:Type} {d:Kd α} {e:TypeId} {base:Nat} {ok:Nat→Prop} {v:Value} {xs:List α} {w w':World} (x:Kd.S d e w base ok v xs) [h:Nonempty (UpR w w')]:Kd.S d e w' base ok v xs:=h.elim fun h=>Kd.S_below x h
theorem bc_ {w:World} {g:Nat} {t:TypeId} {cs:Array Value} (h:w.heap[g]? = some (.cells cs t (0,0))) (i:Nat) {v:Value} (e:cs[i]? = some v:=by rfl):w.cell? ⟨g,i,none⟩=some v:=(blk_cell h i).trans e
theorem am_ {p:Prop} (h:p):Aside0 p:=⟨h⟩
theorem hyw_ {p:Prop} (h:p:=by first|(rw[hy_];with_reducible exact H)|(have H2_:=(Option.bind_some _ _).symm.trans H;rw[hy_];with_reducible exact H2_)|(have H2_:=(Option.bind_some _ _).symm.trans H;with_reducible exact H2_)|with_reducible exact H|(rw[hy_];exact H)|exact H):p:=h
section
variable {P:Program} {ops:Array Oper} {Q:Exit→Act→World→Prop}
theorem gl_ {rest:List Oper} {oi:Oper} {a:Act} {w:World} (N:Option Tmp) {f:FuncId} {fn:Func} {xs:Array Operand} {ts:Array TypeId} (hf:P.funcs[f]? = some fn) (args:Array Value)
    (h:Calls P f args w fun e w'=>∃ v,e = .returned v∧wpList P ops Q rest (a.put N v) w') (hd:oi.dst=N:=by rfl) (hg:oi.guard=none:=by rfl) (hname:(fn.name == "runtime.NumGoroutine")=false:=by kernel_rfl) (hb:fn.body.isSome=true:=by rfl) (hop:oi.op = .call { callee:=.value (.func f),args:=xs,argTypes:=ts }:=by rfl) (hargs:xs.map a.eval=args:=by(try simp only[List.map_toArray,List.map_cons,List.map_nil]);first|done|rfl|(simp only[List.length_drop,List.length_take];rfl)):wpList P ops Q (oi ::rest) a w:=goesL_ N hd hg hf hname hb args hop hargs h
end
theorem sj1_ {α0:Type} {a0 b0:α0} (h:some a0=some b0):a0=b0:=by cases h;exact rfl
theorem sj2_ {α0 α1:Type} {a0 b0:α0} {a1 b1:α1} (h:some (a0,a1)=some (b0,b1)):a0=b0∧a1=b1:=by cases h;exact⟨rfl,rfl⟩
theorem sj3_ {α0 α1 α2:Type} {a0 b0:α0} {a1 b1:α1} {a2 b2:α2} (h:some (a0,a1,a2)=some (b0,b1,b2)):a0=b0∧a1=b1∧a2=b2:=by cases h;exact⟨rfl,rfl,rfl⟩
theorem sj4_ {α0 α1 α2 α3:Type} {a0 b0:α0} {a1 b1:α1} {a2 b2:α2} {a3 b3:α3} (h:some (a0,a1,a2,a3)=some (b0,b1,b2,b3)):a0=b0∧a1=b1∧a2=b2∧a3=b3:=by cases h;exact⟨rfl,rfl,rfl,rfl⟩
theorem sj9_ {α0 α1 α2 α3 α4 α5 α6 α7 α8:Type} {a0 b0:α0} {a1 b1:α1} {a2 b2:α2} {a3 b3:α3} {a4 b4:α4} {a5 b5:α5} {a6 b6:α6} {a7 b7:α7} {a8 b8:α8} (h:some (a0,a1,a2,a3,a4,a5,a6,a7,a8)=some (b0,b1,b2,b3,b4,b5,b6,b7,b8)):a0=b0∧a1=b1∧a2=b2∧a3=b3∧a4=b4∧a5=b5∧a6=b6∧a7=b7∧a8=b8:=by cases h;exact⟨rfl,rfl,rfl,rfl,rfl,rfl,rfl,rfl,rfl⟩
theorem ep_ {α:Type} [BEq α] [LawfulBEq α] {a b:α} (h:a=b):(a == b)=true∧(a != b)=false:=⟨beq_iff_eq.mpr h,bne_eq_false_iff_eq.mpr h⟩
theorem en_ {α:Type} [BEq α] [LawfulBEq α] {a b:α} (h:¬ a=b):(a == b)=false∧(a != b)=true:=⟨beq_eq_false_iff_ne.mpr h,bne_iff_ne.mpr h⟩
abbrev ne_ (k:Nat) (v:Value):Prop:=some k≠v.ownBlock
section
variable {P:Program} {ops:Array Oper} {o:Oper} {a:Act} {Q:Exit→Act→World→Prop} {rest:List Oper} {W:World}
theorem gc_ (f:FuncId) {xs:Array Operand} {ts:Array TypeId} (h:wpList P ops Q (o ::rest) a W) (_ho:o.op = .call { callee:=.value (.func f),args:=xs,argTypes:=ts }:=by with_reducible rfl):wpList P ops Q (o ::rest) a W:=h
theorem gb_ (b:Builtin) (xs:Array Operand) {ts:Array TypeId} (h:wpList P ops Q (o ::rest) a W) (_ho:o.op = .call { callee:=.builtin b,args:=xs,argTypes:=ts }:=by with_reducible rfl):wpList P ops Q (o ::rest) a W:=h
theorem gd_ (N:Tmp) (h:wpList P ops Q (o ::rest) a W) (_hN:o.dst=some N:=by with_reducible rfl):wpList P ops Q (o ::rest) a W:=h
theorem gs_ (t:TypeId) (p:Tmp) {v:Operand} (h:wpList P ops Q (o ::rest) a W) (_ho:o.op = .store t (.tmp p) v:=by with_reducible rfl):wpList P ops Q (o ::rest) a W:=h
theorem bx_ (N:Tmp) (cs:Array Value) (t:TypeId) (h:∀ g,g=W.heap.size→∀ w1,w1.heap[g]? = some (.cells cs t (0,0))→Below W.heap.size W w1→wpList P ops Q rest (a.put o.dst (.pointer (some ⟨g,0,none⟩))) w1) (hd:o.dst=some N:=by rfl) (hg:o.guard=none:=by rfl) (hr:(execOp a.eval o).run P W = .ok (.value (.pointer (some ⟨W.heap.size,0,none⟩))) (W.alloc (.cells cs t (0,0))):=by first|(go_simp;done)|(go_simp;rfl)):wpList P ops Q (o ::rest) a W:=box_event hg hd hr h
theorem sv_ (t:TypeId) (p:Tmp) (w1:World) {v:Operand} (h:∀ w',w'=w1→wpList P ops Q rest a w') (ho:o.op = .store t (.tmp p) v:=by rfl) (hg:o.guard=none:=by rfl) (hn:o.dst=none:=by rfl) (hr:(execOp a.eval o).run P W = .ok .skip w1:=by first|(go_simp;done)|(go_simp;rfl)):wpList P ops Q (o ::rest) a W:=store_event hg ho hn hr h
end
theorem od_ {p:Prop} [Decidable p] (h:decide p=true:=by first|(with_reducible assumption)|assumption):p:=of_decide_eq_true h
theorem ai_ {k:IntKind} {xs:List Int} {w:World} {A:Option Addr} {n:Nat} (h:(Kd.int k).C w A n xs) (i:Int) (p:0≤i:=by exact od_) (q:i<(n:Int):=by exact od_):∃ ad,A=some ad∧w.cell? (ad.add i.toNat)=some (.int k (rd xs i))∧(0≤i)=True∧(i<(n:Int))=True:=by obtain⟨ad,e,c⟩:=Kd.at_int h i p q;exact⟨ad,e,c,eq_true p,eq_true q⟩
section
open Bool renaming true → T1, false → F0
variable {P:Program} {md:Region.Mode} {ops:Array Oper} {Q:Exit→Act→World→Prop} {S:World→Prop} {ds:List Nat}
theorem pz_ (i:Nat) (N:Option Tmp) {oi:Oper} {v:Value} {fuel:Nat} {l:Array Bool} {a:Act} {w:World} {l':Array Bool} {a':Act} (h:wpAnyLast P md ops Q S ds fuel l' a' w) (_hl:l.setIfInBounds i true=l':=by(simp only[List.setIfInBounds_toArray,List.set_cons_zero,List.set_cons_succ];rfl)) (hi:ops[i]? = some oi:=by rfl) (hN:oi.dst=N:=by rfl) (hc:anyB md ops l l' i=true:=by exact any_of HT_.out (by kernel_rfl))
    (hQ:∀ c a w,Q (.panic c) (a.put oi.dst v) w→Q (.panic c) a w:=by exact fun _ _ _ h=>h) (hy:Yields P ops oi v a:=by(refine Or.inl ⟨by rfl,?_⟩;intro w';go_simp;with_reducible rfl)) (ha:a.put N v=a':=by(simp only[Act.put,List.setIfInBounds_toArray,List.set_cons_zero,List.set_cons_succ,i64_w,i32_w];rfl)):wpAnyLast P md ops Q S ds (fuel+1) l a w:=pure_ l' hi hN hc hQ hy ha h
theorem tz_ (i:Nat) (N:Option Tmp) {oi:Oper} {v:Value} {fuel:Nat} {l:Array Bool} {a:Act} {w:World} {l':Array Bool} {a':Act} (hS:S w) (h:wpAnyLast P md ops Q S ds fuel l' a' w) (_hl:l.setIfInBounds i true=l':=by(simp only[List.setIfInBounds_toArray,List.set_cons_zero,List.set_cons_succ];rfl)) (hi:ops[i]? = some oi:=by rfl) (hN:oi.dst=N:=by rfl) (hc:takeB md ops ds l l' i=true:=by exact take_ofW HT_.out HW_.out (by kernel_rfl))
    (hQ:∀ c a w,Q (.panic c) (a.put oi.dst v) w→Q (.panic c) a w:=by exact fun _ _ _ h=>h) (hy:YieldsIf P ops S oi v a:=by(refine Or.inl ⟨by rfl,?_⟩;intro w';go_simp;with_reducible rfl)) (ha:a.put N v=a':=by(simp only[Act.put,List.setIfInBounds_toArray,List.set_cons_zero,List.set_cons_succ,i64_w,i32_w];rfl)):wpAnyLast P md ops Q S ds (fuel+1) l a w:=take_ l' hi hN hc hQ hy hS ha h
theorem oz_ (i:Nat) (N:Option Tmp) {oi:Oper} {fuel:Nat} {l:Array Bool} {a:Act} {w:World} {l':Array Bool}
    (h:∀ K:Act→World→Prop,Shut (∀ a' w',S w'→(S w'→wpAnyLast P md ops Q S ds fuel l' a' w')→K a' w')→if Region.wanted oi (yielded ops a.tmps)=true then Oper.wp P oi a w K Q else K (a.put N undef) w) (_hl:l.setIfInBounds i true=l':=by(simp only[List.setIfInBounds_toArray,List.set_cons_zero,List.set_cons_succ];rfl)) (hi:ops[i]? = some oi:=by rfl) (hN:oi.dst=N:=by rfl) (hc:readyB md ops l l' i=true:=by exact one_of HT_.out (by kernel_rfl)) (hd:i ∉ ds:=by decide) :
    wpAnyLast P md ops Q S ds (fuel+1) l a w:=one_ l' hi hN hc hd h
theorem tz2_ (i:Nat) (N:Option Tmp) {oi:Oper} {v:Value} {fuel:Nat} {l:Array Bool} {a:Act} {w:World} {l':Array Bool} {a':Act} (hS:S w) (h:wpAnyLast P md ops Q S ds fuel l' a' w) (_hl:l.setIfInBounds i true=l':=by(simp only[List.setIfInBounds_toArray,List.set_cons_zero,List.set_cons_succ];rfl)) (hi:ops[i]? = some oi:=by rfl) (hN:oi.dst=N:=by rfl) (hc:takeB md ops ds l l' i=true:=by exact take_ofW HT_.out HW_.out (by kernel_rfl))
    (hQ:∀ c a w,Q (.panic c) (a.put oi.dst v) w→Q (.panic c) a w:=by exact fun _ _ _ h=>h) (hy:YieldsIf P ops S oi v a:=by(refine Or.inl ⟨by rfl,?_⟩;rintro w' ⟨s0,s1⟩;go_simp;with_reducible rfl)) (ha:a.put N v=a':=by(simp only[Act.put,List.setIfInBounds_toArray,List.set_cons_zero,List.set_cons_succ,i64_w,i32_w];rfl)):wpAnyLast P md ops Q S ds (fuel+1) l a w:=take_ l' hi hN hc hQ hy hS ha h
theorem tz3_ (i:Nat) (N:Option Tmp) {oi:Oper} {v:Value} {fuel:Nat} {l:Array Bool} {a:Act} {w:World} {l':Array Bool} {a':Act} (hS:S w) (h:wpAnyLast P md ops Q S ds fuel l' a' w) (_hl:l.setIfInBounds i true=l':=by(simp only[List.setIfInBounds_toArray,List.set_cons_zero,List.set_cons_succ];rfl)) (hi:ops[i]? = some oi:=by rfl) (hN:oi.dst=N:=by rfl) (hc:takeB md ops ds l l' i=true:=by exact take_ofW HT_.out HW_.out (by kernel_rfl))
    (hQ:∀ c a w,Q (.panic c) (a.put oi.dst v) w→Q (.panic c) a w:=by exact fun _ _ _ h=>h) (hy:YieldsIf P ops S oi v a:=by(refine Or.inl ⟨by rfl,?_⟩;rintro w' ⟨s0,s1,s2⟩;go_simp;with_reducible rfl)) (ha:a.put N v=a':=by(simp only[Act.put,List.setIfInBounds_toArray,List.set_cons_zero,List.set_cons_succ,i64_w,i32_w];rfl)):wpAnyLast P md ops Q S ds (fuel+1) l a w:=take_ l' hi hN hc hQ hy hS ha h
theorem tz5_ (i:Nat) (N:Option Tmp) {oi:Oper} {v:Value} {fuel:Nat} {l:Array Bool} {a:Act} {w:World} {l':Array Bool} {a':Act} (hS:S w) (h:wpAnyLast P md ops Q S ds fuel l' a' w) (_hl:l.setIfInBounds i true=l':=by(simp only[List.setIfInBounds_toArray,List.set_cons_zero,List.set_cons_succ];rfl)) (hi:ops[i]? = some oi:=by rfl) (hN:oi.dst=N:=by rfl) (hc:takeB md ops ds l l' i=true:=by exact take_ofW HT_.out HW_.out (by kernel_rfl))
    (hQ:∀ c a w,Q (.panic c) (a.put oi.dst v) w→Q (.panic c) a w:=by exact fun _ _ _ h=>h) (hy:YieldsIf P ops S oi v a:=by(refine Or.inl ⟨by rfl,?_⟩;rintro w' ⟨s0,s1,s2,s3,s4⟩;go_simp;with_reducible rfl)) (ha:a.put N v=a':=by(simp only[Act.put,List.setIfInBounds_toArray,List.set_cons_zero,List.set_cons_succ,i64_w,i32_w];rfl)):wpAnyLast P md ops Q S ds (fuel+1) l a w:=take_ l' hi hN hc hQ hy hS ha h
theorem tz6_ (i:Nat) (N:Option Tmp) {oi:Oper} {v:Value} {fuel:Nat} {l:Array Bool} {a:Act} {w:World} {l':Array Bool} {a':Act} (hS:S w) (h:wpAnyLast P md ops Q S ds fuel l' a' w) (_hl:l.setIfInBounds i true=l':=by(simp only[List.setIfInBounds_toArray,List.set_cons_zero,List.set_cons_succ];rfl)) (hi:ops[i]? = some oi:=by rfl) (hN:oi.dst=N:=by rfl) (hc:takeB md ops ds l l' i=true:=by exact take_ofW HT_.out HW_.out (by kernel_rfl))
    (hQ:∀ c a w,Q (.panic c) (a.put oi.dst v) w→Q (.panic c) a w:=by exact fun _ _ _ h=>h) (hy:YieldsIf P ops S oi v a:=by(refine Or.inl ⟨by rfl,?_⟩;rintro w' ⟨s0,s1,s2,s3,s4,s5⟩;go_simp;with_reducible rfl)) (ha:a.put N v=a':=by(simp only[Act.put,List.setIfInBounds_toArray,List.set_cons_zero,List.set_cons_succ,i64_w,i32_w];rfl)):wpAnyLast P md ops Q S ds (fuel+1) l a w:=take_ l' hi hN hc hQ hy hS ha h
theorem tz7_ (i:Nat) (N:Option Tmp) {oi:Oper} {v:Value} {fuel:Nat} {l:Array Bool} {a:Act} {w:World} {l':Array Bool} {a':Act} (hS:S w) (h:wpAnyLast P md ops Q S ds fuel l' a' w) (_hl:l.setIfInBounds i true=l':=by(simp only[List.setIfInBounds_toArray,List.set_cons_zero,List.set_cons_succ];rfl)) (hi:ops[i]? = some oi:=by rfl) (hN:oi.dst=N:=by rfl) (hc:takeB md ops ds l l' i=true:=by exact take_ofW HT_.out HW_.out (by kernel_rfl))
    (hQ:∀ c a w,Q (.panic c) (a.put oi.dst v) w→Q (.panic c) a w:=by exact fun _ _ _ h=>h) (hy:YieldsIf P ops S oi v a:=by(refine Or.inl ⟨by rfl,?_⟩;rintro w' ⟨s0,s1,s2,s3,s4,s5,s6⟩;go_simp;with_reducible rfl)) (ha:a.put N v=a':=by(simp only[Act.put,List.setIfInBounds_toArray,List.set_cons_zero,List.set_cons_succ,i64_w,i32_w];rfl)):wpAnyLast P md ops Q S ds (fuel+1) l a w:=take_ l' hi hN hc hQ hy hS ha h
theorem tz9_ (i:Nat) (N:Option Tmp) {oi:Oper} {v:Value} {fuel:Nat} {l:Array Bool} {a:Act} {w:World} {l':Array Bool} {a':Act} (hS:S w) (h:wpAnyLast P md ops Q S ds fuel l' a' w) (_hl:l.setIfInBounds i true=l':=by(simp only[List.setIfInBounds_toArray,List.set_cons_zero,List.set_cons_succ];rfl)) (hi:ops[i]? = some oi:=by rfl) (hN:oi.dst=N:=by rfl) (hc:takeB md ops ds l l' i=true:=by exact take_ofW HT_.out HW_.out (by kernel_rfl))
    (hQ:∀ c a w,Q (.panic c) (a.put oi.dst v) w→Q (.panic c) a w:=by exact fun _ _ _ h=>h) (hy:YieldsIf P ops S oi v a:=by(refine Or.inl ⟨by rfl,?_⟩;rintro w' ⟨s0,s1,s2,s3,s4,s5,s6,s7,s8⟩;go_simp;with_reducible rfl)) (ha:a.put N v=a':=by(simp only[Act.put,List.setIfInBounds_toArray,List.set_cons_zero,List.set_cons_succ,i64_w,i32_w];rfl)):wpAnyLast P md ops Q S ds (fuel+1) l a w:=take_ l' hi hN hc hQ hy hS ha h
end
theorem ifn_ {p:Prop} [Decidable p] {α:Type} {a:Option α} {r:α} (h:(if p then a else none)=some r):p∧a=some r:=by by_cases c:p;(rw[if_pos c] at h;exact⟨c,h⟩);(rw[if_neg c] at h;exact absurd h (by simp))
theorem ifd_ {p:Prop} [Decidable p] {α:Type} {a:Option α} {r:α} (h:(if p then a else none)=some r):decide p=true∧a=some r:=⟨decide_eq_true (ifn_ h).1,(ifn_ h).2⟩
theorem ifa_ {p:Prop} [Decidable p] {α:Type} {a:Option α} {r:α} (h:(if p then a else none)=some r):Aside0 p∧a=some r:=⟨⟨(ifn_ h).1⟩,(ifn_ h).2⟩
theorem P2_ {p0 p1:Prop} (h0:p0) (h1:p1):Aside0 p0∧Aside0 p1:=⟨⟨h0⟩,⟨h1⟩⟩
theorem P3_ {p0 p1 p2:Prop} (h0:p0) (h1:p1) (h2:p2):Aside0 p0∧Aside0 p1∧Aside0 p2:=⟨⟨h0⟩,⟨h1⟩,⟨h2⟩⟩
theorem P4_ {p0 p1 p2 p3:Prop} (h0:p0) (h1:p1) (h2:p2) (h3:p3):Aside0 p0∧Aside0 p1∧Aside0 p2∧Aside0 p3:=⟨⟨h0⟩,⟨h1⟩,⟨h2⟩,⟨h3⟩⟩
theorem P5_ {p0 p1 p2 p3 p4:Prop} (h0:p0) (h1:p1) (h2:p2) (h3:p3) (h4:p4):Aside0 p0∧Aside0 p1∧Aside0 p2∧Aside0 p3∧Aside0 p4:=⟨⟨h0⟩,⟨h1⟩,⟨h2⟩,⟨h3⟩,⟨h4⟩⟩
theorem P6_ {p0 p1 p2 p3 p4 p5:Prop} (h0:p0) (h1:p1) (h2:p2) (h3:p3) (h4:p4) (h5:p5):Aside0 p0∧Aside0 p1∧Aside0 p2∧Aside0 p3∧Aside0 p4∧Aside0 p5:=⟨⟨h0⟩,⟨h1⟩,⟨h2⟩,⟨h3⟩,⟨h4⟩,⟨h5⟩⟩
theorem P7_ {p0 p1 p2 p3 p4 p5 p6:Prop} (h0:p0) (h1:p1) (h2:p2) (h3:p3) (h4:p4) (h5:p5) (h6:p6):Aside0 p0∧Aside0 p1∧Aside0 p2∧Aside0 p3∧Aside0 p4∧Aside0 p5∧Aside0 p6:=⟨⟨h0⟩,⟨h1⟩,⟨h2⟩,⟨h3⟩,⟨h4⟩,⟨h5⟩,⟨h6⟩⟩
theorem P8_ {p0 p1 p2 p3 p4 p5 p6 p7:Prop} (h0:p0) (h1:p1) (h2:p2) (h3:p3) (h4:p4) (h5:p5) (h6:p6) (h7:p7):Aside0 p0∧Aside0 p1∧Aside0 p2∧Aside0 p3∧Aside0 p4∧Aside0 p5∧Aside0 p6∧Aside0 p7:=⟨⟨h0⟩,⟨h1⟩,⟨h2⟩,⟨h3⟩,⟨h4⟩,⟨h5⟩,⟨h6⟩,⟨h7⟩⟩
theorem P9_ {p0 p1 p2 p3 p4 p5 p6 p7 p8:Prop} (h0:p0) (h1:p1) (h2:p2) (h3:p3) (h4:p4) (h5:p5) (h6:p6) (h7:p7) (h8:p8):Aside0 p0∧Aside0 p1∧Aside0 p2∧Aside0 p3∧Aside0 p4∧Aside0 p5∧Aside0 p6∧Aside0 p7∧Aside0 p8:=⟨⟨h0⟩,⟨h1⟩,⟨h2⟩,⟨h3⟩,⟨h4⟩,⟨h5⟩,⟨h6⟩,⟨h7⟩,⟨h8⟩⟩
theorem P10_ {p0 p1 p2 p3 p4 p5 p6 p7 p8 p9:Prop} (h0:p0) (h1:p1) (h2:p2) (h3:p3) (h4:p4) (h5:p5) (h6:p6) (h7:p7) (h8:p8) (h9:p9):Aside0 p0∧Aside0 p1∧Aside0 p2∧Aside0 p3∧Aside0 p4∧Aside0 p5∧Aside0 p6∧Aside0 p7∧Aside0 p8∧Aside0 p9:=⟨⟨h0⟩,⟨h1⟩,⟨h2⟩,⟨h3⟩,⟨h4⟩,⟨h5⟩,⟨h6⟩,⟨h7⟩,⟨h8⟩,⟨h9⟩⟩
theorem P11_ {p0 p1 p2 p3 p4 p5 p6 p7 p8 p9 p10:Prop} (h0:p0) (h1:p1) (h2:p2) (h3:p3) (h4:p4) (h5:p5) (h6:p6) (h7:p7) (h8:p8) (h9:p9) (h10:p10):Aside0 p0∧Aside0 p1∧Aside0 p2∧Aside0 p3∧Aside0 p4∧Aside0 p5∧Aside0 p6∧Aside0 p7∧Aside0 p8∧Aside0 p9∧Aside0 p10:=⟨⟨h0⟩,⟨h1⟩,⟨h2⟩,⟨h3⟩,⟨h4⟩,⟨h5⟩,⟨h6⟩,⟨h7⟩,⟨h8⟩,⟨h9⟩,⟨h10⟩⟩
theorem P12_ {p0 p1 p2 p3 p4 p5 p6 p7 p8 p9 p10 p11:Prop} (h0:p0) (h1:p1) (h2:p2) (h3:p3) (h4:p4) (h5:p5) (h6:p6) (h7:p7) (h8:p8) (h9:p9) (h10:p10) (h11:p11):Aside0 p0∧Aside0 p1∧Aside0 p2∧Aside0 p3∧Aside0 p4∧Aside0 p5∧Aside0 p6∧Aside0 p7∧Aside0 p8∧Aside0 p9∧Aside0 p10∧Aside0 p11:=⟨⟨h0⟩,⟨h1⟩,⟨h2⟩,⟨h3⟩,⟨h4⟩,⟨h5⟩,⟨h6⟩,⟨h7⟩,⟨h8⟩,⟨h9⟩,⟨h10⟩,⟨h11⟩⟩
theorem P13_ {p0 p1 p2 p3 p4 p5 p6 p7 p8 p9 p10 p11 p12:Prop} (h0:p0) (h1:p1) (h2:p2) (h3:p3) (h4:p4) (h5:p5) (h6:p6) (h7:p7) (h8:p8) (h9:p9) (h10:p10) (h11:p11) (h12:p12):Aside0 p0∧Aside0 p1∧Aside0 p2∧Aside0 p3∧Aside0 p4∧Aside0 p5∧Aside0 p6∧Aside0 p7∧Aside0 p8∧Aside0 p9∧Aside0 p10∧Aside0 p11∧Aside0 p12:=⟨⟨h0⟩,⟨h1⟩,⟨h2⟩,⟨h3⟩,⟨h4⟩,⟨h5⟩,⟨h6⟩,⟨h7⟩,⟨h8⟩,⟨h9⟩,⟨h10⟩,⟨h11⟩,⟨h12⟩⟩
theorem P14_ {p0 p1 p2 p3 p4 p5 p6 p7 p8 p9 p10 p11 p12 p13:Prop} (h0:p0) (h1:p1) (h2:p2) (h3:p3) (h4:p4) (h5:p5) (h6:p6) (h7:p7) (h8:p8) (h9:p9) (h10:p10) (h11:p11) (h12:p12) (h13:p13):Aside0 p0∧Aside0 p1∧Aside0 p2∧Aside0 p3∧Aside0 p4∧Aside0 p5∧Aside0 p6∧Aside0 p7∧Aside0 p8∧Aside0 p9∧Aside0 p10∧Aside0 p11∧Aside0 p12∧Aside0 p13:=⟨⟨h0⟩,⟨h1⟩,⟨h2⟩,⟨h3⟩,⟨h4⟩,⟨h5⟩,⟨h6⟩,⟨h7⟩,⟨h8⟩,⟨h9⟩,⟨h10⟩,⟨h11⟩,⟨h12⟩,⟨h13⟩⟩
theorem P15_ {p0 p1 p2 p3 p4 p5 p6 p7 p8 p9 p10 p11 p12 p13 p14:Prop} (h0:p0) (h1:p1) (h2:p2) (h3:p3) (h4:p4) (h5:p5) (h6:p6) (h7:p7) (h8:p8) (h9:p9) (h10:p10) (h11:p11) (h12:p12) (h13:p13) (h14:p14):Aside0 p0∧Aside0 p1∧Aside0 p2∧Aside0 p3∧Aside0 p4∧Aside0 p5∧Aside0 p6∧Aside0 p7∧Aside0 p8∧Aside0 p9∧Aside0 p10∧Aside0 p11∧Aside0 p12∧Aside0 p13∧Aside0 p14:=⟨⟨h0⟩,⟨h1⟩,⟨h2⟩,⟨h3⟩,⟨h4⟩,⟨h5⟩,⟨h6⟩,⟨h7⟩,⟨h8⟩,⟨h9⟩,⟨h10⟩,⟨h11⟩,⟨h12⟩,⟨h13⟩,⟨h14⟩⟩
theorem P17_ {p0 p1 p2 p3 p4 p5 p6 p7 p8 p9 p10 p11 p12 p13 p14 p15 p16:Prop} (h0:p0) (h1:p1) (h2:p2) (h3:p3) (h4:p4) (h5:p5) (h6:p6) (h7:p7) (h8:p8) (h9:p9) (h10:p10) (h11:p11) (h12:p12) (h13:p13) (h14:p14) (h15:p15) (h16:p16):Aside0 p0∧Aside0 p1∧Aside0 p2∧Aside0 p3∧Aside0 p4∧Aside0 p5∧Aside0 p6∧Aside0 p7∧Aside0 p8∧Aside0 p9∧Aside0 p10∧Aside0 p11∧Aside0 p12∧Aside0 p13∧Aside0 p14∧Aside0 p15∧Aside0 p16:=⟨⟨h0⟩,⟨h1⟩,⟨h2⟩,⟨h3⟩,⟨h4⟩,⟨h5⟩,⟨h6⟩,⟨h7⟩,⟨h8⟩,⟨h9⟩,⟨h10⟩,⟨h11⟩,⟨h12⟩,⟨h13⟩,⟨h14⟩,⟨h15⟩,⟨h16⟩⟩
theorem P18_ {p0 p1 p2 p3 p4 p5 p6 p7 p8 p9 p10 p11 p12 p13 p14 p15 p16 p17:Prop} (h0:p0) (h1:p1) (h2:p2) (h3:p3) (h4:p4) (h5:p5) (h6:p6) (h7:p7) (h8:p8) (h9:p9) (h10:p10) (h11:p11) (h12:p12) (h13:p13) (h14:p14) (h15:p15) (h16:p16) (h17:p17):Aside0 p0∧Aside0 p1∧Aside0 p2∧Aside0 p3∧Aside0 p4∧Aside0 p5∧Aside0 p6∧Aside0 p7∧Aside0 p8∧Aside0 p9∧Aside0 p10∧Aside0 p11∧Aside0 p12∧Aside0 p13∧Aside0 p14∧Aside0 p15∧Aside0 p16∧Aside0 p17:=⟨⟨h0⟩,⟨h1⟩,⟨h2⟩,⟨h3⟩,⟨h4⟩,⟨h5⟩,⟨h6⟩,⟨h7⟩,⟨h8⟩,⟨h9⟩,⟨h10⟩,⟨h11⟩,⟨h12⟩,⟨h13⟩,⟨h14⟩,⟨h15⟩,⟨h16⟩,⟨h17⟩⟩
theorem cz2_ {w:World} {g:Nat} {v0 v1:Value} {t:TypeId} (h:w.heap[g]? = some (.cells #[v0,v1] t (0,0))):w.cell? ⟨g,0,none⟩=some v0∧w.cell? ⟨g,1,none⟩=some v1∧w.frozen? ⟨g,0,none⟩=false∧w.frozen? ⟨g,1,none⟩=false:=⟨(blk_cell h 0).trans rfl,(blk_cell h 1).trans rfl,blk_frozen h 0,blk_frozen h 1⟩
theorem cz3_ {w:World} {g:Nat} {v0 v1 v2:Value} {t:TypeId} (h:w.heap[g]? = some (.cells #[v0,v1,v2] t (0,0))):w.cell? ⟨g,0,none⟩=some v0∧w.cell? ⟨g,1,none⟩=some v1∧w.cell? ⟨g,2,none⟩=some v2∧w.frozen? ⟨g,0,none⟩=false∧w.frozen? ⟨g,1,none⟩=false∧w.frozen? ⟨g,2,none⟩=false:=⟨(blk_cell h 0).trans rfl,(blk_cell h 1).trans rfl,(blk_cell h 2).trans rfl,blk_frozen h 0,blk_frozen h 1,blk_frozen h 2⟩
theorem cz5_ {w:World} {g:Nat} {v0 v1 v2 v3 v4:Value} {t:TypeId} (h:w.heap[g]? = some (.cells #[v0,v1,v2,v3,v4] t (0,0))):w.cell? ⟨g,0,none⟩=some v0∧w.cell? ⟨g,1,none⟩=some v1∧w.cell? ⟨g,2,none⟩=some v2∧w.cell? ⟨g,3,none⟩=some v3∧w.cell? ⟨g,4,none⟩=some v4∧w.frozen? ⟨g,0,none⟩=false∧w.frozen? ⟨g,1,none⟩=false∧w.frozen? ⟨g,2,none⟩=false∧w.frozen? ⟨g,3,none⟩=false∧w.frozen? ⟨g,4,none⟩=false:=⟨(blk_cell h 0).trans rfl,(blk_cell h 1).trans rfl,(blk_cell h 2).trans rfl,(blk_cell h 3).trans rfl,(blk_cell h 4).trans rfl,blk_frozen h 0,blk_frozen h 1,blk_frozen h 2,blk_frozen h 3,blk_frozen h 4⟩
theorem T0_ {p:Prop} (h:p:=by rfl):p:=h
theorem T1_ {p:Prop} (h:p:=by simp):p:=h
theorem T2_ {p:Prop} (h:p:=by omega):p:=h
theorem T3_ {p:Prop} (h:p:=by decide):p:=h
theorem T4_ {p:Prop} (h:p:=by kernel_rfl):p:=h
theorem T5_ {p:Prop} (h:p:=by rw[e_];rfl):p:=h
theorem T6_ {p:Prop} (h:p:=by simp[Value.ownBlock]):p:=h
theorem T7_ {p:Prop} (h:p:=by have:=HK1.out;omega):p:=h
theorem T8_ {p:Prop} (h:p:=by first|omega|exact Nat.le_refl _):p:=h
theorem T9_ {p:Prop} (h:p:=by first|rfl|(simp;done)|(simp[*];done)):p:=h
theorem T10_ {p:Prop} (h:p:=by repeat(first|exact Drawn0.refl _|apply Drawn0.step)):p:=h
theorem T11_ {p:Prop} (h:p:=by first|exact q450|exact od_|(have e_:=(jM HO_19.out).1;omega)):p:=h
theorem T12_ {p:Prop} (h:p:=by first|exact q239|exact od_|(have e_:=(jM HO_206002.out).1;omega)):p:=h
theorem T13_ {p:Prop} (h:p:=by have:=HJ4.out;have:=HK2.out;have:=HK3.out;first|omega|exact Nat.le_refl _):p:=h
theorem T14_ {p:Prop} (h:p:=by first|rfl|(simp[errW_none,errW_some] <;> rfl)|(simp[*,errW_none,errW_some] <;> rfl)):p:=h
theorem T15_ {p:Prop} (h:p:=by simp only[putAll,Act.put,List.setIfInBounds_toArray,List.set_cons_zero,List.set_cons_succ]):p:=h
theorem T16_ {p:Prop} (h:p:=by repeat(first|(with_reducible first|exact HB.out|apply below_alloc|apply pw_below_drewN|apply jG)|exact HB.out)):p:=h
theorem T17_ {p:Prop} (h:p:=by(try simp only[List.map_toArray,List.map_cons,List.map_nil]);first|done|rfl|(simp only[List.length_drop,List.length_take];rfl)):p:=h
theorem T18_ {p:Prop} (h:p:=by first|exact Kd.R_nil _ _ _ _ _|exact Kd.N_nil _ _ _ _ _|exact Kd.V_nil _ _ _ _ _|exact Kd.Q_nil _ _ _ _ _|exact Kd.S_nil _ _ _ _ _):p:=h
theorem T19_ {p:Prop} (h:p:=by first|exact Kd.S_nil _ _ _ _ _|exact Kd.N_nil _ _ _ _ _|exact Kd.V_nil _ _ _ _ _|exact Kd.Q_nil _ _ _ _ _|exact Kd.R_nil _ _ _ _ _):p:=h
theorem T20_ {p:Prop} (h:p:=by repeat(first|(with_reducible first|exact HB.out|apply below_alloc|apply pw_below_drewN|apply jG|refine jJ ?_ GE116.out)|exact HB.out)):p:=h
theorem T21_ {p:Prop} (h:p:=by repeat(first|(with_reducible first|exact HB.out|apply below_alloc|apply pw_below_drewN|apply jG|refine jJ ?_ GE152.out)|exact HB.out)):p:=h
theorem T22_ {p:Prop} (h:p:=by repeat(first|(with_reducible first|exact HB.out|apply below_alloc|apply pw_below_drewN|apply jG|refine jJ ?_ GE155.out)|exact HB.out)):p:=h
theorem T23_ {p:Prop} (h:p:=by repeat(first|(with_reducible first|exact HB.out|apply below_alloc|apply pw_below_drewN|apply jG|refine jJ ?_ GE205.out)|exact HB.out)):p:=h
theorem T24_ {p:Prop} (h:p:=by repeat(first|(with_reducible first|exact HB.out|apply below_alloc|apply pw_below_drewN|apply jG|refine jJ ?_ GE280.out)|exact HB.out)):p:=h
theorem T25_ {p:Prop} (h:p:=by repeat(first|(with_reducible first|exact HB.out|apply below_alloc|apply pw_below_drewN|apply jG|refine jJ ?_ GE322.out)|exact HB.out)):p:=h
theorem T26_ {p:Prop} (h:p:=by repeat(first|(with_reducible first|exact HB.out|apply below_alloc|apply pw_below_drewN|apply jG|refine jJ ?_ GE409.out)|exact HB.out)):p:=h
theorem T27_ {p:Prop} (h:p:=by first|rfl|(simp[errW_none,errW_some] <;> rfl)|(simp only[←hji4];first|rfl|(simp[errW_none,errW_some] <;> rfl))|(simp[*,errW_none,errW_some] <;> rfl)):p:=h
theorem T28_ {p:Prop} (h:p:=by repeat(first|(with_reducible first|exact HB.out|apply below_alloc|apply pw_below_drewN|apply jG|refine jJ ?_ GE116.out|refine jJ ?_ GE135.out)|exact HB.out)):p:=h
theorem T29_ {p:Prop} (h:p:=by repeat(first|(with_reducible first|exact HB.out|apply below_alloc|apply pw_below_drewN|apply jG|refine jJ ?_ GE152.out|refine jJ ?_ GE153.out)|exact HB.out)):p:=h
theorem T30_ {p:Prop} (h:p:=by repeat(first|(with_reducible first|exact HB.out|apply below_alloc|apply pw_below_drewN|apply jG|refine jJ ?_ GE155.out|refine jJ ?_ GE156.out)|exact HB.out)):p:=h
theorem T31_ {p:Prop} (h:p:=by repeat(first|(with_reducible first|exact HB.out|apply below_alloc|apply pw_below_drewN|apply jG|refine jJ ?_ GE155.out|refine jJ ?_ GE156.out|refine jJ ?_ GE162.out)|exact HB.out)):p:=h
end Go.Proofs.Ytbnifpfnjhdenaa.Q
end
section
namespace Go.Proofs.Ytbnifpfnjhdenaa.Q
open Go.RowKit Go.Proofs.YtbnifpfnjhdenaaW.PrintWords Go.Proofs.YtbnifpfnjhdenaaW.PrintLast Go.Proofs.YtbnifpfnjhdenaaW.PrintMore
open Go.Proofs.YtbnifpfnjhdenaaW.PrintLast renaming i64_w → jD, i32_w → jE
open Go.Proofs.YtbnifpfnjhdenaaW.PrintMore renaming max_three → jK, min_three → jL
open Go.Proofs.YtbnifpfnjhdenaaW.PrintWords renaming below_size → ja, below_step → ji, blk_drew → jl, blk_alloc → jn, blk_drewN → jp, blk_below → jr, blk_put → jt, below_drew1 → jG, below_set → jJ
open Go.Proofs.YtbnifpfnjhdenaaW.PrintWords.Kd renaming int → jb, R_mono → jc, R_below → jd, R_far → je, R_base → jf, R_elder' → jg, R_reads' → jh, R_lt → jj, R_new' → jk, R_lower → jm, R_slice → jo, R_drew → jq, R_types → js, R → ju, C_below → jv, R_after → jw, R_over' → jx, slice → jy, R_typed → jz, S_below → jA, S_mono → jB, S_far → jC, fresh' → jF, at_int → jH, S_elder' → jI, S_reads' → jM
attribute [local go_sem] max2_int min2_int max_two min_two jK jL max_four min_four
set_option linter.unusedVariables false
set_option linter.unusedSimpArgs false
def errW:Option Int→Value
 | none=>.nilIface
 | some c=>.iface 0 (.int .i64 c)
theorem errW_none:errW none = .nilIface:=rfl
theorem errW_some (c:Int):errW (some c) = .iface 0 (.int .i64 c):=rfl
theorem info3:(Try.prog.info? 3).map (fun i=>(i.zero,i.size,i.bytes))=some (some (.int .i64 0),1,8):=by kernel_rfl
theorem info4:(Try.prog.info? 4).map (fun i=>(i.zero,i.size,i.bytes))=some (some (.bool false),1,1):=by kernel_rfl
theorem info5:(Try.prog.info? 5).map (fun i=>(i.zero,i.size,i.bytes))=some (some (.int .u8 0),1,1):=by kernel_rfl
theorem info9:(Try.prog.info? 9).map (fun i=>(i.zero,i.size,i.bytes))=some (some (.string ⟨#[]⟩),1,16):=by kernel_rfl
theorem info23:(Try.prog.info? 23).map (fun i=>(i.zero,i.size,i.bytes))=some (some (.slice none 0 0),1,24):=by kernel_rfl
theorem info24:(Try.prog.info? 24).map (fun i=>(i.zero,i.size,i.bytes))=some (some (.slice none 0 0),1,24):=by kernel_rfl
def rd_L2 (xs:List (List Int)) (i:Int):(List Int):=xs.getD i.toNat ([]:List Int)
theorem at_L2 {w:World} {A:Option Addr} {n:Nat} {xs:List (List Int)} (h:Kd.C (jy 5 (jb .u8)) w A n xs) (i:Int) (h0:0≤i) (h1:i<n):∃ ad A0 c0,A=some ad∧w.cell? (ad.add i.toNat)=some (.slice A0 (rd_L2 xs i).length c0)∧(rd_L2 xs i).length≤c0∧(jb .u8).C w A0 (rd_L2 xs i).length (rd_L2 xs i):=by
 obtain⟨ad,c,e,_,hK,hc0⟩:=Kd.C_get h ([]:List Int) i h0 h1
 have hc:∀ j u,c[j]? = some u→w.cell? (ad.add (i.toNat*1+j))=some u:=hc0
 obtain⟨A0,c0,rfl,l0,g0⟩:=hK
 exact⟨ad,A0,c0,e,(by have hq:=hc 0 _ rfl;rwa [Nat.mul_one,Nat.add_zero] at hq),l0,g0⟩
def rd_L3 (xs:List (List Int)) (i:Int):(List Int):=xs.getD i.toNat ([]:List Int)
theorem at_L3 {w:World} {A:Option Addr} {n:Nat} {xs:List (List Int)} (h:Kd.C (jy 3 (jb .i64)) w A n xs) (i:Int) (h0:0≤i) (h1:i<n):∃ ad A0 c0,A=some ad∧w.cell? (ad.add i.toNat)=some (.slice A0 (rd_L3 xs i).length c0)∧(rd_L3 xs i).length≤c0∧(jb .i64).C w A0 (rd_L3 xs i).length (rd_L3 xs i):=by
 obtain⟨ad,c,e,_,hK,hc0⟩:=Kd.C_get h ([]:List Int) i h0 h1
 have hc:∀ j u,c[j]? = some u→w.cell? (ad.add (i.toNat*1+j))=some u:=hc0
 obtain⟨A0,c0,rfl,l0,g0⟩:=hK
 exact⟨ad,A0,c0,e,(by have hq:=hc 0 _ rfl;rwa [Nat.mul_one,Nat.add_zero] at hq),l0,g0⟩
end Go.Proofs.Ytbnifpfnjhdenaa.Q
end
section
set_option linter.unusedVariables false
set_option linter.unusedSimpArgs false
namespace Go.Proofs.Ytbnifpfnjhdenaa.Pl
open Go.RowKit Go.Proofs.YtbnifpfnjhdenaaW.PrintWords Go.Proofs.YtbnifpfnjhdenaaW.PrintLast
theorem w64 {x:Int} (h0: -9223372036854775808≤x) (h1:x≤9223372036854775807):wrap64 x=x:=by
 unfold wrap64
 omega
theorem w64n {x:Nat} (h1:x≤9223372036854775807):wrap64 (x:Int)=x:=w64 (by omega) (by omega)
section
variable {α β:Type} {g f:Nat→Option α} {r:α}
theorem ev_pos {c:Prop} [Decidable c] {a b:Nat→Option α} (h:c) (k:Ev a r):Ev (fun n=>if c then a n else b n) r :=
 Ev.congr (fun _=>if_pos h) k
theorem ev_neg {c:Prop} [Decidable c] {a b:Nat→Option α} (h:¬ c) (k:Ev b r):Ev (fun n=>if c then a n else b n) r :=
 Ev.congr (fun _=>if_neg h) k
theorem ev_some {x r:α} (h:x=r):Ev (fun _=>some x) r:=h ▸ Ev.now x
theorem ev_bind {a:α} {s:β} {g:Nat→Option α} {f:Nat→α→Option β} (h:Ev g a) (k:Ev (fun n=>f n a) s):Ev (fun n=>(g n).bind (f n)) s:=Ev.bind h k
theorem ev_bind0 {a:α} {s:β} {g:Option α} {f:Nat→α→Option β} (h:g=some a) (k:Ev (fun n=>f n a) s):Ev (fun n=>g.bind (f n)) s:=by
 subst h
 exact Ev.congr (fun _=>rfl) k
theorem ev_to {g:Nat→Option α} {r s:α} (h:Ev g r) (e:r=s):Ev g s:=e ▸ h
end
theorem rd_nat (xs:List Int) (i:Nat):rd xs (i:Int)=xs.getD i 0:=by simp[rd]
theorem rd_lt (xs:List Int) (i:Nat) (h:i<xs.length):rd xs (i:Int)=xs[i]:=by simp[rd,h]
theorem rd_mem (xs:List Int) (i:Int) (h:i.toNat<xs.length):rd xs i ∈ xs:=by
 unfold rd
 rw[List.getD_eq_getElem?_getD,List.getElem?_eq_getElem h]
 exact List.getElem_mem h
theorem drop_rd (xs:List Int) (i:Nat) (h:i<xs.length):xs.drop i=rd xs (i:Int) ::xs.drop (i+1):=by
 rw[rd_lt xs i h]
 exact List.drop_eq_getElem_cons h
theorem take_rd (xs:List Int) (i:Nat) (h:i<xs.length):xs.take (i+1)=xs.take i ++ [rd xs (i:Int)]:=by
 rw[rd_lt xs i h,List.take_succ_eq_append_getElem h]
theorem wf_u8 {x:Int} (h:(Lit.int .u8 x).wf=true):0≤x∧x≤255:=by
 have a:IntKind.u8.min=0:=by rfl
 have b:IntKind.u8.max=255:=by rfl
 simp[Lit.wf,a,b] at h
 omega
end Go.Proofs.Ytbnifpfnjhdenaa.Pl
end
