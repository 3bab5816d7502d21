/- Functions of the program as plain Lean functions, each with a proof that its call comes to just these answers, and the row that joins them to the given statement; no condition beside the statement's own. Written for this claim by this session's programs (pf.py, pack.py) over the kit's print. -/
import Derived.Test.YtbnifpfnjhdenaaZRiffleTurns0
import Derived.Test.YtbnifpfnjhdenaaZRiffleTurns1
import Derived.Test.YtbnifpfnjhdenaaZRiffleTurns2
import Derived.Test.YtbnifpfnjhdenaaZRiffleTurns3
import Derived.Test.YtbnifpfnjhdenaaZRiffleTurns4
import Derived.Test.YtbnifpfnjhdenaaZRiffleTurns5
import Derived.Test.YtbnifpfnjhdenaaZRiffleTurns6
section
namespace Go.Proofs.Ytbnifpfnjhdenaa.Q
open Go.RowKit Go.Proofs.YtbnifpfnjhdenaaW.PrintWords Go.Proofs.YtbnifpfnjhdenaaW.PrintLast Go.Proofs.YtbnifpfnjhdenaaW.PrintMore
open Go.Proofs.YtbnifpfnjhdenaaW.PrintLast renaming i64_w → jF, i32_w → jG, with_tabW → Jf
open Go.Proofs.YtbnifpfnjhdenaaW.PrintMore renaming max_three → jM, min_three → jN, max2_int → jP, min2_int → jQ, max_four → jR, min_four → jS, max_two → jY, min_two → jZ
open Go.Proofs.YtbnifpfnjhdenaaW.PrintWords renaming below_size → jc, below_step → jk, blk_drew → jl, blk_alloc → jm, blk_drewN → jn, blk_below → jo, blk_put → ju, gate_guard → jI, below_drew1 → jJ, below_set → jO, blk_far → jU, blk_lt → jV, add_plain → jW, pw_below_drewN → Je, blk_grown → Jg
open Go.Proofs.YtbnifpfnjhdenaaW.PrintWords.Kd renaming R_mono → ja, int → jb, R_far → jd, R_below → je, R_base → jf, R_elder' → jg, R_lt → jh, R_reads' → ji, R_new' → jj, R_slice → jp, R_lower → jq, R_types → jr, R_drew → js, R → jt, R_after → jv, C_below → jw, R_over' → jx, at_int → jy, R_typed → jz, fresh' → jA, slice → jB, S_mono → jC, S_below → jD, S_far → jE, R_celln → jH, S_reads' → jK, S_elder' → jL, S_slice → jT, C → jX, S_drew → Ja, S_types → Jb, S_typed → Jc, R_append → Jd
attribute [local go_sem] jP jQ jY jZ jM jN jR jS
set_option linter.unusedVariables false
set_option linter.unusedSimpArgs false
mutual
def churnref13_Turn.j0:Nat→List Int→Int→Int→List Int→Bool→Option (List Int×Int)
 | 0,_,_,_,_,_=>none
 | k+1,x0,x1,x2,x3,x41=>if x41=true then(some (([]:List Int),2)) else((churnref11_Check.f k x3).bind fun t861=>(if t861=0 then((churnref13_laid.f k x0 x1 x2).bind fun bt862=>(if bt862.2.2.2.2=true then(if 0≤x1 then(if(x1:Int).toNat≤35184372088832 then(churnref13_Turn.l0 k x0 x1 x2 x3 (([]:List Int)) (([]:List Int)) 0 bt862.1 bt862.2.1 bt862.2.2.1 ([]:List (List Int))) else(none)) else(none)) else(some (([]:List Int),3)))) else(some (([]:List Int),t861))))
def churnref13_Turn.l0:Nat→List Int→Int→Int→List Int→List Int→List Int→Int→List Int→List Int→List Int→List (List Int)→Option (List Int×Int)
 | 0,_,_,_,_,_,_,_,_,_,_,_=>none
 | k+1,x0,x1,x2,x3,x13,x14,x15,x876000,x876001,x876002,x876003=>if x15<x2 then(churnref13_Turn.l1 k x0 x1 x2 x3 x13 x14 x15 (x13.length:Int) 0 x876000 x876001 x876002 x876003) else(if 0≤x1 then(if(x1:Int).toNat≤35184372088832 then(if 0≤x2 then(if(x2:Int).toNat≤11728124029610 then(churnref13_Turn.l2 k x0 x1 x2 x3 x13 x14 (([]:List Int)) (List.replicate (x2:Int).toNat []) 0 x876000 x876001 x876002 x876003) else(none)) else(none)) else(none)) else(none))
def churnref13_Turn.l1:Nat→List Int→Int→Int→List Int→List Int→List Int→Int→Int→Int→List Int→List Int→List Int→List (List Int)→Option (List Int×Int)
 | 0,_,_,_,_,_,_,_,_,_,_,_,_,_=>none
 | k+1,x0,x1,x2,x3,x13,x14,x15,x16,x17,x876000,x876001,x876002,x876003=>if 0≤x15 then(if x15<(x876000.length:Int) then(if x17<(rd x876000 x15) then(if x13.length<17592186044416 then(if x14.length<17592186044416 then(churnref13_Turn.l1 k x0 x1 x2 x3 (x13 ++ [x15]) (x14 ++ [x16]) x15 x16 (wrap64 (x17+1)) x876000 x876001 x876002 x876003) else(none)) else(none)) else(churnref13_Turn.l0 k x0 x1 x2 x3 x13 x14 (wrap64 (x15+1)) x876000 x876001 x876002 x876003)) else(none)) else(none)
def churnref13_Turn.l2:Nat→List Int→Int→Int→List Int→List Int→List Int→List Int→List (List Int)→Int→List Int→List Int→List Int→List (List Int)→Option (List Int×Int)
 | 0,_,_,_,_,_,_,_,_,_,_,_,_,_=>none
 | k+1,x0,x1,x2,x3,x13,x14,x18,x19,x20,x876000,x876001,x876002,x876003=>if x20<x1 then(if 0≤x20 then(if x20<(x3.length:Int) then(if 0≤(rd x3 x20) then(if(rd x3 x20)<(x13.length:Int) then(if x18.length<17592186044416 then(if 0≤(rd x13 (rd x3 x20)) then(if(rd x13 (rd x3 x20))<(x19.length:Int) then(if(rd x3 x20)<(x14.length:Int) then(if(rd_L3 x19 (rd x13 (rd x3 x20))).length<17592186044416 then(churnref13_Turn.l2 k x0 x1 x2 x3 x13 x14 (x18 ++ [rd x13 (rd x3 x20)]) (x19.set ((rd x13 (rd x3 x20)):Int).toNat ((rd_L3 x19 (rd x13 (rd x3 x20))) ++ [wrap64 ((rd x3 x20)-(rd x14 (rd x3 x20)))])) (wrap64 (x20+1)) x876000 x876001 x876002 x876003) else(none)) else(none)) else(none)) else(none)) else(none)) else(none)) else(none)) else(none)) else(none)) else((churnref09_Split.f k x0 x2).bind fun bt908=>((churnref12_Draws.f k x876000 x18 x876002).bind fun bt919=>((churnref12_Bounds.f k x1).bind fun t923=>((churnref10_Turn.f k bt908.2.1 t923 bt919.1).bind fun bt926=>(if 0≤(x0.length:Int) then(if((x0.length:Int):Int).toNat≤281474976710656 then((some (([]:List Int):List Int)).bind fun y930=>(if y930.length+bt908.1.length<140737488355328 then((some (y930 ++ bt908.1:List Int)).bind fun y933=>(if y933.length+bt926.1.length<140737488355328 then(churnref13_Turn.l3 k x0 x2 x19 (y933 ++ bt926.1) 0 x876000 x876001 x876002 x876003 bt908.1 bt908.2.1 bt908.2.2.1) else(none))) else(none))) else(none)) else(none))))))
def churnref13_Turn.l3:Nat→List Int→Int→List (List Int)→List Int→Int→List Int→List Int→List Int→List (List Int)→List Int→List Int→List (List Int)→Option (List Int×Int)
 | 0,_,_,_,_,_,_,_,_,_,_,_,_=>none
 | k+1,x0,x2,x19,x28,x29,x876000,x876001,x876002,x876003,x919000,x919001,x919002=>if x29<x2 then(if 0≤x29 then(if x29<(x19.length:Int) then((churnref11_Draws.f k (rd_L3 x19 x29)).bind fun bt940=>(if x29<(x919002.length:Int) then(if x29<(x876000.length:Int) then((churnref11_Bounds.f k (rd x876000 x29)).bind fun t946=>((churnref10_Turn.f k (rd_L2 x919002 x29) t946 bt940.1).bind fun bt949=>(if x28.length+bt949.1.length<140737488355328 then(churnref13_Turn.l3 k x0 x2 x19 (x28 ++ bt949.1) (wrap64 (x29+1)) x876000 x876001 x876002 x876003 x919000 x919001 x919002) else(none)))) else(none)) else(none))) else(none)) else(none)) else(if 0≤(x28.length:Int) then(if(x28.length:Int)≤(x0.length:Int) then((some (x0.drop ((x28.length:Int):Int).toNat:List Int)).bind fun y956=>(if x28.length+y956.length<140737488355328 then(some ((x28 ++ y956),0)) else(none))) else(none)) else(none))
end
def churnref13_Turn.f (k:Nat) (l0:List Int) (a1:Int) (a2:Int) (l3:List Int):Option (List Int×Int):=(churnref13_fit.f a1 a2).bind fun t860=>(if t860=true then(churnref13_Turn.j0 k l0 a1 a2 l3 ((l3.length:Int) != a1)) else(churnref13_Turn.j0 k l0 a1 a2 l3 true))
def churnref13_Turn.T27:Bool×List (List Nat×List Nat):=(true,[([],[]),([],[]),([],[]),([],[]),([2,3],[2,3]),([4],[4]),([],[]),([],[]),([6,7],[6,7]),([8],[8]),([],[]),([],[]),([],[]),([11,12],[11,12]),([13],[13]),([10,14],[10,14]),([15],[15]),([9,16],[9,16]),([17],[17]),([5,18],[5,18]),([0,1,0,1,2,3,4,5,6,7,8,9,10,11,12,13,14,15,16,17,18,19],[0,1]),([20,19,19,0,1,2,3,4,5,6,7,8,9,10,11,12,13,14,15,16,17,18,19],[19,20])])
def churnref13_Turn.B27:List Nat:=[0,0,0,0,12,28,0,0,192,448,0,0,0,6144,14336,31744,64512,131008,262080,524284,1048575,2097151]
theorem churnref13_Turn.tab27:rtab .any (opsOf Try.f16 27)=churnref13_Turn.T27:=by kernel_rfl
theorem churnref13_Turn.bits27:waitsOk churnref13_Turn.T27.2 churnref13_Turn.B27=true:=by kernel_rfl
def churnref13_Turn.T30:Bool×List (List Nat×List Nat):=(true,[([],[]),([0],[0]),([],[]),([2],[2]),([],[]),([1,3,4,3],[1,3,4]),([5],[5]),([6],[6]),([6],[6]),([7,5,0,1,2,3,4,5,6,7],[7]),([8,9,0,1,2,3,4,5,6,7,8,9],[8])])
def churnref13_Turn.B30:List Nat:=[0,1,0,4,0,31,63,127,127,255,1023]
theorem churnref13_Turn.tab30:rtab .any (opsOf Try.f16 30)=churnref13_Turn.T30:=by kernel_rfl
theorem churnref13_Turn.bits30:waitsOk churnref13_Turn.T30.2 churnref13_Turn.B30=true:=by kernel_rfl
def churnref13_Turn.T38:Bool×List (List Nat×List Nat):=(true,[([],[]),([0],[0]),([],[]),([1,2],[1,2]),([3],[3]),([],[]),([5],[5]),([],[]),([6,7],[6,7]),([8],[8]),([9],[9]),([],[]),([4,10,11,10],[4,10,11]),([12],[12]),([13],[13]),([13],[13]),([14,12,0,1,2,3,4,5,6,7,8,9,10,11,12,13,14],[14])])
def churnref13_Turn.B38:List Nat:=[0,1,0,7,15,0,32,0,224,480,992,0,4095,8191,16383,16383,32767]
theorem churnref13_Turn.tab38:rtab .any (opsOf Try.f16 38)=churnref13_Turn.T38:=by kernel_rfl
theorem churnref13_Turn.bits38:waitsOk churnref13_Turn.T38.2 churnref13_Turn.B38=true:=by kernel_rfl
set_option maxHeartbeats 8000000 in
set_option maxRecDepth 100000 in
theorem churnref13_Turn.calls (k:Nat) (A0:Option Addr) (c0:Nat) (l0:List Int) (a1:Int) (a2:Int) (A3:Option Addr) (c3:Nat) (l3:List Int) (r1:List Int) (r2:Int) (w:World) (hr0:jX (jb .u8) w A0 l0.length l0) (hc0:l0.length≤c0) (hr3:jX (jb .i64) w A3 l3.length l3) (hc3:l3.length≤c3) (h:churnref13_Turn.f k l0 a1 a2 l3=some (r1,r2)) :
  Calls Try.prog 16 #[.slice A0 l0.length c0,.int .i64 a1,.int .i64 a2,.slice A3 l3.length c3] w fun e w'=>∃ v0_:Value,e = .returned (.tuple #[v0_,.int .i64 r2])∧jt (jb .u8) 5 w' w.heap.size (fun _=>True) v0_ r1∧Below w.heap.size w w':=by
 have hu63:=Try.underlying63
 have hu55:=Try.underlying55
 have HR0:=am_ hr0
 have HC0:=am_ hc0
 clear hr0 hc0
 have HR3:=am_ hr3
 have HC3:=am_ hc3
 clear hr3 hc3
 have HB:=am_ (Below.refl w.heap.size w)
 have H:((churnref13_fit.f a1 a2).bind fun t860=>(if t860=true then(churnref13_Turn.j0 k l0 a1 a2 l3 ((l3.length:Int) != a1)) else(churnref13_Turn.j0 k l0 a1 a2 l3 true)))=some (r1,r2):=h
 clear h
 have HC5:=am_ H
 clear H
 go_enter Try.func16,Try.ntmps16
 go_upto_region 1 with(fail)
 go_cut [41] (fun v41 wc=>∃ (kq:Nat) (x41_4:Bool),v41 = .bool x41_4∧Aside0 (churnref13_Turn.j0 kq l0 a1 a2 l3 x41_4=some (r1,r2))∧Aside0 (kq≤k)∧Aside0 (Below w.heap.size w wc))
 case first =>
  have H:=HC5.out
  clear HC5
  replace H:=Option.bind_eq_some_iff.mp H
  obtain⟨t860,A60,H⟩:=H
  try dsimp only at H
  have A6:=am_ A60
  clear A60
  by_cases c7:t860=true
  ·subst c7
   have H1:(churnref13_Turn.j0 k l0 a1 a2 l3 ((l3.length:Int) != a1))=some (r1,r2):=by rw[if_pos rfl] at H;exact H
   clear H
   have H:=H1
   clear H1
   have H':=am_ H
   clear H
   go_wp2_with(first|(refine gc_ 22 ?_;refine gl_ (some 34) Try.func22 #[.int .i64 a1,.int .i64 a2] ?_;(with_reducible refine(churnref13_fit.calls a1 a2 true _ A6.out).mono ?_);rintro e w' ⟨rfl,⟨nd,rfl⟩⟩;refine⟨_,rfl,?_⟩))
   go_meet
   case rel=>exact⟨_,(((l3.length:Int) != a1)),T10_,H',⟨T8_⟩,⟨T19_⟩⟩
  replace c7:=Bool.eq_false_iff.mpr c7
  subst c7
  have H1:(churnref13_Turn.j0 k l0 a1 a2 l3 true)=some (r1,r2):=by rw[if_neg (show ¬ (false=true) by decide)] at H;exact H
  clear H
  have H:=H1
  clear H1
  have H':=am_ H
  clear H
  go_wp2_with(first|(refine gc_ 22 ?_;refine gl_ (some 34) Try.func22 #[.int .i64 a1,.int .i64 a2] ?_;(with_reducible refine(churnref13_fit.calls a1 a2 false _ A6.out).mono ?_);rintro e w' ⟨rfl,⟨nd,rfl⟩⟩;refine⟨_,rfl,?_⟩))
  go_meet
  case rel=>exact⟨_,(true),T10_,H',⟨T8_⟩,⟨T19_⟩⟩
 clear HC5
 obtain⟨kq,x41_4,rfl,HA,HJ4,HB⟩:=hcut
 cases kq with
 | zero=>exact absurd HA.out (by simp[churnref13_Turn.j0])
 | succ kj4 =>
  have H:=HA.out
  clear HA
  simp only[churnref13_Turn.j0] at H
  by_cases c8:x41_4=true
  ·subst c8
   have H1:(some (([]:List Int),2))=some (r1,r2):=by rw[if_pos rfl] at H;exact H
   clear H
   have H:=H1
   clear H1
   obtain⟨rfl,rfl⟩:=sj2_ H
   go_wp2
   go_ret2
   exact⟨_,T17_,T21_,T19_⟩
  replace c8:=Bool.eq_false_iff.mpr c8
  subst c8
  have H1:((churnref11_Check.f kj4 l3).bind fun t861=>(if t861=0 then((churnref13_laid.f kj4 l0 a1 a2).bind fun bt862=>(if bt862.2.2.2.2=true then(if 0≤a1 then(if(a1:Int).toNat≤35184372088832 then(churnref13_Turn.l0 kj4 l0 a1 a2 l3 (([]:List Int)) (([]:List Int)) 0 bt862.1 bt862.2.1 bt862.2.2.1 ([]:List (List Int))) else(none)) else(none)) else(some (([]:List Int),3)))) else(some (([]:List Int),t861))))=some (r1,r2):=by rw[if_neg (show ¬ (false=true) by decide)] at H;exact H
  clear H
  have H:=H1
  clear H1
  replace H:=Option.bind_eq_some_iff.mp H
  obtain⟨t861,A90,H⟩:=H
  try dsimp only at H
  have A9:=am_ A90
  clear A90
  by_cases c10:t861=0
  rotate_left
  ·rw[if_neg c10] at H
   obtain⟨c10b0,c10b1⟩:=en_ c10
   obtain⟨rfl,rfl⟩:=sj2_ H
   go_wp2_with(first|(refine gc_ 25 ?_;refine gl_ (some 43) Try.func25 #[.slice A3 l3.length c3] ?_;(with_reducible refine(churnref11_Check.calls kj4 _ _ l3 t861 _ ?side1 ?side2 A9.out).mono ?_);(case side1=>exact cu_ (jw HR3.out HB.out));(case side2=>exact HC3.out);rintro e w126 ⟨rfl,hb⟩;refine⟨_,rfl,?_⟩;have n0_:=am_ (jk T19_ hb);clear HB;have HB:=n0_;clear n0_;clear hb))
   go_ret2
   exact⟨_,T17_,T21_,T19_⟩
  rw[if_pos c10] at H
  obtain⟨c10b0,c10b1⟩:=ep_ c10
  clear c10
  replace H:=Option.bind_eq_some_iff.mp H
  obtain⟨⟨t862,t865,t868,t871,t874⟩,A110,H⟩:=H
  try dsimp only at H
  have A11:=am_ A110
  clear A110
  by_cases c12:t874=true
  rotate_left
  ·replace c12:=Bool.eq_false_iff.mpr c12
   subst c12
   have H1:(some (([]:List Int),3))=some (r1,r2):=by rw[if_neg (show ¬ (false=true) by decide)] at H;exact H
   clear H
   have H:=H1
   clear H1
   obtain⟨rfl,rfl⟩:=sj2_ H
   go_wp2_with(first|(refine gc_ 25 ?_;refine gl_ (some 43) Try.func25 #[.slice A3 l3.length c3] ?_;(with_reducible refine(churnref11_Check.calls kj4 _ _ l3 t861 _ ?side1 ?side2 A9.out).mono ?_);(case side1=>exact cu_ (jw HR3.out HB.out));(case side2=>exact HC3.out);rintro e w119 ⟨rfl,hb⟩;refine⟨_,rfl,?_⟩;have n0_:=am_ (jk T19_ hb);clear HB;have HB:=n0_;clear n0_;clear hb)|(refine gc_ 23 ?_;refine gl_ (some 51) Try.func23 #[.slice A0 l0.length c0,.int .i64 a1,.int .i64 a2] ?_;(with_reducible refine(churnref13_laid.calls kj4 _ _ l0 a1 a2 t862 t865 t868 t871 false _ ?side1 ?side2 A11.out).mono ?_);(case side1=>exact cu_ (jw HR0.out HB.out));(case side2=>exact HC0.out);rintro e w120 ⟨v863,v866,v869,v872,rfl,ho0,ho1,ho2,ho3,hb⟩;refine⟨_,rfl,?_⟩;obtain⟨Ao872,co872,eo872⟩:=jT ho3;subst eo872;have n_:=P5_ (jq ho0 (jc T19_)) (jq ho1 (jc T19_)) (jq ho2 (jc T19_)) (Kd.S_lower ho3 (jc T19_)) (jk T19_ hb);clear HB;obtain⟨HO864,HO867,HO870,gone,HB⟩:=n_;clear hb ho0 ho1 ho2 ho3)|(refine gd_ 11 ?_;(try(refine jI T0_ ?_;dsimp only));refine bx_ 11 #[.slice none 0 0,.slice none 0 0,.slice none 0 0,.slice none 0 0] 63 ?_;intro gb875 hg w121 hbox hb;have n_:=P7_ (je (ru_ HO864.out) hb) (je (ru_ HO867.out) hb) (je (ru_ HO870.out) hb) (jk T19_ hb) (hbox) ((by rw[hg];exact(jc T19_):w.heap.size≤gb875)) ((by rw[hg];exact(jc T19_):w.heap.size≤gb875));clear HO864 HO867 HO870 HB;obtain⟨HO864,HO867,HO870,HB,BK875,GW875,GE875⟩:=n_;clear hb hbox hg;obtain⟨Ao122,co122,eo122⟩:=jp HO864.out;subst eo122;obtain⟨hcz123_0,hcz123_1,hcz123_2,hcz123_3,hfz123_0,hfz123_1,hfz123_2,hfz123_3⟩:=cz4_ BK875.out;obtain⟨Ao124,co124,eo124⟩:=jp HO867.out;subst eo124;obtain⟨Ao125,co125,eo125⟩:=jp HO870.out;subst eo125))
   go_ret2
   exact⟨_,T17_,T21_,T35_⟩
  subst c12
  have H1:(if 0≤a1 then(if(a1:Int).toNat≤35184372088832 then(churnref13_Turn.l0 kj4 l0 a1 a2 l3 (([]:List Int)) (([]:List Int)) 0 t862 t865 t868 ([]:List (List Int))) else(none)) else(none))=some (r1,r2):=by rw[if_pos rfl] at H;exact H
  clear H
  have H:=H1
  clear H1
  replace H:=ifn_ H;obtain⟨c13,H⟩:=H
  have c13b0:=eq_true c13
  have c13b1:decide (0≤a1)=true:=decide_eq_true c13
  clear c13
  replace H:=ifn_ H;obtain⟨c14,H⟩:=H
  have c14b0:=eq_true c14
  have c14b1:decide ((a1:Int).toNat≤35184372088832)=true:=decide_eq_true c14
  clear c14
  obtain⟨y876,hy_⟩:∃ y_:List Int,y_=(([]:List Int)):=⟨_,rfl⟩
  replace H:(churnref13_Turn.l0 kj4 l0 a1 a2 l3 y876 (([]:List Int)) 0 t862 t865 t868 ([]:List (List Int)))=some (r1,r2):=hyw_
  have Ny876:=am_ hy_
  clear hy_
  obtain⟨y879,hy_⟩:∃ y_:List Int,y_=(([]:List Int)):=⟨_,rfl⟩
  replace H:(churnref13_Turn.l0 kj4 l0 a1 a2 l3 y876 y879 0 t862 t865 t868 ([]:List (List Int)))=some (r1,r2):=hyw_
  have Ny879:=am_ hy_
  clear hy_
  have H':=am_ H
  clear H
  go_wp2_with(first|(refine gc_ 25 ?_;refine gl_ (some 43) Try.func25 #[.slice A3 l3.length c3] ?_;(with_reducible refine(churnref11_Check.calls kj4 _ _ l3 t861 _ ?side1 ?side2 A9.out).mono ?_);(case side1=>exact cu_ (jw HR3.out HB.out));(case side2=>exact HC3.out);rintro e w15 ⟨rfl,hb⟩;refine⟨_,rfl,?_⟩;have n0_:=am_ (jk T19_ hb);clear HB;have HB:=n0_;clear n0_;clear hb)|(refine gc_ 23 ?_;refine gl_ (some 51) Try.func23 #[.slice A0 l0.length c0,.int .i64 a1,.int .i64 a2] ?_;(with_reducible refine(churnref13_laid.calls kj4 _ _ l0 a1 a2 t862 t865 t868 t871 true _ ?side1 ?side2 A11.out).mono ?_);(case side1=>exact cu_ (jw HR0.out HB.out));(case side2=>exact HC0.out);rintro e w16 ⟨v863,v866,v869,v872,rfl,ho0,ho1,ho2,ho3,hb⟩;refine⟨_,rfl,?_⟩;obtain⟨Ao872,co872,eo872⟩:=jT ho3;subst eo872;have n_:=P5_ (jq ho0 (jc T19_)) (jq ho1 (jc T19_)) (jq ho2 (jc T19_)) (Kd.S_lower ho3 (jc T19_)) (jk T19_ hb);clear HB;obtain⟨HO864,HO867,HO870,gone,HB⟩:=n_;clear hb ho0 ho1 ho2 ho3)|(refine gd_ 11 ?_;(try(refine jI T0_ ?_;dsimp only));refine bx_ 11 #[.slice none 0 0,.slice none 0 0,.slice none 0 0,.slice none 0 0] 63 ?_;intro gb875 hg w17 hbox hb;have n_:=P7_ (je (ru_ HO864.out) hb) (je (ru_ HO867.out) hb) (je (ru_ HO870.out) hb) (jk T19_ hb) (hbox) ((by rw[hg];exact(jc T19_):w.heap.size≤gb875)) ((by rw[hg];exact(jc T19_):w.heap.size≤gb875));clear HO864 HO867 HO870 HB;obtain⟨HO864,HO867,HO870,HB,BK875,GW875,GE875⟩:=n_;clear hb hbox hg;obtain⟨Ao18,co18,eo18⟩:=jp HO864.out;subst eo18;obtain⟨hcz19_0,hcz19_1,hcz19_2,hcz19_3,hfz19_0,hfz19_1,hfz19_2,hfz19_3⟩:=cz4_ BK875.out;obtain⟨Ao20,co20,eo20⟩:=jp HO867.out;subst eo20;obtain⟨Ao21,co21,eo21⟩:=jp HO870.out;subst eo21)|(refine gd_ 57 ?_;(try(refine jI T0_ ?_;dsimp only));refine Kd.R_make0 (jb .i64) _ 3 rfl (N:=57) rfl 24 _ _ rfl a1 rfl rfl Try.underlying24 (.int .i64 0) 8 info3 rfl T3_ T2_ 0 (ok:=fun _=>True) (okp:=fun _=>True) rfl (fun _ hk=>hk) trivial (od_) (Nat.le_trans (Nat.mul_le_mul_right _ (od_:a1.toNat≤35184372088832)) T2_) (Below.refl _ _) (Nat.le_refl _) ?_;intro v877 w22 ho23 hb hg_ hnew_;clear hg_ hnew_;(first|rw[←Ny876.out] at ho23|(simp only[Int.reduceToNat] at ho23;rw[←Ny876.out] at ho23));have n_:=P6_ (jg (ru_ ((ja (jd (p:=⟨gb875,3,none⟩) (jd (p:=⟨gb875,2,none⟩) (jd (p:=⟨gb875,1,none⟩) (jd (p:=⟨gb875,0,none⟩) (jr HO864.out BK875.out T3_) (fun _ hk=>hk.2) (.slice Ao18 t862.length co18)) (fun _ hk=>hk.2) (.slice Ao20 t865.length co20)) (fun _ hk=>hk.2) (.slice Ao21 t868.length co21)) (fun _ hk=>hk.2) (.slice Ao872 t871.length co872)) (fun _ h_=>h_.1)))) (jf ho23) hb) (jg (ru_ ((ja (jd (p:=⟨gb875,3,none⟩) (jd (p:=⟨gb875,2,none⟩) (jd (p:=⟨gb875,1,none⟩) (jd (p:=⟨gb875,0,none⟩) (jr HO867.out BK875.out T3_) (fun _ hk=>hk.2) (.slice Ao18 t862.length co18)) (fun _ hk=>hk.2) (.slice Ao20 t865.length co20)) (fun _ hk=>hk.2) (.slice Ao21 t868.length co21)) (fun _ hk=>hk.2) (.slice Ao872 t871.length co872)) (fun _ h_=>h_.1)))) (jf ho23) hb) (jg (ru_ ((ja (jd (p:=⟨gb875,3,none⟩) (jd (p:=⟨gb875,2,none⟩) (jd (p:=⟨gb875,1,none⟩) (jd (p:=⟨gb875,0,none⟩) (jr HO870.out BK875.out T3_) (fun _ hk=>hk.2) (.slice Ao18 t862.length co18)) (fun _ hk=>hk.2) (.slice Ao20 t865.length co20)) (fun _ hk=>hk.2) (.slice Ao21 t868.length co21)) (fun _ hk=>hk.2) (.slice Ao872 t871.length co872)) (fun _ h_=>h_.1)))) (jf ho23) hb) (jq (jj (jj (jj ho23 (jh (ru_ ((ja (jd (p:=⟨gb875,3,none⟩) (jd (p:=⟨gb875,2,none⟩) (jd (p:=⟨gb875,1,none⟩) (jd (p:=⟨gb875,0,none⟩) (jr HO864.out BK875.out T3_) (fun _ hk=>hk.2) (.slice Ao18 t862.length co18)) (fun _ hk=>hk.2) (.slice Ao20 t865.length co20)) (fun _ hk=>hk.2) (.slice Ao21 t868.length co21)) (fun _ hk=>hk.2) (.slice Ao872 t871.length co872)) (fun _ h_=>h_.1)))))) (jh (ru_ ((ja (jd (p:=⟨gb875,3,none⟩) (jd (p:=⟨gb875,2,none⟩) (jd (p:=⟨gb875,1,none⟩) (jd (p:=⟨gb875,0,none⟩) (jr HO867.out BK875.out T3_) (fun _ hk=>hk.2) (.slice Ao18 t862.length co18)) (fun _ hk=>hk.2) (.slice Ao20 t865.length co20)) (fun _ hk=>hk.2) (.slice Ao21 t868.length co21)) (fun _ hk=>hk.2) (.slice Ao872 t871.length co872)) (fun _ h_=>h_.1)))))) (jh (ru_ ((ja (jd (p:=⟨gb875,3,none⟩) (jd (p:=⟨gb875,2,none⟩) (jd (p:=⟨gb875,1,none⟩) (jd (p:=⟨gb875,0,none⟩) (jr HO870.out BK875.out T3_) (fun _ hk=>hk.2) (.slice Ao18 t862.length co18)) (fun _ hk=>hk.2) (.slice Ao20 t865.length co20)) (fun _ hk=>hk.2) (.slice Ao21 t868.length co21)) (fun _ hk=>hk.2) (.slice Ao872 t871.length co872)) (fun _ h_=>h_.1)))))) (jc T35_)) (jo (g:=gb875) (o:=.cells #[.slice Ao18 t862.length co18,.slice Ao20 t865.length co20,.slice Ao21 t868.length co21,.slice Ao872 t871.length co872] 63 (0,0)) (by(with_reducible repeat(first|refine jn ?_ _|refine jl ?_|refine jm ?_ _));refine ju (cs:=#[.slice Ao18 t862.length co18,.slice Ao20 t865.length co20,.slice Ao21 t868.length co21,.slice none 0 0]) ?_ 3 _ rfl;(with_reducible repeat(first|refine jn ?_ _|refine jl ?_|refine jm ?_ _));refine ju (cs:=#[.slice Ao18 t862.length co18,.slice Ao20 t865.length co20,.slice none 0 0,.slice none 0 0]) ?_ 2 _ rfl;(with_reducible repeat(first|refine jn ?_ _|refine jl ?_|refine jm ?_ _));refine ju (cs:=#[.slice Ao18 t862.length co18,.slice none 0 0,.slice none 0 0,.slice none 0 0]) ?_ 1 _ rfl;(with_reducible repeat(first|refine jn ?_ _|refine jl ?_|refine jm ?_ _));refine ju (cs:=#[.slice none 0 0,.slice none 0 0,.slice none 0 0,.slice none 0 0]) ?_ 0 _ rfl;exact bu_ BK875.out) hb) (jk T35_ hb);clear HO864 HO867 HO870 BK875 HB;obtain⟨HO864,HO867,HO870,HO878,BK875,HB⟩:=n_;clear hb ho23)|(refine gd_ 59 ?_;(try(refine jI T0_ ?_;dsimp only));refine Kd.R_make0 (jb .i64) _ 3 rfl (N:=59) rfl 24 _ _ rfl a1 rfl rfl Try.underlying24 (.int .i64 0) 8 info3 rfl T3_ T2_ 0 (ok:=fun _=>True) (okp:=fun _=>True) rfl (fun _ hk=>hk) trivial (od_) (Nat.le_trans (Nat.mul_le_mul_right _ (od_:a1.toNat≤35184372088832)) T2_) (Below.refl _ _) (Nat.le_refl _) ?_;intro v880 w24 ho25 hb hg_ hnew_;clear hg_ hnew_;(first|rw[←Ny879.out] at ho25|(simp only[Int.reduceToNat] at ho25;rw[←Ny879.out] at ho25));have n_:=P7_ (jg (ru_ HO864.out) (jf ho25) hb) (jg (ru_ HO867.out) (jf ho25) hb) (jg (ru_ HO870.out) (jf ho25) hb) (jg (ru_ HO878.out) (jf ho25) hb) (jq (jj (jj (jj (jj ho25 (jh (ru_ HO864.out))) (jh (ru_ HO867.out))) (jh (ru_ HO870.out))) (jh (ru_ HO878.out))) (jc T35_)) (jo (bu_ BK875.out) hb) (jk T35_ hb);clear HO864 HO867 HO870 HO878 BK875 HB;obtain⟨HO864,HO867,HO870,HO878,HO881,BK875,HB⟩:=n_;clear hb ho25))
  go_loopg [13,14,15] kj4 (fun kq v13 v14 v15 w'=>∃ (x13_2:List Int) (x14_2:List Int) (x15_2:Int),v15 = .int .i64 x15_2∧Aside0 (churnref13_Turn.l0 kq l0 a1 a2 l3 x13_2 x14_2 x15_2 t862 t865 t868 ([]:List (List Int))=some (r1,r2))∧Aside0 (kq≤kj4)∧Aside0 (jt (jb .i64) 3 w' w.heap.size (fun k_=>ne_ k_ v14∧ne_ k_ (.slice Ao18 t862.length co18)∧ne_ k_ (.slice Ao20 t865.length co20)∧ne_ k_ (.slice Ao21 t868.length co21)) v13 x13_2)∧Aside0 (jt (jb .i64) 3 w' w.heap.size (fun k_=>ne_ k_ v13∧ne_ k_ (.slice Ao18 t862.length co18)∧ne_ k_ (.slice Ao20 t865.length co20)∧ne_ k_ (.slice Ao21 t868.length co21)) v14 x14_2)∧Aside0 (jt (jb .i64) 3 w' w.heap.size (fun k_=>ne_ k_ v13∧ne_ k_ v14∧ne_ k_ (.slice Ao20 t865.length co20)∧ne_ k_ (.slice Ao21 t868.length co21)) (.slice Ao18 t862.length co18) t862)∧Aside0 (jt (jb .i64) 3 w' w.heap.size (fun k_=>ne_ k_ v13∧ne_ k_ v14∧ne_ k_ (.slice Ao18 t862.length co18)∧ne_ k_ (.slice Ao21 t868.length co21)) (.slice Ao20 t865.length co20) t865)∧Aside0 (jt (jb .i64) 3 w' w.heap.size (fun k_=>ne_ k_ v13∧ne_ k_ v14∧ne_ k_ (.slice Ao18 t862.length co18)∧ne_ k_ (.slice Ao20 t865.length co20)) (.slice Ao21 t868.length co21) t868)∧Aside0 (w'.heap[gb875]? = some (.cells #[(.slice Ao18 t862.length co18),(.slice Ao20 t865.length co20),(.slice Ao21 t868.length co21),.slice Ao872 t871.length co872] 63 (0,0)))∧Aside0 (Below w.heap.size w w'))
  case atStart=>exact⟨(y876),(y879),(0),T10_,H',⟨Nat.le_refl _⟩,⟨ru_ (ja HO878.out (fun _ hk=>⟨hk.2,⟨hk.1.1.1.2,⟨hk.1.1.2,hk.1.2⟩⟩⟩))⟩,⟨ru_ (ja HO881.out (fun _ hk=>⟨hk.2,⟨hk.1.1.1.2,⟨hk.1.1.2,hk.1.2⟩⟩⟩))⟩,⟨ru_ (ja HO864.out (fun _ hk=>⟨hk.1.2,⟨hk.2,⟨hk.1.1.1,hk.1.1.2⟩⟩⟩))⟩,⟨ru_ (ja HO867.out (fun _ hk=>⟨hk.1.2,⟨hk.2,⟨hk.1.1.1,hk.1.1.2⟩⟩⟩))⟩,⟨ru_ (ja HO870.out (fun _ hk=>⟨hk.1.2,⟨hk.2,⟨hk.1.1.1,hk.1.1.2⟩⟩⟩))⟩,⟨bu_ BK875.out⟩,⟨T35_⟩⟩
  clear H'
  (try clear c3);(try clear c8);(try clear c10);(try clear c10b0 c10b1);(try clear c12);(try clear c13);(try clear c13b0 c13b1);(try clear c14);(try clear c14b0 c14b1);(try clear hcz19_0 hcz19_1 hcz19_2 hcz19_3 hfz19_0 hfz19_1 hfz19_2 hfz19_3);(try clear BK875)
  obtain⟨x13_2,x14_2,x15_2,rfl,HA,HK2,HO_13,HO_14,HO_876000,HO_876001,HO_876002,BK875,HB⟩:=hrel
  cases gk with
  | zero=>exact absurd HA.out (by simp[churnref13_Turn.l0])
  | succ k2 =>
   have H:=HA.out
   clear HA
   simp only[churnref13_Turn.l0] at H
   by_cases c26:x15_2<a2
   ·rw[if_pos c26] at H
    have c26b0:=decide_eq_true c26
    clear c26
    have H':=am_ H
    clear H
    obtain⟨Ao27,co27,eo27⟩:=jp HO_13.out
    subst eo27
    go_wp2
    go_loopg [13,14,17] k2 (fun kq v13 v14 v17 w'=>∃ (x13_3:List Int) (x14_3:List Int) (x17_3:Int),v17 = .int .i64 x17_3∧Aside0 (churnref13_Turn.l1 kq l0 a1 a2 l3 x13_3 x14_3 x15_2 (x13_2.length:Int) x17_3 t862 t865 t868 ([]:List (List Int))=some (r1,r2))∧Aside0 (kq≤k2)∧Aside0 (jt (jb .i64) 3 w' w.heap.size (fun k_=>ne_ k_ v14∧ne_ k_ (.slice Ao18 t862.length co18)∧ne_ k_ (.slice Ao20 t865.length co20)∧ne_ k_ (.slice Ao21 t868.length co21)) v13 x13_3)∧Aside0 (jt (jb .i64) 3 w' w.heap.size (fun k_=>ne_ k_ v13∧ne_ k_ (.slice Ao18 t862.length co18)∧ne_ k_ (.slice Ao20 t865.length co20)∧ne_ k_ (.slice Ao21 t868.length co21)) v14 x14_3)∧Aside0 (jt (jb .i64) 3 w' w.heap.size (fun k_=>ne_ k_ v13∧ne_ k_ v14∧ne_ k_ (.slice Ao20 t865.length co20)∧ne_ k_ (.slice Ao21 t868.length co21)) (.slice Ao18 t862.length co18) t862)∧Aside0 (jt (jb .i64) 3 w' w.heap.size (fun k_=>ne_ k_ v13∧ne_ k_ v14∧ne_ k_ (.slice Ao18 t862.length co18)∧ne_ k_ (.slice Ao21 t868.length co21)) (.slice Ao20 t865.length co20) t865)∧Aside0 (jt (jb .i64) 3 w' w.heap.size (fun k_=>ne_ k_ v13∧ne_ k_ v14∧ne_ k_ (.slice Ao18 t862.length co18)∧ne_ k_ (.slice Ao20 t865.length co20)) (.slice Ao21 t868.length co21) t868)∧Aside0 (w'.heap[gb875]? = some (.cells #[(.slice Ao18 t862.length co18),(.slice Ao20 t865.length co20),(.slice Ao21 t868.length co21),.slice Ao872 t871.length co872] 63 (0,0)))∧Aside0 (Below w.heap.size w w'))
    case atStart=>exact⟨(x13_2),(x14_2),(0),T10_,H',⟨Nat.le_refl _⟩,⟨ru_ HO_13.out⟩,⟨ru_ HO_14.out⟩,⟨ru_ HO_876000.out⟩,⟨ru_ HO_876001.out⟩,⟨ru_ HO_876002.out⟩,⟨bu_ BK875.out⟩,⟨T35_⟩⟩
    clear H'
    (try clear c3);(try clear c8);(try clear c10);(try clear c10b0 c10b1);(try clear c12);(try clear c13);(try clear c13b0 c13b1);(try clear c14);(try clear c14b0 c14b1);(try clear c26);(try clear c26b0);(try clear hcz19_0 hcz19_1 hcz19_2 hcz19_3 hfz19_0 hfz19_1 hfz19_2 hfz19_3);(try clear BK875)
    obtain⟨x13_3,x14_3,x17_3,rfl,HA,HK3,HO_13,HO_14,HO_876000,HO_876001,HO_876002,BK875,HB⟩:=hrel
    cases gk with
    | zero=>exact absurd HA.out (by simp[churnref13_Turn.l1])
    | succ k3 =>
     have H:=HA.out
     clear HA
     simp only[churnref13_Turn.l1] at H
     replace H:=ifn_ H;obtain⟨c28,H⟩:=H
     have c28b0:=decide_eq_true c28
     clear c28
     replace H:=ifn_ H;obtain⟨c29,H⟩:=H
     have c29b0:=decide_eq_true c29
     clear c29
     by_cases c30:x17_3<(rd t862 x15_2)
     rotate_left
     ·rw[if_neg c30] at H
      have c30b0:=decide_eq_false c30
      clear c30
      have H':=am_ H
      clear H
      obtain⟨hcz36_0,hcz36_1,hcz36_2,hcz36_3,hfz36_0,hfz36_1,hfz36_2,hfz36_3⟩:=cz4_ BK875.out
      obtain⟨ad882,e882,hx882_0,p882,q882⟩:=ai_ (ji HO_876000.out).2.2 x15_2
      cases e882
      go_wp2
      go_roundg k3
      case measure=>have:=HJ4.out;have:=HK2.out;have:=HK3.out;omega
      case rel=>exact⟨(x13_3),(x14_3),(wrap64 (x15_2+1)),T10_,H',⟨(by have:=HJ4.out;have:=HK2.out;have:=HK3.out;omega)⟩,⟨ru_ HO_13.out⟩,⟨ru_ HO_14.out⟩,⟨ru_ HO_876000.out⟩,⟨ru_ HO_876001.out⟩,⟨ru_ HO_876002.out⟩,⟨bu_ BK875.out⟩,⟨T35_⟩⟩
     rw[if_pos c30] at H
     have c30b0:=decide_eq_true c30
     clear c30
     replace H:=ifa_ H;obtain⟨LMc31,H⟩:=H
     obtain⟨y883,hy_⟩:∃ y_:List Int,y_=(x13_3 ++ [x15_2]):=⟨_,rfl⟩
     replace H:(if x14_3.length<17592186044416 then(churnref13_Turn.l1 k3 l0 a1 a2 l3 y883 (x14_3 ++ [(x13_2.length:Int)]) x15_2 (x13_2.length:Int) (wrap64 (x17_3+1)) t862 t865 t868 ([]:List (List Int))) else(none))=some (r1,r2):=hyw_
     have Ny883:=am_ hy_
     clear hy_
     replace H:=ifa_ H;obtain⟨LMc32,H⟩:=H
     obtain⟨y886,hy_⟩:∃ y_:List Int,y_=(x14_3 ++ [(x13_2.length:Int)]):=⟨_,rfl⟩
     replace H:(churnref13_Turn.l1 k3 l0 a1 a2 l3 y883 y886 x15_2 (x13_2.length:Int) (wrap64 (x17_3+1)) t862 t865 t868 ([]:List (List Int)))=some (r1,r2):=hyw_
     have Ny886:=am_ hy_
     clear hy_
     have H':=am_ H
     clear H
     obtain⟨hcz33_0,hcz33_1,hcz33_2,hcz33_3,hfz33_0,hfz33_1,hfz33_2,hfz33_3⟩:=cz4_ BK875.out
     obtain⟨ad882,e882,hx882_0,p882,q882⟩:=ai_ (ji HO_876000.out).2.2 x15_2
     cases e882
     go_wp2_with(first|(refine gb_ .append #[.tmp 76,.tmp 78] ?_;(try(refine jI T0_ ?_;dsimp only));at_builtin;refine Jd (jb .i64) (w0:=w) w.heap.size rfl (.tmp 76) (.tmp 78) 24 3 (.int .i64 0) 8 rfl Try.underlying24 info3 rfl T3_ T2_ u13 x13_3 x15_2 [.int .i64 x15_2] (fun k_=>ne_ k_ u14∧ne_ k_ (.slice (some ad882) t862.length co18)∧ne_ k_ (.slice Ao20 t865.length co20)∧ne_ k_ (.slice Ao21 t868.length co21)) (fun _=>False) rfl rfl ?aP (fun _ hk=>hk.elim) ?aF ?aO ?aB ?aS ?aL ?_;(case aP=>exact rfl);(case aB=>exact T35_);(case aF=>exact(fun k_ hk=>⟨jA (jh (ru_ HO_14.out)) k_ hk,jA (jh (ru_ HO_876000.out)) k_ hk,jA (jh (ru_ HO_876001.out)) k_ hk,jA (jh (ru_ HO_876002.out)) k_ hk⟩));(case aO=>exact(ru_ HO_13.out));(case aS=>exact(jc T35_));(case aL=>have:=LMc31.out;omega);intro v884 w34 ho hb hg hat;rw[←Ny883.out] at ho;have n_:=P7_ (jv (ok:=(fun k_=>ne_ k_ (.slice (some ad882) t862.length co18)∧ne_ k_ (.slice Ao20 t865.length co20)∧ne_ k_ (.slice Ao21 t868.length co21))) (ru_ (ja HO_14.out (fun _ hk=>⟨⟨hk.2.1,⟨hk.2.2.1,hk.2.2.2⟩⟩,hk.1⟩))) hg hat) (jv (ok:=(fun k_=>ne_ k_ u14∧ne_ k_ (.slice Ao20 t865.length co20)∧ne_ k_ (.slice Ao21 t868.length co21))) (ru_ (ja HO_876000.out (fun _ hk=>⟨⟨hk.2.1,⟨hk.2.2.1,hk.2.2.2⟩⟩,hk.1⟩))) hg hat) (jv (ok:=(fun k_=>ne_ k_ u14∧ne_ k_ (.slice (some ad882) t862.length co18)∧ne_ k_ (.slice Ao21 t868.length co21))) (ru_ (ja HO_876001.out (fun _ hk=>⟨⟨hk.2.1,⟨hk.2.2.1,hk.2.2.2⟩⟩,hk.1⟩))) hg hat) (jv (ok:=(fun k_=>ne_ k_ u14∧ne_ k_ (.slice (some ad882) t862.length co18)∧ne_ k_ (.slice Ao20 t865.length co20))) (ru_ (ja HO_876002.out (fun _ hk=>⟨⟨hk.2.1,⟨hk.2.2.1,hk.2.2.2⟩⟩,hk.1⟩))) hg hat) (Jg (g:=gb875) (o:=.cells #[.slice (some ad882) t862.length co18,.slice Ao20 t865.length co20,.slice Ao21 t868.length co21,.slice Ao872 t871.length co872] 63 (0,0)) (bu_ BK875.out) hg (Kd.R_ne HO_13.out BK875.out T3_)) (hb) (ho);clear HO_14 HO_876000 HO_876001 HO_876002 BK875 HB HO_13;obtain⟨HO_14,HO_876000,HO_876001,HO_876002,BK875,HB,HO885⟩:=n_;clear ho hb hg hat)|(refine gb_ .append #[.tmp 80,.tmp 82] ?_;(try(refine jI T0_ ?_;dsimp only));at_builtin;refine Jd (jb .i64) (w0:=w) w.heap.size rfl (.tmp 80) (.tmp 82) 24 3 (.int .i64 0) 8 rfl Try.underlying24 info3 rfl T3_ T2_ u14 x14_3 (x13_2.length:Int) [.int .i64 (x13_2.length:Int)] (fun k_=>ne_ k_ (.slice (some ad882) t862.length co18)∧ne_ k_ (.slice Ao20 t865.length co20)∧ne_ k_ (.slice Ao21 t868.length co21)∧ne_ k_ v884) (fun _=>False) rfl rfl ?aP (fun _ hk=>hk.elim) ?aF ?aO ?aB ?aS ?aL ?_;(case aP=>exact rfl);(case aB=>exact T35_);(case aF=>exact(fun k_ hk=>⟨jA (jh (ru_ HO_876000.out)) k_ hk,jA (jh (ru_ HO_876001.out)) k_ hk,jA (jh (ru_ HO_876002.out)) k_ hk,jA (jh (ru_ HO885.out)) k_ hk⟩));(case aO=>exact(ru_ (ja HO_14.out (fun _ hk=>⟨hk.1.1,⟨hk.1.2.1,⟨hk.1.2.2,hk.2⟩⟩⟩))));(case aS=>exact(jc T35_));(case aL=>have:=LMc32.out;omega);intro v887 w35 ho hb hg hat;rw[←Ny886.out] at ho;have n_:=P7_ (jv (ok:=(fun k_=>ne_ k_ (.slice Ao20 t865.length co20)∧ne_ k_ (.slice Ao21 t868.length co21)∧ne_ k_ v884)) (ru_ (ja HO_876000.out (fun _ hk=>⟨⟨hk.1.2.1,⟨hk.1.2.2,hk.2⟩⟩,hk.1.1⟩))) hg hat) (jv (ok:=(fun k_=>ne_ k_ (.slice (some ad882) t862.length co18)∧ne_ k_ (.slice Ao21 t868.length co21)∧ne_ k_ v884)) (ru_ (ja HO_876001.out (fun _ hk=>⟨⟨hk.1.2.1,⟨hk.1.2.2,hk.2⟩⟩,hk.1.1⟩))) hg hat) (jv (ok:=(fun k_=>ne_ k_ (.slice (some ad882) t862.length co18)∧ne_ k_ (.slice Ao20 t865.length co20)∧ne_ k_ v884)) (ru_ (ja HO_876002.out (fun _ hk=>⟨⟨hk.1.2.1,⟨hk.1.2.2,hk.2⟩⟩,hk.1.1⟩))) hg hat) (Jg (g:=gb875) (o:=.cells #[.slice (some ad882) t862.length co18,.slice Ao20 t865.length co20,.slice Ao21 t868.length co21,.slice Ao872 t871.length co872] 63 (0,0)) (bu_ BK875.out) hg (Kd.R_ne HO_14.out BK875.out T3_)) (jv (ok:=(fun k_=>ne_ k_ (.slice (some ad882) t862.length co18)∧ne_ k_ (.slice Ao20 t865.length co20)∧ne_ k_ (.slice Ao21 t868.length co21))) (ru_ (ja HO885.out (fun _ hk=>⟨⟨hk.2.1,⟨hk.2.2.1,hk.2.2.2⟩⟩,hk.1⟩))) hg hat) (hb) (ho);clear HO_876000 HO_876001 HO_876002 BK875 HO885 HB HO_14;obtain⟨HO_876000,HO_876001,HO_876002,BK875,HO885,HB,HO888⟩:=n_;clear ho hb hg hat))
     go_roundg k3
     case measure=>have:=HJ4.out;have:=HK2.out;have:=HK3.out;omega
     case rel=>exact⟨(y883),(y886),(wrap64 (x17_3+1)),T10_,H',⟨(by have:=HJ4.out;have:=HK2.out;have:=HK3.out;omega)⟩,⟨ru_ (ja HO885.out (fun _ hk=>⟨hk.2,⟨hk.1.1,⟨hk.1.2.1,hk.1.2.2⟩⟩⟩))⟩,⟨ru_ (ja HO888.out (fun _ hk=>⟨hk.2.2.2,⟨hk.1,⟨hk.2.1,hk.2.2.1⟩⟩⟩))⟩,⟨ru_ (ja HO_876000.out (fun _ hk=>⟨hk.1.2.2,⟨hk.2,⟨hk.1.1,hk.1.2.1⟩⟩⟩))⟩,⟨ru_ (ja HO_876001.out (fun _ hk=>⟨hk.1.2.2,⟨hk.2,⟨hk.1.1,hk.1.2.1⟩⟩⟩))⟩,⟨ru_ (ja HO_876002.out (fun _ hk=>⟨hk.1.2.2,⟨hk.2,⟨hk.1.1,hk.1.2.1⟩⟩⟩))⟩,⟨bu_ BK875.out⟩,⟨T35_⟩⟩
   rw[if_neg c26] at H
   have c26b0:=decide_eq_false c26
   clear c26
   replace H:=ifn_ H;obtain⟨c37,H⟩:=H
   have c37b0:=eq_true c37
   have c37b1:decide (0≤a1)=true:=decide_eq_true c37
   clear c37
   replace H:=ifn_ H;obtain⟨c38,H⟩:=H
   have c38b0:=eq_true c38
   have c38b1:decide ((a1:Int).toNat≤35184372088832)=true:=decide_eq_true c38
   clear c38
   obtain⟨y889,hy_⟩:∃ y_:List Int,y_=(([]:List Int)):=⟨_,rfl⟩
   replace H:(if 0≤a2 then(if(a2:Int).toNat≤11728124029610 then(churnref13_Turn.l2 k2 l0 a1 a2 l3 x13_2 x14_2 y889 (List.replicate (a2:Int).toNat []) 0 t862 t865 t868 ([]:List (List Int))) else(none)) else(none))=some (r1,r2):=hyw_
   have Ny889:=am_ hy_
   clear hy_
   replace H:=ifn_ H;obtain⟨c39,H⟩:=H
   have c39b0:=eq_true c39
   have c39b1:decide (0≤a2)=true:=decide_eq_true c39
   clear c39
   replace H:=ifn_ H;obtain⟨c40,H⟩:=H
   have c40b0:=eq_true c40
   have c40b1:decide ((a2:Int).toNat≤11728124029610)=true:=decide_eq_true c40
   clear c40
   obtain⟨y892,hy_⟩:∃ y_:List (List Int),y_=(List.replicate (a2:Int).toNat []):=⟨_,rfl⟩
   replace H:(churnref13_Turn.l2 k2 l0 a1 a2 l3 x13_2 x14_2 y889 y892 0 t862 t865 t868 ([]:List (List Int)))=some (r1,r2):=hyw_
   have Ny892:=am_ hy_
   clear hy_
   have H':=am_ H
   clear H
   go_wp2_with(first|(refine gd_ 85 ?_;(try(refine jI T0_ ?_;dsimp only));refine Kd.R_make0 (jb .i64) _ 3 rfl (N:=85) rfl 24 _ _ rfl a1 rfl rfl Try.underlying24 (.int .i64 0) 8 info3 rfl T3_ T2_ 0 (ok:=fun _=>True) (okp:=fun _=>True) rfl (fun _ hk=>hk) trivial (od_) (Nat.le_trans (Nat.mul_le_mul_right _ (od_:a1.toNat≤35184372088832)) T2_) (Below.refl _ _) (Nat.le_refl _) ?_;intro v890 w41 ho42 hb hg_ hnew_;clear hg_ hnew_;(first|rw[←Ny889.out] at ho42|(simp only[Int.reduceToNat] at ho42;rw[←Ny889.out] at ho42));have n_:=P8_ (jg (ru_ HO_13.out) (jf ho42) hb) (jg (ru_ HO_14.out) (jf ho42) hb) (jg (ru_ HO_876000.out) (jf ho42) hb) (jg (ru_ HO_876001.out) (jf ho42) hb) (jg (ru_ HO_876002.out) (jf ho42) hb) (jq (jj (jj (jj (jj (jj ho42 (jh (ru_ HO_13.out))) (jh (ru_ HO_14.out))) (jh (ru_ HO_876000.out))) (jh (ru_ HO_876001.out))) (jh (ru_ HO_876002.out))) (jc T35_)) (jo (bu_ BK875.out) hb) (jk T35_ hb);clear HO_13 HO_14 HO_876000 HO_876001 HO_876002 BK875 HB;obtain⟨HO_13,HO_14,HO_876000,HO_876001,HO_876002,HO891,BK875,HB⟩:=n_;clear hb ho42)|(refine gd_ 87 ?_;(try(refine jI T0_ ?_;dsimp only));refine Kd.S_make (jB 3 (jb .i64)) _ 24 rfl (N:=87) rfl 51 _ _ rfl a2 rfl rfl Try.underlying51 (.slice none 0 0) 24 info24 rfl T3_ T2_ [] (ok:=fun _=>True) (okp:=fun _=>True) ⟨_,rfl,Kd.R_nil _ _ _ _ _⟩ (fun _ hk=>hk) trivial (od_) (Nat.le_trans (Nat.mul_le_mul_right _ (od_:a2.toNat≤11728124029610)) T2_) (Below.refl _ _) (Nat.le_refl _) ?_;intro v893 w43 ho44 hb hg_ hnew_;clear hg_ hnew_;(first|rw[←Ny892.out] at ho44|(simp only[Int.reduceToNat] at ho44;rw[←Ny892.out] at ho44));have n_:=P9_ (je (ru_ HO_13.out) hb) (je (ru_ HO_14.out) hb) (je (ru_ HO_876000.out) hb) (je (ru_ HO_876001.out) hb) (je (ru_ HO_876002.out) hb) (je (ru_ HO891.out) hb) (Kd.S_lower (Kd.S_new' (Kd.S_new' (Kd.S_new' (Kd.S_new' (Kd.S_new' (Kd.S_new' ho44 (jh (ru_ HO_13.out))) (jh (ru_ HO_14.out))) (jh (ru_ HO_876000.out))) (jh (ru_ HO_876001.out))) (jh (ru_ HO_876002.out))) (jh (ru_ HO891.out))) (jc T35_)) (jo (bu_ BK875.out) hb) (jk T35_ hb);clear HO_13 HO_14 HO_876000 HO_876001 HO_876002 HO891 BK875 HB;obtain⟨HO_13,HO_14,HO_876000,HO_876001,HO_876002,HO891,HO894,BK875,HB⟩:=n_;clear hb ho44))
   go_loopg [18,20] k2 (fun kq v18 v20 w'=>∃ (x18_3:List Int) (x19_3:List (List Int)) (x20_3:Int),v20 = .int .i64 x20_3∧Aside0 (churnref13_Turn.l2 kq l0 a1 a2 l3 x13_2 x14_2 x18_3 x19_3 x20_3 t862 t865 t868 ([]:List (List Int))=some (r1,r2))∧Aside0 (kq≤k2)∧Aside0 (jt (jb .i64) 3 w' w.heap.size (fun k_=>ne_ k_ u14∧ne_ k_ v18∧ne_ k_ (.slice Ao18 t862.length co18)∧ne_ k_ (.slice Ao20 t865.length co20)∧ne_ k_ (.slice Ao21 t868.length co21)) u13 x13_2)∧Aside0 (jt (jb .i64) 3 w' w.heap.size (fun k_=>ne_ k_ u13∧ne_ k_ v18∧ne_ k_ (.slice Ao18 t862.length co18)∧ne_ k_ (.slice Ao20 t865.length co20)∧ne_ k_ (.slice Ao21 t868.length co21)) u14 x14_2)∧Aside0 (jt (jb .i64) 3 w' w.heap.size (fun k_=>ne_ k_ u13∧ne_ k_ u14∧ne_ k_ (.slice Ao18 t862.length co18)∧ne_ k_ (.slice Ao20 t865.length co20)∧ne_ k_ (.slice Ao21 t868.length co21)) v18 x18_3)∧Aside0 (Kd.S (jB 3 (jb .i64)) 24 w' w.heap.size (fun k_=>ne_ k_ u13∧ne_ k_ u14∧ne_ k_ v18∧ne_ k_ (.slice Ao18 t862.length co18)∧ne_ k_ (.slice Ao20 t865.length co20)∧ne_ k_ (.slice Ao21 t868.length co21)) v893 x19_3)∧Aside0 (jt (jb .i64) 3 w' w.heap.size (fun k_=>ne_ k_ u13∧ne_ k_ u14∧ne_ k_ v18∧ne_ k_ (.slice Ao20 t865.length co20)∧ne_ k_ (.slice Ao21 t868.length co21)) (.slice Ao18 t862.length co18) t862)∧Aside0 (jt (jb .i64) 3 w' w.heap.size (fun k_=>ne_ k_ u13∧ne_ k_ u14∧ne_ k_ v18∧ne_ k_ (.slice Ao18 t862.length co18)∧ne_ k_ (.slice Ao21 t868.length co21)) (.slice Ao20 t865.length co20) t865)∧Aside0 (jt (jb .i64) 3 w' w.heap.size (fun k_=>ne_ k_ u13∧ne_ k_ u14∧ne_ k_ v18∧ne_ k_ (.slice Ao18 t862.length co18)∧ne_ k_ (.slice Ao20 t865.length co20)) (.slice Ao21 t868.length co21) t868)∧Aside0 (w'.heap[gb875]? = some (.cells #[(.slice Ao18 t862.length co18),(.slice Ao20 t865.length co20),(.slice Ao21 t868.length co21),.slice Ao872 t871.length co872] 63 (0,0)))∧Aside0 (Below w.heap.size w w'))
   case atStart=>exact⟨(y889),(y892),(0),T10_,H',⟨Nat.le_refl _⟩,⟨ru_ (ja HO_13.out (fun _ hk=>⟨hk.1.1,⟨hk.2,⟨hk.1.2.1,⟨hk.1.2.2.1,hk.1.2.2.2⟩⟩⟩⟩))⟩,⟨ru_ (ja HO_14.out (fun _ hk=>⟨hk.1.1,⟨hk.2,⟨hk.1.2.1,⟨hk.1.2.2.1,hk.1.2.2.2⟩⟩⟩⟩))⟩,⟨ru_ (ja HO891.out (fun _ hk=>⟨hk.1.1.1.1.2,⟨hk.1.1.1.2,⟨hk.1.1.2,⟨hk.1.2,hk.2⟩⟩⟩⟩))⟩,⟨su_ (jC HO894.out (fun _ hk=>⟨hk.1.1.1.1.1.2,⟨hk.1.1.1.1.2,⟨hk.2,⟨hk.1.1.1.2,⟨hk.1.1.2,hk.1.2⟩⟩⟩⟩⟩))⟩,⟨ru_ (ja HO_876000.out (fun _ hk=>⟨hk.1.1,⟨hk.1.2.1,⟨hk.2,⟨hk.1.2.2.1,hk.1.2.2.2⟩⟩⟩⟩))⟩,⟨ru_ (ja HO_876001.out (fun _ hk=>⟨hk.1.1,⟨hk.1.2.1,⟨hk.2,⟨hk.1.2.2.1,hk.1.2.2.2⟩⟩⟩⟩))⟩,⟨ru_ (ja HO_876002.out (fun _ hk=>⟨hk.1.1,⟨hk.1.2.1,⟨hk.2,⟨hk.1.2.2.1,hk.1.2.2.2⟩⟩⟩⟩))⟩,⟨bu_ BK875.out⟩,⟨T35_⟩⟩
   clear H'
   (try clear c3);(try clear c8);(try clear c10);(try clear c10b0 c10b1);(try clear c12);(try clear c13);(try clear c13b0 c13b1);(try clear c14);(try clear c14b0 c14b1);(try clear c26);(try clear c26b0);(try clear c37);(try clear c37b0 c37b1);(try clear c38);(try clear c38b0 c38b1);(try clear c39);(try clear c39b0 c39b1);(try clear c40);(try clear c40b0 c40b1);(try clear hcz19_0 hcz19_1 hcz19_2 hcz19_3 hfz19_0 hfz19_1 hfz19_2 hfz19_3);(try clear BK875)
   obtain⟨x18_3,x19_3,x20_3,rfl,HA,HK3,HO_13,HO_14,HO_18,HO_19,HO_876000,HO_876001,HO_876002,BK875,HB⟩:=hrel
   cases gk with
   | zero=>exact absurd HA.out (by simp[churnref13_Turn.l2])
   | succ k3 =>
    have H:=HA.out
    clear HA
    simp only[churnref13_Turn.l2] at H
    by_cases c45:x20_3<a1
    ·rw[if_pos c45] at H
     have c45b0:=decide_eq_true c45
     clear c45
     replace H:=ifn_ H;obtain⟨c46,H⟩:=H
     have c46b0:=decide_eq_true c46
     clear c46
     replace H:=ifn_ H;obtain⟨c47,H⟩:=H
     have c47b0:=decide_eq_true c47
     clear c47
     replace H:=ifn_ H;obtain⟨c48,H⟩:=H
     have c48b0:=decide_eq_true c48
     clear c48
     replace H:=ifn_ H;obtain⟨c49,H⟩:=H
     have c49b0:=decide_eq_true c49
     clear c49
     replace H:=ifa_ H;obtain⟨LMc50,H⟩:=H
     obtain⟨y897,hy_⟩:∃ y_:List Int,y_=(x18_3 ++ [rd x13_2 (rd l3 x20_3)]):=⟨_,rfl⟩
     replace H:(if 0≤(rd x13_2 (rd l3 x20_3)) then(if(rd x13_2 (rd l3 x20_3))<(x19_3.length:Int) then(if(rd l3 x20_3)<(x14_2.length:Int) then(if(rd_L3 x19_3 (rd x13_2 (rd l3 x20_3))).length<17592186044416 then(churnref13_Turn.l2 k3 l0 a1 a2 l3 x13_2 x14_2 y897 (x19_3.set ((rd x13_2 (rd l3 x20_3)):Int).toNat ((rd_L3 x19_3 (rd x13_2 (rd l3 x20_3))) ++ [wrap64 ((rd l3 x20_3)-(rd x14_2 (rd l3 x20_3)))])) (wrap64 (x20_3+1)) t862 t865 t868 ([]:List (List Int))) else(none)) else(none)) else(none)) else(none))=some (r1,r2):=hyw_
     have Ny897:=am_ hy_
     clear hy_
     replace H:=ifn_ H;obtain⟨c51,H⟩:=H
     have c51b0:=decide_eq_true c51
     clear c51
     replace H:=ifn_ H;obtain⟨c52,H⟩:=H
     have c52b0:=decide_eq_true c52
     clear c52
     replace H:=ifn_ H;obtain⟨c53,H⟩:=H
     have c53b0:=decide_eq_true c53
     clear c53
     replace H:=ifa_ H;obtain⟨LMc54,H⟩:=H
     obtain⟨y904,hy_⟩:∃ y_:List Int,y_=((rd_L3 x19_3 (rd x13_2 (rd l3 x20_3))) ++ [wrap64 ((rd l3 x20_3)-(rd x14_2 (rd l3 x20_3)))]):=⟨_,rfl⟩
     replace H:(churnref13_Turn.l2 k3 l0 a1 a2 l3 x13_2 x14_2 y897 (x19_3.set ((rd x13_2 (rd l3 x20_3)):Int).toNat y904) (wrap64 (x20_3+1)) t862 t865 t868 ([]:List (List Int)))=some (r1,r2):=hyw_
     have Ny904:=am_ hy_
     clear hy_
     obtain⟨y907,hy_⟩:∃ y_:List (List Int),y_=(x19_3.set ((rd x13_2 (rd l3 x20_3)):Int).toNat y904):=⟨_,rfl⟩
     replace H:(churnref13_Turn.l2 k3 l0 a1 a2 l3 x13_2 x14_2 y897 y907 (wrap64 (x20_3+1)) t862 t865 t868 ([]:List (List Int)))=some (r1,r2):=hyw_
     have Ny907:=am_ hy_
     clear hy_
     have H':=am_ H
     clear H
     have p895:0≤(x20_3:Int):=od_
     have q895:x20_3<(l3.length:Int):=od_
     obtain⟨ad895,e895,hx895_0⟩:=jy HR3.out x20_3 p895 q895
     cases e895
     (try(replace hx895_0:=(HB.out.cell (World.block_lt_of_cell? w _ hx895_0)).trans hx895_0))
     replace p895:=eq_true p895
     replace q895:=eq_true q895
     obtain⟨Ao56,co56,eo56⟩:=jp HO_13.out
     subst eo56
     obtain⟨ad896,e896,hx896_0,p896,q896⟩:=ai_ (ji HO_13.out).2.2 (rd l3 x20_3)
     cases e896
     try go_wp2_with(first|(refine gb_ .append #[.tmp 100,.tmp 102] ?_;(try(refine jI T0_ ?_;dsimp only));at_builtin;refine Jd (jb .i64) (w0:=w) w.heap.size rfl (.tmp 100) (.tmp 102) 24 3 (.int .i64 0) 8 rfl Try.underlying24 info3 rfl T3_ T2_ u18 x18_3 (rd x13_2 (rd l3 x20_3)) [.int .i64 (rd x13_2 (rd l3 x20_3))] (fun k_=>ne_ k_ (.slice (some ad896) x13_2.length co56)∧ne_ k_ u14∧ne_ k_ (.slice Ao18 t862.length co18)∧ne_ k_ (.slice Ao20 t865.length co20)∧ne_ k_ (.slice Ao21 t868.length co21)) (fun _=>False) rfl rfl ?aP (fun _ hk=>hk.elim) ?aF ?aO ?aB ?aS ?aL ?_;(case aP=>exact rfl);(case aB=>exact T35_);(case aF=>exact(fun k_ hk=>⟨jA (jh (ru_ HO_13.out)) k_ hk,jA (jh (ru_ HO_14.out)) k_ hk,jA (jh (ru_ HO_876000.out)) k_ hk,jA (jh (ru_ HO_876001.out)) k_ hk,jA (jh (ru_ HO_876002.out)) k_ hk⟩));(case aO=>exact(ru_ HO_18.out));(case aS=>exact(jc T35_));(case aL=>have:=LMc50.out;omega);intro v898 w57 ho hb hg hat;rw[←Ny897.out] at ho;have n_:=P9_ (jv (ok:=(fun k_=>ne_ k_ u14∧ne_ k_ (.slice Ao18 t862.length co18)∧ne_ k_ (.slice Ao20 t865.length co20)∧ne_ k_ (.slice Ao21 t868.length co21))) (ru_ (ja HO_13.out (fun _ hk=>⟨⟨hk.1,⟨hk.2.2.1,⟨hk.2.2.2.1,hk.2.2.2.2⟩⟩⟩,hk.2.1⟩))) hg hat) (jv (ok:=(fun k_=>ne_ k_ (.slice (some ad896) x13_2.length co56)∧ne_ k_ (.slice Ao18 t862.length co18)∧ne_ k_ (.slice Ao20 t865.length co20)∧ne_ k_ (.slice Ao21 t868.length co21))) (ru_ (ja HO_14.out (fun _ hk=>⟨⟨hk.1,⟨hk.2.2.1,⟨hk.2.2.2.1,hk.2.2.2.2⟩⟩⟩,hk.2.1⟩))) hg hat) (Kd.S_after (ok:=(fun k_=>ne_ k_ (.slice (some ad896) x13_2.length co56)∧ne_ k_ u14∧ne_ k_ (.slice Ao18 t862.length co18)∧ne_ k_ (.slice Ao20 t865.length co20)∧ne_ k_ (.slice Ao21 t868.length co21))) (su_ (jC HO_19.out (fun _ hk=>⟨⟨hk.1,⟨hk.2.1,⟨hk.2.2.2.1,⟨hk.2.2.2.2.1,hk.2.2.2.2.2⟩⟩⟩⟩,hk.2.2.1⟩))) hg hat) (jv (ok:=(fun k_=>ne_ k_ (.slice (some ad896) x13_2.length co56)∧ne_ k_ u14∧ne_ k_ (.slice Ao20 t865.length co20)∧ne_ k_ (.slice Ao21 t868.length co21))) (ru_ (ja HO_876000.out (fun _ hk=>⟨⟨hk.1,⟨hk.2.1,⟨hk.2.2.2.1,hk.2.2.2.2⟩⟩⟩,hk.2.2.1⟩))) hg hat) (jv (ok:=(fun k_=>ne_ k_ (.slice (some ad896) x13_2.length co56)∧ne_ k_ u14∧ne_ k_ (.slice Ao18 t862.length co18)∧ne_ k_ (.slice Ao21 t868.length co21))) (ru_ (ja HO_876001.out (fun _ hk=>⟨⟨hk.1,⟨hk.2.1,⟨hk.2.2.2.1,hk.2.2.2.2⟩⟩⟩,hk.2.2.1⟩))) hg hat) (jv (ok:=(fun k_=>ne_ k_ (.slice (some ad896) x13_2.length co56)∧ne_ k_ u14∧ne_ k_ (.slice Ao18 t862.length co18)∧ne_ k_ (.slice Ao20 t865.length co20))) (ru_ (ja HO_876002.out (fun _ hk=>⟨⟨hk.1,⟨hk.2.1,⟨hk.2.2.2.1,hk.2.2.2.2⟩⟩⟩,hk.2.2.1⟩))) hg hat) (Jg (g:=gb875) (o:=.cells #[.slice Ao18 t862.length co18,.slice Ao20 t865.length co20,.slice Ao21 t868.length co21,.slice Ao872 t871.length co872] 63 (0,0)) (bu_ BK875.out) hg (Kd.R_ne HO_18.out BK875.out T3_)) (hb) (ho);clear HO_13 HO_14 HO_19 HO_876000 HO_876001 HO_876002 BK875 HB HO_18;obtain⟨HO_13,HO_14,HO_19,HO_876000,HO_876001,HO_876002,BK875,HB,HO899⟩:=n_;clear ho hb hg hat))
     have n_:=P9_ (js HO_13.out) (js HO_14.out) (Ja HO_19.out) (js HO_876000.out) (js HO_876001.out) (js HO_876002.out) (js HO899.out) (jl BK875.out) (jJ HB.out)
     clear HO_13 HO_14 HO_19 HO_876000 HO_876001 HO_876002 HO899 BK875 HB
     obtain⟨HO_13,HO_14,HO_19,HO_876000,HO_876001,HO_876002,HO899,BK875,HB⟩:=n_
     obtain⟨Ao59,co59,eo59⟩:=jT HO_19.out
     (first|subst eo59|(injection eo59 with f1_ f2_ f3_;have f4_:=f1_.symm;have f5_:=f3_.symm;clear f1_ f2_ f3_;subst f4_;subst f5_))
     have p900:0≤((rd x13_2 (rd l3 x20_3)):Int):=od_
     have q900:(rd x13_2 (rd l3 x20_3))<(x19_3.length:Int):=od_
     obtain⟨ad900,A900_0,c900_0,e900,hx900_0,hl900_0,hi900_0⟩:=at_L3 (jK HO_19.out).2.2 (rd x13_2 (rd l3 x20_3)) p900 q900
     cases e900
     obtain⟨ce900,hce900,hMe900,hcc900⟩:=Kd.S_get HO_19.out [] (rd x13_2 (rd l3 x20_3)) p900 (by first|exact q900|exact od_|(have e_:=(jK HO_19.out).1;omega))
     obtain⟨ve900_0,rfl,ge900_0⟩:=hMe900
     have hv900_0:=hcc900 0 _ rfl
     rw[Nat.add_zero,show((jB 3 (jb .i64))).sz=1 from rfl,Nat.mul_one] at hv900_0
     replace hv900_0:=Option.some.inj (hv900_0.symm.trans hx900_0)
     rw[hv900_0] at ge900_0
     have HL900_0:=am_ (show jt (jb .i64) 3 _ _ _ _ (rd_L3 x19_3 (rd x13_2 (rd l3 x20_3))) from ge900_0)
     clear hv900_0 ge900_0
     have HX900_0:=am_ hx900_0
     clear hcc900 hce900
     have HR900_0:=am_ hi900_0
     have HC900_0:=am_ hl900_0
     clear hi900_0 hl900_0
     replace p900:=eq_true p900
     replace q900:=eq_true q900
     have p901:0≤(x20_3:Int):=od_
     have q901:x20_3<(l3.length:Int):=od_
     obtain⟨ad901,e901,hx901_0⟩:=jy HR3.out x20_3 p901 q901
     have hw901_0:=hx901_0
     obtain rfl:ad895=ad901:=(by injection e901)
     (try(replace hx901_0:=(HB.out.cell (World.block_lt_of_cell? w _ hx901_0)).trans hx901_0))
     replace p901:=eq_true p901
     replace q901:=eq_true q901
     have p902:0≤(x20_3:Int):=od_
     have q902:x20_3<(l3.length:Int):=od_
     obtain⟨ad902,e902,hx902_0⟩:=jy HR3.out x20_3 p902 q902
     have hw902_0:=hx902_0
     obtain rfl:ad895=ad902:=(by injection e902)
     (try(replace hx902_0:=(HB.out.cell (World.block_lt_of_cell? w _ hx902_0)).trans hx902_0))
     replace p902:=eq_true p902
     replace q902:=eq_true q902
     obtain⟨Ao60,co60,eo60⟩:=jp HO_14.out
     (first|subst eo60|(injection eo60 with f1_ f2_ f3_;have f4_:=f1_.symm;have f5_:=f3_.symm;clear f1_ f2_ f3_;subst f4_;subst f5_))
     obtain⟨ad903,e903,hx903_0,p903,q903⟩:=ai_ (ji HO_14.out).2.2 (rd l3 x20_3)
     cases e903
     have n_:=am_ (jC (ok':=(fun k_=>ne_ k_ (.slice (some ad896) x13_2.length co56)∧ne_ k_ (.slice (some ad903) x14_2.length co60)∧ne_ k_ (.slice Ao18 t862.length co18)∧ne_ k_ (.slice Ao20 t865.length co20)∧ne_ k_ (.slice Ao21 t868.length co21)∧ne_ k_ v898)) HO_19.out (fun k_ hk=>⟨hk.1.1,⟨hk.1.2.1,⟨hk.1.2.2.1,⟨hk.1.2.2.2.1,⟨hk.1.2.2.2.2,hk.2⟩⟩⟩⟩⟩))
     clear HO_19
     have HO_19:=n_
     clear n_
     obtain⟨go61,co61,eo61,gb61,gl61,cl61,HG61⟩:=Kd.S_form HO_19.out (by have h_:((rd x13_2 (rd l3 x20_3)):Int)<((x19_3.length:Int):Int):=od_;have h2_:0≤((rd x13_2 (rd l3 x20_3)):Int):=(od_);omega)
     (first|cases eo61|(injection eo61 with ea_ en_ ec_;(first|subst ea_|(injection ea_ with ea_;subst ea_));subst ec_;clear en_))
     have GB61:=am_ gb61
     have GG61:=am_ HG61
     clear gb61 gl61 HG61
     (first|simp only[jW] at hx900_0|skip)
     obtain⟨oki61,ce61,hcl61,hM61,hcc61,_,_,hH61⟩:=Kd.S_elem HO_19.out [] ((rd x13_2 (rd l3 x20_3)):Int) (od_) (by have h_:((rd x13_2 (rd l3 x20_3)):Int)<((x19_3.length:Int):Int):=od_;first|exact h_|(have e_:=(jK HO_19.out).1;omega)|simpa using h_)
     obtain⟨ve61_0,rfl,ge61_0⟩:=hM61
     have hv61:=hcc61 0 _ rfl
     have hX61:=HX900_0.out
     (try simp only[jW] at hX61)
     (try simp only[Nat.add_zero] at hv61)
     (try rw[show((jB 3 (jb .i64))).sz=1 from rfl,Nat.mul_one] at hv61)
     replace hv61:=Option.some.inj (hv61.symm.trans hX61)
     subst hv61
     clear hX61 hcc61 hcl61
     have UU61:=am_ (show jt (jb .i64) 3 _ w.heap.size oki61 (.slice A900_0 (rd_L3 x19_3 (rd x13_2 (rd l3 x20_3))).length c900_0) (rd_L3 x19_3 (rd x13_2 (rd l3 x20_3))) from ge61_0)
     have HH61:=am_ hH61
     have HN61:=am_ (jK HO_19.out).1
     clear hH61 ge61_0
     refine start_ (n:=22) (S:=fun w'=>w'.cell? ⟨go61,((rd x13_2 (rd l3 x20_3))).toNat,none⟩=some (.slice A900_0 (rd_L3 x19_3 (rd x13_2 (rd l3 x20_3))).length c900_0)∧w'.cell? (ad895.add (x20_3).toNat)=some (.int .i64 (rd l3 x20_3))∧w'.cell? (ad895.add (x20_3).toNat)=some (.int .i64 (rd l3 x20_3))∧w'.cell? (ad903.add ((rd l3 x20_3)).toNat)=some (.int .i64 (rd x14_2 (rd l3 x20_3)))) (ds:=[19,21]) #[false,false,false,false,false,false,false,false,false,false,false,false,false,false,false,false,false,false,false,false,false,false] T4_ rfl rfl ⟨hx900_0,((HB.out.cell (World.block_lt_of_cell? w _ hw901_0)).trans hw901_0),((HB.out.cell (World.block_lt_of_cell? w _ hw902_0)).trans hw902_0),hx903_0⟩ (fun hHeld=>?_);refine Jf churnref13_Turn.tab27 churnref13_Turn.bits27 (fun HT_ HW_=>?_)
     generalize w57.drew=w58 at HO_13 HO_14 HO_19 HO_876000 HO_876001 HO_876002 HO899 BK875 HB GG61 HH61 HL900_0 HR900_0 HX900_0 UU61 hx900_0 hx901_0 hx902_0 hx903_0 hHeld ⊢
     refine pz_ 0 (some 104) ?_
     refine pz_ 1 (some 105) ?_
     refine pz_ 2 (some 106) ?_
     refine pz_ 3 (some 107) ?_
     refine pz_ 4 (some 108) ?_
     refine pz_ 6 (some 110) ?_
     refine pz_ 7 (some 111) ?_
     refine pz_ 8 (some 112) ?_
     refine pz_ 10 (some 114) ?_
     refine pz_ 11 (some 115) ?_
     refine pz_ 12 (some 116) ?_
     refine pz_ 13 (some 117) ?_
     refine tz4_ 5 (some 109) hHeld ?_
     refine tz4_ 9 (some 113) hHeld ?_
     refine tz4_ 14 (some 118) hHeld ?_
     refine pz_ 15 (some 119) ?_
     refine tz4_ 16 (some 120) hHeld ?_
     refine pz_ 17 (some 121) ?_
     refine oz_ 18 (some 122) (fun K hK=>?_)
     refine value_ (w1:=?_) (v:=?_) T0_ rfl ?_ ?_
     rotate_left 2
     ·go_simp
      constructor
      ·rfl
      rfl
     refine hK.out _ _ ⟨(World.cell?_alloc_lt _ _ _ (World.block_lt_of_cell? _ _ (hHeld.1))).trans (hHeld.1),(World.cell?_alloc_lt _ _ _ (World.block_lt_of_cell? _ _ (((HB.out.cell (World.block_lt_of_cell? w _ hw901_0)).trans hw901_0)))).trans (((HB.out.cell (World.block_lt_of_cell? w _ hw901_0)).trans hw901_0)),(World.cell?_alloc_lt _ _ _ (World.block_lt_of_cell? _ _ (((HB.out.cell (World.block_lt_of_cell? w _ hw902_0)).trans hw902_0)))).trans (((HB.out.cell (World.block_lt_of_cell? w _ hw902_0)).trans hw902_0)),(World.cell?_alloc_lt _ _ _ (World.block_lt_of_cell? _ _ (hHeld.2.2.2))).trans (hHeld.2.2.2)⟩ (fun hHeld=>?_)
     clear hK K
     refine norm_ (a':=?_) ?_ ?_
     rotate_left
     ·show Act.put _ (some 122) _=_
      simp only[Act.put,List.setIfInBounds_toArray,List.set_cons_zero,List.set_cons_succ,jF,jG]
      rfl
     refine last_ (i:=19) (N:=some 123) #[true,true,true,true,true,true,true,true,true,true,true,true,true,true,true,true,true,true,true,true,false,false] rfl rfl (one_of HT_.out T4_) T3_ (fun K hK=>?_)
     refine Kd.R_append_step (jb .i64) (w0:=w) w.heap.size T0_ (.tmp 109) (.tmp 122) 24 3 (.int .i64 0) 8 rfl Try.underlying24 info3 rfl T3_ T2_ (.slice A900_0 (rd_L3 x19_3 (rd x13_2 (rd l3 x20_3))).length c900_0) (rd_L3 x19_3 (rd x13_2 (rd l3 x20_3))) (wrap64 ((rd l3 x20_3)-(rd x14_2 (rd l3 x20_3)))) [.int .i64 (wrap64 ((rd l3 x20_3)-(rd x14_2 (rd l3 x20_3))))] (fun k_=>oki61 k_∨((fun k_=>ne_ k_ (.slice (some ad896) x13_2.length co56)∧ne_ k_ (.slice (some ad903) x14_2.length co60)∧ne_ k_ (.slice Ao18 t862.length co18)∧ne_ k_ (.slice Ao20 t865.length co20)∧ne_ k_ (.slice Ao21 t868.length co21)∧ne_ k_ v898)) k_∧w58.heap.size≤k_) (fun _=>False) rfl rfl ?aP (fun _ hk=>hk.elim) ?aF ?aO ?aB ?aS ?aL ?_
     (case aP=>exact rfl)
     (case aB=>exact T35_)
     (case aF=>exact(fun k_ hk=>.inr ⟨⟨jA (jh (ru_ HO_13.out)) k_ hk,jA (jh (ru_ HO_14.out)) k_ hk,jA (jh (ru_ HO_876000.out)) k_ hk,jA (jh (ru_ HO_876001.out)) k_ hk,jA (jh (ru_ HO_876002.out)) k_ hk,jA (jh (ru_ HO899.out)) k_ hk⟩,hk⟩))
     (case aO=>exact(ru_ (ja UU61.out (fun _ hk=>.inl hk))))
     (case aS=>exact(jc T35_))
     (case aL=>have:=LMc54.out;omega)
     intro v905 w62 ho hb hg hat
     rw[←Ny904.out] at ho
     have n_:=P10_ (Kd.R_grown2 (ru_ HO_13.out) rfl hg (fun k_ e_=>(HL900_0.out.1 k_ e_).1.1.1)) (Kd.R_grown2 (ru_ HO_14.out) rfl hg (fun k_ e_=>(HL900_0.out.1 k_ e_).1.1.2.1)) (Kd.R_grown2 (ru_ HO_876000.out) rfl hg (fun k_ e_=>(HL900_0.out.1 k_ e_).1.1.2.2.1)) (Kd.R_grown2 (ru_ HO_876001.out) rfl hg (fun k_ e_=>(HL900_0.out.1 k_ e_).1.1.2.2.2.1)) (Kd.R_grown2 (ru_ HO_876002.out) rfl hg (fun k_ e_=>(HL900_0.out.1 k_ e_).1.1.2.2.2.2)) (Jg (g:=gb875) (o:=.cells #[.slice Ao18 t862.length co18,.slice Ao20 t865.length co20,.slice Ao21 t868.length co21,.slice Ao872 t871.length co872] 63 (0,0)) (bu_ BK875.out) hg (Kd.R_ne HL900_0.out BK875.out T3_)) (Kd.R_grown2 (ru_ HO899.out) rfl hg (fun k_ e_=>(HL900_0.out.1 k_ e_).1.2)) (hb) (Kd.H_grown (Kd.H_widen (by repeat(first|exact HH61.out|refine Kd.H_alloc ?_ _|refine Kd.H_drewN ?_ _|refine Kd.H_drew ?_))) hg (fun k_ e_=>.inl (UU61.out.1 k_ e_))) (ho)
     clear HO_13 HO_14 HO_876000 HO_876001 HO_876002 BK875 HO899 HB HH61 HO_19 UU61 HL900_0
     obtain⟨HO_13,HO_14,HO_876000,HO_876001,HO_876002,BK875,HO899,HB,HH61,HO906⟩:=n_
     clear ho hb hg hat
     have p55:0≤((rd x13_2 (rd l3 x20_3)):Int):=od_
     have q55:((rd x13_2 (rd l3 x20_3)):Int)<((x19_3.length:Int):Int):=od_
     replace p55:=eq_true p55
     replace q55:=eq_true q55
     obtain⟨Ao65,co65,eo65⟩:=jp HO906.out
     (first|subst eo65|(injection eo65 with f1_ f2_ f3_;have f4_:=f1_.symm;have f5_:=f3_.symm;clear f1_ f2_ f3_;subst f4_;subst f5_))
     obtain⟨_,_,hraw63,_,_,hcc63,_⟩:=Kd.H_raw HH61.out (od_) (by have h_:((rd x13_2 (rd l3 x20_3)):Int)<((x19_3.length:Int):Int):=od_;first|exact h_|(have e_:=(HN61.out);omega)|simpa using h_)
     obtain⟨_,hfr63⟩:=Kd.H_at HH61.out (od_) (by have h_:((rd x13_2 (rd l3 x20_3)):Int)<((x19_3.length:Int):Int):=od_;first|exact h_|(have e_:=(HN61.out);omega)|simpa using h_)
     have hx63_0:=hcc63 0 _ rfl
     have hf63_0:=hfr63 0
     (try simp only[Nat.add_zero] at hx63_0 hf63_0)
     (try rw[show((jB 3 (jb .i64))).sz=1 from rfl,Nat.mul_one] at hx63_0)
     (try rw[show((jB 3 (jb .i64))).sz=1 from rfl,Nat.mul_one] at hf63_0)
     have HP63:=Kd.S_seg0 HH61.out (od_) (by have h_:((rd x13_2 (rd l3 x20_3)):Int)<((x19_3.length:Int):Int):=od_;first|exact h_|(have e_:=(HN61.out);omega)|simpa using h_) (seg:=[.slice Ao65 y904.length co65]) (j:=0) (show 1≤1 from by decide) (x':=y904) (Kd.M_row HO906.out) (fun _ hk=>hk)
     (try simp only[show((jB 3 (jb .i64))).sz=1 from rfl,Nat.mul_one,Nat.add_zero] at HP63)
     clear hcc63 hfr63
     have HNB875_go61:=am_ (show gb875≠go61 from by have h_:=Kd.R_ne hraw63 BK875.out T3_;intro e_;exact h_ T5_)
     have HS63:=HP63.1
     rw[←Ny907.out] at HS63
     have HQ63:=am_ HS63
     obtain⟨_,hgg63⟩:=jz hraw63 go61 rfl
     have GG63_:=am_ hgg63
     clear HP63 HS63 hgg63
     refine hK.out _ _ ?_
     clear hK K
     refine norm_ (a':=?_) ?_ ?_
     rotate_left
     ·show Act.put _ (some 123) _=_
      simp only[Act.put,List.setIfInBounds_toArray,List.set_cons_zero,List.set_cons_succ,jF,jG]
      rfl
     refine pz_ 20 (some 124) ?_
     refine last_ (i:=21) (N:=none) #[true,true,true,true,true,true,true,true,true,true,true,true,true,true,true,true,true,true,true,true,true,true] rfl rfl (one_of HT_.out T4_) T3_ (fun K hK=>?_)
     refine skip_ (w1:=?_) T0_ rfl ?_ ?_
     rotate_left
     ·go_simp
      rfl
     refine hK.out _ _ ?_
     clear hK K
     refine done_ (done_of HT_.out T4_) ?_
     try go_wp2
     go_roundg k3
     case measure=>have:=HJ4.out;have:=HK2.out;have:=HK3.out;omega
     case rel=>exact⟨(y897),(y907),(wrap64 (x20_3+1)),T10_,H',⟨(by have:=HJ4.out;have:=HK2.out;have:=HK3.out;omega)⟩,⟨ru_ (ja (jd (p:=⟨go61,((rd x13_2 (rd l3 x20_3)):Int).toNat,none⟩) (jr HO_13.out GG63_.out T3_) (fun _ hk=>hk.2) (.slice Ao65 y904.length co65)) (fun _ hk=>⟨hk.1.1.1,⟨hk.1.2,⟨hk.1.1.2.1,⟨hk.1.1.2.2.1,hk.1.1.2.2.2⟩⟩⟩⟩))⟩,⟨ru_ (ja (jd (p:=⟨go61,((rd x13_2 (rd l3 x20_3)):Int).toNat,none⟩) (jr HO_14.out GG63_.out T3_) (fun _ hk=>hk.2) (.slice Ao65 y904.length co65)) (fun _ hk=>⟨hk.1.1.1,⟨hk.1.2,⟨hk.1.1.2.1,⟨hk.1.1.2.2.1,hk.1.1.2.2.2⟩⟩⟩⟩))⟩,⟨ru_ (ja (jd (p:=⟨go61,((rd x13_2 (rd l3 x20_3)):Int).toNat,none⟩) (jr HO899.out GG63_.out T3_) (fun _ hk=>hk.2) (.slice Ao65 y904.length co65)) (fun _ hk=>⟨hk.1.1,⟨hk.1.2.1,⟨hk.1.2.2.1,⟨hk.1.2.2.2.1,hk.1.2.2.2.2⟩⟩⟩⟩))⟩,⟨su_ (jC HQ63.out (fun _ hk=>⟨hk.1,⟨hk.2.1,⟨hk.2.2.2.2.2,⟨hk.2.2.1,⟨hk.2.2.2.1,hk.2.2.2.2.1⟩⟩⟩⟩⟩))⟩,⟨ru_ (ja (jd (p:=⟨go61,((rd x13_2 (rd l3 x20_3)):Int).toNat,none⟩) (jr HO_876000.out GG63_.out T3_) (fun _ hk=>hk.2) (.slice Ao65 y904.length co65)) (fun _ hk=>⟨hk.1.1.1,⟨hk.1.1.2.1,⟨hk.1.2,⟨hk.1.1.2.2.1,hk.1.1.2.2.2⟩⟩⟩⟩))⟩,⟨ru_ (ja (jd (p:=⟨go61,((rd x13_2 (rd l3 x20_3)):Int).toNat,none⟩) (jr HO_876001.out GG63_.out T3_) (fun _ hk=>hk.2) (.slice Ao65 y904.length co65)) (fun _ hk=>⟨hk.1.1.1,⟨hk.1.1.2.1,⟨hk.1.2,⟨hk.1.1.2.2.1,hk.1.1.2.2.2⟩⟩⟩⟩))⟩,⟨ru_ (ja (jd (p:=⟨go61,((rd x13_2 (rd l3 x20_3)):Int).toNat,none⟩) (jr HO_876002.out GG63_.out T3_) (fun _ hk=>hk.2) (.slice Ao65 y904.length co65)) (fun _ hk=>⟨hk.1.1.1,⟨hk.1.1.2.1,⟨hk.1.2,⟨hk.1.1.2.2.1,hk.1.1.2.2.2⟩⟩⟩⟩))⟩,⟨(by(with_reducible repeat(first|refine jn ?_ _|refine jl ?_|refine jm ?_ _));refine jU ?_ HNB875_go61.out _;exact bu_ BK875.out)⟩,⟨(by repeat(first|(with_reducible first|exact HB.out|apply below_alloc|apply Je|apply jJ|refine jO ?_ GB61.out|refine jO ?_ GE875.out)|exact HB.out))⟩⟩
    rw[if_neg c45] at H
    have c45b0:=decide_eq_false c45
    clear c45
    replace H:=Option.bind_eq_some_iff.mp H
    obtain⟨⟨t908,t911,t914,t917⟩,A660,H⟩:=H
    try dsimp only at H
    have A66:=am_ A660
    clear A660
    replace H:=Option.bind_eq_some_iff.mp H
    obtain⟨⟨t919,t920⟩,A670,H⟩:=H
    try dsimp only at H
    have A67:=am_ A670
    clear A670
    replace H:=Option.bind_eq_some_iff.mp H
    obtain⟨t923,A680,H⟩:=H
    try dsimp only at H
    have A68:=am_ A680
    clear A680
    replace H:=Option.bind_eq_some_iff.mp H
    obtain⟨⟨t926,t927⟩,A690,H⟩:=H
    try dsimp only at H
    have A69:=am_ A690
    clear A690
    replace H:=ifn_ H;obtain⟨c70,H⟩:=H
    have c70b0:=eq_true c70
    have c70b1:decide (0≤(l0.length:Int))=true:=decide_eq_true c70
    clear c70
    replace H:=ifn_ H;obtain⟨c71,H⟩:=H
    have c71b0:=eq_true c71
    have c71b1:decide (((l0.length:Int):Int).toNat≤281474976710656)=true:=decide_eq_true c71
    clear c71
    obtain⟨y930,hy_⟩:∃ y_:List Int,y_=(([]:List Int)):=⟨_,rfl⟩
    replace H:(if y930.length+t908.length<140737488355328 then((some (y930 ++ t908:List Int)).bind fun y933=>(if y933.length+t926.length<140737488355328 then(churnref13_Turn.l3 k3 l0 a2 x19_3 (y933 ++ t926) 0 t862 t865 t868 ([]:List (List Int)) t908 t911 t914) else(none))) else(none))=some (r1,r2):=hyw_
    have Ny930:=am_ hy_
    clear hy_
    replace H:=ifa_ H;obtain⟨LMc72,H⟩:=H
    obtain⟨y933,hy_⟩:∃ y_:List Int,y_=(y930 ++ t908):=⟨_,rfl⟩
    replace H:(if y933.length+t926.length<140737488355328 then(churnref13_Turn.l3 k3 l0 a2 x19_3 (y933 ++ t926) 0 t862 t865 t868 ([]:List (List Int)) t908 t911 t914) else(none))=some (r1,r2):=hyw_
    have Ny933:=am_ hy_
    clear hy_
    replace H:=ifa_ H;obtain⟨LMc73,H⟩:=H
    obtain⟨y936,hy_⟩:∃ y_:List Int,y_=(y933 ++ t926):=⟨_,rfl⟩
    replace H:(churnref13_Turn.l3 k3 l0 a2 x19_3 y936 0 t862 t865 t868 ([]:List (List Int)) t908 t911 t914)=some (r1,r2):=hyw_
    have Ny936:=am_ hy_
    clear hy_
    have H':=am_ H
    clear H
    try go_wp2_with(first|(refine gc_ 26 ?_;refine gl_ (some 128) Try.func26 #[.slice A0 l0.length c0,.int .i64 a2] ?_;(with_reducible refine(churnref09_Split.calls k3 _ _ l0 a2 t908 t911 t914 t917 _ ?side1 ?side2 A66.out).mono ?_);(case side1=>exact cu_ (jw HR0.out HB.out));(case side2=>exact HC0.out);rintro e w74 ⟨v909,v912,v915,rfl,ho0,ho1,ho2,hb⟩;refine⟨_,rfl,?_⟩;have n_:=P12_ (je (ru_ HO_13.out) hb) (je (ru_ HO_14.out) hb) (je (ru_ HO_18.out) hb) (jD (su_ HO_19.out) hb) (je (ru_ HO_876000.out) hb) (je (ru_ HO_876001.out) hb) (je (ru_ HO_876002.out) hb) (jq ho0 (jc T35_)) (jq ho1 (jc T35_)) (Kd.S_lower ho2 (jc T35_)) (jo (bu_ BK875.out) hb) (jk T35_ hb);clear HO_13 HO_14 HO_18 HO_19 HO_876000 HO_876001 HO_876002 BK875 HB;obtain⟨HO_13,HO_14,HO_18,HO_19,HO_876000,HO_876001,HO_876002,HO910,HO913,HO916,BK875,HB⟩:=n_;clear hb ho0 ho1 ho2)|(refine gd_ 22 ?_;(try(refine jI T0_ ?_;dsimp only));refine bx_ 22 #[.slice none 0 0,.slice none 0 0,.slice none 0 0] 55 ?_;intro gb918 hg w75 hbox hb;have n_:=P17_ (je (ru_ HO_13.out) hb) (je (ru_ HO_14.out) hb) (je (ru_ HO_18.out) hb) (jD (su_ HO_19.out) hb) (je (ru_ HO_876000.out) hb) (je (ru_ HO_876001.out) hb) (je (ru_ HO_876002.out) hb) (je (ru_ HO910.out) hb) (je (ru_ HO913.out) hb) (jD (su_ HO916.out) hb) (jo (bu_ BK875.out) hb) (jk T35_ hb) (hbox) ((by rw[hg];exact(jc T35_):w.heap.size≤gb918)) ((by rw[hg];exact(jc T35_):w.heap.size≤gb918)) ((by rw[hg];exact Nat.ne_of_lt (jV (g:=gb875) (o:=.cells #[.slice Ao18 t862.length co18,.slice Ao20 t865.length co20,.slice Ao21 t868.length co21,.slice Ao872 t871.length co872] 63 (0,0)) (bu_ BK875.out)):gb875≠gb918)) ((by rw[hg];exact Nat.ne_of_gt (jV (g:=gb875) (o:=.cells #[.slice Ao18 t862.length co18,.slice Ao20 t865.length co20,.slice Ao21 t868.length co21,.slice Ao872 t871.length co872] 63 (0,0)) (bu_ BK875.out)):gb918≠gb875));clear HO_13 HO_14 HO_18 HO_19 HO_876000 HO_876001 HO_876002 HO910 HO913 HO916 BK875 HB;obtain⟨HO_13,HO_14,HO_18,HO_19,HO_876000,HO_876001,HO_876002,HO910,HO913,HO916,BK875,HB,BK918,GW918,GE918,NB875_918,NB918_875⟩:=n_;clear hb hbox hg;obtain⟨Ao76,co76,eo76⟩:=jp HO910.out;subst eo76;have hnb77:=NB918_875.out;have hnc77:=NB875_918.out;obtain⟨hcz78_0,hcz78_1,hcz78_2,hfz78_0,hfz78_1,hfz78_2⟩:=cz3_ BK918.out;obtain⟨Ao79,co79,eo79⟩:=jp HO913.out;subst eo79;obtain⟨Ao80,co80,eo80⟩:=jT HO916.out;subst eo80;obtain⟨hcz81_0,hcz81_1,hcz81_2,hcz81_3,hfz81_0,hfz81_1,hfz81_2,hfz81_3⟩:=cz4_ BK875.out;obtain⟨Ao82,co82,eo82⟩:=jp HO_18.out;subst eo82)|(refine gc_ 27 ?_;refine gl_ (some 137) Try.func27 #[.slice Ao18 t862.length co18,.slice Ao82 x18_3.length co82,.slice Ao21 t868.length co21] ?_;(with_reducible refine(churnref12_Draws.calls k3 _ _ t862 _ _ x18_3 _ _ t868 t919 t920 _ ?side1 ?side2 ?side3 ?side4 ?side5 ?side6 A67.out).mono ?_);(case side1=>refine(ji (e:=3) (base:=w.heap.size) (ok:=fun k_=>(ne_ k_ u13∧(ne_ k_ u14∧(ne_ k_ (.slice Ao82 x18_3.length co82)∧(ne_ k_ (.slice Ao20 t865.length co20)∧ne_ k_ (.slice Ao21 t868.length co21)))))) (n:=t862.length) (c:=co18) ?_).2.2;exact(ru_ ((ja (jd (p:=⟨gb918,2,none⟩) (jd (p:=⟨gb918,1,none⟩) (jd (p:=⟨gb918,0,none⟩) (jr HO_876000.out BK918.out T3_) (fun _ hk=>hk.2) (.slice Ao76 t908.length co76)) (fun _ hk=>hk.2) (.slice Ao79 t911.length co79)) (fun _ hk=>hk.2) (.slice Ao80 t914.length co80)) (fun _ h_=>h_.1)))));(case side2=>exact(ji HO_876000.out).2.1);(case side3=>refine(ji (e:=3) (base:=w.heap.size) (ok:=fun k_=>(ne_ k_ u13∧(ne_ k_ u14∧(ne_ k_ (.slice Ao18 t862.length co18)∧(ne_ k_ (.slice Ao20 t865.length co20)∧ne_ k_ (.slice Ao21 t868.length co21)))))) (n:=x18_3.length) (c:=co82) ?_).2.2;exact(ru_ ((ja (jd (p:=⟨gb918,2,none⟩) (jd (p:=⟨gb918,1,none⟩) (jd (p:=⟨gb918,0,none⟩) (jr HO_18.out BK918.out T3_) (fun _ hk=>hk.2) (.slice Ao76 t908.length co76)) (fun _ hk=>hk.2) (.slice Ao79 t911.length co79)) (fun _ hk=>hk.2) (.slice Ao80 t914.length co80)) (fun _ h_=>h_.1)))));(case side4=>exact(ji HO_18.out).2.1);(case side5=>refine(ji (e:=3) (base:=w.heap.size) (ok:=fun k_=>(ne_ k_ u13∧(ne_ k_ u14∧(ne_ k_ (.slice Ao82 x18_3.length co82)∧(ne_ k_ (.slice Ao18 t862.length co18)∧ne_ k_ (.slice Ao20 t865.length co20)))))) (n:=t868.length) (c:=co21) ?_).2.2;exact(ru_ ((ja (jd (p:=⟨gb918,2,none⟩) (jd (p:=⟨gb918,1,none⟩) (jd (p:=⟨gb918,0,none⟩) (jr HO_876002.out BK918.out T3_) (fun _ hk=>hk.2) (.slice Ao76 t908.length co76)) (fun _ hk=>hk.2) (.slice Ao79 t911.length co79)) (fun _ hk=>hk.2) (.slice Ao80 t914.length co80)) (fun _ h_=>h_.1)))));(case side6=>exact(ji HO_876002.out).2.1);rintro e w83 ⟨v921,rfl,ho0,hb⟩;refine⟨_,rfl,?_⟩;have n_:=P14_ (jg (ru_ ((ja (jd (p:=⟨gb918,2,none⟩) (jd (p:=⟨gb918,1,none⟩) (jd (p:=⟨gb918,0,none⟩) (jr HO_13.out BK918.out T3_) (fun _ hk=>hk.2) (.slice Ao76 t908.length co76)) (fun _ hk=>hk.2) (.slice Ao79 t911.length co79)) (fun _ hk=>hk.2) (.slice Ao80 t914.length co80)) (fun _ h_=>h_.1)))) (jf ho0) hb) (jg (ru_ ((ja (jd (p:=⟨gb918,2,none⟩) (jd (p:=⟨gb918,1,none⟩) (jd (p:=⟨gb918,0,none⟩) (jr HO_14.out BK918.out T3_) (fun _ hk=>hk.2) (.slice Ao76 t908.length co76)) (fun _ hk=>hk.2) (.slice Ao79 t911.length co79)) (fun _ hk=>hk.2) (.slice Ao80 t914.length co80)) (fun _ h_=>h_.1)))) (jf ho0) hb) (jg (ru_ ((ja (jd (p:=⟨gb918,2,none⟩) (jd (p:=⟨gb918,1,none⟩) (jd (p:=⟨gb918,0,none⟩) (jr HO_18.out BK918.out T3_) (fun _ hk=>hk.2) (.slice Ao76 t908.length co76)) (fun _ hk=>hk.2) (.slice Ao79 t911.length co79)) (fun _ hk=>hk.2) (.slice Ao80 t914.length co80)) (fun _ h_=>h_.1)))) (jf ho0) hb) (jL (su_ ((jC (jE (p:=⟨gb918,2,none⟩) (jE (p:=⟨gb918,1,none⟩) (jE (p:=⟨gb918,0,none⟩) (Jb HO_19.out BK918.out T3_) (fun _ hk=>hk.2) (.slice Ao76 t908.length co76)) (fun _ hk=>hk.2) (.slice Ao79 t911.length co79)) (fun _ hk=>hk.2) (.slice Ao80 t914.length co80)) (fun _ h_=>h_.1)))) (jf ho0) hb) (jg (ru_ ((ja (jd (p:=⟨gb918,2,none⟩) (jd (p:=⟨gb918,1,none⟩) (jd (p:=⟨gb918,0,none⟩) (jr HO_876000.out BK918.out T3_) (fun _ hk=>hk.2) (.slice Ao76 t908.length co76)) (fun _ hk=>hk.2) (.slice Ao79 t911.length co79)) (fun _ hk=>hk.2) (.slice Ao80 t914.length co80)) (fun _ h_=>h_.1)))) (jf ho0) hb) (jg (ru_ ((ja (jd (p:=⟨gb918,2,none⟩) (jd (p:=⟨gb918,1,none⟩) (jd (p:=⟨gb918,0,none⟩) (jr HO_876001.out BK918.out T3_) (fun _ hk=>hk.2) (.slice Ao76 t908.length co76)) (fun _ hk=>hk.2) (.slice Ao79 t911.length co79)) (fun _ hk=>hk.2) (.slice Ao80 t914.length co80)) (fun _ h_=>h_.1)))) (jf ho0) hb) (jg (ru_ ((ja (jd (p:=⟨gb918,2,none⟩) (jd (p:=⟨gb918,1,none⟩) (jd (p:=⟨gb918,0,none⟩) (jr HO_876002.out BK918.out T3_) (fun _ hk=>hk.2) (.slice Ao76 t908.length co76)) (fun _ hk=>hk.2) (.slice Ao79 t911.length co79)) (fun _ hk=>hk.2) (.slice Ao80 t914.length co80)) (fun _ h_=>h_.1)))) (jf ho0) hb) (je (ru_ ((ja (jd (p:=⟨gb918,2,none⟩) (jd (p:=⟨gb918,1,none⟩) (jd (p:=⟨gb918,0,none⟩) (jr HO910.out BK918.out T3_) (fun _ hk=>hk.2) (.slice Ao76 t908.length co76)) (fun _ hk=>hk.2) (.slice Ao79 t911.length co79)) (fun _ hk=>hk.2) (.slice Ao80 t914.length co80)) (fun _ h_=>h_.1)))) hb) (je (ru_ ((ja (jd (p:=⟨gb918,2,none⟩) (jd (p:=⟨gb918,1,none⟩) (jd (p:=⟨gb918,0,none⟩) (jr HO913.out BK918.out T3_) (fun _ hk=>hk.2) (.slice Ao76 t908.length co76)) (fun _ hk=>hk.2) (.slice Ao79 t911.length co79)) (fun _ hk=>hk.2) (.slice Ao80 t914.length co80)) (fun _ h_=>h_.1)))) hb) (jD (su_ ((jC (jE (p:=⟨gb918,2,none⟩) (jE (p:=⟨gb918,1,none⟩) (jE (p:=⟨gb918,0,none⟩) (Jb HO916.out BK918.out T3_) (fun _ hk=>hk.2) (.slice Ao76 t908.length co76)) (fun _ hk=>hk.2) (.slice Ao79 t911.length co79)) (fun _ hk=>hk.2) (.slice Ao80 t914.length co80)) (fun _ h_=>h_.1)))) hb) (jq (jj (jj (jj (jj (jj (jj ho0 (jh (ru_ ((ja (jd (p:=⟨gb918,2,none⟩) (jd (p:=⟨gb918,1,none⟩) (jd (p:=⟨gb918,0,none⟩) (jr HO_13.out BK918.out T3_) (fun _ hk=>hk.2) (.slice Ao76 t908.length co76)) (fun _ hk=>hk.2) (.slice Ao79 t911.length co79)) (fun _ hk=>hk.2) (.slice Ao80 t914.length co80)) (fun _ h_=>h_.1)))))) (jh (ru_ ((ja (jd (p:=⟨gb918,2,none⟩) (jd (p:=⟨gb918,1,none⟩) (jd (p:=⟨gb918,0,none⟩) (jr HO_14.out BK918.out T3_) (fun _ hk=>hk.2) (.slice Ao76 t908.length co76)) (fun _ hk=>hk.2) (.slice Ao79 t911.length co79)) (fun _ hk=>hk.2) (.slice Ao80 t914.length co80)) (fun _ h_=>h_.1)))))) (jh (ru_ ((ja (jd (p:=⟨gb918,2,none⟩) (jd (p:=⟨gb918,1,none⟩) (jd (p:=⟨gb918,0,none⟩) (jr HO_18.out BK918.out T3_) (fun _ hk=>hk.2) (.slice Ao76 t908.length co76)) (fun _ hk=>hk.2) (.slice Ao79 t911.length co79)) (fun _ hk=>hk.2) (.slice Ao80 t914.length co80)) (fun _ h_=>h_.1)))))) (jh (ru_ ((ja (jd (p:=⟨gb918,2,none⟩) (jd (p:=⟨gb918,1,none⟩) (jd (p:=⟨gb918,0,none⟩) (jr HO_876000.out BK918.out T3_) (fun _ hk=>hk.2) (.slice Ao76 t908.length co76)) (fun _ hk=>hk.2) (.slice Ao79 t911.length co79)) (fun _ hk=>hk.2) (.slice Ao80 t914.length co80)) (fun _ h_=>h_.1)))))) (jh (ru_ ((ja (jd (p:=⟨gb918,2,none⟩) (jd (p:=⟨gb918,1,none⟩) (jd (p:=⟨gb918,0,none⟩) (jr HO_876001.out BK918.out T3_) (fun _ hk=>hk.2) (.slice Ao76 t908.length co76)) (fun _ hk=>hk.2) (.slice Ao79 t911.length co79)) (fun _ hk=>hk.2) (.slice Ao80 t914.length co80)) (fun _ h_=>h_.1)))))) (jh (ru_ ((ja (jd (p:=⟨gb918,2,none⟩) (jd (p:=⟨gb918,1,none⟩) (jd (p:=⟨gb918,0,none⟩) (jr HO_876002.out BK918.out T3_) (fun _ hk=>hk.2) (.slice Ao76 t908.length co76)) (fun _ hk=>hk.2) (.slice Ao79 t911.length co79)) (fun _ hk=>hk.2) (.slice Ao80 t914.length co80)) (fun _ h_=>h_.1)))))) (jc T43_)) (jo (g:=gb875) (o:=.cells #[.slice Ao18 t862.length co18,.slice Ao20 t865.length co20,.slice Ao21 t868.length co21,.slice Ao872 t871.length co872] 63 (0,0)) (by(with_reducible repeat(first|refine jn ?_ _|refine jl ?_|refine jm ?_ _));refine jU ?_ NB875_918.out _;(with_reducible repeat(first|refine jn ?_ _|refine jl ?_|refine jm ?_ _));refine jU ?_ NB875_918.out _;(with_reducible repeat(first|refine jn ?_ _|refine jl ?_|refine jm ?_ _));refine jU ?_ NB875_918.out _;exact bu_ BK875.out) hb) (jo (g:=gb918) (o:=.cells #[.slice Ao76 t908.length co76,.slice Ao79 t911.length co79,.slice Ao80 t914.length co80] 55 (0,0)) (by(with_reducible repeat(first|refine jn ?_ _|refine jl ?_|refine jm ?_ _));refine ju (cs:=#[.slice Ao76 t908.length co76,.slice Ao79 t911.length co79,.slice none 0 0]) ?_ 2 _ rfl;(with_reducible repeat(first|refine jn ?_ _|refine jl ?_|refine jm ?_ _));refine ju (cs:=#[.slice Ao76 t908.length co76,.slice none 0 0,.slice none 0 0]) ?_ 1 _ rfl;(with_reducible repeat(first|refine jn ?_ _|refine jl ?_|refine jm ?_ _));refine ju (cs:=#[.slice none 0 0,.slice none 0 0,.slice none 0 0]) ?_ 0 _ rfl;exact bu_ BK918.out) hb) (jk T43_ hb);clear HO_13 HO_14 HO_18 HO_19 HO_876000 HO_876001 HO_876002 HO910 HO913 HO916 BK875 BK918 HB;obtain⟨HO_13,HO_14,HO_18,HO_19,HO_876000,HO_876001,HO_876002,HO910,HO913,HO916,HO922,BK875,BK918,HB⟩:=n_;clear hb ho0))
    have n_:=P14_ (js HO_13.out) (js HO_14.out) (js HO_18.out) (Ja HO_19.out) (js HO_876000.out) (js HO_876001.out) (js HO_876002.out) (js HO910.out) (js HO913.out) (Ja HO916.out) (js HO922.out) (jl BK875.out) (jl BK918.out) (jJ HB.out)
    clear HO_13 HO_14 HO_18 HO_19 HO_876000 HO_876001 HO_876002 HO910 HO913 HO916 HO922 BK875 BK918 HB
    obtain⟨HO_13,HO_14,HO_18,HO_19,HO_876000,HO_876001,HO_876002,HO910,HO913,HO916,HO922,BK875,BK918,HB⟩:=n_
    refine start_ (n:=11) (S:=fun w'=>w'.cell? ⟨gb918,0,none⟩=some (.slice Ao76 t908.length co76)∧w'.cell? ⟨gb918,1,none⟩=some (.slice Ao79 t911.length co79)∧w'.cell? ⟨gb918,2,none⟩=some (.slice Ao80 t914.length co80)) (ds:=[]) #[false,false,false,false,false,false,false,false,false,false,false] T4_ rfl rfl ⟨bc_ BK918.out 0,bc_ BK918.out 1,bc_ BK918.out 2⟩ (fun hHeld=>?_);refine Jf churnref13_Turn.tab30 churnref13_Turn.bits30 (fun HT_ HW_=>?_)
    generalize w83.drew=w84 at HO_13 HO_14 HO_18 HO_19 HO_876000 HO_876001 HO_876002 HO910 HO913 HO916 HO922 BK875 BK918 HB hHeld ⊢
    refine pz_ 0 (some 141) ?_
    refine pz_ 2 (some 143) ?_
    refine pz_ 4 (some 145) ?_
    refine tz3_ 1 (some 142) hHeld ?_
    refine oz_ 3 (some 144) (fun K hK=>?_)
    refine goes_ Try.func29 T4_ rfl #[.int .i64 a1] T0_ rfl rfl T20_ ?_
    with_reducible refine(churnref12_Bounds.calls k3 a1 t923 _ A68.out).mono ?_
    rintro e w85 ⟨v924,rfl,ho0,hb⟩
    refine⟨_,rfl,?_⟩
    have n_:=P15_ (jg (ru_ HO_13.out) (jf ho0) hb) (jg (ru_ HO_14.out) (jf ho0) hb) (jg (ru_ HO_18.out) (jf ho0) hb) (jL (su_ HO_19.out) (jf ho0) hb) (jg (ru_ HO_876000.out) (jf ho0) hb) (jg (ru_ HO_876001.out) (jf ho0) hb) (jg (ru_ HO_876002.out) (jf ho0) hb) (je (ru_ HO910.out) hb) (je (ru_ HO913.out) hb) (jD (su_ HO916.out) hb) (jg (ru_ HO922.out) (jf ho0) hb) (jq (jj (jj (jj (jj (jj (jj (jj ho0 (jh (ru_ HO_13.out))) (jh (ru_ HO_14.out))) (jh (ru_ HO_18.out))) (jh (ru_ HO_876000.out))) (jh (ru_ HO_876001.out))) (jh (ru_ HO_876002.out))) (jh (ru_ HO922.out))) (jc T43_)) (jo (bu_ BK875.out) hb) (jo (bu_ BK918.out) hb) (jk T43_ hb)
    clear HO_13 HO_14 HO_18 HO_19 HO_876000 HO_876001 HO_876002 HO910 HO913 HO916 HO922 BK875 BK918 HB
    obtain⟨HO_13,HO_14,HO_18,HO_19,HO_876000,HO_876001,HO_876002,HO910,HO913,HO916,HO922,HO925,BK875,BK918,HB⟩:=n_
    (try clear hb);(try clear hk);(try clear ho0)
    obtain⟨Ao86,co86,eo86⟩:=jp HO925.out
    (first|subst eo86|(injection eo86 with f1_ f2_ f3_;have f4_:=f1_.symm;have f5_:=f3_.symm;clear f1_ f2_ f3_;subst f4_;subst f5_))
    obtain⟨Ao87,co87,eo87⟩:=jp HO922.out
    (first|subst eo87|(injection eo87 with f1_ f2_ f3_;have f4_:=f1_.symm;have f5_:=f3_.symm;clear f1_ f2_ f3_;subst f4_;subst f5_))
    refine hK.out _ _ ⟨bc_ BK918.out 0,bc_ BK918.out 1,bc_ BK918.out 2⟩ (fun hHeld=>?_)
    clear hK K
    refine norm_ (a':=?_) ?_ ?_
    rotate_left
    ·show Act.put _ (some 144) _=_
     simp only[Act.put,List.setIfInBounds_toArray,List.set_cons_zero,List.set_cons_succ,jF,jG]
     rfl
    refine oz_ 5 (some 146) (fun K hK=>?_)
    refine goes_ Try.func28 T4_ rfl #[.slice Ao79 t911.length co79,.slice Ao86 t923.length co86,.slice Ao87 t919.length co87] T0_ rfl rfl T20_ ?_
    with_reducible refine(churnref10_Turn.calls k3 _ _ t911 _ _ t923 _ _ t919 t926 t927 _ ?side1 ?side2 ?side3 ?side4 ?side5 ?side6 A69.out).mono ?_
    (case side1=>exact cu_ ((ji HO913.out).2.2))
    (case side2=>exact(ji HO913.out).2.1)
    (case side3=>exact cu_ ((ji HO925.out).2.2))
    (case side4=>exact(ji HO925.out).2.1)
    (case side5=>exact cu_ ((ji HO922.out).2.2))
    (case side6=>exact(ji HO922.out).2.1)
    rintro e w88 ⟨v928,rfl,ho0,hb⟩
    refine⟨_,rfl,?_⟩
    have n_:=P16_ (je (ru_ HO_13.out) hb) (je (ru_ HO_14.out) hb) (je (ru_ HO_18.out) hb) (jD (su_ HO_19.out) hb) (je (ru_ HO_876000.out) hb) (je (ru_ HO_876001.out) hb) (je (ru_ HO_876002.out) hb) (jg (ru_ HO910.out) (jf ho0) hb) (jg (ru_ HO913.out) (jf ho0) hb) (jL (su_ HO916.out) (jf ho0) hb) (je (ru_ HO922.out) hb) (je (ru_ HO925.out) hb) (jq (jj (jj ho0 (jh (ru_ HO910.out))) (jh (ru_ HO913.out))) (jc T43_)) (jo (bu_ BK875.out) hb) (jo (bu_ BK918.out) hb) (jk T43_ hb)
    clear HO_13 HO_14 HO_18 HO_19 HO_876000 HO_876001 HO_876002 HO910 HO913 HO916 HO922 HO925 BK875 BK918 HB
    obtain⟨HO_13,HO_14,HO_18,HO_19,HO_876000,HO_876001,HO_876002,HO910,HO913,HO916,HO922,HO925,HO929,BK875,BK918,HB⟩:=n_
    (try clear hb);(try clear hk);(try clear ho0)
    refine hK.out _ _ ⟨bc_ BK918.out 0,bc_ BK918.out 1,bc_ BK918.out 2⟩ (fun hHeld=>?_)
    clear hK K
    refine norm_ (a':=?_) ?_ ?_
    rotate_left
    ·show Act.put _ (some 146) _=_
     simp only[Act.put,List.setIfInBounds_toArray,List.set_cons_zero,List.set_cons_succ,jF,jG]
     rfl
    refine pz_ 6 (some 140) ?_
    refine pz_ 7 (some 147) ?_
    refine pz_ 8 (some 148) ?_
    refine pz_ 9 (some 26) ?_
    refine pz_ 10 (some 27) ?_
    refine done_ (done_of HT_.out T4_) ?_
    try go_wp2_with(first|(refine gd_ 151 ?_;(try(refine jI T0_ ?_;dsimp only));refine Kd.R_make0 (jb .u8) _ 5 rfl (N:=151) rfl 23 _ _ rfl (l0.length:Int) rfl rfl Try.underlying23 (.int .u8 0) 1 info5 rfl T3_ T2_ 0 (ok:=fun _=>True) (okp:=fun _=>True) rfl (fun _ hk=>hk) trivial (od_) (Nat.le_trans (Nat.mul_le_mul_right _ (od_:(l0.length:Int).toNat≤281474976710656)) T2_) (Below.refl _ _) (Nat.le_refl _) ?_;intro v931 w89 ho90 hb hg_ hnew_;clear hg_ hnew_;(first|rw[←Ny930.out] at ho90|(simp only[Int.reduceToNat] at ho90;rw[←Ny930.out] at ho90));have n_:=P17_ (je (ru_ HO_13.out) hb) (je (ru_ HO_14.out) hb) (je (ru_ HO_18.out) hb) (jD (su_ HO_19.out) hb) (je (ru_ HO_876000.out) hb) (je (ru_ HO_876001.out) hb) (je (ru_ HO_876002.out) hb) (jg (ru_ HO910.out) (jf ho90) hb) (jg (ru_ HO913.out) (jf ho90) hb) (jL (su_ HO916.out) (jf ho90) hb) (je (ru_ HO922.out) hb) (je (ru_ HO925.out) hb) (jg (ru_ HO929.out) (jf ho90) hb) (jq (jj (jj (jj ho90 (jh (ru_ HO910.out))) (jh (ru_ HO913.out))) (jh (ru_ HO929.out))) (jc T43_)) (jo (bu_ BK875.out) hb) (jo (bu_ BK918.out) hb) (jk T43_ hb);clear HO_13 HO_14 HO_18 HO_19 HO_876000 HO_876001 HO_876002 HO910 HO913 HO916 HO922 HO925 HO929 BK875 BK918 HB;obtain⟨HO_13,HO_14,HO_18,HO_19,HO_876000,HO_876001,HO_876002,HO910,HO913,HO916,HO922,HO925,HO929,HO932,BK875,BK918,HB⟩:=n_;clear hb ho90;obtain⟨hcz91_0,hcz91_1,hcz91_2,hfz91_0,hfz91_1,hfz91_2⟩:=cz3_ BK918.out)|(refine gb_ .append #[.tmp 152,.tmp 154] ?_;(try(refine jI T0_ ?_;dsimp only));at_builtin;refine Kd.R_append_rows (jb .u8) (w0:=w) w.heap.size rfl (.tmp 152) (.tmp 154) 23 5 (.int .u8 0) 1 rfl Try.underlying23 info5 rfl T3_ T2_ v931 y930 t908 _ _ _ (fun k_=>ne_ k_ (.slice Ao76 t908.length co76)∧ne_ k_ (.slice Ao79 t911.length co79)∧ne_ k_ v928) (fun _=>False) rfl rfl ?aO ?aR (fun _ _ h=>h) (fun _ h=>h.elim) ?aF ?aB ?aS ?aL ?_;(case aR=>exact cu_ ((ji HO910.out).2.2));(case aB=>exact T43_);(case aF=>exact(fun k_ hk=>⟨jA (jh (ru_ HO910.out)) k_ hk,jA (jh (ru_ HO913.out)) k_ hk,jA (jh (ru_ HO929.out)) k_ hk⟩));(case aO=>exact(ru_ (ja HO932.out (fun _ hk=>⟨hk.1.1.2,⟨hk.1.2,hk.2⟩⟩))));(case aS=>exact(jc T43_));(case aL=>have:=LMc72.out;omega);intro v934 w92 ho hb hg hat;rw[←Ny933.out] at ho;have n_:=P17_ (jx (ru_ HO_13.out) (jz (ru_ HO932.out)) T3_ hg) (jx (ru_ HO_14.out) (jz (ru_ HO932.out)) T3_ hg) (jx (ru_ HO_18.out) (jz (ru_ HO932.out)) T3_ hg) (Kd.S_over' (su_ HO_19.out) (jz (ru_ HO932.out)) T3_ hg) (jx (ru_ HO_876000.out) (jz (ru_ HO932.out)) T3_ hg) (jx (ru_ HO_876001.out) (jz (ru_ HO932.out)) T3_ hg) (jx (ru_ HO_876002.out) (jz (ru_ HO932.out)) T3_ hg) (Jg (g:=gb875) (o:=.cells #[.slice Ao18 t862.length co18,.slice Ao20 t865.length co20,.slice Ao21 t868.length co21,.slice Ao872 t871.length co872] 63 (0,0)) (bu_ BK875.out) hg (Kd.R_ne HO932.out BK875.out T3_)) (jv (ok:=(fun k_=>ne_ k_ (.slice Ao79 t911.length co79)∧ne_ k_ v928)) (ru_ HO910.out) hg hat) (jv (ok:=(fun k_=>ne_ k_ (.slice Ao76 t908.length co76)∧ne_ k_ v928)) (ru_ HO913.out) hg hat) (Kd.S_after (ok:=(fun k_=>ne_ k_ (.slice Ao76 t908.length co76)∧ne_ k_ (.slice Ao79 t911.length co79)∧ne_ k_ v928)) (su_ (jC HO916.out (fun _ hk=>⟨⟨hk.1.1.1,⟨hk.1.1.2,hk.1.2⟩⟩,hk.2⟩))) hg hat) (Jg (g:=gb918) (o:=.cells #[.slice Ao76 t908.length co76,.slice Ao79 t911.length co79,.slice Ao80 t914.length co80] 55 (0,0)) (bu_ BK918.out) hg (Kd.R_ne HO932.out BK918.out T3_)) (jx (ru_ HO922.out) (jz (ru_ HO932.out)) T3_ hg) (jx (ru_ HO925.out) (jz (ru_ HO932.out)) T3_ hg) (jv (ok:=(fun k_=>ne_ k_ (.slice Ao76 t908.length co76)∧ne_ k_ (.slice Ao79 t911.length co79))) (ru_ (ja HO929.out (fun _ hk=>⟨⟨hk.1.1.2,hk.1.2⟩,hk.2⟩))) hg hat) (hb) (ho);clear HO_13 HO_14 HO_18 HO_19 HO_876000 HO_876001 HO_876002 BK875 HO910 HO913 HO916 BK918 HO922 HO925 HO929 HB HO932;obtain⟨HO_13,HO_14,HO_18,HO_19,HO_876000,HO_876001,HO_876002,BK875,HO910,HO913,HO916,BK918,HO922,HO925,HO929,HB,HO935⟩:=n_;clear ho hb hg hat;obtain⟨Ao94,co94,eo94⟩:=jp HO929.out;subst eo94)|(refine gb_ .append #[.tmp 156,.tmp 157] ?_;(try(refine jI T0_ ?_;dsimp only));at_builtin;refine Kd.R_append_rows (jb .u8) (w0:=w) w.heap.size rfl (.tmp 156) (.tmp 157) 23 5 (.int .u8 0) 1 rfl Try.underlying23 info5 rfl T3_ T2_ v934 y933 t926 _ _ _ (fun k_=>ne_ k_ (.slice Ao76 t908.length co76)∧ne_ k_ (.slice Ao79 t911.length co79)∧ne_ k_ (.slice Ao94 t926.length co94)) (fun _=>False) rfl rfl ?aO ?aR (fun _ _ h=>h) (fun _ h=>h.elim) ?aF ?aB ?aS ?aL ?_;(case aR=>exact cu_ ((ji HO929.out).2.2));(case aB=>exact T43_);(case aF=>exact(fun k_ hk=>⟨jA (jh (ru_ HO910.out)) k_ hk,jA (jh (ru_ HO913.out)) k_ hk,jA (jh (ru_ HO929.out)) k_ hk⟩));(case aO=>exact(ru_ HO935.out));(case aS=>exact(jc T43_));(case aL=>have:=LMc73.out;omega);intro v937 w93 ho hb hg hat;rw[←Ny936.out] at ho;have n_:=P17_ (jx (ru_ HO_13.out) (jz (ru_ HO935.out)) T3_ hg) (jx (ru_ HO_14.out) (jz (ru_ HO935.out)) T3_ hg) (jx (ru_ HO_18.out) (jz (ru_ HO935.out)) T3_ hg) (Kd.S_over' (su_ HO_19.out) (jz (ru_ HO935.out)) T3_ hg) (jx (ru_ HO_876000.out) (jz (ru_ HO935.out)) T3_ hg) (jx (ru_ HO_876001.out) (jz (ru_ HO935.out)) T3_ hg) (jx (ru_ HO_876002.out) (jz (ru_ HO935.out)) T3_ hg) (Jg (g:=gb875) (o:=.cells #[.slice Ao18 t862.length co18,.slice Ao20 t865.length co20,.slice Ao21 t868.length co21,.slice Ao872 t871.length co872] 63 (0,0)) (bu_ BK875.out) hg (Kd.R_ne HO935.out BK875.out T3_)) (jv (ok:=(fun k_=>ne_ k_ (.slice Ao79 t911.length co79)∧ne_ k_ (.slice Ao94 t926.length co94))) (ru_ HO910.out) hg hat) (jv (ok:=(fun k_=>ne_ k_ (.slice Ao76 t908.length co76)∧ne_ k_ (.slice Ao94 t926.length co94))) (ru_ HO913.out) hg hat) (Kd.S_after (ok:=(fun k_=>ne_ k_ (.slice Ao76 t908.length co76)∧ne_ k_ (.slice Ao79 t911.length co79)∧ne_ k_ (.slice Ao94 t926.length co94))) (su_ HO916.out) hg hat) (Jg (g:=gb918) (o:=.cells #[.slice Ao76 t908.length co76,.slice Ao79 t911.length co79,.slice Ao80 t914.length co80] 55 (0,0)) (bu_ BK918.out) hg (Kd.R_ne HO935.out BK918.out T3_)) (jx (ru_ HO922.out) (jz (ru_ HO935.out)) T3_ hg) (jx (ru_ HO925.out) (jz (ru_ HO935.out)) T3_ hg) (jv (ok:=(fun k_=>ne_ k_ (.slice Ao76 t908.length co76)∧ne_ k_ (.slice Ao79 t911.length co79))) (ru_ HO929.out) hg hat) (hb) (ho);clear HO_13 HO_14 HO_18 HO_19 HO_876000 HO_876001 HO_876002 BK875 HO910 HO913 HO916 BK918 HO922 HO925 HO929 HB HO935;obtain⟨HO_13,HO_14,HO_18,HO_19,HO_876000,HO_876001,HO_876002,BK875,HO910,HO913,HO916,BK918,HO922,HO925,HO929,HB,HO938⟩:=n_;clear ho hb hg hat))
    go_loopg [28,29] k3 (fun kq v28 v29 w'=>∃ (x28_4:List Int) (x29_4:Int),v29 = .int .i64 x29_4∧Aside0 (churnref13_Turn.l3 kq l0 a2 x19_3 x28_4 x29_4 t862 t865 t868 ([]:List (List Int)) t908 t911 t914=some (r1,r2))∧Aside0 (kq≤k3)∧Aside0 (Kd.S (jB 3 (jb .i64)) 24 w' w.heap.size (fun k_=>ne_ k_ (.slice Ao18 t862.length co18)∧ne_ k_ (.slice Ao20 t865.length co20)∧ne_ k_ (.slice Ao21 t868.length co21)) v893 x19_3)∧Aside0 (jt (jb .u8) 5 w' w.heap.size (fun k_=>ne_ k_ (.slice Ao76 t908.length co76)∧ne_ k_ (.slice Ao79 t911.length co79)) v28 x28_4)∧Aside0 (jt (jb .i64) 3 w' w.heap.size (fun k_=>ne_ k_ (.slice Ao20 t865.length co20)∧ne_ k_ (.slice Ao21 t868.length co21)) (.slice Ao18 t862.length co18) t862)∧Aside0 (jt (jb .i64) 3 w' w.heap.size (fun k_=>ne_ k_ (.slice Ao18 t862.length co18)∧ne_ k_ (.slice Ao21 t868.length co21)) (.slice Ao20 t865.length co20) t865)∧Aside0 (jt (jb .i64) 3 w' w.heap.size (fun k_=>ne_ k_ (.slice Ao18 t862.length co18)∧ne_ k_ (.slice Ao20 t865.length co20)) (.slice Ao21 t868.length co21) t868)∧Aside0 (jt (jb .u8) 5 w' w.heap.size (fun k_=>ne_ k_ v28∧ne_ k_ (.slice Ao79 t911.length co79)) (.slice Ao76 t908.length co76) t908)∧Aside0 (jt (jb .u8) 5 w' w.heap.size (fun k_=>ne_ k_ v28∧ne_ k_ (.slice Ao76 t908.length co76)) (.slice Ao79 t911.length co79) t911)∧Aside0 (Kd.S (jB 5 (jb .u8)) 23 w' w.heap.size (fun k_=>ne_ k_ v28∧ne_ k_ (.slice Ao76 t908.length co76)∧ne_ k_ (.slice Ao79 t911.length co79)) (.slice Ao80 t914.length co80) t914)∧Aside0 (w'.heap[gb875]? = some (.cells #[(.slice Ao18 t862.length co18),(.slice Ao20 t865.length co20),(.slice Ao21 t868.length co21),.slice Ao872 t871.length co872] 63 (0,0)))∧Aside0 (w'.heap[gb918]? = some (.cells #[(.slice Ao76 t908.length co76),(.slice Ao79 t911.length co79),(.slice Ao80 t914.length co80)] 55 (0,0)))∧Aside0 (Below w.heap.size w w'))
    case atStart=>exact⟨(y936),(0),T10_,H',⟨Nat.le_refl _⟩,⟨su_ (jC HO_19.out (fun _ hk=>⟨hk.1.1.2.2.2.1,⟨hk.1.1.2.2.2.2.1,hk.1.1.2.2.2.2.2⟩⟩))⟩,⟨ru_ (ja HO938.out (fun _ hk=>⟨hk.1,hk.2.1⟩))⟩,⟨ru_ (ja HO_876000.out (fun _ hk=>⟨hk.1.1.2.2.2.1,hk.1.1.2.2.2.2⟩))⟩,⟨ru_ (ja HO_876001.out (fun _ hk=>⟨hk.1.1.2.2.2.1,hk.1.1.2.2.2.2⟩))⟩,⟨ru_ (ja HO_876002.out (fun _ hk=>⟨hk.1.1.2.2.2.1,hk.1.1.2.2.2.2⟩))⟩,⟨ru_ (ja HO910.out (fun _ hk=>⟨hk.2,hk.1.1⟩))⟩,⟨ru_ (ja HO913.out (fun _ hk=>⟨hk.2,hk.1.1⟩))⟩,⟨su_ (jC HO916.out (fun _ hk=>⟨hk.2,⟨hk.1.1,hk.1.2.1⟩⟩))⟩,⟨bu_ BK875.out⟩,⟨bu_ BK918.out⟩,⟨T43_⟩⟩
    clear H'
    (try clear c26);(try clear c45);(try clear c45b0);(try clear c70);(try clear c70b0 c70b1);(try clear c71);(try clear c71b0 c71b1);(try clear hcz78_0 hcz78_1 hcz78_2 hfz78_0 hfz78_1 hfz78_2);(try clear hcz81_0 hcz81_1 hcz81_2 hcz81_3 hfz81_0 hfz81_1 hfz81_2 hfz81_3);(try clear hcz91_0 hcz91_1 hcz91_2 hfz91_0 hfz91_1 hfz91_2);(try clear BK875);(try clear BK918)
    obtain⟨x28_4,x29_4,rfl,HA,HK4,HO_19,HO_28,HO_876000,HO_876001,HO_876002,HO_919000,HO_919001,HO_919002,BK875,BK918,HB⟩:=hrel
    cases gk with
    | zero=>exact absurd HA.out (by simp[churnref13_Turn.l3])
    | succ k4 =>
     have H:=HA.out
     clear HA
     simp only[churnref13_Turn.l3] at H
     by_cases c95:x29_4<a2
     rotate_left
     ·rw[if_neg c95] at H
      have c95b0:=decide_eq_false c95
      clear c95
      replace H:=ifn_ H;obtain⟨c113,H⟩:=H
      have c113b0:=eq_true c113
      have c113b1:decide (0≤(x28_4.length:Int))=true:=decide_eq_true c113
      clear c113
      replace H:=ifn_ H;obtain⟨c114,H⟩:=H
      have c114b0:=eq_true c114
      have c114b1:decide ((x28_4.length:Int)≤(l0.length:Int))=true:=decide_eq_true c114
      clear c114
      obtain⟨y956,hy_⟩:∃ y_:List Int,y_=(l0.drop ((x28_4.length:Int):Int).toNat):=⟨_,rfl⟩
      replace H:(if x28_4.length+y956.length<140737488355328 then(some ((x28_4 ++ y956),0)) else(none))=some (r1,r2):=hyw_
      have Ny956:=am_ hy_
      clear hy_
      replace H:=ifa_ H;obtain⟨LMc115,H⟩:=H
      obtain⟨y960,hy_⟩:∃ y_:List Int,y_=(x28_4 ++ y956):=⟨_,rfl⟩
      replace H:(some (y960,0))=some (r1,r2):=hyw_
      have Ny960:=am_ hy_
      clear hy_
      obtain⟨rfl,rfl⟩:=sj2_ H
      obtain⟨Ao116,co116,eo116⟩:=jp HO_28.out
      subst eo116
      have q117:((x28_4.length:Int):Int)≤((l0.length:Int):Int):=od_
      obtain⟨i0117,hi0117,_,hsz117,_⟩:=info_parts info5
      have hroom117:l0.length≤c0:=HC0.out
      have hC117:jX (jb .u8) _ A0 l0.length l0:=HR0.out
      have q0117:(0:Int)≤((x28_4.length:Int):Int):=od_
      have hcut117:=cut_from (P:=Try.prog) 23 5 .i64 Try.underlying23 hi0117 1 hsz117 A0 l0.length c0 (x28_4.length:Int) q0117 q117
      have hr117:=Kd.C_drop (m:=((x28_4.length:Int):Int).toNat) (c:=c0) hC117 T2_ hroom117
      obtain⟨A117,hA117⟩:∃ A1,A1=(if c0=((x28_4.length:Int):Int).toNat then A0 else(A0:Option Addr).map (·.add (((x28_4.length:Int):Int).toNat*1))):=⟨_,rfl⟩
      obtain⟨c117,hc117⟩:∃ c1,c1=c0-((x28_4.length:Int):Int).toNat:=⟨_,rfl⟩
      have hy117:y956.length=l0.length-((x28_4.length:Int):Int).toNat:=(by rw[Ny956.out,List.length_drop] <;> omega)
      rw[show(l0).drop ((x28_4.length:Int):Int).toNat=y956 from Ny956.out.symm] at hr117
      replace hr117:jX (jb .u8) _ A117 y956.length y956:=(by rw[hA117];exact hr117)
      rw[←hy117,←hA117,←hc117] at hcut117
      have HR959:=am_ hr117
      have HC959:=am_ (show y956.length≤c117 from by rw[hy117,hc117];exact Nat.sub_le_sub_right hroom117 _)
      clear hr117 hC117 hroom117 hi0117 hsz117 hc117
      have KY117:=am_ hy117
      have KA117:=am_ hA117
      clear hy117 hA117
      replace q117:=eq_true q117
      go_wp2_with(first|(refine gb_ .append #[.tmp 191,.tmp 195] ?_;(try(refine jI T0_ ?_;dsimp only));at_builtin;refine Kd.R_append_rows (jb .u8) (w0:=w) w.heap.size rfl (.tmp 191) (.tmp 195) 23 5 (.int .u8 0) 1 rfl Try.underlying23 info5 rfl T3_ T2_ (.slice Ao116 x28_4.length co116) x28_4 y956 _ _ _ (fun k_=>ne_ k_ (.slice Ao76 t908.length co76)∧ne_ k_ (.slice Ao79 t911.length co79)) (fun _=>False) rfl rfl ?aO ?aR (fun _ _ h=>h) (fun _ h=>h.elim) ?aF ?aB ?aS ?aL ?_;(case aR=>exact cu_ (jw HR959.out HB.out));(case aB=>exact T43_);(case aF=>exact(fun k_ hk=>⟨jA (jh (ru_ HO_919000.out)) k_ hk,jA (jh (ru_ HO_919001.out)) k_ hk⟩));(case aO=>exact(ru_ HO_28.out));(case aS=>exact(jc T43_));(case aL=>have:=LMc115.out;omega);intro v961 w118 ho hb hg hat;rw[←Ny960.out] at ho;have n_:=P11_ (Kd.S_over' (su_ HO_19.out) (jz (ru_ HO_28.out)) T3_ hg) (jx (ru_ HO_876000.out) (jz (ru_ HO_28.out)) T3_ hg) (jx (ru_ HO_876001.out) (jz (ru_ HO_28.out)) T3_ hg) (jx (ru_ HO_876002.out) (jz (ru_ HO_28.out)) T3_ hg) (jv (ok:=(fun k_=>ne_ k_ (.slice Ao79 t911.length co79))) (ru_ (ja HO_919000.out (fun _ hk=>⟨hk.2,hk.1⟩))) hg hat) (jv (ok:=(fun k_=>ne_ k_ (.slice Ao76 t908.length co76))) (ru_ (ja HO_919001.out (fun _ hk=>⟨hk.2,hk.1⟩))) hg hat) (Kd.S_after (ok:=(fun k_=>ne_ k_ (.slice Ao76 t908.length co76)∧ne_ k_ (.slice Ao79 t911.length co79))) (su_ (jC HO_919002.out (fun _ hk=>⟨⟨hk.2.1,hk.2.2⟩,hk.1⟩))) hg hat) (Jg (g:=gb875) (o:=.cells #[.slice Ao18 t862.length co18,.slice Ao20 t865.length co20,.slice Ao21 t868.length co21,.slice Ao872 t871.length co872] 63 (0,0)) (bu_ BK875.out) hg (Kd.R_ne HO_28.out BK875.out T3_)) (Jg (g:=gb918) (o:=.cells #[.slice Ao76 t908.length co76,.slice Ao79 t911.length co79,.slice Ao80 t914.length co80] 55 (0,0)) (bu_ BK918.out) hg (Kd.R_ne HO_28.out BK918.out T3_)) (hb) (ho);clear HO_19 HO_876000 HO_876001 HO_876002 HO_919000 HO_919001 HO_919002 BK875 BK918 HB HO_28;obtain⟨HO_19,HO_876000,HO_876001,HO_876002,HO_919000,HO_919001,HO_919002,BK875,BK918,HB,HO962⟩:=n_;clear ho hb hg hat))
      go_ret2
      exact⟨_,T17_,ru_ (ja HO962.out (fun _ hk=>trivial)),T43_⟩
     rw[if_pos c95] at H
     have c95b0:=decide_eq_true c95
     clear c95
     replace H:=ifn_ H;obtain⟨c96,H⟩:=H
     have c96b0:=decide_eq_true c96
     clear c96
     replace H:=ifn_ H;obtain⟨c97,H⟩:=H
     have c97b0:=decide_eq_true c97
     clear c97
     replace H:=Option.bind_eq_some_iff.mp H
     obtain⟨⟨t940,t941⟩,A980,H⟩:=H
     try dsimp only at H
     have A98:=am_ A980
     clear A980
     replace H:=ifn_ H;obtain⟨c99,H⟩:=H
     have c99b0:=decide_eq_true c99
     clear c99
     replace H:=ifn_ H;obtain⟨c100,H⟩:=H
     have c100b0:=decide_eq_true c100
     clear c100
     replace H:=Option.bind_eq_some_iff.mp H
     obtain⟨t946,A1010,H⟩:=H
     try dsimp only at H
     have A101:=am_ A1010
     clear A1010
     replace H:=Option.bind_eq_some_iff.mp H
     obtain⟨⟨t949,t950⟩,A1020,H⟩:=H
     try dsimp only at H
     have A102:=am_ A1020
     clear A1020
     replace H:=ifa_ H;obtain⟨LMc103,H⟩:=H
     obtain⟨y953,hy_⟩:∃ y_:List Int,y_=(x28_4 ++ t949):=⟨_,rfl⟩
     replace H:(churnref13_Turn.l3 k4 l0 a2 x19_3 y953 (wrap64 (x29_4+1)) t862 t865 t868 ([]:List (List Int)) t908 t911 t914)=some (r1,r2):=hyw_
     have Ny953:=am_ hy_
     clear hy_
     have H':=am_ H
     clear H
     obtain⟨Ao104,co104,eo104⟩:=jT HO_19.out
     subst eo104
     have p939:0≤(x29_4:Int):=od_
     have q939:x29_4<(x19_3.length:Int):=od_
     obtain⟨ad939,A939_0,c939_0,e939,hx939_0,hl939_0,hi939_0⟩:=at_L3 (jK HO_19.out).2.2 x29_4 p939 q939
     cases e939
     obtain⟨ce939,hce939,hMe939,hcc939⟩:=Kd.S_get HO_19.out [] x29_4 p939 (by first|exact q939|exact od_|(have e_:=(jK HO_19.out).1;omega))
     obtain⟨ve939_0,rfl,ge939_0⟩:=hMe939
     have hv939_0:=hcc939 0 _ rfl
     rw[Nat.add_zero,show((jB 3 (jb .i64))).sz=1 from rfl,Nat.mul_one] at hv939_0
     replace hv939_0:=Option.some.inj (hv939_0.symm.trans hx939_0)
     rw[hv939_0] at ge939_0
     have HL939_0:=am_ (show jt (jb .i64) 3 _ _ _ _ (rd_L3 x19_3 x29_4) from ge939_0)
     clear hv939_0 ge939_0
     have HX939_0:=am_ hx939_0
     clear hcc939 hce939
     have HR939_0:=am_ hi939_0
     have HC939_0:=am_ hl939_0
     clear hi939_0 hl939_0
     replace p939:=eq_true p939
     replace q939:=eq_true q939
     try go_wp2_with(first|(refine gc_ 30 ?_;refine gl_ (some 169) Try.func30 #[.slice A939_0 (rd_L3 x19_3 x29_4).length c939_0] ?_;(with_reducible refine(churnref11_Draws.calls k4 _ _ (rd_L3 x19_3 x29_4) t940 t941 _ ?side1 ?side2 A98.out).mono ?_);(case side1=>exact cu_ HR939_0.out);(case side2=>exact HC939_0.out);rintro e w105 ⟨v942,rfl,ho0,hb⟩;refine⟨_,rfl,?_⟩;have n_:=P15_ (jL (su_ HO_19.out) (jf ho0) hb) (je (ru_ HO_28.out) hb) (jg (ru_ HO_876000.out) (jf ho0) hb) (jg (ru_ HO_876001.out) (jf ho0) hb) (jg (ru_ HO_876002.out) (jf ho0) hb) (je (ru_ HO_919000.out) hb) (je (ru_ HO_919001.out) hb) (jD (su_ HO_919002.out) hb) (jg (ru_ HL939_0.out) (jf ho0) hb) (jq (jj (jj (jj (jj ho0 (jh (ru_ HO_876000.out))) (jh (ru_ HO_876001.out))) (jh (ru_ HO_876002.out))) (jh (ru_ HL939_0.out))) (jc T43_)) (jo (bu_ BK875.out) hb) (jo (bu_ BK918.out) hb) (jw (cu_ HR939_0.out) hb) (pw_cell_below hb HX939_0.out) (jk T43_ hb);clear HO_19 HO_28 HO_876000 HO_876001 HO_876002 HO_919000 HO_919001 HO_919002 HL939_0 BK875 BK918 HR939_0 HX939_0 HB;obtain⟨HO_19,HO_28,HO_876000,HO_876001,HO_876002,HO_919000,HO_919001,HO_919002,HL939_0,HO943,BK875,BK918,HR939_0,HX939_0,HB⟩:=n_;clear hb ho0))
     have n_:=P14_ (Ja HO_19.out) (js HO_28.out) (js HO_876000.out) (js HO_876001.out) (js HO_876002.out) (js HO_919000.out) (js HO_919001.out) (Ja HO_919002.out) (js HL939_0.out) (js HO943.out) (jl BK875.out) (jl BK918.out) (Kd.C_drew HR939_0.out) (jJ HB.out)
     clear HO_19 HO_28 HO_876000 HO_876001 HO_876002 HO_919000 HO_919001 HO_919002 HL939_0 HO943 BK875 BK918 HR939_0 HB
     obtain⟨HO_19,HO_28,HO_876000,HO_876001,HO_876002,HO_919000,HO_919001,HO_919002,HL939_0,HO943,BK875,BK918,HR939_0,HB⟩:=n_
     have p944:0≤(x29_4:Int):=od_
     have q944:x29_4<(t914.length:Int):=od_
     obtain⟨ad944,A944_0,c944_0,e944,hx944_0,hl944_0,hi944_0⟩:=at_L2 (jK HO_919002.out).2.2 x29_4 p944 q944
     cases e944
     obtain⟨ce944,hce944,hMe944,hcc944⟩:=Kd.S_get HO_919002.out [] x29_4 p944 (by first|exact q944|exact od_|(have e_:=(jK HO_919002.out).1;omega))
     obtain⟨ve944_0,rfl,ge944_0⟩:=hMe944
     have hv944_0:=hcc944 0 _ rfl
     rw[Nat.add_zero,show((jB 5 (jb .u8))).sz=1 from rfl,Nat.mul_one] at hv944_0
     replace hv944_0:=Option.some.inj (hv944_0.symm.trans hx944_0)
     rw[hv944_0] at ge944_0
     have HL944_0:=am_ (show jt (jb .u8) 5 _ _ _ _ (rd_L2 t914 x29_4) from ge944_0)
     clear hv944_0 ge944_0
     have HX944_0:=am_ hx944_0
     clear hcc944 hce944
     have HR944_0:=am_ hi944_0
     have HC944_0:=am_ hl944_0
     clear hi944_0 hl944_0
     replace p944:=eq_true p944
     replace q944:=eq_true q944
     obtain⟨ad945,e945,hx945_0,p945,q945⟩:=ai_ (ji HO_876000.out).2.2 x29_4
     cases e945
     refine start_ (n:=17) (S:=fun w'=>w'.cell? ⟨gb918,0,none⟩=some (.slice Ao76 t908.length co76)∧w'.cell? ⟨gb918,1,none⟩=some (.slice Ao79 t911.length co79)∧w'.cell? ⟨gb918,2,none⟩=some (.slice (some ad944) t914.length co80)∧w'.cell? ⟨gb875,0,none⟩=some (.slice (some ad945) t862.length co18)∧w'.cell? ⟨gb875,1,none⟩=some (.slice Ao20 t865.length co20)∧w'.cell? ⟨gb875,2,none⟩=some (.slice Ao21 t868.length co21)∧w'.cell? ⟨gb875,3,none⟩=some (.slice Ao872 t871.length co872)∧w'.cell? (ad944.add (x29_4).toNat)=some (.slice A944_0 (rd_L2 t914 x29_4).length c944_0)∧w'.cell? (ad945.add (x29_4).toNat)=some (.int .i64 (rd t862 x29_4))) (ds:=[]) #[false,false,false,false,false,false,false,false,false,false,false,false,false,false,false,false,false] T4_ rfl rfl ⟨bc_ BK918.out 0,bc_ BK918.out 1,bc_ BK918.out 2,bc_ BK875.out 0,bc_ BK875.out 1,bc_ BK875.out 2,bc_ BK875.out 3,hx944_0,hx945_0⟩ (fun hHeld=>?_);refine Jf churnref13_Turn.tab38 churnref13_Turn.bits38 (fun HT_ HW_=>?_)
     generalize w105.drew=w106 at HO_19 HO_28 HO_876000 HO_876001 HO_876002 HO_919000 HO_919001 HO_919002 HL939_0 HO943 BK875 BK918 HR939_0 HB HL944_0 HR944_0 HX944_0 hx944_0 hx945_0 hHeld ⊢
     refine pz_ 0 (some 173) ?_
     refine pz_ 2 (some 175) ?_
     refine pz_ 5 (some 178) ?_
     refine pz_ 7 (some 180) ?_
     refine pz_ 11 (some 184) ?_
     refine tz9_ 1 (some 174) hHeld ?_
     refine pz_ 3 (some 176) ?_
     refine tz9_ 4 (some 177) hHeld ?_
     refine tz9_ 6 (some 179) hHeld ?_
     refine pz_ 8 (some 181) ?_
     refine tz9_ 9 (some 182) hHeld ?_
     refine oz_ 10 (some 183) (fun K hK=>?_)
     refine goes_ Try.func31 T4_ rfl #[.int .i64 (rd t862 x29_4)] T0_ rfl rfl T20_ ?_
     with_reducible refine(churnref11_Bounds.calls k4 (rd t862 x29_4) t946 _ A101.out).mono ?_
     rintro e w107 ⟨v947,rfl,ho0,hb⟩
     have HS7_:=(hb.cell (World.block_lt_of_cell? _ _ (hHeld.2.2.2.2.2.2.2.1))).trans (hHeld.2.2.2.2.2.2.2.1)
     have HS8_:=(hb.cell (World.block_lt_of_cell? _ _ (hHeld.2.2.2.2.2.2.2.2))).trans (hHeld.2.2.2.2.2.2.2.2)
     refine⟨_,rfl,?_⟩
     have n_:=P18_ (jL (su_ HO_19.out) (jf ho0) hb) (je (ru_ HO_28.out) hb) (jg (ru_ HO_876000.out) (jf ho0) hb) (jg (ru_ HO_876001.out) (jf ho0) hb) (jg (ru_ HO_876002.out) (jf ho0) hb) (je (ru_ HO_919000.out) hb) (je (ru_ HO_919001.out) hb) (jD (su_ HO_919002.out) hb) (jg (ru_ HL939_0.out) (jf ho0) hb) (jg (ru_ HO943.out) (jf ho0) hb) (je (ru_ HL944_0.out) hb) (jq (jj (jj (jj (jj (jj ho0 (jh (ru_ HO_876000.out))) (jh (ru_ HO_876001.out))) (jh (ru_ HO_876002.out))) (jh (ru_ HL939_0.out))) (jh (ru_ HO943.out))) (jc T43_)) (jo (bu_ BK875.out) hb) (jo (bu_ BK918.out) hb) (jw (cu_ HR939_0.out) hb) (jw (cu_ HR944_0.out) hb) (pw_cell_below hb HX944_0.out) (jk T43_ hb)
     clear HO_19 HO_28 HO_876000 HO_876001 HO_876002 HO_919000 HO_919001 HO_919002 HL939_0 HO943 HL944_0 BK875 BK918 HR939_0 HR944_0 HX944_0 HB
     obtain⟨HO_19,HO_28,HO_876000,HO_876001,HO_876002,HO_919000,HO_919001,HO_919002,HL939_0,HO943,HL944_0,HO948,BK875,BK918,HR939_0,HR944_0,HX944_0,HB⟩:=n_
     (try clear hb);(try clear hk);(try clear ho0)
     obtain⟨Ao108,co108,eo108⟩:=jp HO948.out
     (first|subst eo108|(injection eo108 with f1_ f2_ f3_;have f4_:=f1_.symm;have f5_:=f3_.symm;clear f1_ f2_ f3_;subst f4_;subst f5_))
     obtain⟨Ao109,co109,eo109⟩:=jp HO943.out
     (first|subst eo109|(injection eo109 with f1_ f2_ f3_;have f4_:=f1_.symm;have f5_:=f3_.symm;clear f1_ f2_ f3_;subst f4_;subst f5_))
     refine hK.out _ _ ⟨bc_ BK918.out 0,bc_ BK918.out 1,bc_ BK918.out 2,bc_ BK875.out 0,bc_ BK875.out 1,bc_ BK875.out 2,bc_ BK875.out 3,HS7_,HS8_⟩ (fun hHeld=>?_)
     clear hK K
     refine norm_ (a':=?_) ?_ ?_
     rotate_left
     ·show Act.put _ (some 183) _=_
      simp only[Act.put,List.setIfInBounds_toArray,List.set_cons_zero,List.set_cons_succ,jF,jG]
      rfl
     refine oz_ 12 (some 185) (fun K hK=>?_)
     refine goes_ Try.func28 T4_ rfl #[.slice A944_0 (rd_L2 t914 x29_4).length c944_0,.slice Ao108 t946.length co108,.slice Ao109 t940.length co109] T0_ rfl rfl T20_ ?_
     with_reducible refine(churnref10_Turn.calls k4 _ _ (rd_L2 t914 x29_4) _ _ t946 _ _ t940 t949 t950 _ ?side1 ?side2 ?side3 ?side4 ?side5 ?side6 A102.out).mono ?_
     (case side1=>exact cu_ HR944_0.out)
     (case side2=>exact HC944_0.out)
     (case side3=>exact cu_ ((ji HO948.out).2.2))
     (case side4=>exact(ji HO948.out).2.1)
     (case side5=>exact cu_ ((ji HO943.out).2.2))
     (case side6=>exact(ji HO943.out).2.1)
     rintro e w110 ⟨v951,rfl,ho0,hb⟩
     have HS7_:=(hb.cell (World.block_lt_of_cell? _ _ (hHeld.2.2.2.2.2.2.2.1))).trans (hHeld.2.2.2.2.2.2.2.1)
     have HS8_:=(hb.cell (World.block_lt_of_cell? _ _ (hHeld.2.2.2.2.2.2.2.2))).trans (hHeld.2.2.2.2.2.2.2.2)
     refine⟨_,rfl,?_⟩
     have n_:=P19_ (jD (su_ HO_19.out) hb) (jg (ru_ HO_28.out) (jf ho0) hb) (je (ru_ HO_876000.out) hb) (je (ru_ HO_876001.out) hb) (je (ru_ HO_876002.out) hb) (jg (ru_ HO_919000.out) (jf ho0) hb) (jg (ru_ HO_919001.out) (jf ho0) hb) (jL (su_ HO_919002.out) (jf ho0) hb) (je (ru_ HL939_0.out) hb) (je (ru_ HO943.out) hb) (jg (ru_ HL944_0.out) (jf ho0) hb) (je (ru_ HO948.out) hb) (jq (jj (jj (jj (jj ho0 (jh (ru_ HO_28.out))) (jh (ru_ HO_919000.out))) (jh (ru_ HO_919001.out))) (jh (ru_ HL944_0.out))) (jc T43_)) (jo (bu_ BK875.out) hb) (jo (bu_ BK918.out) hb) (jw (cu_ HR939_0.out) hb) (jw (cu_ HR944_0.out) hb) (pw_cell_below hb HX944_0.out) (jk T43_ hb)
     clear HO_19 HO_28 HO_876000 HO_876001 HO_876002 HO_919000 HO_919001 HO_919002 HL939_0 HO943 HL944_0 HO948 BK875 BK918 HR939_0 HR944_0 HX944_0 HB
     obtain⟨HO_19,HO_28,HO_876000,HO_876001,HO_876002,HO_919000,HO_919001,HO_919002,HL939_0,HO943,HL944_0,HO948,HO952,BK875,BK918,HR939_0,HR944_0,HX944_0,HB⟩:=n_
     (try clear hb);(try clear hk);(try clear ho0)
     refine hK.out _ _ ⟨bc_ BK918.out 0,bc_ BK918.out 1,bc_ BK918.out 2,bc_ BK875.out 0,bc_ BK875.out 1,bc_ BK875.out 2,bc_ BK875.out 3,HS7_,HS8_⟩ (fun hHeld=>?_)
     clear hK K
     refine norm_ (a':=?_) ?_ ?_
     rotate_left
     ·show Act.put _ (some 185) _=_
      simp only[Act.put,List.setIfInBounds_toArray,List.set_cons_zero,List.set_cons_succ,jF,jG]
      rfl
     refine pz_ 13 (some 172) ?_
     refine pz_ 14 (some 186) ?_
     refine pz_ 15 (some 187) ?_
     refine pz_ 16 (some 26) ?_
     refine done_ (done_of HT_.out T4_) ?_
     obtain⟨Ao112,co112,eo112⟩:=jp HO952.out
     subst eo112
     try go_wp2_with(first|(refine gb_ .append #[.tmp 188,.tmp 189] ?_;(try(refine jI T0_ ?_;dsimp only));at_builtin;refine Kd.R_append_rows (jb .u8) (w0:=w) w.heap.size rfl (.tmp 188) (.tmp 189) 23 5 (.int .u8 0) 1 rfl Try.underlying23 info5 rfl T3_ T2_ u28 x28_4 t949 _ _ _ (fun k_=>ne_ k_ (.slice Ao76 t908.length co76)∧ne_ k_ (.slice Ao79 t911.length co79)∧ne_ k_ (.slice Ao112 t949.length co112)) (fun _=>False) rfl rfl ?aO ?aR (fun _ _ h=>h) (fun _ h=>h.elim) ?aF ?aB ?aS ?aL ?_;(case aR=>exact cu_ ((ji HO952.out).2.2));(case aB=>exact T43_);(case aF=>exact(fun k_ hk=>⟨jA (jh (ru_ HO_919000.out)) k_ hk,jA (jh (ru_ HO_919001.out)) k_ hk,jA (jh (ru_ HO952.out)) k_ hk⟩));(case aO=>exact(ru_ (ja HO_28.out (fun _ hk=>⟨hk.1.1,⟨hk.1.2,hk.2⟩⟩))));(case aS=>exact(jc T43_));(case aL=>have:=LMc103.out;omega);intro v954 w111 ho hb hg hat;rw[←Ny953.out] at ho;have n_:=P16_ (Kd.S_over' (su_ HO_19.out) (jz (ru_ HO_28.out)) T3_ hg) (jx (ru_ HO_876000.out) (jz (ru_ HO_28.out)) T3_ hg) (jx (ru_ HO_876001.out) (jz (ru_ HO_28.out)) T3_ hg) (jx (ru_ HO_876002.out) (jz (ru_ HO_28.out)) T3_ hg) (jv (ok:=(fun k_=>ne_ k_ (.slice Ao79 t911.length co79)∧ne_ k_ (.slice Ao112 t949.length co112))) (ru_ (ja HO_919000.out (fun _ hk=>⟨⟨hk.1.2,hk.2⟩,hk.1.1⟩))) hg hat) (jv (ok:=(fun k_=>ne_ k_ (.slice Ao76 t908.length co76)∧ne_ k_ (.slice Ao112 t949.length co112))) (ru_ (ja HO_919001.out (fun _ hk=>⟨⟨hk.1.2,hk.2⟩,hk.1.1⟩))) hg hat) (Kd.S_after (ok:=(fun k_=>ne_ k_ (.slice Ao76 t908.length co76)∧ne_ k_ (.slice Ao79 t911.length co79)∧ne_ k_ (.slice Ao112 t949.length co112))) (su_ (jC HO_919002.out (fun _ hk=>⟨⟨hk.1.2.1,⟨hk.1.2.2,hk.2⟩⟩,hk.1.1⟩))) hg hat) (Jg (g:=gb875) (o:=.cells #[.slice (some ad945) t862.length co18,.slice Ao20 t865.length co20,.slice Ao21 t868.length co21,.slice Ao872 t871.length co872] 63 (0,0)) (bu_ BK875.out) hg (Kd.R_ne HO_28.out BK875.out T3_)) (Jg (g:=gb918) (o:=.cells #[.slice Ao76 t908.length co76,.slice Ao79 t911.length co79,.slice (some ad944) t914.length co80] 55 (0,0)) (bu_ BK918.out) hg (Kd.R_ne HO_28.out BK918.out T3_)) (jx (ru_ HL939_0.out) (jz (ru_ HO_28.out)) T3_ hg) (jx (ru_ HO943.out) (jz (ru_ HO_28.out)) T3_ hg) (jv (ok:=(fun k_=>ne_ k_ (.slice Ao76 t908.length co76)∧ne_ k_ (.slice Ao79 t911.length co79)∧ne_ k_ (.slice (some ad944) t914.length co80)∧ne_ k_ (.slice Ao112 t949.length co112))) (ru_ (ja HL944_0.out (fun _ hk=>⟨⟨hk.1.1.2.1,⟨hk.1.1.2.2,⟨hk.1.2,hk.2⟩⟩⟩,hk.1.1.1⟩))) hg hat) (jx (ru_ HO948.out) (jz (ru_ HO_28.out)) T3_ hg) (jv (ok:=(fun k_=>ne_ k_ (.slice Ao76 t908.length co76)∧ne_ k_ (.slice Ao79 t911.length co79)∧ne_ k_ (.slice A944_0 (rd_L2 t914 x29_4).length c944_0))) (ru_ (ja HO952.out (fun _ hk=>⟨⟨hk.1.1.2,⟨hk.1.2,hk.2⟩⟩,hk.1.1.1.2⟩))) hg hat) (hb) (ho);clear HO_19 HO_876000 HO_876001 HO_876002 HO_919000 HO_919001 HO_919002 BK875 BK918 HL939_0 HO943 HL944_0 HO948 HO952 HB HO_28;obtain⟨HO_19,HO_876000,HO_876001,HO_876002,HO_919000,HO_919001,HO_919002,BK875,BK918,HL939_0,HO943,HL944_0,HO948,HO952,HB,HO955⟩:=n_;clear ho hb hg hat))
     go_roundg k4
     case measure=>have:=HJ4.out;have:=HK2.out;have:=HK3.out;have:=HK4.out;omega
     case rel=>exact⟨(y953),(wrap64 (x29_4+1)),T10_,H',⟨(by have:=HJ4.out;have:=HK2.out;have:=HK3.out;have:=HK4.out;omega)⟩,⟨su_ (jC HO_19.out (fun _ hk=>⟨hk.1.1.1,⟨hk.1.1.2.1,hk.1.1.2.2⟩⟩))⟩,⟨ru_ (ja HO955.out (fun _ hk=>⟨hk.1,hk.2.1⟩))⟩,⟨ru_ (ja HO_876000.out (fun _ hk=>⟨hk.1.1.1,hk.1.1.2⟩))⟩,⟨ru_ (ja HO_876001.out (fun _ hk=>⟨hk.1.1.1,hk.1.1.2⟩))⟩,⟨ru_ (ja HO_876002.out (fun _ hk=>⟨hk.1.1.1,hk.1.1.2⟩))⟩,⟨ru_ (ja HO_919000.out (fun _ hk=>⟨hk.2,hk.1.1⟩))⟩,⟨ru_ (ja HO_919001.out (fun _ hk=>⟨hk.2,hk.1.1⟩))⟩,⟨su_ (jC HO_919002.out (fun _ hk=>⟨hk.2,⟨hk.1.1,hk.1.2.1⟩⟩))⟩,⟨bu_ BK875.out⟩,⟨bu_ BK918.out⟩,⟨T43_⟩⟩
def churnlaw13_RiffleTurns.f (k:Nat) (l0_0:List Int) (a0_1:Int) (a0_2:Int) (l0_3:List Int):Option (Bool):=(churnlaw13_alive.f k).bind fun t964=>(if t964=true then((churnref13_Turn.f k l0_0 a0_1 a0_2 l0_3).bind fun bt965=>((riffle_Turn.f k l0_0 a0_1 a0_2 l0_3).bind fun bt969=>(if(strOfNums bt969.1).toList=(strOfNums bt965.1).toList then(some (bt969.2 == bt965.2)) else(some false)))) else(some false))
set_option maxHeartbeats 8000000 in
set_option maxRecDepth 100000 in
theorem churnlaw13_RiffleTurns.calls (k:Nat) (A0_0:Option Addr) (c0_0:Nat) (l0_0:List Int) (a0_1:Int) (a0_2:Int) (A0_3:Option Addr) (c0_3:Nat) (l0_3:List Int) (r:Bool) (w:World) (hr0_0:jX (jb .u8) w A0_0 l0_0.length l0_0) (hc0_0:l0_0.length≤c0_0) (hr0_3:jX (jb .i64) w A0_3 l0_3.length l0_3) (hc0_3:l0_3.length≤c0_3) (hr_:r=true) (h:churnlaw13_RiffleTurns.f k l0_0 a0_1 a0_2 l0_3=some r) :
  Calls Try.prog 5 #[.agg #[.slice A0_0 l0_0.length c0_0,.int .i64 a0_1,.int .i64 a0_2,.slice A0_3 l0_3.length c0_3]] w fun e w'=>e = .returned (.bool r)∧Below w.heap.size w w':=by
 have HR_:=am_ hr_
 clear hr_
 have hu38:=Try.underlying38
 have HR0_0:=am_ hr0_0
 have HC0_0:=am_ hc0_0
 clear hr0_0 hc0_0
 have HR0_3:=am_ hr0_3
 have HC0_3:=am_ hc0_3
 clear hr0_3 hc0_3
 have HB:=am_ (Below.refl w.heap.size w)
 have H:((churnlaw13_alive.f k).bind fun t964=>(if t964=true then((churnref13_Turn.f k l0_0 a0_1 a0_2 l0_3).bind fun bt965=>((riffle_Turn.f k l0_0 a0_1 a0_2 l0_3).bind fun bt969=>(if(strOfNums bt969.1).toList=(strOfNums bt965.1).toList then(some (bt969.2 == bt965.2)) else(some false)))) else(some false)))=some r:=h
 clear h
 replace H:=Option.bind_eq_some_iff.mp H
 obtain⟨t964,A20,H⟩:=H
 try dsimp only at H
 have A2:=am_ A20
 clear A20
 by_cases c3:t964=true
 rotate_left
 ·replace c3:=Bool.eq_false_iff.mpr c3
  subst c3
  have H1:(some false)=some r:=by rw[if_neg (show ¬ (false=true) by decide)] at H;exact H
  clear H
  have H:=H1
  clear H1
  obtain rfl:=Option.some.inj H
  exact absurd HR_.out T3_
 subst c3
 have H1:((churnref13_Turn.f k l0_0 a0_1 a0_2 l0_3).bind fun bt965=>((riffle_Turn.f k l0_0 a0_1 a0_2 l0_3).bind fun bt969=>(if(strOfNums bt969.1).toList=(strOfNums bt965.1).toList then(some (bt969.2 == bt965.2)) else(some false))))=some r:=by rw[if_pos rfl] at H;exact H
 clear H
 have H:=H1
 clear H1
 replace H:=Option.bind_eq_some_iff.mp H
 obtain⟨⟨t965,t966⟩,A40,H⟩:=H
 try dsimp only at H
 have A4:=am_ A40
 clear A40
 replace H:=Option.bind_eq_some_iff.mp H
 obtain⟨⟨t969,t970⟩,A50,H⟩:=H
 try dsimp only at H
 have A5:=am_ A50
 clear A50
 by_cases c6:(strOfNums t969).toList=(strOfNums t965).toList
 rotate_left
 ·rw[if_neg c6] at H
  obtain⟨c6b0,c6b1⟩:=en_ c6
  obtain rfl:=Option.some.inj H
  exact absurd HR_.out T3_
 rw[if_pos c6] at H
 obtain⟨c6b0,c6b1⟩:=ep_ c6
 clear c6
 obtain rfl:=Option.some.inj H
 obtain⟨rfl⟩:=sj1_ H
 go_enter Try.func5,Try.ntmps5
 go_wp2_with(first|(refine gd_ 1 ?_;refine bx_ 1 #[.slice A0_0 l0_0.length c0_0,.int .i64 a0_1,.int .i64 a0_2,.slice A0_3 l0_3.length c0_3] 38 ?_;intro gb963 hg w7 hbox hb;have n_:=P4_ (jk T19_ hb) (hbox) ((by rw[hg];exact(jc T19_):w.heap.size≤gb963)) ((by rw[hg];exact(jc T19_):w.heap.size≤gb963));clear HB;obtain⟨HB,BK963,GW963,GE963⟩:=n_;clear hb hbox hg)|(refine gc_ 10 ?_;refine gl_ (some 7) Try.func10 #[] ?_;(with_reducible refine(churnlaw13_alive.calls k  true _ rfl A2.out).mono ?_);rintro e w8 ⟨rfl,hb⟩;refine⟨_,rfl,?_⟩;have n_:=P2_ (jo (bu_ BK963.out) hb) (jk T36_ hb);clear BK963 HB;obtain⟨BK963,HB⟩:=n_;clear hb;obtain⟨hcz9_0,hcz9_1,hcz9_2,hcz9_3,hfz9_0,hfz9_1,hfz9_2,hfz9_3⟩:=cz4_ BK963.out)|(refine gc_ 16 ?_;refine gl_ (some 18) Try.func16 #[.slice A0_0 l0_0.length c0_0,.int .i64 a0_1,.int .i64 a0_2,.slice A0_3 l0_3.length c0_3] ?_;(with_reducible refine(churnref13_Turn.calls k _ _ l0_0 a0_1 a0_2 _ _ l0_3 t965 t966 _ ?side1 ?side2 ?side3 ?side4 A4.out).mono ?_);(case side1=>exact cu_ (jw HR0_0.out HB.out));(case side2=>exact HC0_0.out);(case side3=>exact cu_ (jw HR0_3.out HB.out));(case side4=>exact HC0_3.out);rintro e w10 ⟨v967,rfl,ho0,hb⟩;refine⟨_,rfl,?_⟩;have n_:=P3_ (jq ho0 (jc T36_)) (jo (bu_ BK963.out) hb) (jk T36_ hb);clear BK963 HB;obtain⟨HO968,BK963,HB⟩:=n_;clear hb ho0;obtain⟨hcz11_0,hcz11_1,hcz11_2,hcz11_3,hfz11_0,hfz11_1,hfz11_2,hfz11_3⟩:=cz4_ BK963.out)|(refine gc_ 17 ?_;refine gl_ (some 30) Try.func17 #[.slice A0_0 l0_0.length c0_0,.int .i64 a0_1,.int .i64 a0_2,.slice A0_3 l0_3.length c0_3] ?_;(with_reducible refine(riffle_Turn.calls k _ _ l0_0 a0_1 a0_2 _ _ l0_3 t969 t970 _ ?side1 ?side2 ?side3 ?side4 A5.out).mono ?_);(case side1=>exact cu_ (jw HR0_0.out HB.out));(case side2=>exact HC0_0.out);(case side3=>exact cu_ (jw HR0_3.out HB.out));(case side4=>exact HC0_3.out);rintro e w12 ⟨v971,rfl,ho0,hb⟩;refine⟨_,rfl,?_⟩;have n_:=P4_ (jg (ru_ HO968.out) (jf ho0) hb) (jq (jj ho0 (jh (ru_ HO968.out))) (jc T36_)) (jo (bu_ BK963.out) hb) (jk T36_ hb);clear HO968 BK963 HB;obtain⟨HO968,HO972,BK963,HB⟩:=n_;clear hb ho0;have hcv13:=own_string (P:=Try.prog) Try.underlying23 Try.underlying5 Try.underlying9 (Kd.own_of_R HO972.out);have hcv14:=own_string (P:=Try.prog) Try.underlying23 Try.underlying5 Try.underlying9 (Kd.own_of_R HO968.out)))
 go_ret
 exact⟨T17_,T36_⟩
end Go.Proofs.Ytbnifpfnjhdenaa.Q
end
section
namespace Go.Proofs.Ytbnifpfnjhdenaa.Q
open Go.RowKit Go.Proofs.YtbnifpfnjhdenaaW.PrintWords Go.Proofs.YtbnifpfnjhdenaaW.PrintLast
open Go.Proofs.YtbnifpfnjhdenaaW.PrintLast renaming i64_w → jF, i32_w → jG, with_tabW → Jf
open Go.Proofs.YtbnifpfnjhdenaaW.PrintMore renaming max_three → jM, min_three → jN, max2_int → jP, min2_int → jQ, max_four → jR, min_four → jS, max_two → jY, min_two → jZ
open Go.Proofs.YtbnifpfnjhdenaaW.PrintWords renaming below_size → jc, below_step → jk, blk_drew → jl, blk_alloc → jm, blk_drewN → jn, blk_below → jo, blk_put → ju, gate_guard → jI, below_drew1 → jJ, below_set → jO, blk_far → jU, blk_lt → jV, add_plain → jW, pw_below_drewN → Je, blk_grown → Jg
open Go.Proofs.YtbnifpfnjhdenaaW.PrintWords.Kd renaming R_mono → ja, int → jb, R_far → jd, R_below → je, R_base → jf, R_elder' → jg, R_lt → jh, R_reads' → ji, R_new' → jj, R_slice → jp, R_lower → jq, R_types → jr, R_drew → js, R → jt, R_after → jv, C_below → jw, R_over' → jx, at_int → jy, R_typed → jz, fresh' → jA, slice → jB, S_mono → jC, S_below → jD, S_far → jE, R_celln → jH, S_reads' → jK, S_elder' → jL, S_slice → jT, C → jX, S_drew → Ja, S_types → Jb, S_typed → Jc, R_append → Jd
def churnlaw13_RiffleTurns.Pure:Prop:=∀ (y0_0:List Int) (y0_1:Int) (y0_2:Int) (y0_3:List Int),(y0_0.length≤maxLen∧y0_0.length*1≤140737488351232∧∀ x0_ ∈ y0_0,(Lit.int .u8 x0_).wf=true)→(Lit.int .i64 y0_1).wf=true→(Lit.int .i64 y0_2).wf=true→(y0_3.length≤maxLen∧y0_3.length*8≤140737488351232∧∀ x0_ ∈ y0_3,(Lit.int .i64 x0_).wf=true)→∃ k,churnlaw13_RiffleTurns.f k y0_0 y0_1 y0_2 y0_3=some true
end Go.Proofs.Ytbnifpfnjhdenaa.Q
end
section
set_option linter.unusedVariables false
set_option linter.unusedSimpArgs false
namespace Go.Proofs.Ytbnifpfnjhdenaa.Pl
open Go.RowKit Go.Proofs.YtbnifpfnjhdenaaW.PrintWords Go.Proofs.YtbnifpfnjhdenaaW.PrintLast
theorem w64 {x:Int} (h0: -9223372036854775808≤x) (h1:x≤9223372036854775807):wrap64 x=x:=by
 unfold wrap64
 omega
theorem w64n {x:Nat} (h1:x≤9223372036854775807):wrap64 (x:Int)=x:=w64 (by omega) (by omega)
section
variable {α β:Type} {g f:Nat→Option α} {r:α}
theorem ev_pos {c:Prop} [Decidable c] {a b:Nat→Option α} (h:c) (k:Ev a r):Ev (fun n=>if c then a n else b n) r :=
 Ev.congr (fun _=>if_pos h) k
theorem ev_neg {c:Prop} [Decidable c] {a b:Nat→Option α} (h:¬ c) (k:Ev b r):Ev (fun n=>if c then a n else b n) r :=
 Ev.congr (fun _=>if_neg h) k
theorem ev_some {x r:α} (h:x=r):Ev (fun _=>some x) r:=h ▸ Ev.now x
theorem ev_bind {a:α} {s:β} {g:Nat→Option α} {f:Nat→α→Option β} (h:Ev g a) (k:Ev (fun n=>f n a) s):Ev (fun n=>(g n).bind (f n)) s:=Ev.bind h k
theorem ev_bind0 {a:α} {s:β} {g:Option α} {f:Nat→α→Option β} (h:g=some a) (k:Ev (fun n=>f n a) s):Ev (fun n=>g.bind (f n)) s:=by
 subst h
 exact Ev.congr (fun _=>rfl) k
theorem ev_to {g:Nat→Option α} {r s:α} (h:Ev g r) (e:r=s):Ev g s:=e ▸ h
end
theorem rd_nat (xs:List Int) (i:Nat):rd xs (i:Int)=xs.getD i 0:=by simp[rd]
theorem rd_lt (xs:List Int) (i:Nat) (h:i<xs.length):rd xs (i:Int)=xs[i]:=by simp[rd,h]
theorem rd_mem (xs:List Int) (i:Int) (h:i.toNat<xs.length):rd xs i ∈ xs:=by
 unfold rd
 rw[List.getD_eq_getElem?_getD,List.getElem?_eq_getElem h]
 exact List.getElem_mem h
theorem drop_rd (xs:List Int) (i:Nat) (h:i<xs.length):xs.drop i=rd xs (i:Int) ::xs.drop (i+1):=by
 rw[rd_lt xs i h]
 exact List.drop_eq_getElem_cons h
theorem take_rd (xs:List Int) (i:Nat) (h:i<xs.length):xs.take (i+1)=xs.take i ++ [rd xs (i:Int)]:=by
 rw[rd_lt xs i h,List.take_succ_eq_append_getElem h]
theorem wf_i64 {x:Int} (h:(Lit.int .i64 x).wf=true): -9223372036854775808≤x∧x≤9223372036854775807:=by
 have a:IntKind.i64.min = -9223372036854775808:=by rfl
 have b:IntKind.i64.max=9223372036854775807:=by rfl
 simp[Lit.wf,a,b] at h
 omega
theorem wf_u8 {x:Int} (h:(Lit.int .u8 x).wf=true):0≤x∧x≤255:=by
 have a:IntKind.u8.min=0:=by rfl
 have b:IntKind.u8.max=255:=by rfl
 simp[Lit.wf,a,b] at h
 omega
end Go.Proofs.Ytbnifpfnjhdenaa.Pl
end
section
set_option linter.unusedVariables false
set_option linter.unusedSimpArgs false
namespace Go.Proofs.Ytbnifpfnjhdenaa.Pl
open Go.RowKit Go.Proofs.Ytbnifpfnjhdenaa.Q Go.Proofs.YtbnifpfnjhdenaaW.PrintWords Go.Proofs.YtbnifpfnjhdenaaW.PrintLast
def taken (p:List Int) (b:Int) (u:Nat):Prop:=rd p (u:Int)<256-256 % b
instance (p:List Int) (b:Int) (u:Nat):Decidable (taken p b u):=inferInstanceAs (Decidable (_<_))
def below (p:List Int) (b:Int):Nat→Nat→Int×Int×Int
 | 0,_=>(0,0,3)
 | d+1,u=>if taken p b u then(Int.tmod (rd p (u:Int)) b,((u+1:Nat):Int),0) else below p b d (u+1)
theorem quot_lt (v b:Int) (hv:0≤v) (h1:1≤b) (h2:b≤256):Int.tdiv v b<Int.tdiv 256 b↔v<256-256 % b:=by
 rw[Int.tdiv_eq_ediv_of_nonneg hv,Int.tdiv_eq_ediv_of_nonneg (by omega)]
 have h3:=Int.mul_ediv_add_emod 256 b
 have e:256-256 % b=256 / b*b:=by rw[Int.mul_comm];omega
 rw[e]
 exact Int.ediv_lt_iff_lt_mul (by omega)
theorem ref_below (p:List Int) (b:Int) (h1:1≤b) (h2:b≤256) (hp:∀ x ∈ p,0≤x∧x≤255) (hl:p.length≤9223372036854775000):∀ (d u k:Nat),u+d=p.length→d+1≤k→churnref10_Below.l0 k p (u:Int) b=some (below p b d u):=by
 intro d
 induction d with
 | zero =>
  intro u k hu hk
  obtain⟨k,rfl⟩:∃ m,k=m+1:=⟨k-1,by omega⟩
  rw[churnref10_Below.l0,if_neg (by omega)]
  rfl
 | succ d ih =>
  intro u k hu hk
  obtain⟨k,rfl⟩:∃ m,k=m+1:=⟨k-1,by omega⟩
  have hb:=hp _ (rd_mem p (u:Int) (by simp;omega))
  have q1:Int.tdiv (rd p (u:Int)) b=rd p (u:Int) / b:=Int.tdiv_eq_ediv_of_nonneg hb.1
  have q2:Int.tdiv 256 b=256 / b:=Int.tdiv_eq_ediv_of_nonneg (by omega)
  have q3:=quot_lt (rd p (u:Int)) b hb.1 h1 h2
  have q4:0≤rd p (u:Int) / b:=Int.ediv_nonneg hb.1 (by omega)
  have q5:rd p (u:Int) / b≤rd p (u:Int):=Int.ediv_le_self _ hb.1
  have q6:0≤(256:Int) / b:=Int.ediv_nonneg (by omega) (by omega)
  have q7:(256:Int) / b≤256:=Int.ediv_le_self _ (by omega)
  rw[q1,q2] at q3
  rw[churnref10_Below.l0,if_pos (by omega),if_pos (by omega),if_neg (by omega),w64 (x:=rd p (u:Int)) (by omega) (by omega),q1,q2,w64 (x:=rd p (u:Int) / b) (by omega) (by omega),w64 (x:=(256:Int) / b) (by omega) (by omega),w64 (x:=(u:Int)+1) (by omega) (by omega)]
  unfold below
  by_cases ht:taken p b u
  ·rw[if_pos (q3.2 ht),if_pos ht]
   rfl
  ·rw[if_neg (fun h=>ht (q3.1 h)),if_neg ht]
   exact ih (u+1) k (by omega) (by omega)
theorem bt_nums (p:List Int) (hp:∀ x ∈ p,0≤x∧x≤255) (u:Nat) (hu:u<p.length):bt (strOfNums p) (u:Int)=rd p (u:Int):=by
 have hb:=hp _ (rd_mem p (u:Int) (by simpa using hu))
 have hr:rd p (u:Int)=p[u]:=rd_lt p u hu
 rw[hr] at hb ⊢
 have hs:(u:Int).toNat<(strOfNums p).size:=by rw[strOfNums_size];simpa using hu
 rw[←bt_at (strOfNums p) (u:Int) hs]
 show(((strOfNums p).data[(u:Int).toNat]'hs).toNat:Int)=p[u]
 simp[strOfNums,UInt8.toNat_ofNat]
 omega
def lift (p:List Int) (q:Int×Int×Int):Int×ByteArray×Int×Int:=if q.2.2=0 then(q.1,strOfNums p,q.2.1,0) else(0,⟨#[]⟩,0,q.2.2)
theorem draw_below (p:List Int) (b:Int) (h1:1≤b) (h2:b≤256) (hp:∀ x ∈ p,0≤x∧x≤255) (hl:p.length≤9223372036854775000):∀ (d u k:Nat),u+d=p.length→d+1≤k→draw_Below.l0 k b (strOfNums p) (u:Int)=some (lift p (below p b d u)):=by
 intro d
 induction d with
 | zero =>
  intro u k hu hk
  obtain⟨k,rfl⟩:∃ m,k=m+1:=⟨k-1,by omega⟩
  have hw:wrap64 (((strOfNums p).size:Int)-(u:Int))=0:=by rw[strOfNums_size,w64 (by omega) (by omega)];omega
  have hB:tape_Tape_Byte.f (strOfNums p) (u:Int)=some (0,⟨#[]⟩,0,3):=by
   unfold tape_Tape_Byte.f tape_Tape_Left.f
   rw[Option.bind_some,if_pos hw]
  rw[draw_Below.l0,hB,Option.bind_some,if_neg (by decide)]
  rfl
 | succ d ih =>
  intro u k hu hk
  obtain⟨k,rfl⟩:∃ m,k=m+1:=⟨k-1,by omega⟩
  have hb:=hp _ (rd_mem p (u:Int) (by simp;omega))
  have hw:¬ wrap64 (((strOfNums p).size:Int)-(u:Int))=0:=by rw[strOfNums_size,w64 (by omega) (by omega)];omega
  have hB:tape_Tape_Byte.f (strOfNums p) (u:Int)=some (rd p (u:Int),strOfNums p,((u+1:Nat):Int),0):=by
   unfold tape_Tape_Byte.f tape_Tape_Left.f
   rw[Option.bind_some,if_neg hw,if_pos (by omega),if_pos (by rw[strOfNums_size];omega),bt_nums p hp u (by omega),w64 (by omega) (by omega)]
   rfl
  have q0:0≤(256:Int) % b:=Int.emod_nonneg _ (by omega)
  have q1:(256:Int) % b<b:=Int.emod_lt_of_pos _ (by omega)
  rw[draw_Below.l0,hB,Option.bind_some,if_pos rfl,if_neg (by omega)]
  simp only
  rw[w64 (x:=rd p (u:Int)) (by omega) (by omega),w64 (x:=256-(256:Int) % b) (by omega) (by omega)]
  unfold below
  by_cases ht:taken p b u
  ·rw[if_pos ht,if_pos (show rd p (u:Int)<256-256 % b from ht)]
   rfl
  ·rw[if_neg ht,if_neg (show ¬ rd p (u:Int)<256-256 % b from ht)]
   exact ih (u+1) k (by omega) (by omega)
end Go.Proofs.Ytbnifpfnjhdenaa.Pl
end
section
set_option linter.unusedVariables false
set_option linter.unusedSimpArgs false
namespace Go.Proofs.Ytbnifpfnjhdenaa.Pl
open Go.RowKit Go.Proofs.Ytbnifpfnjhdenaa.Q Go.Proofs.YtbnifpfnjhdenaaW.PrintWords Go.Proofs.YtbnifpfnjhdenaaW.PrintLast
def scan (p:List Int) (b:Int):Nat→Nat→Option Nat
 | 0,_=>none
 | d+1,u=>if taken p b u then some u else scan p b d (u+1)
theorem scan_some (p:List Int) (b:Int):∀ (d u j:Nat),scan p b d u=some j→u≤j∧j<u+d∧taken p b j:=by
 intro d
 induction d with
 | zero=>intro u j h;exact absurd h (by simp[scan])
 | succ d ih =>
  intro u j h
  unfold scan at h
  by_cases ht:taken p b u
  ·rw[if_pos ht] at h
   obtain rfl:=Option.some.inj h
   exact⟨Nat.le_refl _,by omega,ht⟩
  ·rw[if_neg ht] at h
   have:=ih (u+1) j h
   exact⟨by omega,by omega,this.2.2⟩
theorem below_scan (p:List Int) (b:Int):∀ (d u:Nat),below p b d u=match scan p b d u with
  | some j=>(Int.tmod (rd p (j:Int)) b,((j+1:Nat):Int),0)
  | none=>(0,0,3):=by
 intro d
 induction d with
 | zero=>intro u;rfl
 | succ d ih =>
  intro u
  unfold below scan
  by_cases ht:taken p b u
  ·rw[if_pos ht,if_pos ht]
  ·rw[if_neg ht,if_neg ht];exact ih (u+1)
def draw1 (p:List Int) (b:Int) (u:Nat):Option (Int×Nat):=if b=1 then some (0,u) else(scan p b (p.length-u) u).map fun j:Nat=>(Int.tmod (rd p (j:Int)) b,j+1)
theorem draw1_le (p:List Int) (b:Int) (u:Nat) (hu:u≤p.length) {v:Int} {n:Nat} (h:draw1 p b u=some (v,n)):u≤n∧n≤p.length∧(b≠1→u<n):=by
 unfold draw1 at h
 by_cases hb:b=1
 ·rw[if_pos hb] at h
  simp only[Option.some.injEq,Prod.mk.injEq] at h
  obtain⟨rfl,rfl⟩:=h
  exact⟨Nat.le_refl _,hu,fun h=>absurd hb h⟩
 ·rw[if_neg hb] at h
  obtain⟨j,hj,h⟩:=Option.map_eq_some_iff.1 h
  simp only[Prod.mk.injEq] at h
  obtain⟨rfl,rfl⟩:=h
  have:=scan_some p b _ u j hj
  exact⟨by omega,by omega,fun _=>by omega⟩
theorem ref1 (p:List Int) (b:Int) (h1:1≤b) (h2:b≤256) (hp:∀ x ∈ p,0≤x∧x≤255) (hl:p.length≤9223372036854775000) (u k:Nat) (hu:u≤p.length) (hk:p.length-u+2≤k) :
  churnref10_Below.f k p (u:Int) b=some (match draw1 p b u with|some (v,n)=>(v,(n:Int),0)|none=>(0,0,3)):=by
 obtain⟨k,rfl⟩:∃ m,k=m+1:=⟨k-1,by omega⟩
 unfold churnref10_Below.f
 rw[if_neg (by omega),churnref10_Below.j0,if_neg (by simp;omega)]
 unfold draw1
 by_cases hb:b=1
 ·rw[if_pos hb,if_pos hb]
 ·rw[if_neg hb,if_neg hb,ref_below p b h1 h2 hp hl (p.length-u) u k (by omega) (by omega),below_scan]
  cases scan p b (p.length-u) u <;> rfl
theorem okBound_of (b:Int) (h1:1≤b) (h2:b≤256):okBound b=true:=by unfold okBound;simp;omega
theorem drw1 (p:List Int) (b:Int) (h1:1≤b) (h2:b≤256) (hp:∀ x ∈ p,0≤x∧x≤255) (hl:p.length≤9223372036854775000) (u k:Nat) (hu:u≤p.length) (hk:p.length-u+1≤k) :
  draw_Below.f k (strOfNums p) (u:Int) b=some (match draw1 p b u with|some (v,n)=>(v,strOfNums p,(n:Int),0)|none=>(0,⟨#[]⟩,0,3)):=by
 unfold draw_Below.f
 rw[isBound_f,Option.bind_some,if_pos (okBound_of b h1 h2)]
 unfold draw1
 by_cases hb:b=1
 ·rw[if_pos hb,if_pos hb]
 ·rw[if_neg hb,if_neg hb,draw_below p b h1 h2 hp hl (p.length-u) u k (by omega) (by omega),below_scan]
  cases scan p b (p.length-u) u <;> rfl
def run (p:List Int):List Int→Nat→List (Int×Int)→List (Int×Int)×Int×Int
 | [],u,L=>(L,(u:Int),0)
 | b ::bs,u,L=>match draw1 p b u with
  | some (v,n)=>run p bs n (L ++ [(v,(n:Int)-1)])
  | none=>(L,0,3)
end Go.Proofs.Ytbnifpfnjhdenaa.Pl
end
section
set_option linter.unusedVariables false
set_option linter.unusedSimpArgs false
namespace Go.Proofs.Ytbnifpfnjhdenaa.Pl
open Go.RowKit Go.Proofs.Ytbnifpfnjhdenaa.Q Go.Proofs.YtbnifpfnjhdenaaW.PrintWords Go.Proofs.YtbnifpfnjhdenaaW.PrintLast
def AllOk (bs:List Int):Prop:=∀ b ∈ bs,1≤b∧b≤256
theorem allOk_at {bs:List Int} (h:AllOk bs) (i:Nat) (hi:i<bs.length):1≤rd bs (i:Int)∧rd bs (i:Int)≤256:=h _ (rd_mem bs (i:Int) (by simpa using hi))
def allR (q:List (Int×Int)×Int×Int):List Int×Int×Int:=if q.2.2=0 then(q.1.map (·.1),q.2.1,0) else([],0,q.2.2)
theorem ref_all (p bs:List Int) (hb:AllOk bs) (hp:∀ x ∈ p,0≤x∧x≤255) (hl:p.length≤9223372036854775000) (hbl:bs.length≤17592186044000) :
  ∀ (rem i u k:Nat) (L:List (Int×Int)),i+rem=bs.length→L.length=i→u≤p.length→p.length+rem+3≤k→churnref10_All.l0 k p bs (L.map (·.1)) (u:Int) (i:Int)=some (allR (run p (bs.drop i) u L)):=by
 intro rem
 induction rem with
 | zero =>
  intro i u k L hi hL hu hk
  obtain⟨k,rfl⟩:∃ m,k=m+1:=⟨k-1,by omega⟩
  rw[churnref10_All.l0,if_neg (by omega),List.drop_eq_nil_of_le (by omega)]
  rfl
 | succ rem ih =>
  intro i u k L hi hL hu hk
  obtain⟨k,rfl⟩:∃ m,k=m+1:=⟨k-1,by omega⟩
  obtain⟨b1,b2⟩:=allOk_at hb i (by omega)
  rw[churnref10_All.l0,if_pos (by omega),if_pos (by omega),ref1 p _ b1 b2 hp hl u k hu (by omega),Option.bind_some,drop_rd bs i (by omega),run]
  cases hd:draw1 p (rd bs (i:Int)) u with
  | none=>rfl
  | some q =>
   obtain⟨v,n⟩:=q
   have hn:=draw1_le p _ u hu hd
   simp only
   rw[if_pos trivial,if_pos (by simp;omega),w64 (by omega) (by omega)]
   have:=ih (i+1) n k (L ++ [(v,(n:Int)-1)]) (by omega) (by simp;omega) hn.2.1 (by omega)
   rw[List.map_append] at this
   exact this
theorem drw_all (G:Nat→Int→Int→Bool) (p bs:List Int) (hb:AllOk bs) (hp:∀ x ∈ p,0≤x∧x≤255) (hl:p.length≤9223372036854775000)
  (hG:∀ (i u n:Nat) (v:Int),i<bs.length→u≤p.length→draw1 p (rd bs (i:Int)) u=some (v,n)→G i ((n:Int)-1) v=true) :
  ∀ (rem i u k:Nat) (L:List (Int×Int)),i+rem=bs.length→L.length=i→u≤p.length→p.length+rem+3≤k→eachl G k bs (strOfNums p) (u:Int) L=some (run p (bs.drop i) u L):=by
 intro rem
 induction rem with
 | zero =>
  intro i u k L hi hL hu hk
  obtain⟨k,rfl⟩:∃ m,k=m+1:=⟨k-1,by omega⟩
  rw[eachl,if_neg (by omega),List.drop_eq_nil_of_le (by omega)]
  rfl
 | succ rem ih =>
  intro i u k L hi hL hu hk
  obtain⟨k,rfl⟩:∃ m,k=m+1:=⟨k-1,by omega⟩
  obtain⟨b1,b2⟩:=allOk_at hb i (by omega)
  have hrd:bs.getD L.length 0=rd bs (i:Int):=by rw[hL,rd_nat]
  rw[eachl,if_pos (by omega),hrd,drw1 p _ b1 b2 hp hl u k hu (by omega),Option.bind_some,drop_rd bs i (by omega),run]
  cases hd:draw1 p (rd bs (i:Int)) u with
  | none=>rfl
  | some q =>
   obtain⟨v,n⟩:=q
   have hn:=draw1_le p _ u hu hd
   simp only
   rw[if_pos trivial,w64 (x:=(n:Int)-1) (by omega) (by omega),if_pos (by rw[hL];exact hG i u n v (by omega) hu hd)]
   exact ih (i+1) n k (L ++ [(v,(n:Int)-1)]) (by omega) (by simp;omega) hn.2.1 (by omega)
theorem run_len (p:List Int):∀ (bs:List Int) (u:Nat) (L:List (Int×Int)),(run p bs u L).2.2=0→(run p bs u L).1.length=L.length+bs.length:=by
 intro bs
 induction bs with
 | nil=>intro u L h;rfl
 | cons b bs ih =>
  intro u L h
  rw[run] at h ⊢
  cases hd:draw1 p b u with
  | none=>rw[hd] at h;exact absurd (show(3:Int)=0 from h) (by decide)
  | some q =>
   obtain⟨v,n⟩:=q
   rw[hd] at h
   simp only at h ⊢
   rw[ih n _ h]
   simp
   omega
theorem wrong_ev (bs:List Int) (hl:bs.length≤9223372036854775000):Ev (fun k=>churnref10_wrong.f k bs) (bs.any fun b => !okBound b):=by
 have key:∀ (d i:Nat),i+d=bs.length→Ev (fun k=>churnref10_wrong.l0 k bs (i:Int)) ((bs.drop i).any fun b => !okBound b):=by
  intro d
  induction d with
  | zero =>
   intro i hi
   rw[List.drop_eq_nil_of_le (by omega)]
   exact Ev.step (f:=fun _=>some false) (fun k=>by rw[churnref10_wrong.l0,if_neg (by omega)]) (Ev.now _)
  | succ d ih =>
   intro i hi
   rw[drop_rd bs i (by omega),List.any_cons]
   by_cases h1:rd bs (i:Int)<1
   ·have:okBound (rd bs (i:Int))=false:=by unfold okBound;simp;omega
    rw[this]
    exact Ev.step (f:=fun _=>some true) (fun k=>by rw[churnref10_wrong.l0,if_pos (by omega),if_pos (by omega),if_pos h1]) (Ev.now _)
   ·by_cases h2:rd bs (i:Int) > 256
    ·have:okBound (rd bs (i:Int))=false:=by unfold okBound;simp;omega
     rw[this]
     exact Ev.step (f:=fun _=>some true) (fun k=>by rw[churnref10_wrong.l0,if_pos (by omega),if_pos (by omega),if_neg h1,if_pos h2]) (Ev.now _)
    ·have:okBound (rd bs (i:Int))=true:=okBound_of _ (by omega) (by omega)
     rw[this]
     exact Ev.step (fun k=>by rw[churnref10_wrong.l0,if_pos (by omega),if_pos (by omega),if_neg h1,if_neg h2,w64 (by omega) (by omega)];rfl) (ih (i+1) (by omega))
 exact key bs.length 0 (by omega)
theorem allOk_of {bs:List Int} (h:(bs.any fun b => !okBound b)=false):AllOk bs:=by
 intro b hb
 have:=(List.any_eq_false.1 h) b hb
 simp[okBound] at this
 omega
end Go.Proofs.Ytbnifpfnjhdenaa.Pl
end
section
set_option linter.unusedVariables false
set_option linter.unusedSimpArgs false
namespace Go.Proofs.Ytbnifpfnjhdenaa.Pl
open Go.RowKit Go.Proofs.Ytbnifpfnjhdenaa.Q Go.Proofs.YtbnifpfnjhdenaaW.PrintWords Go.Proofs.YtbnifpfnjhdenaaW.PrintLast
def allA (p bs:List Int):List Int×Int×Int:=if(bs.any fun b => !okBound b)=true then([],0,2) else allR (run p bs 0 [])
theorem ref_all_ev (p bs:List Int) (hp:∀ x ∈ p,0≤x∧x≤255) (hl:p.length≤140737488351232) (hbl:bs.length≤17592186043904):Ev (fun k=>churnref10_All.f k p bs) (allA p bs):=by
 unfold churnref10_All.f allA
 refine ev_bind (wrong_ev bs (by omega)) ?_
 by_cases h:(bs.any fun b => !okBound b)=true
 ·refine ev_pos h (ev_some ?_)
  rw[if_pos h]
 ·refine ev_neg h (ev_pos (by omega) (ev_pos (by omega) ?_))
  rw[if_neg h]
  exact⟨p.length+bs.length+3,fun k hk=>ref_all p bs (allOk_of (by simpa using h)) hp (by omega) (by omega) bs.length 0 0 k [] (by omega) rfl (by omega) (by omega)⟩
theorem drw_all_f (p bs:List Int) (hp:∀ x ∈ p,0≤x∧x≤255) (hl:p.length≤140737488351232) (hbl:bs.length≤17592186043904):draw_All.f p bs=some (allA p bs):=by
 unfold draw_All.f allA eachf
 rw[if_pos (by omega)]
 by_cases h:(bs.any fun b => !okBound b)=true
 ·rw[if_pos h,if_pos h]
  rfl
 ·have hd:eachl (fun _ _ _=>true) (p.length+bs.length+5) bs (strOfNums p) 0 []=some (run p bs 0 []):=drw_all _ p bs (allOk_of (by simpa using h)) hp (by omega) (fun _ _ _ _ _ _ _=>rfl) bs.length 0 0 _ [] (by omega) rfl (by omega) (by omega)
  rw[if_neg h,if_neg h,hd,Option.bind_some]
  unfold allR
  by_cases e:(run p bs 0 []).2.2=0
  ·rw[if_pos e,if_pos e]
   have:=run_len p bs 0 [] e
   unfold filled
   rw[this]
   simp
  ·rw[if_neg e,if_neg e]
end Go.Proofs.Ytbnifpfnjhdenaa.Pl
end
section
set_option linter.unusedVariables false
set_option linter.unusedSimpArgs false
namespace Go.Proofs.Ytbnifpfnjhdenaa.Pl
open Go.RowKit Go.Proofs.Ytbnifpfnjhdenaa.Q Go.Proofs.YtbnifpfnjhdenaaW.PrintWords Go.Proofs.YtbnifpfnjhdenaaW.PrintLast
def turnR (p bs ws:List Int) (q:List (Int×Int)×Int×Int):List Int×Int:=if q.2.2=0 then(turned p bs ws q.1,0) else([],q.2.2)
def turnA (p bs ws:List Int):List Int×Int:=if ws.length=bs.length∧badT bs ws=false then turnR p bs ws (run p bs 0 []) else([],2)
theorem u8wrap (x:Int):IntKind.u8.wrap x=x % 256:=rfl
theorem draw1_one (p:List Int) (u:Nat):draw1 p 1 u=some (0,u):=rfl
theorem ref_turn (p bs ws:List Int) (hb:AllOk bs) (hp:∀ x ∈ p,0≤x∧x≤255) (hl:p.length≤9223372036854775000) (hbl:bs.length≤17592186044000) (hw:ws.length=bs.length) :
  ∀ (rem i u k:Nat) (L:List (Int×Int)),i+rem=bs.length→L.length=i→u≤p.length→p.length+rem+3≤k→churnref10_Turn.l1 k p bs ws (turned p bs ws L) (u:Int) (i:Int)=some (turnR p bs ws (run p (bs.drop i) u L)):=by
 intro rem
 induction rem with
 | zero =>
  intro i u k L hi hL hu hk
  obtain⟨k,rfl⟩:∃ m,k=m+1:=⟨k-1,by omega⟩
  rw[churnref10_Turn.l1,if_neg (by omega),List.drop_eq_nil_of_le (by omega)]
  rfl
 | succ rem ih =>
  intro i u k L hi hL hu hk
  obtain⟨k,rfl⟩:∃ m,k=m+1:=⟨k-1,by omega⟩
  obtain⟨b1,b2⟩:=allOk_at hb i (by omega)
  rw[churnref10_Turn.l1,if_pos (by omega),if_pos (by omega),ref1 p _ b1 b2 hp hl u k hu (by omega),Option.bind_some,drop_rd bs i (by omega),run]
  cases hd:draw1 p (rd bs (i:Int)) u with
  | none=>rfl
  | some q =>
   obtain⟨v,n⟩:=q
   have hn:=draw1_le p _ u hu hd
   have hbg:bs.getD i 0=rd bs (i:Int):=(rd_nat bs i).symm
   have hs:=turned_snoc p bs ws L v ((n:Int)-1)
   have:=ih (i+1) n k (L ++ [(v,(n:Int)-1)]) (by omega) (by simp;omega) hn.2.1 (by omega)
   unfold turnStep at hs
   rw[hL,hbg] at hs
   simp only
   rw[if_pos trivial]
   by_cases h1:rd bs (i:Int)=1
   ·rw[h1,draw1_one] at hd
    simp only[Option.some.injEq,Prod.mk.injEq] at hd
    obtain⟨rfl,rfl⟩:=hd
    rw[if_neg (by omega)] at hs
    rw[if_neg (by omega),w64 (by omega) (by omega),←hs]
    exact this
   ·have hu':=hn.2.2 h1
    rw[if_pos (by omega)] at hs
    have hx:=hp _ (rd_mem p ((n:Int)-1) (by omega))
    rw[if_pos (by omega),w64 (x:=(n:Int)-1) (by omega) (by omega),if_pos (by omega),if_pos (by omega),if_pos (by omega),if_pos (by rw[turned_len];omega),w64 (x:=(i:Int)+1) (by omega) (by omega)]
    rw[hs] at this
    unfold turnByte at this
    rw[u8wrap,←rd_nat ws i] at this
    exact this
theorem ref_want (p bs ws:List Int) (hb:AllOk bs) (hw:ws.length=bs.length) (hbl:bs.length≤17592186044000) (hp:p.length≤140737488351232) {R:List Int×Int} (hR:Ev (fun k=>churnref10_Turn.l1 k p bs ws p 0 0) R) :
  ∀ (d i:Nat),i+d=bs.length→Ev (fun k=>churnref10_Turn.l0 k p bs ws (i:Int)) (if(List.range' i d).any (badAt bs ws)=true then([],2) else R):=by
 intro d
 induction d with
 | zero =>
  intro i hi
  refine Ev.step (f:=fun k=>churnref10_Turn.l1 k p bs ws p 0 0) (fun k=>?_) hR
  rw[churnref10_Turn.l0,if_neg (by omega),if_pos (by omega),if_pos (by omega),Option.bind_some,if_pos (by simp;omega)]
  rfl
 | succ d ih =>
  intro i hi
  obtain⟨b1,b2⟩:=allOk_at hb i (by omega)
  have e:badAt bs ws i=(decide (rd ws (i:Int)<0) || decide (rd ws (i:Int) ≥ rd bs (i:Int))):=by
   unfold badAt
   rw[←rd_nat,←rd_nat,okBound_of _ b1 b2]
   rfl
  rw[List.range'_succ,List.any_cons,e]
  by_cases h1:rd ws (i:Int)<0
  ·refine Ev.step (f:=fun _=>some ([],2)) (fun k=>by rw[churnref10_Turn.l0,if_pos (by omega),if_pos (by omega),if_pos h1]) (ev_some ?_)
   rw[decide_eq_true h1]
   rfl
  ·by_cases h2:rd ws (i:Int) ≥ rd bs (i:Int)
   ·refine Ev.step (f:=fun _=>some ([],2)) (fun k=>by rw[churnref10_Turn.l0,if_pos (by omega),if_pos (by omega),if_neg h1,if_pos (by omega),if_pos h2]) (ev_some ?_)
    rw[decide_eq_true h2,Bool.or_true]
    rfl
   ·refine Ev.step (fun k=>by rw[churnref10_Turn.l0,if_pos (by omega),if_pos (by omega),if_neg h1,if_pos (by omega),if_neg h2,w64 (by omega) (by omega)];rfl) (ev_to (ih (i+1) (by omega)) ?_)
    rw[decide_eq_false h1,decide_eq_false h2]
    rfl
theorem badT_wrong (bs ws:List Int) (h:(bs.any fun b => !okBound b)=true):badT bs ws=true:=by
 obtain⟨b,hb,h⟩:=List.any_eq_true.1 h
 obtain⟨i,hi,rfl⟩:=List.getElem_of_mem hb
 unfold badT
 refine List.any_eq_true.2 ⟨i,by simpa using hi,?_⟩
 unfold badAt
 rw[List.getD_eq_getElem?_getD,List.getElem?_eq_getElem hi,Option.getD_some,h]
 rfl
theorem ref_turn_ev (p bs ws:List Int) (hp:∀ x ∈ p,0≤x∧x≤255) (hl:p.length≤140737488351232) (hbl:bs.length≤17592186043904) (hwl:ws.length≤17592186043904):Ev (fun k=>churnref10_Turn.f k p bs ws) (turnA p bs ws):=by
 unfold churnref10_Turn.f turnA
 refine ev_bind (wrong_ev bs (by omega)) ?_
 by_cases h:(bs.any fun b => !okBound b)=true
 ·refine ev_pos h (Ev.step (f:=fun _=>some ([],2)) (fun k=>by rw[churnref10_Turn.j0,if_pos rfl]) (ev_some ?_))
  rw[badT_wrong bs ws h,if_neg (by simp)]
 ·refine ev_neg h ?_
  by_cases hw:ws.length=bs.length
  ·have hb:=allOk_of (by simpa using h)
   refine Ev.step (f:=fun k=>churnref10_Turn.l0 k p bs ws 0) (fun k=>by rw[churnref10_Turn.j0,if_neg (by simp[hw])]) ?_
   have hR:Ev (fun k=>churnref10_Turn.l1 k p bs ws p 0 0) (turnR p bs ws (run p bs 0 [])):=⟨p.length+bs.length+3,fun k hk=>ref_turn p bs ws hb hp (by omega) (by omega) hw bs.length 0 0 k [] (by omega) rfl (by omega) (by omega)⟩
   refine ev_to (ref_want p bs ws hb hw (by omega) hl hR bs.length 0 (by omega)) ?_
   rw[←List.range_eq_range']
   show(if badT bs ws=true then _ else _)=_
   by_cases hB:badT bs ws=true
   ·rw[if_pos hB,if_neg (by simp[hB])]
   ·rw[if_neg hB,if_pos ⟨hw,by simpa using hB⟩]
  ·refine Ev.step (f:=fun _=>some ([],2)) (fun k=>by rw[churnref10_Turn.j0,if_pos (by simp;omega)]) (ev_some ?_)
   rw[if_neg (fun h=>hw h.1)]
theorem drw_turn_f (p bs ws:List Int) (hp:∀ x ∈ p,0≤x∧x≤255) (hl:p.length≤140737488351232) (hbl:bs.length≤17592186043904):draw_Turn.f p bs ws=some (turnA p bs ws):=by
 unfold draw_Turn.f turnA eachf
 by_cases hw:ws.length=bs.length
 ·rw[if_pos hw]
  by_cases hB:badT bs ws=true
  ·rw[if_pos hB,if_neg (by simp[hB])]
  ·have h:¬ (bs.any fun b => !okBound b)=true:=fun h=>hB (badT_wrong bs ws h)
   have hG:∀ (i u n:Nat) (v:Int),i<bs.length→u≤p.length→draw1 p (rd bs (i:Int)) u=some (v,n)→TurnG p bs i ((n:Int)-1) v=true:=by
    intro i u n v hi hu hd
    have hn:=draw1_le p _ u hu hd
    unfold TurnG
    rw[←rd_nat]
    refine decide_eq_true (fun h1=>?_)
    have:=hn.2.2 (by omega)
    omega
   have hd:eachl (TurnG p bs) (p.length+bs.length+5) bs (strOfNums p) 0 []=some (run p bs 0 []):=drw_all _ p bs (allOk_of (by simpa using h)) hp (by omega) hG bs.length 0 0 _ [] (by omega) rfl (by omega) (by omega)
   have hc:ws.length=bs.length∧badT bs ws=false:=⟨hw,by simpa using hB⟩
   rw[if_neg hB,if_neg h,hd,if_pos hc]
   unfold slices_Clone_byte_byte.f
   rw[if_pos (by omega)]
   rw[Option.bind_some,Option.bind_some]
   unfold turnR
   split <;> rfl
 ·rw[if_neg hw,if_neg (fun h=>hw h.1)]
end Go.Proofs.Ytbnifpfnjhdenaa.Pl
end
section
set_option linter.unusedVariables false
set_option linter.unusedSimpArgs false
namespace Go.Proofs.Ytbnifpfnjhdenaa.Pl
open Go.RowKit Go.Proofs.Ytbnifpfnjhdenaa.Q Go.Proofs.YtbnifpfnjhdenaaW.PrintWords Go.Proofs.YtbnifpfnjhdenaaW.PrintLast
def dr (p:List Int):List Int→Nat→Option (List Int×Nat)
 | [],u=>some ([],u)
 | b ::bs,u=>(draw1 p b u).bind fun q=>(dr p bs q.2).map fun r=>(q.1 ::r.1,r.2)
theorem run_dr (p:List Int):∀ (bs:List Int) (u:Nat) (L:List (Int×Int)),
  match dr p bs u with
  | some r=>(run p bs u L).2.2=0∧(run p bs u L).2.1=(r.2:Int)∧(run p bs u L).1.map (·.1)=L.map (·.1) ++ r.1
  | none=>(run p bs u L).2.2=3:=by
 intro bs
 induction bs with
 | nil=>intro u L;exact⟨rfl,rfl,by simp[run]⟩
 | cons b bs ih =>
  intro u L
  rw[dr,run]
  cases draw1 p b u with
  | none=>rfl
  | some q =>
   obtain⟨v,n⟩:=q
   have:=ih n (L ++ [(v,(n:Int)-1)])
   simp only[Option.bind_some]
   cases h:dr p bs n with
   | none=>rw[h] at this;exact this
   | some r =>
    rw[h] at this
    simp only[Option.map_some]
    exact⟨this.1,this.2.1,by rw[this.2.2];simp⟩
def drA (p bs:List Int):List Int×Int×Int:=if(bs.any fun b => !okBound b)=true then([],0,2) else match dr p bs 0 with|some r=>(r.1,(r.2:Int),0)|none=>([],0,3)
theorem allA_dr (p bs:List Int):allA p bs=drA p bs:=by
 unfold allA drA allR
 split
 ·rfl
 ·have:=run_dr p bs 0 []
  cases h:dr p bs 0 with
  | none=>rw[h] at this;simp only at this;rw[this];rfl
  | some r =>
   rw[h] at this
   simp only at this
   rw[this.1,if_pos rfl,this.2.1,this.2.2]
   rfl
theorem scan_iff (p:List Int) (b:Int):∀ (d u j:Nat),scan p b d u=some j↔u≤j∧j<u+d∧taken p b j∧∀ i,u≤i→i<j→¬ taken p b i:=by
 intro d
 induction d with
 | zero=>intro u j;simp[scan];omega
 | succ d ih =>
  intro u j
  unfold scan
  by_cases ht:taken p b u
  ·rw[if_pos ht]
   constructor
   ·intro h
    obtain rfl:=Option.some.inj h
    exact⟨Nat.le_refl _,by omega,ht,fun i h1 h2=>by omega⟩
   ·rintro⟨h1,h2,h3,h4⟩
    by_cases e:u=j
    ·rw[e]
    ·exact absurd ht (h4 u (Nat.le_refl _) (by omega))
  ·rw[if_neg ht,ih]
   constructor
   ·rintro⟨h1,h2,h3,h4⟩
    refine⟨by omega,by omega,h3,fun i h5 h6=>?_⟩
    by_cases e:i=u
    ·rw[e];exact ht
    ·exact h4 i (by omega) h6
   ·rintro⟨h1,h2,h3,h4⟩
    refine⟨?_,by omega,h3,fun i h5 h6=>h4 i (by omega) h6⟩
    by_cases e:u=j
    ·rw[←e] at h3;exact absurd h3 ht
    ·omega
theorem draw1_iff (p:List Int) (b:Int) (hb:b≠1) (u:Nat) (hu:u≤p.length) (v:Int) (n:Nat):draw1 p b u=some (v,n)↔u<n∧n≤p.length∧taken p b (n-1)∧(∀ i,u≤i→i<n-1→¬ taken p b i)∧v=Int.tmod (rd p ((n-1:Nat):Int)) b:=by
 unfold draw1
 rw[if_neg hb,Option.map_eq_some_iff]
 constructor
 ·rintro⟨j,hj,h⟩
  rw[scan_iff] at hj
  simp only[Prod.mk.injEq] at h
  obtain⟨rfl,rfl⟩:=h
  exact⟨by omega,by omega,hj.2.2.1,fun i h1 h2=>hj.2.2.2 i h1 (by omega),rfl⟩
 ·rintro⟨h1,h2,h3,h4,rfl⟩
  exact⟨n-1,(scan_iff p b _ _ _).2 ⟨by omega,by omega,h3,h4⟩,by simp;omega⟩
end Go.Proofs.Ytbnifpfnjhdenaa.Pl
end
section
set_option linter.unusedVariables false
set_option linter.unusedSimpArgs false
namespace Go.Proofs.Ytbnifpfnjhdenaa.Pl
open Go.RowKit Go.Proofs.Ytbnifpfnjhdenaa.Q Go.Proofs.YtbnifpfnjhdenaaW.PrintWords Go.Proofs.YtbnifpfnjhdenaaW.PrintLast
def Tn (p q:List Int):List Int→List Int→List Int→Nat→Nat→Prop
 | [],[],[],u,n=>n=u
 | b ::bs,v ::vs,w ::ws,u,n=>∃ m,draw1 p b u=some (v,m)∧u≤m∧(∀ i,u≤i→i+1<m→rd q (i:Int)=rd p (i:Int))∧(b≠1→rd q ((m-1:Nat):Int)=rd p ((m-1:Nat):Int)-v+w)∧Tn p q bs vs ws m n
 | _,_,_,_,_=>False
def Bytes (p:List Int):Prop:=∀ x ∈ p,0≤x∧x≤255
theorem bytes_rd {p:List Int} (h:Bytes p) (i:Nat):0≤rd p (i:Int)∧rd p (i:Int)≤255:=by
 by_cases hi:i<p.length
 ·exact h _ (rd_mem p (i:Int) (by simpa using hi))
 ·rw[rd_nat,List.getD_eq_getElem?_getD,List.getElem?_eq_none (by omega)]
  exact⟨by decide,by decide⟩
theorem turn_one (x b w:Int) (hx:0≤x) (h1:1≤b) (h2:b≤256) (ht:x<256-256 % b) (hw0:0≤w) (hw:w<b) :
  0≤x-Int.tmod x b+w∧x-Int.tmod x b+w≤255∧x-Int.tmod x b+w<256-256 % b∧Int.tmod (x-Int.tmod x b+w) b=w:=by
 rw[Int.tmod_eq_emod_of_nonneg hx]
 have e1:=Int.mul_ediv_add_emod x b
 have e2:=Int.mul_ediv_add_emod 256 b
 have m1:=Int.emod_nonneg x (show b≠0 by omega)
 have m2:=Int.emod_lt_of_pos x (show 0<b by omega)
 have q0:=Int.ediv_nonneg hx (show 0≤b by omega)
 have m3:=Int.emod_nonneg 256 (show b≠0 by omega)
 have hq:x / b<256 / b:=by
  have:x<256 / b*b:=by rw[Int.mul_comm];omega
  exact Int.ediv_lt_of_lt_mul (by omega) this
 have hmul:b*(x / b)+b≤b*(256 / b):=by
  have h:=Int.mul_le_mul_of_nonneg_left (show x / b+1≤256 / b by omega) (show 0≤b by omega)
  rw[Int.mul_add,Int.mul_one] at h
  exact h
 have hnn:0≤b*(x / b):=Int.mul_nonneg (by omega) q0
 have ey:x-x % b+w=b*(x / b)+w:=by omega
 rw[ey]
 refine⟨by omega,by omega,by omega,?_⟩
 rw[Int.tmod_eq_emod_of_nonneg (by omega),Int.mul_add_emod_self_left]
 exact Int.emod_eq_of_lt hw0 hw
def Valid:List Int→List Int→Prop
 | [],[]=>True
 | b ::bs,w ::ws=>0≤w∧w<b∧Valid bs ws
 | _,_=>False
theorem draw1_valid (p:List Int) (hp:Bytes p) (b:Int) (h1:1≤b) (u:Nat) (hu:u≤p.length) (v:Int) (m:Nat) (h:draw1 p b u=some (v,m)):0≤v∧v<b:=by
 by_cases hb:b=1
 ·subst hb
  rw[draw1_one] at h
  simp only[Option.some.injEq,Prod.mk.injEq] at h
  omega
 ·rw[draw1_iff p b hb u hu] at h
  obtain⟨_,_,_,_,rfl⟩:=h
  have hx:=bytes_rd hp (m-1)
  rw[Int.tmod_eq_emod_of_nonneg hx.1]
  exact⟨Int.emod_nonneg _ (by omega),Int.emod_lt_of_pos _ (by omega)⟩
theorem dr_valid (p:List Int) (hp:Bytes p):∀ (bs:List Int) (u:Nat),AllOk bs→u≤p.length→∀ r,dr p bs u=some r→Valid bs r.1:=by
 intro bs
 induction bs with
 | nil=>intro u _ hu r h;obtain rfl:=Option.some.inj h;trivial
 | cons b bs ih =>
  intro u hb hu r h
  rw[dr] at h
  obtain⟨⟨v,n⟩,h1,h2⟩:=Option.bind_eq_some_iff.1 h
  obtain⟨s,h3,rfl⟩:=Option.map_eq_some_iff.1 h2
  have a:=draw1_le p b u hu h1
  have hv:=draw1_valid p hp b (hb b List.mem_cons_self).1 u hu v n h1
  exact⟨hv.1,hv.2,ih n (fun x hx=>hb x (List.mem_cons_of_mem _ hx)) a.2.1 s h3⟩
theorem Tn.dr {p q:List Int}:∀ {bs vs ws:List Int} {u n:Nat},Tn p q bs vs ws u n→dr p bs u=some (vs,n)
 | [],[],[],u,n,h=>by rw[Pl.dr];rw[show n=u from h]
 | b ::bs,v ::vs,w ::ws,u,n,h=>by
  obtain⟨m,h1,_,_,_,h5⟩:=h
  rw[Pl.dr,h1,Option.bind_some,Tn.dr h5]
  rfl
 | [],_ ::_,_,_,_,h=>h.elim
 | [],[],_ ::_,_,_,h=>h.elim
 | _ ::_,[],_,_,_,h=>h.elim
 | _ ::_,_ ::_,[],_,_,h=>h.elim
theorem back_one {p q:List Int} (hp:Bytes p) (hl:q.length=p.length) (b v w:Int) (u m:Nat) (ob:1≤b∧b≤256) (hv:0≤w∧w<b) (hu:u≤p.length) (h1:draw1 p b u=some (v,m))
  (h3:∀ i,u≤i→i+1<m→rd q (i:Int)=rd p (i:Int)) (h4:b≠1→rd q ((m-1:Nat):Int)=rd p ((m-1:Nat):Int)-v+w):draw1 q b u=some (w,m):=by
 by_cases hb1:b=1
 ·subst hb1
  have hw:w=0:=by omega
  rw[draw1_one] at h1 ⊢
  simp only[Option.some.injEq,Prod.mk.injEq] at h1 ⊢
  exact⟨hw.symm,h1.2⟩
 ·rw[draw1_iff p b hb1 u hu] at h1
  obtain⟨k1,k2,k3,k4,k5⟩:=h1
  have hx:=bytes_rd hp (m-1)
  have ht:=turn_one _ b w hx.1 ob.1 ob.2 k3 hv.1 hv.2
  have e:=h4 hb1
  rw[k5] at e
  rw[←e] at ht
  rw[draw1_iff q b hb1 u (by omega)]
  refine⟨k1,by omega,ht.2.2.1,fun i h6 h7=>?_,ht.2.2.2.symm⟩
  unfold taken
  rw[h3 i h6 (by omega)]
  exact k4 i h6 h7
theorem Tn.back {p q:List Int} (hp:Bytes p) (hl:q.length=p.length):∀ {bs vs ws:List Int} {u n:Nat},AllOk bs→Valid bs ws→u≤p.length→Tn p q bs vs ws u n→Tn q p bs ws vs u n
 | [],[],[],u,n,_,_,_,h=>h
 | b ::bs,v ::vs,w ::ws,u,n,hb,hv,hu,h=>by
  obtain⟨m,h1,h2,h3,h4,h5⟩:=h
  have a:=draw1_le p b u hu h1
  have ob:=hb b List.mem_cons_self
  exact⟨m,back_one hp hl b v w u m ob ⟨hv.1,hv.2.1⟩ hu h1 h3 h4,h2,fun i h6 h7=>(h3 i h6 h7).symm,fun hb1=>by rw[h4 hb1];omega,Tn.back hp hl (fun x hx=>hb x (List.mem_cons_of_mem _ hx)) hv.2.2 a.2.1 h5⟩
 | [],_ ::_,_,_,_,_,_,_,h=>h.elim
 | [],[],_ ::_,_,_,_,_,_,h=>h.elim
 | _ ::_,[],_,_,_,_,_,_,h=>h.elim
 | _ ::_,_ ::_,[],_,_,_,_,_,h=>h.elim
theorem Tn.on {p r q:List Int} (hp:Bytes p) (hl:r.length=p.length):∀ {bs vs zs ws:List Int} {u n n':Nat},AllOk bs→Valid bs zs→u≤p.length→Tn p r bs vs zs u n→Tn r q bs zs ws u n'→Tn p q bs vs ws u n
 | [],[],[],[],u,n,n',_,_,_,h,_=>h
 | b ::bs,v ::vs,z ::zs,w ::ws,u,n,n',hb,hv,hu,h,h'=>by
  obtain⟨m,h1,h2,h3,h4,h5⟩:=h
  obtain⟨m',k1,k2,k3,k4,k5⟩:=h'
  have a:=draw1_le p b u hu h1
  have ob:=hb b List.mem_cons_self
  have e:=back_one hp hl b v z u m ob ⟨hv.1,hv.2.1⟩ hu h1 h3 h4
  have e1:m'=m:=by
   rw[e] at k1
   simp only[Option.some.injEq,Prod.mk.injEq] at k1
   exact k1.2.symm
  subst e1
  refine⟨m',h1,h2,fun i h6 h7=>by rw[k3 i h6 h7,h3 i h6 h7],fun hb1=>by rw[k4 hb1,h4 hb1];omega,Tn.on hp hl (fun x hx=>hb x (List.mem_cons_of_mem _ hx)) hv.2.2 a.2.1 h5 k5⟩
 | [],_ ::_,_,_,_,_,_,_,_,_,h,_=>h.elim
 | [],[],_ ::_,_,_,_,_,_,_,_,h,_=>h.elim
 | _ ::_,[],_,_,_,_,_,_,_,_,h,_=>h.elim
 | _ ::_,_ ::_,[],_,_,_,_,_,_,_,h,_=>h.elim
 | [],[],[],_ ::_,_,_,_,_,_,_,_,h=>h.elim
 | _ ::_,_ ::_,_ ::_,[],_,_,_,_,_,_,_,h=>h.elim
theorem Tn.same {p q r:List Int}:∀ {bs vs ws:List Int} {u n n':Nat},u≤p.length→Tn p q bs vs ws u n→Tn p r bs vs ws u n'→∀ i,u≤i→i<n→rd q (i:Int)=rd r (i:Int)
 | [],[],[],u,n,n',_,h,_,i,h1,h2=>by
  have:n=u:=h
  omega
 | b ::bs,v ::vs,w ::ws,u,n,n',hu,h,g,i,i1,i2=>by
  obtain⟨m,h1,h2,h3,h4,h5⟩:=h
  obtain⟨m',g1,g2,g3,g4,g5⟩:=g
  have e1:m'=m:=by
   rw[h1] at g1
   simp only[Option.some.injEq,Prod.mk.injEq] at g1
   exact g1.2.symm
  subst e1
  have a:=draw1_le p b u hu h1
  by_cases c:m'≤i
  ·exact Tn.same a.2.1 h5 g5 i c i2
  ·by_cases c2:i+1<m'
   ·rw[h3 i i1 c2,g3 i i1 c2]
   ·have hb:b≠1:=by
     intro hb
     subst hb
     rw[draw1_one] at h1
     simp only[Option.some.injEq,Prod.mk.injEq] at h1
     omega
    have:i=m'-1:=by omega
    rw[this,h4 hb,g4 hb]
 | [],_ ::_,_,_,_,_,_,h,_,_,_,_=>h.elim
 | [],[],_ ::_,_,_,_,_,h,_,_,_,_=>h.elim
 | _ ::_,[],_,_,_,_,_,h,_,_,_,_=>h.elim
 | _ ::_,_ ::_,[],_,_,_,_,h,_,_,_,_=>h.elim
theorem turned_bytes (p bs ws:List Int) (hp:Bytes p) (L:List (Int×Int)):Bytes (turned p bs ws L):=by
 unfold turned
 suffices h:∀ (M:List ((Int×Int)×Nat)) (acc:List Int),Bytes acc→Bytes (M.foldl (fun acc x=>turnStep p bs ws acc x.2 x.1.1 x.1.2) acc) from h _ _ hp
 intro M
 induction M with
 | nil=>intro acc h;exact h
 | cons x M ih =>
  intro acc h
  rw[List.foldl_cons]
  refine ih _ ?_
  unfold turnStep
  split
  ·intro y hy
   rcases List.mem_or_eq_of_mem_set hy with hy|rfl
   ·exact h y hy
   ·unfold turnByte
    rw[u8wrap]
    omega
  ·exact h
theorem rd_set_eq (l:List Int) (i:Nat) (x:Int) (h:i<l.length):rd (l.set i x) (i:Int)=x:=by rw[rd_lt _ i (by rw[List.length_set];exact h),List.getElem_set_self]
theorem rd_set_ne' (l:List Int) (i j:Nat) (x:Int) (h:i≠j):rd (l.set i x) (j:Int)=rd l (j:Int):=by
 rw[rd_nat,rd_nat,List.getD_eq_getElem?_getD,List.getD_eq_getElem?_getD,List.getElem?_set_ne h]
theorem turned_tn (p bs ws:List Int) (hb:AllOk bs) (hp:Bytes p) (hw:ws.length=bs.length):∀ (rem i u:Nat) (L:List (Int×Int)) (r:List Int×Nat),i+rem=bs.length→L.length=i→u≤p.length→Valid (bs.drop i) (ws.drop i)→dr p (bs.drop i) u=some r→(∀ j,u≤j→rd (turned p bs ws L) (j:Int)=rd p (j:Int)) →
  Tn p (turned p bs ws (run p (bs.drop i) u L).1) (bs.drop i) r.1 (ws.drop i) u r.2∧(∀ j,j<u→rd (turned p bs ws (run p (bs.drop i) u L).1) (j:Int)=rd (turned p bs ws L) (j:Int))∧(∀ j,r.2≤j→rd (turned p bs ws (run p (bs.drop i) u L).1) (j:Int)=rd p (j:Int)):=by
 intro rem
 induction rem with
 | zero =>
  intro i u L r hi hL hu hV hd hacc
  have e1:bs.drop i=[]:=List.drop_eq_nil_of_le (by omega)
  have e2:ws.drop i=[]:=List.drop_eq_nil_of_le (by omega)
  rw[e1] at hd ⊢
  rw[e2]
  obtain rfl:=Option.some.inj hd
  exact⟨rfl,fun j _=>rfl,hacc⟩
 | succ rem ih =>
  intro i u L r hi hL hu hV hd hacc
  have ob:=allOk_at hb i (by omega)
  rw[drop_rd bs i (by omega),drop_rd ws i (by omega)] at hV
  rw[drop_rd bs i (by omega)] at hd ⊢
  rw[drop_rd ws i (by omega)]
  rw[dr] at hd
  obtain⟨⟨v,m⟩,h1,h2⟩:=Option.bind_eq_some_iff.1 hd
  obtain⟨s,h3,rfl⟩:=Option.map_eq_some_iff.1 h2
  have a:=draw1_le p _ u hu h1
  have hlen:=turned_len p bs ws L
  have hs:=turned_snoc p bs ws L v ((m:Int)-1)
  unfold turnStep at hs
  rw[hL,←rd_nat bs i,←rd_nat ws i] at hs
  rw[run,h1]
  simp only
  have step:(∀ j,m≤j→rd (turned p bs ws (L ++ [(v,(m:Int)-1)])) (j:Int)=rd p (j:Int))∧(∀ j,j+1<m∨rd bs (i:Int)=1→rd (turned p bs ws (L ++ [(v,(m:Int)-1)])) (j:Int)=rd (turned p bs ws L) (j:Int))∧(rd bs (i:Int)≠1→rd (turned p bs ws (L ++ [(v,(m:Int)-1)])) ((m-1:Nat):Int)=rd p ((m-1:Nat):Int)-v+rd ws (i:Int)):=by
   by_cases hb1:rd bs (i:Int)=1
   ·rw[if_neg (by omega)] at hs
    rw[hs]
    exact⟨fun j hj=>hacc j (by omega),fun j _=>rfl,fun h=>absurd hb1 h⟩
   ·rw[if_pos (by omega)] at hs
    have hm:=a.2.2 hb1
    have em:((m:Int)-1).toNat=m-1:=by omega
    rw[em,←rd_nat p (m-1)] at hs
    have hx:=bytes_rd hp (m-1)
    have hd1:=h1
    rw[draw1_iff p _ hb1 u hu] at hd1
    obtain⟨_,_,k3,_,k5⟩:=hd1
    have ht:=turn_one _ _ (rd ws (i:Int)) hx.1 ob.1 ob.2 k3 hV.1 hV.2.1
    rw[←k5] at ht
    have eb:turnByte (rd p ((m-1:Nat):Int)) v (rd ws (i:Int))=rd p ((m-1:Nat):Int)-v+rd ws (i:Int):=by
     have hv:=draw1_valid p hp _ ob.1 u hu v m h1
     unfold turnByte
     rw[u8wrap,w64 (x:=rd p ((m-1:Nat):Int)) (by omega) (by omega),w64 (x:=rd p ((m-1:Nat):Int)-v) (by omega) (by omega),w64 (by omega) (by omega)]
     omega
    rw[hs,eb]
    refine⟨fun j hj=>?_,fun j hj=>?_,fun _=>?_⟩
    ·rw[rd_set_ne' _ _ _ _ (by omega)]
     exact hacc j (by omega)
    ·rw[rd_set_ne' _ _ _ _ (by omega)]
    ·rw[rd_set_eq _ _ _ (by omega)]
  obtain⟨r1,r2,r3⟩:=ih (i+1) m (L ++ [(v,(m:Int)-1)]) s (by omega) (by simp;omega) a.2.1 hV.2.2 h3 step.1
  refine⟨⟨m,h1,a.1,fun j j1 j2=>?_,fun hb1=>?_,r1⟩,fun j hj=>?_,r3⟩
  ·rw[r2 j (by omega),step.2.1 j (Or.inl j2)]
   exact hacc j j1
  ·have hm:=a.2.2 hb1
   rw[r2 (m-1) (by omega)]
   exact step.2.2 hb1
  ·rw[r2 j (by omega)]
   by_cases hb1:rd bs (i:Int)=1
   ·exact step.2.1 j (Or.inr hb1)
   ·have hm:=a.2.2 hb1
    exact step.2.1 j (Or.inl (by omega))
theorem valid_badT:∀ (bs ws:List Int),AllOk bs→Valid bs ws→ws.length=bs.length∧badT bs ws=false:=by
 have key:∀ (bs ws:List Int),Valid bs ws→ws.length=bs.length∧∀ i,i<bs.length→0≤ws.getD i 0∧ws.getD i 0<bs.getD i 0:=by
  intro bs
  induction bs with
  | nil =>
   intro ws h
   cases ws with
   | nil=>exact⟨rfl,fun i hi=>by simp at hi⟩
   | cons w ws=>exact h.elim
  | cons b bs ih =>
   intro ws h
   cases ws with
   | nil=>exact h.elim
   | cons w ws =>
    obtain⟨r1,r2⟩:=ih ws h.2.2
    refine⟨by simp[r1],fun i hi=>?_⟩
    cases i with
    | zero=>exact⟨h.1,h.2.1⟩
    | succ i=>simpa using r2 i (by simpa using hi)
 intro bs ws hb h
 obtain⟨r1,r2⟩:=key bs ws h
 refine⟨r1,List.any_eq_false.2 fun i hi=>?_⟩
 have hi':=List.mem_range.1 hi
 have:=r2 i hi'
 have ob:=allOk_at hb i hi'
 rw[rd_nat] at ob
 unfold badAt
 rw[okBound_of _ ob.1 ob.2,decide_eq_false (show ¬ ws.getD i 0<0 by omega),decide_eq_false (show ¬ ws.getD i 0 ≥ bs.getD i 0 by omega)]
 decide
theorem turnA_some (p bs ws:List Int) (hp:Bytes p) (hb:AllOk bs) (hv:Valid bs ws) {r:List Int×Nat} (hr:dr p bs 0=some r):∃ q,turnA p bs ws=(q,0)∧Bytes q∧q.length=p.length∧Tn p q bs r.1 ws 0 r.2∧∀ j,r.2≤j→rd q (j:Int)=rd p (j:Int):=by
 obtain⟨h1,h2⟩:=valid_badT bs ws hb hv
 have h3:=run_dr p bs 0 []
 rw[hr] at h3
 simp only at h3
 obtain⟨t1,t2,t3⟩:=turned_tn p bs ws hb hp h1 bs.length 0 0 [] r (by omega) rfl (by omega) (by simpa using hv) (by simpa using hr) (fun j _=>rfl)
 rw[List.drop_zero,List.drop_zero] at t1
 rw[List.drop_zero] at t3
 refine⟨turned p bs ws (run p bs 0 []).1,?_,turned_bytes p bs ws hp _,turned_len _ _ _ _,t1,t3⟩
 unfold turnA turnR
 rw[if_pos ⟨h1,h2⟩,if_pos h3.1]
theorem ext_rd {a b:List Int} (hl:a.length=b.length) (h:∀ i,i<a.length→rd a (i:Int)=rd b (i:Int)):a=b:=by
 apply List.ext_getElem hl
 intro i h1 h2
 rw[←rd_lt a i h1,←rd_lt b i h2]
 exact h i h1
end Go.Proofs.Ytbnifpfnjhdenaa.Pl
end
section
set_option linter.unusedVariables false
set_option linter.unusedSimpArgs false
namespace Go.Proofs.Ytbnifpfnjhdenaa.Pl
open Go.RowKit Go.Proofs.Ytbnifpfnjhdenaa.Q Go.Proofs.YtbnifpfnjhdenaaW.PrintWords Go.Proofs.YtbnifpfnjhdenaaW.PrintLast
def Fits (l:List Int):Prop:=(∀ x ∈ l,0≤x∧x<(l.length:Int))∧l.Nodup
instance (l:List Int):Decidable (Fits l):=by unfold Fits;infer_instance
def Seen (n:Nat) (seen:List Bool) (met:List Int):Prop:=seen.length=n∧∀ v:Nat,v<n→(seen.getD v false=true↔(v:Int) ∈ met)
theorem Seen.start (n:Nat):Seen n (List.replicate n false) []:=by
 refine⟨by simp,fun v hv=>?_⟩
 simp[List.getD_eq_getElem?_getD,List.getElem?_replicate,hv]
theorem Seen.next {n:Nat} {seen:List Bool} {met:List Int} (h:Seen n seen met) (x:Int) (h0:0≤x) (hx:x<n):Seen n (seen.set x.toNat true) (met ++ [x]):=by
 refine⟨by rw[List.length_set];exact h.1,fun v hv=>?_⟩
 have hl:=h.1
 rw[List.getD_eq_getElem?_getD,List.getElem?_set]
 by_cases e:x.toNat=v
 ·have:(v:Int)=x:=by omega
  simp[e,this,hl,hv]
 ·have h1:=h.2 v hv
  rw[List.getD_eq_getElem?_getD] at h1
  simp only[e,if_false,h1,List.mem_append,List.mem_singleton]
  constructor
  ·exact Or.inl
  ·rintro(h2|h2)
   ·exact h2
   ·omega
theorem Seen.at_ {n:Nat} {seen:List Bool} {met:List Int} (h:Seen n seen met) (x:Int) (h0:0≤x) (hx:x<n):(rdOf false seen x=true↔x ∈ met):=by
 have:=h.2 x.toNat (by omega)
 rw[show((x.toNat:Nat):Int)=x from by omega] at this
 exact this
theorem fits_split (l:List Int) (i:Nat) (h:i<l.length) (hp:∀ x ∈ l.take i,0≤x∧x<(l.length:Int)) (hn:(l.take i).Nodup) :
  (Fits l→0≤rd l (i:Int)∧rd l (i:Int)<(l.length:Int)∧rd l (i:Int) ∉ l.take i):=by
 intro hf
 have hm:rd l (i:Int) ∈ l:=rd_mem l _ (by simpa using h)
 refine⟨(hf.1 _ hm).1,(hf.1 _ hm).2,fun hc=>?_⟩
 have h2:(l.take (i+1)).Nodup:=(List.take_sublist _ _).nodup hf.2
 rw[take_rd l i h,List.nodup_append] at h2
 exact h2.2.2 _ hc _ (List.mem_singleton.2 rfl) rfl
theorem fits_loops (l:List Int) (hl:l.length≤9223372036854775000) (d:Nat):∀ (i:Nat) (seen:List Bool),i+d=l.length→Seen l.length seen (l.take i) →
  (∀ x ∈ l.take i,0≤x∧x<(l.length:Int))→(l.take i).Nodup →
  Ev (fun k=>perm_fits.l0 k l seen l (l.length:Int) (i:Int)) (decide (Fits l))∧Ev (fun k=>churnref11_Check.l0 k l seen (i:Int)) (if Fits l then 0 else 110):=by
 induction d with
 | zero =>
  intro i seen hi hs hp hn
  have hf:Fits l:=by
   have h1:l.take i=l:=List.take_of_length_le (by omega)
   rw[h1] at hp hn
   exact⟨hp,hn⟩
  rw[if_pos hf,decide_eq_true hf]
  exact⟨Ev.step (f:=fun _=>some true) (fun k=>by rw[perm_fits.l0,if_neg (by omega)]) (ev_some rfl),Ev.step (f:=fun _=>some 0) (fun k=>by rw[churnref11_Check.l0,if_neg (by omega)]) (ev_some rfl)⟩
 | succ d ih =>
  intro i seen hi hs hp hn
  have hsp:=fits_split l i (by omega) hp hn
  have hlen:=hs.1
  by_cases h1:rd l (i:Int)<0
  ·have hf:¬ Fits l:=fun h=>by have:=(hsp h).1;omega
   rw[if_neg hf,decide_eq_false hf]
   exact⟨Ev.step (f:=fun _=>some false) (fun k=>by rw[perm_fits.l0,if_pos (by omega),if_pos (by omega),if_pos (by omega),if_pos h1]) (ev_some rfl),
    Ev.step (f:=fun _=>some 110) (fun k=>by rw[churnref11_Check.l0,if_pos (by omega),if_pos (by omega),if_pos h1]) (ev_some rfl)⟩
  ·by_cases h2:rd l (i:Int) ≥ (l.length:Int)
   ·have hf:¬ Fits l:=fun h=>by have:=(hsp h).2.1;omega
    rw[if_neg hf,decide_eq_false hf]
    exact⟨Ev.step (f:=fun _=>some false) (fun k=>by rw[perm_fits.l0,if_pos (by omega),if_pos (by omega),if_pos (by omega),if_neg h1,if_pos h2]) (ev_some rfl),
     Ev.step (f:=fun _=>some 110) (fun k=>by rw[churnref11_Check.l0,if_pos (by omega),if_pos (by omega),if_neg h1,if_pos h2]) (ev_some rfl)⟩
   ·have hat:=hs.at_ (rd l (i:Int)) (by omega) (by omega)
    by_cases h3:rdOf false seen (rd l (i:Int))=true
    ·have hf:¬ Fits l:=fun h=>(hsp h).2.2 (hat.1 h3)
     rw[if_neg hf,decide_eq_false hf]
     exact⟨Ev.step (f:=fun _=>some false) (fun k=>by rw[perm_fits.l0,if_pos (by omega),if_pos (by omega),if_pos (by omega),if_neg h1,if_neg h2,if_pos (by omega),if_pos (by omega),if_pos h3]) (ev_some rfl),
      Ev.step (f:=fun _=>some 110) (fun k=>by rw[churnref11_Check.l0,if_pos (by omega),if_pos (by omega),if_neg h1,if_neg h2,if_pos (by omega),if_pos (by omega),if_pos h3]) (ev_some rfl)⟩
    ·have hnx:=hs.next (rd l (i:Int)) (by omega) (by omega)
     rw[←take_rd l i (by omega)] at hnx
     obtain⟨e1,e2⟩:=ih (i+1) _ (by omega) hnx (by
      rw[take_rd l i (by omega)]
      intro x hx
      rcases List.mem_append.1 hx with hx|hx
      ·exact hp x hx
      ·have:=List.mem_singleton.1 hx
       subst this
       exact⟨by omega,by omega⟩) (by
      rw[take_rd l i (by omega),List.nodup_append]
      refine⟨hn,by simp,fun a ha b hb hab=>?_⟩
      have:=List.mem_singleton.1 hb
      subst this
      subst hab
      exact h3 (hat.2 ha))
     refine⟨Ev.step (fun k=>?_) e1,Ev.step (fun k=>?_) e2⟩
     ·rw[perm_fits.l0,if_pos (by omega),if_pos (by omega),if_pos (by omega),if_neg h1,if_neg h2,if_pos (by omega),if_pos (by omega),if_neg h3,w64 (by omega) (by omega)]
      rfl
     ·rw[churnref11_Check.l0,if_pos (by omega),if_pos (by omega),if_neg h1,if_neg h2,if_pos (by omega),if_pos (by omega),if_neg h3,w64 (by omega) (by omega)]
      rfl
theorem fits_ev (l:List Int) (hl:l.length≤281474976710656):Ev (fun k=>perm_fits.f k l) (decide (Fits l)):=by
 unfold perm_fits.f
 refine ev_pos (by omega) (ev_pos (by omega) ?_)
 exact(fits_loops l (by omega) l.length 0 _ (by omega) (by simpa using Seen.start l.length) (by simp) (by simp)).1
theorem check_ev (l:List Int) (hl:l.length≤281474976710656):Ev (fun k=>churnref11_Check.f k l) (if Fits l then 0 else 110):=by
 unfold churnref11_Check.f
 refine ev_pos (by omega) (ev_pos (by omega) ?_)
 exact(fits_loops l (by omega) l.length 0 _ (by omega) (by simpa using Seen.start l.length) (by simp) (by simp)).2
def pick (p q:List Int):List Int:=p.map fun i=>rd q i
end Go.Proofs.Ytbnifpfnjhdenaa.Pl
end
section
set_option linter.unusedVariables false
set_option linter.unusedSimpArgs false
namespace Go.Proofs.Ytbnifpfnjhdenaa.Pl
open Go.RowKit Go.Proofs.Ytbnifpfnjhdenaa.Q Go.Proofs.YtbnifpfnjhdenaaW.PrintWords Go.Proofs.YtbnifpfnjhdenaaW.PrintLast
def iota (n:Nat):List Int:=(List.range n).map fun i:Nat=>(i:Int)
theorem iota_len (n:Nat):(iota n).length=n:=by simp[iota]
theorem iota_get (n i:Nat) (h:i<(iota n).length):(iota n)[i]=(i:Int):=by simp[iota]
theorem iota_succ (n:Nat):iota (n+1)=iota n ++ [(n:Int)]:=by simp[iota,List.range_succ]
theorem mx_nat (n:Nat):mx (n:Int) 0=(n:Int):=by unfold mx;split <;> omega
theorem mx_neg (n:Int) (h:n≤0):mx n 0=0:=by unfold mx;split <;> omega
theorem identity_ev (n:Nat) (hn:n≤17592186044415):Ev (fun k=>perm_Identity.f k (n:Int)) (iota n):=by
 unfold perm_Identity.f
 rw[mx_nat]
 have key:∀ (d i:Nat),i+d=n→Ev (fun k=>perm_Identity.l0 k (iota i) (n:Int) (i:Int)) (iota n):=by
  intro d
  induction d with
  | zero =>
   intro i hi
   have:i=n:=by omega
   subst this
   exact Ev.step (f:=fun _=>some (iota i)) (fun k=>by rw[perm_Identity.l0,if_neg (by omega)]) (Ev.now _)
  | succ d ih =>
   intro i hi
   have hl:=iota_len i
   refine Ev.step (fun k=>?_) (ih (i+1) (by omega))
   rw[perm_Identity.l0,if_pos (by omega),if_pos (by omega),w64 (by omega) (by omega),iota_succ]
   rfl
 have:=key n 0 (by omega)
 simpa [iota] using this
theorem fits_inj {p:List Int} (h:Fits p) {i j:Nat} (hi:i<p.length) (hj:j<p.length) (e:p[i]=p[j]):i=j :=
 (List.getElem_inj h.2).1 e
theorem nodup_bound:∀ (n:Nat) (l:List Int),l.Nodup→(∀ x ∈ l,0≤x∧x<(n:Int))→l.length≤n
 | 0,l,_,h=>by
  cases l with
  | nil=>simp
  | cons x l=>have:=h x (by simp);omega
 | n+1,l,hn,h=>by
  by_cases hm:(n:Int) ∈ l
  ·have h1:=nodup_bound n (l.erase (n:Int)) (hn.erase _) (fun x hx=>by
    have:=(hn.mem_erase_iff).1 hx
    have:=h x this.2
    omega)
   rw[List.length_erase_of_mem hm] at h1
   omega
  ·have h1:=nodup_bound n l hn (fun x hx=>by
    have:=h x hx
    have:x≠(n:Int):=fun e=>hm (e ▸ hx)
    omega)
   omega
theorem fits_all {p:List Int} (h:Fits p) (v:Nat) (hv:v<p.length):∃ (i:Nat) (hi:i<p.length),p[i]=(v:Int):=by
 by_cases hm:(v:Int) ∈ p
 ·obtain⟨i,hi,e⟩:=List.getElem_of_mem hm
  exact⟨i,hi,e⟩
 ·have:=nodup_bound p.length ((v:Int) ::p) (List.nodup_cons.2 ⟨hm,h.2⟩) (fun x hx=>by
   rcases List.mem_cons.1 hx with rfl|hx
   ·omega
   ·exact h.1 x hx)
  simp only[List.length_cons] at this
  omega
theorem nodup_get {l:List Int} (h:∀ (i j:Nat) (hi:i<l.length) (hj:j<l.length),i<j→l[i]≠l[j]):l.Nodup:=by
 unfold List.Nodup
 rw[List.pairwise_iff_getElem]
 exact h
theorem fits_iota (n:Nat):Fits (iota n):=by
 refine⟨fun x hx=>?_,?_⟩
 ·simp only[iota,List.mem_map,List.mem_range] at hx
  obtain⟨i,hi,rfl⟩:=hx
  rw[iota_len]
  omega
 ·refine nodup_get fun i j hi hj hij=>?_
  rw[iota_get,iota_get]
  omega
theorem pick_len (p q:List Int):(pick p q).length=p.length:=by simp[pick]
theorem pick_get (p q:List Int) (i:Nat) (hi:i<p.length):(pick p q)[i]'(by rw[pick_len];exact hi)=rd q p[i]:=by simp[pick]
theorem rd_get (q:List Int) (x:Int) (h0:0≤x) (h1:x<(q.length:Int)):rd q x=q[x.toNat]'(by omega):=by
 unfold rd
 simp[List.getD_eq_getElem?_getD,show x.toNat<q.length by omega]
def IsInv (p r:List Int):Prop:=r.length=p.length∧∀ (i:Nat) (hi:i<p.length),rd r p[i]=(i:Int)
theorem IsInv.range {p r:List Int} (fp:Fits p) (h:IsInv p r) (v:Nat) (hv:v<r.length):∃ (i:Nat) (hi:i<p.length),p[i]=(v:Int)∧r[v]=(i:Int):=by
 obtain⟨i,hi,e⟩:=fits_all fp v (by rw[←h.1];exact hv)
 refine⟨i,hi,e,?_⟩
 have:=h.2 i hi
 rw[e,rd_lt r v hv] at this
 exact this
theorem IsInv.right {p r:List Int} (fp:Fits p) (h:IsInv p r):pick p r=iota p.length:=by
 apply List.ext_getElem
 ·simp[pick,iota]
 ·intro i h1 h2
  have hi:i<p.length:=by simpa [pick] using h1
  rw[pick_get p r i hi,h.2 i hi,iota_get]
theorem IsInv.left {p r:List Int} (fp:Fits p) (h:IsInv p r):pick r p=iota p.length:=by
 apply List.ext_getElem
 ·simp[pick,iota,h.1]
 ·intro v h1 h2
  have hv:v<r.length:=by simpa [pick] using h1
  obtain⟨i,hi,e1,e2⟩:=h.range fp v hv
  rw[pick_get r p v hv,e2,rd_lt p i hi,e1,iota_get]
theorem perm_check_ev (p:List Int) (hl:p.length≤281474976710656):Ev (fun k=>perm_Check.f k p) (if Fits p then 0 else 110):=by
 unfold perm_Check.f
 refine ev_bind (fits_ev p hl) ?_
 by_cases f:Fits p
 ·exact ev_pos (by simp[f]) (ev_some (by simp[f]))
 ·exact ev_neg (by simp[f]) (ev_some (by simp[f]))
end Go.Proofs.Ytbnifpfnjhdenaa.Pl
end
section
set_option linter.unusedVariables false
set_option linter.unusedSimpArgs false
namespace Go.Proofs.Ytbnifpfnjhdenaa.Pl
open Go.RowKit Go.Proofs.Ytbnifpfnjhdenaa.Q Go.Proofs.YtbnifpfnjhdenaaW.PrintWords Go.Proofs.YtbnifpfnjhdenaaW.PrintLast
def boundsL:Nat→List Int
  | 0=>[]
  | 1=>[]
  | n+2=>((n+2:Nat):Int) ::boundsL (n+1)
theorem boundsL_len:∀ n,(boundsL n).length=n-1
  | 0=>rfl
  | 1=>rfl
  | n+2=>by rw[boundsL,List.length_cons,boundsL_len (n+1)];omega
theorem boundsL_at:∀ (n k:Nat),k+1<n→rd (boundsL n) (k:Int)=(n:Int)-(k:Int)
  | 0,k,h=>by omega
  | 1,k,h=>by omega
  | n+2,0,h=>by rw[boundsL];simp[rd]
  | n+2,k+1,h=>by
    have:=boundsL_at (n+1) k (by omega)
    rw[boundsL]
    have e:rd (((n+2:Nat):Int) ::boundsL (n+1)) ((k+1:Nat):Int)=rd (boundsL (n+1)) (k:Int):=by rw[rd_nat,rd_nat];rfl
    rw[e,this]
    omega
theorem bounds_ev (n:Int) (hn:n≤17592186044415):Ev (fun k=>perm_Bounds.f k n) (boundsL n.toNat):=by
  unfold perm_Bounds.f
  by_cases h0:n≤1
  · have:boundsL n.toNat=[]:=List.eq_nil_of_length_eq_zero (by rw[boundsL_len];omega)
    rw[this]
    exact Ev.step (f:=fun _=>some []) (fun k=>by rw[perm_Bounds.l0,if_neg (by omega)]) (Ev.now _)
  · obtain⟨m,rfl⟩:∃ m:Nat,n=(m:Int):=⟨n.toNat,by omega⟩
    have key:∀ (j:Nat) (acc:List Int),acc.length+j≤17592186044415→Ev (fun k=>perm_Bounds.l0 k acc (j:Int)) (acc ++ boundsL j):=by
      intro j
      induction j with
      | zero=>intro acc h;exact Ev.step (f:=fun _=>some acc) (fun k=>by rw[perm_Bounds.l0,if_neg (by omega)]) (ev_some (by simp[boundsL]))
      | succ j ih =>
        intro acc h
        by_cases hj:j=0
        · subst hj
          exact Ev.step (f:=fun _=>some acc) (fun k=>by rw[perm_Bounds.l0,if_neg (by omega)]) (ev_some (by simp[boundsL]))
        · obtain⟨j,rfl⟩:∃ i,j=i+1:=⟨j-1,by omega⟩
          refine Ev.step (f:=fun k=>perm_Bounds.l0 k (acc ++ [((j+1+1:Nat):Int)]) ((j+1:Nat):Int)) (fun k=>?_) (ev_to (ih _ (by simp;omega)) (by simp[boundsL];omega))
          rw[perm_Bounds.l0,if_pos (by omega),if_pos (by omega),w64 (by omega) (by omega),show((j+1+1:Nat):Int)-1=((j+1:Nat):Int) by omega]
    exact key m [] (by simp;omega)
def FitD (n:Int) (l:List Int):Prop:=∀ k:Nat,k<l.length→0≤rd l (k:Int)∧rd l (k:Int)<n-(k:Int)
instance (n:Int) (l:List Int):Decidable (FitD n l):=by unfold FitD;infer_instance
def swp (a:List Int) (i j:Nat):List Int:=(a.set i (rd a (j:Int))).set j (rd a (i:Int))
theorem swp_len (a:List Int) (i j:Nat):(swp a i j).length=a.length:=by simp[swp]
def fromL:List Int→Nat→List Int→List Int
  | a,_,[]=>a
  | a,i,d ::ds=>fromL (swp a i d.toNat) (i-1) ds
theorem fromL_len:∀ (l a:List Int) (i:Nat),(fromL a i l).length=a.length
  | [],_,_=>rfl
  | d ::ds,a,i=>by rw[fromL,fromL_len ds,swp_len]
theorem from_walk (n:Nat) (l:List Int) (hn:l.length+1=n∨l=[]) (hl:n≤17592186044000) (hf:FitD (n:Int) l) :
    ∀ (d i:Nat) (a:List Int),i+d=l.length→a.length=n→Ev (fun k=>perm_From.l1 k (n:Int) a l (l.length:Int) (i:Int)) (fromL a (n-1-i) (l.drop i),0):=by
  intro d
  induction d with
  | zero =>
    intro i a hi ha
    rw[List.drop_eq_nil_of_le (by omega)]
    exact Ev.step (f:=fun _=>some (a,0)) (fun k=>by rw[perm_From.l1,if_neg (by omega)]) (Ev.now _)
  | succ d ih =>
    intro i a hi ha
    have hn' : l.length + 1 = n := by rcases hn with h | h; · exact h
                                      · subst h;simp at hi
    obtain⟨f1,f2⟩:=hf i (by omega)
    rw[drop_rd l i (by omega),fromL,show n-1-i-1=n-1-(i+1) by omega]
    refine Ev.step (f:=fun k=>perm_From.l1 k (n:Int) (swp a (n-1-i) (rd l (i:Int)).toNat) l (l.length:Int) ((i+1:Nat):Int)) (fun k=>?_) (ih (i+1) _ (by omega) (by rw[swp_len,ha]))
    have e:wrap64 (wrap64 ((n:Int)-1)-(i:Int))=((n-1-i:Nat):Int):=by rw[w64 (x:=(n:Int)-1) (by omega) (by omega),w64 (by omega) (by omega)];omega
    rw[perm_From.l1,if_pos (by omega),if_pos (by omega),if_pos (by omega),if_pos (by omega),if_pos (by omega),e,if_pos (by omega),if_pos (by omega),w64 (by omega) (by omega)]
    unfold swp
    rw[Int.toNat_of_nonneg f1]
    rfl
theorem from_chk (n:Nat) (l:List Int) (hl:l.length≤17592186044000) (hl2:n≤17592186044000) {R:List Int×Int} (hR:FitD (n:Int) l→Ev (fun k=>(perm_Identity.f k (n:Int)).bind fun t107=>(perm_From.l1 k (n:Int) t107 l (l.length:Int) 0)) R) :
    ∀ (d i:Nat),i+d=l.length→(∀ k:Nat,k<i→0≤rd l (k:Int)∧rd l (k:Int)<(n:Int)-(k:Int))→Ev (fun k=>perm_From.l0 k (n:Int) l l (l.length:Int) (i:Int)) (if FitD (n:Int) l then R else([],110)):=by
  intro d
  induction d with
  | zero =>
    intro i hi hk
    have hf:FitD (n:Int) l:=fun k h=>hk k (by omega)
    rw[if_pos hf]
    refine Ev.step (fun k=>?_) (hR hf)
    rw[perm_From.l0,if_neg (by omega)]
  | succ d ih =>
    intro i hi hk
    by_cases h1:rd l (i:Int)<0
    · rw[if_neg (fun hf:FitD _ l=>by have:=(hf i (by omega)).1;omega)]
      exact Ev.step (f:=fun _=>some ([],110)) (fun k=>by rw[perm_From.l0,if_pos (by omega),if_pos (by omega),if_pos (by omega),if_pos h1]) (Ev.now _)
    · by_cases h2:rd l (i:Int) ≥ (n:Int)-(i:Int)
      · rw[if_neg (fun hf:FitD _ l=>by have:=(hf i (by omega)).2;omega)]
        exact Ev.step (f:=fun _=>some ([],110)) (fun k=>by rw[perm_From.l0,if_pos (by omega),if_pos (by omega),if_pos (by omega),if_neg h1,w64 (x:=(n:Int)-(i:Int)) (by omega) (by omega),if_pos h2]) (Ev.now _)
      · refine Ev.step (fun k=>?_) (ih (i+1) (by omega) (fun k h=>?_))
        · rw[perm_From.l0,if_pos (by omega),if_pos (by omega),if_pos (by omega),if_neg h1,w64 (x:=(n:Int)-(i:Int)) (by omega) (by omega),if_neg h2,w64 (by omega) (by omega)]
          rfl
        · by_cases hki:k=i
          · subst hki;exact⟨by omega,by omega⟩
          · exact hk k (by omega)
def fromA (n:Int) (l:List Int):List Int×Int:=if n<0 then([],2) else if(l.length:Int)=mx (n-1) 0∧FitD n l then(fromL (iota n.toNat) (n.toNat-1) l,0) else([],110)
theorem mx_pos (x:Int) (h:0≤x):mx x 0=x:=by
  obtain⟨n,rfl⟩:∃ n:Nat,x=(n:Int):=⟨x.toNat,by omega⟩
  exact mx_nat n
theorem from_ev (n:Int) (l:List Int) (hn: -9223372036854775808≤n∧n≤9223372036854775807) (hl:l.length≤17592186043904):Ev (fun k=>perm_From.f k n l) (fromA n l):=by
  unfold perm_From.f fromA
  by_cases h0:n<0
  · rw[if_pos h0];exact ev_pos h0 (Ev.now _)
  · rw[if_neg h0]
    refine ev_neg h0 ?_
    rw[w64 (by omega) (by omega)]
    by_cases hm:(l.length:Int)=mx (n-1) 0
    · refine ev_pos hm ?_
      have hb:n≤17592186043905:=by
        by_cases h1:n≤1
        · omega
        · rw[mx_pos _ (by omega)] at hm;omega
      have hn':l.length+1=n.toNat∨l=[]:=by
        by_cases h1:n≤1
        · rw[mx_neg _ (by omega)] at hm
          exact Or.inr (List.eq_nil_of_length_eq_zero (by omega))
        · rw[mx_pos _ (by omega)] at hm;omega
      obtain⟨m,rfl⟩:∃ m:Nat,n=(m:Int):=⟨n.toNat,by omega⟩
      refine ev_to (from_chk m l (by omega) (by omega) (R:=(fromL (iota m) (m-1) l,0)) (fun hf=>?_) l.length 0 (by omega) (fun k h=>by omega)) ?_
      · refine ev_bind (identity_ev m (by omega)) ?_
        exact from_walk m l (by simpa using hn') (by omega) hf l.length 0 _ (by omega) (iota_len m)
      · by_cases hf:FitD (m:Int) l
        · rw[if_pos hf,if_pos ⟨hm,hf⟩]
          rfl
        · rw[if_neg hf,if_neg (fun h=>hf h.2)]
    · rw[if_neg (fun h=>hm h.1)]
      exact ev_neg hm (Ev.now _)
end Go.Proofs.Ytbnifpfnjhdenaa.Pl
end
section
set_option linter.unusedVariables false
set_option linter.unusedSimpArgs false
namespace Go.Proofs.Ytbnifpfnjhdenaa.Pl
open Go.RowKit Go.Proofs.Ytbnifpfnjhdenaa.Q Go.Proofs.YtbnifpfnjhdenaaW.PrintWords Go.Proofs.YtbnifpfnjhdenaaW.PrintLast
theorem swp_get (a:List Int) (i j m:Nat) (hi:i<a.length) (hj:j<a.length) (hm:m<a.length):rd (swp a i j) (m:Int)=if m=j then rd a (i:Int) else if m=i then rd a (j:Int) else rd a (m:Int):=by
 rw[rd_lt _ m (by rw[swp_len];exact hm)]
 unfold swp
 rw[List.getElem_set]
 by_cases h1:m=j
 ·subst h1;rw[if_pos rfl,if_pos rfl]
 ·rw[if_neg (fun h=>h1 h.symm),if_neg h1,List.getElem_set]
  by_cases h2:m=i
  ·subst h2;rw[if_pos rfl,if_pos rfl]
  ·rw[if_neg (fun h=>h2 h.symm),if_neg h2,rd_lt _ m hm]
theorem fits_rd {a:List Int} (fa:Fits a) (m:Nat) (hm:m<a.length):0≤rd a (m:Int)∧rd a (m:Int)<(a.length:Int):=fa.1 _ (rd_mem a (m:Int) (by simpa using hm))
theorem fits_rd_inj {a:List Int} (fa:Fits a) (i j:Nat) (hi:i<a.length) (hj:j<a.length) (e:rd a (i:Int)=rd a (j:Int)):i=j:=by
 rw[rd_lt a i hi,rd_lt a j hj] at e
 exact fits_inj fa hi hj e
theorem fits_of_rd {a:List Int} (h1:∀ m:Nat,m<a.length→0≤rd a (m:Int)∧rd a (m:Int)<(a.length:Int)) (h2:∀ i j:Nat,i<a.length→j<a.length→rd a (i:Int)=rd a (j:Int)→i=j):Fits a:=by
 refine⟨fun x hx=>?_,nodup_get fun i j hi hj hij e=>?_⟩
 ·obtain⟨m,hm,rfl⟩:=List.getElem_of_mem hx
  have:=h1 m hm
  rw[rd_lt a m hm] at this
  exact this
 ·have:=h2 i j hi hj (by rw[rd_lt a i hi,rd_lt a j hj];exact e)
  omega
theorem fits_swp {a:List Int} (fa:Fits a) (i j:Nat) (hi:i<a.length) (hj:j<a.length):Fits (swp a i j):=by
 refine fits_of_rd (fun m hm=>?_) (fun x y hx hy e=>?_)
 ·rw[swp_len] at hm ⊢
  rw[swp_get a i j m hi hj hm]
  split
  ·exact fits_rd fa i hi
  ·split
   ·exact fits_rd fa j hj
   ·exact fits_rd fa m hm
 ·rw[swp_len] at hx hy
  rw[swp_get a i j x hi hj hx,swp_get a i j y hi hj hy] at e
  by_cases x1:x=j
  ·by_cases y1:y=j
   ·omega
   ·rw[if_pos x1,if_neg y1] at e
    by_cases y2:y=i
    ·rw[if_pos y2] at e
     have:=fits_rd_inj fa i j hi hj e
     omega
    ·rw[if_neg y2] at e
     have:=fits_rd_inj fa i y hi hy e
     omega
  ·rw[if_neg x1] at e
   by_cases y1:y=j
   ·rw[if_pos y1] at e
    by_cases x2:x=i
    ·rw[if_pos x2] at e
     have:=fits_rd_inj fa j i hj hi e
     omega
    ·rw[if_neg x2] at e
     have:=fits_rd_inj fa x i hx hi e
     omega
   ·rw[if_neg y1] at e
    by_cases x2:x=i
    ·rw[if_pos x2] at e
     by_cases y2:y=i
     ·omega
     ·rw[if_neg y2] at e
      have:=fits_rd_inj fa j y hj hy e
      omega
    ·rw[if_neg x2] at e
     by_cases y2:y=i
     ·rw[if_pos y2] at e
      have:=fits_rd_inj fa x j hx hj e
      omega
     ·rw[if_neg y2] at e
      exact fits_rd_inj fa x y hx hy e
def At (a r:List Int):Prop:=r.length=a.length∧∀ m:Nat,m<a.length→rd r (rd a (m:Int))=(m:Int)
theorem rd_set_same (r:List Int) (x v:Int) (h0:0≤x) (h1:x<(r.length:Int)):rd (r.set x.toNat v) x=v:=by
 rw[rd_get _ _ h0 (by rw[List.length_set];exact h1),List.getElem_set,if_pos rfl]
theorem rd_set_ne (r:List Int) (x y v:Int) (h0:0≤x) (h1:x<(r.length:Int)) (hy:0≤y) (h:x≠y):rd (r.set y.toNat v) x=rd r x:=by
 rw[rd_get _ _ h0 (by rw[List.length_set];exact h1),List.getElem_set,if_neg (by omega),←rd_get r x h0 h1]
theorem at_swp_prog {a r:List Int} (fa:Fits a) (h:At a r) (i j:Nat) (hi:i<a.length) (hj:j<a.length):At (swp a i j) ((r.set (rd a (j:Int)).toNat (i:Int)).set (rd a (i:Int)).toNat (j:Int)):=by
 have bi:=fits_rd fa i hi
 have bj:=fits_rd fa j hj
 refine⟨by rw[swp_len];simp[h.1],fun m hm=>?_⟩
 rw[swp_len] at hm
 have bm:=fits_rd fa m hm
 have hl:=h.1
 rw[swp_get a i j m hi hj hm]
 by_cases h1:m=j
 ·rw[if_pos h1,rd_set_same _ _ _ bi.1 (by rw[List.length_set];omega)]
  omega
 ·rw[if_neg h1]
  by_cases h2:m=i
  ·rw[if_pos h2,rd_set_ne _ _ _ _ bj.1 (by rw[List.length_set];omega) bi.1 (fun e=>h1 (by have:=fits_rd_inj fa j i hj hi e;omega)),rd_set_same _ _ _ bj.1 (by omega)]
   omega
  ·rw[if_neg h2,rd_set_ne _ _ _ _ bm.1 (by rw[List.length_set];omega) bi.1 (fun e=>h2 (fits_rd_inj fa m i hm hi e)),rd_set_ne _ _ _ _ bm.1 (by omega) bj.1 (fun e=>h1 (fits_rd_inj fa m j hm hj e))]
   exact h.2 m hm
theorem rd_iota (n m:Nat) (h:m<n):rd (iota n) (m:Int)=(m:Int):=by rw[rd_lt _ m (by rw[iota_len];exact h),iota_get]
theorem at_iota (n:Nat):At (iota n) (iota n):=⟨rfl,fun m hm=>by rw[iota_len] at hm;rw[rd_iota n m hm,rd_iota n m hm]⟩
def pos (a:List Int) (x:Int):Nat:=a.idxOf x
theorem pos_spec {a:List Int} (fa:Fits a) (x:Int) (h0:0≤x) (h1:x<(a.length:Int)):pos a x<a.length∧rd a (pos a x:Int)=x:=by
 obtain⟨i,hi,e⟩:=fits_all fa x.toNat (by omega)
 have hx:x ∈ a:=by
  have:a[i]=x:=by rw[e];omega
  exact this ▸ List.getElem_mem hi
 have hlt:a.idxOf x<a.length:=List.idxOf_lt_length_of_mem hx
 exact⟨hlt,by unfold pos;rw[rd_lt _ _ hlt];exact List.getElem_idxOf hlt⟩
theorem pos_at {a r:List Int} (fa:Fits a) (h:At a r) (x:Int) (h0:0≤x) (h1:x<(a.length:Int)):rd r x=(pos a x:Int):=by
 obtain⟨p1,p2⟩:=pos_spec fa x h0 h1
 have:=h.2 _ p1
 rw[p2] at this
 exact this
theorem pos_rd {a:List Int} (fa:Fits a) (m:Nat) (hm:m<a.length):pos a (rd a (m:Int))=m:=by
 have b:=fits_rd fa m hm
 obtain⟨p1,p2⟩:=pos_spec fa _ b.1 b.2
 exact fits_rd_inj fa _ _ p1 hm p2
def drawsL (p:List Int):List Int→Nat→List Int
 | _,0=>[]
 | a,i+1=>(pos a (rd p ((i+1:Nat):Int)):Int) ::drawsL p (swp a (i+1) (pos a (rd p ((i+1:Nat):Int)))) i
theorem drawsL_len (p:List Int):∀ (i:Nat) (a:List Int),(drawsL p a i).length=i
 | 0,_=>rfl
 | i+1,a=>by rw[drawsL,List.length_cons,drawsL_len p i]
def drawsA (p:List Int):List Int×Int:=if Fits p then(drawsL p (iota p.length) (p.length-1),0) else([],110)
theorem draws_walk (p:List Int) (hl:p.length≤17592186044000) (fp:Fits p):∀ (i:Nat) (a r D:List Int),(i<p.length∨i=0)→Fits a→a.length=p.length→At a r→D.length+i≤p.length →
  Ev (fun k=>perm_Draws.l0 k p a r D (i:Int)) (D ++ drawsL p a i,0):=by
 intro i
 induction i with
 | zero =>
  intro a r D hi fa ha hr hD
  exact Ev.step (f:=fun _=>some (D,0)) (fun k=>by rw[perm_Draws.l0,if_neg (by omega)]) (ev_some (by simp[drawsL]))
 | succ i ih =>
  intro a r D hi fa ha hr hD
  have hip:i+1<p.length:=by omega
  have bp:=fits_rd fp (i+1) hip
  obtain⟨p1,p2⟩:=pos_spec fa (rd p ((i+1:Nat):Int)) bp.1 (by omega)
  have hpos:=pos_at fa hr (rd p ((i+1:Nat):Int)) bp.1 (by omega)
  have hrl:=hr.1
  have f2:=fits_swp fa (i+1) _ (by omega) p1
  have h2:=at_swp_prog fa hr (i+1) (pos a (rd p ((i+1:Nat):Int))) (by omega) p1
  have:=ih (swp a (i+1) (pos a (rd p ((i+1:Nat):Int)))) _ (D ++ [(pos a (rd p ((i+1:Nat):Int)):Int)]) (by omega) f2 (by rw[swp_len,ha]) h2 (by simp;omega)
  rw[List.append_assoc] at this
  rw[drawsL]
  refine Ev.step (fun k=>?_) this
  have s1:=swp_get a (i+1) (pos a (rd p ((i+1:Nat):Int))) (i+1) (by omega) p1 (by omega)
  have s2:=swp_get a (i+1) (pos a (rd p ((i+1:Nat):Int))) (pos a (rd p ((i+1:Nat):Int))) (by omega) p1 p1
  rw[if_pos rfl] at s2
  have s1':rd (swp a (i+1) (pos a (rd p ((i+1:Nat):Int)))) ((i+1:Nat):Int)=rd a (pos a (rd p ((i+1:Nat):Int)):Int):=by
   rw[s1]
   by_cases e:i+1=pos a (rd p ((i+1:Nat):Int))
   ·rw[if_pos e,←e]
   ·rw[if_neg e,if_pos rfl]
  have b1:=fits_rd fa (i+1) (by omega)
  have b2:=fits_rd fa _ p1
  have esw:((a.set ((i+1:Nat):Int).toNat (rd a (pos a (rd p ((i+1:Nat):Int)):Int))).set ((pos a (rd p ((i+1:Nat):Int)):Int)).toNat (rd a ((i+1:Nat):Int)):List Int)=swp a (i+1) (pos a (rd p ((i+1:Nat):Int))):=by unfold swp;simp
  rw[perm_Draws.l0,if_pos (by omega),if_pos (by omega),if_pos (by omega),if_pos (by omega),if_pos (by omega),hpos,if_pos (by omega),if_pos (by omega),if_pos (by omega),if_pos (by omega),Option.bind_some,esw,s1',s2,if_pos (by omega),if_pos (by omega),if_pos (by omega),if_pos (by omega),w64 (by omega) (by omega),show((i+1:Nat):Int)-1=(i:Int) by omega]
theorem draws_all (p:List Int) (hl:p.length≤17592186044000):Ev (fun k=>perm_Draws.f k p) (drawsA p):=by
 unfold perm_Draws.f drawsA
 refine ev_bind (fits_ev p (by omega)) ?_
 by_cases fp:Fits p
 ·rw[if_pos fp]
  refine ev_pos (by simp[fp]) (ev_bind (identity_ev p.length (by omega)) (ev_bind (identity_ev p.length (by omega)) ?_))
  rw[w64 (by omega) (by omega)]
  by_cases h0:p.length=0
  ·rw[h0]
   exact Ev.step (f:=fun _=>some ([],0)) (fun k=>by rw[perm_Draws.l0,if_neg (by omega)]) (Ev.now _)
  ·have:=draws_walk p hl fp (p.length-1) (iota p.length) (iota p.length) [] (by omega) (fits_iota _) (iota_len _) (at_iota _) (by simp)
   rw[show((p.length-1:Nat):Int)=(p.length:Int)-1 by omega] at this
   exact this
 ·rw[if_neg fp]
  exact ev_neg (by simp[fp]) (Ev.now _)
end Go.Proofs.Ytbnifpfnjhdenaa.Pl
end
section
set_option linter.unusedVariables false
set_option linter.unusedSimpArgs false
namespace Go.Proofs.Ytbnifpfnjhdenaa.Pure
open Go.RowKit Go.Proofs.Ytbnifpfnjhdenaa.Q Go.Proofs.YtbnifpfnjhdenaaW.PrintWords Go.Proofs.YtbnifpfnjhdenaaW.PrintLast Go.Proofs.Ytbnifpfnjhdenaa.Pl
theorem from_draws (p:List Int) (fp:Fits p):∀ (i:Nat) (a:List Int),(i<p.length∨i=0)→Fits a→a.length=p.length→(∀ m:Nat,i<m→m<p.length→rd a (m:Int)=rd p (m:Int)) →
  FitD ((i:Int)+1) (drawsL p a i)∧fromL a i (drawsL p a i)=p:=by
 intro i
 induction i with
 | zero =>
  intro a hi fa ha hm
  refine⟨fun k hk=>by simp[drawsL] at hk,?_⟩
  rw[drawsL,fromL]
  apply List.ext_getElem ha
  intro m h1 h2
  rw[←rd_lt a m h1,←rd_lt p m h2]
  by_cases h0:m=0
  ·subst h0
   have b:=fits_rd fp 0 h2
   obtain⟨p1,p2⟩:=pos_spec fa (rd p ((0:Nat):Int)) b.1 (by omega)
   by_cases e:pos a (rd p ((0:Nat):Int))=0
   ·rw[e] at p2
    exact p2
   ·have:=hm (pos a (rd p ((0:Nat):Int))) (by omega) (by omega)
    rw[p2] at this
    have:=fits_rd_inj fp 0 _ h2 (by omega) this
    omega
  ·exact hm m (by omega) h2
 | succ i ih =>
  intro a hi fa ha hm
  have hip:i+1<p.length:=by omega
  have bp:=fits_rd fp (i+1) hip
  obtain⟨p1,p2⟩:=pos_spec fa (rd p ((i+1:Nat):Int)) bp.1 (by omega)
  have hle:pos a (rd p ((i+1:Nat):Int))≤i+1:=by
   rcases Nat.lt_or_ge (i+1) (pos a (rd p ((i+1:Nat):Int))) with h|h
   ·have:=hm _ h (by omega)
    rw[p2] at this
    have:=fits_rd_inj fp _ _ hip (by omega) this
    omega
   ·exact h
  have:=ih (swp a (i+1) (pos a (rd p ((i+1:Nat):Int)))) (by omega) (fits_swp fa _ _ (by omega) p1) (by rw[swp_len,ha]) (fun m h1 h2=>by
   rw[swp_get a _ _ m (by omega) p1 (by omega)]
   by_cases e1:m=pos a (rd p ((i+1:Nat):Int))
   ·have e2:m=i+1:=by omega
    have e3:pos a (rd p ((i+1:Nat):Int))=i+1:=by omega
    rw[if_pos e1]
    rw[e3] at p2
    rw[e2,p2]
   ·rw[if_neg e1]
    by_cases e2:m=i+1
    ·rw[if_pos e2,p2,e2]
    ·rw[if_neg e2]
     exact hm m (by omega) h2)
  rw[drawsL]
  refine⟨fun k hk=>?_,?_⟩
  ·cases k with
   | zero =>
    rw[rd_nat]
    simp only[List.getD_cons_zero]
    omega
   | succ k =>
    have:=this.1 k (by simpa using hk)
    rw[rd_nat] at this ⊢
    simp only[List.getD_cons_succ]
    omega
  ·rw[fromL,Int.toNat_natCast,Nat.add_sub_cancel]
   exact this.2
theorem draws_from:∀ (i:Nat) (l a:List Int),l.length=i→FitD ((i:Int)+1) l→Fits a→(i<a.length∨i=0) →
  Fits (fromL a i l)∧(∀ m:Nat,i<m→m<a.length→rd (fromL a i l) (m:Int)=rd a (m:Int))∧drawsL (fromL a i l) a i=l:=by
 intro i
 induction i with
 | zero =>
  intro l a hl hf fa hi
  obtain rfl:=List.eq_nil_of_length_eq_zero hl
  exact⟨fa,fun m _ _=>rfl,rfl⟩
 | succ i ih =>
  intro l a hl hf fa hi
  cases l with
  | nil=>simp at hl
  | cons d ds =>
   have h0:=hf 0 (by simp)
   rw[rd_nat] at h0
   simp only[List.getD_cons_zero] at h0
   have hd:d.toNat<a.length:=by omega
   have hf':FitD ((i:Int)+1) ds:=fun k hk=>by
    have:=hf (k+1) (by simpa using hk)
    rw[rd_nat] at this ⊢
    simp only[List.getD_cons_succ] at this
    omega
   have ia:i+1<a.length:=by omega
   obtain⟨r1,r2,r3⟩:=ih ds (swp a (i+1) d.toNat) (by simpa using hl) hf' (fits_swp fa _ _ ia hd) (by rw[swp_len];omega)
   rw[fromL,Nat.add_sub_cancel]
   rw[swp_len] at r2
   have top:rd (fromL (swp a (i+1) d.toNat) i ds) ((i+1:Nat):Int)=rd a (d.toNat:Int):=by
    rw[r2 (i+1) (by omega) ia,swp_get a _ _ (i+1) ia hd ia]
    by_cases e:i+1=d.toNat
    ·rw[if_pos e,←e]
    ·rw[if_neg e,if_pos rfl]
   refine⟨r1,fun m h1 h2=>?_,?_⟩
   ·rw[r2 m (by omega) h2,swp_get a _ _ m ia hd h2,if_neg (by omega),if_neg (by omega)]
   ·rw[drawsL,top,pos_rd fa _ hd,r3,Int.toNat_of_nonneg h0.1]
end Go.Proofs.Ytbnifpfnjhdenaa.Pure
end
section
set_option linter.unusedVariables false
set_option linter.unusedSimpArgs false
namespace Go.Proofs.Ytbnifpfnjhdenaa.Pl
open Go.RowKit Go.Proofs.YtbnifpfnjhdenaaW.PrintWords Go.Proofs.YtbnifpfnjhdenaaW.PrintLast
def total:List Int→Int
 | []=>0
 | x ::l=>x+total l
def psum (l:List Int) (j:Nat):Int:=total (l.take j)
theorem total_append (a b:List Int):total (a ++ b)=total a+total b:=by
 induction a with
 | nil=>simp[total]
 | cons x a ih=>simp[total,ih];omega
theorem psum_succ (l:List Int) (j:Nat) (h:j<l.length):psum l (j+1)=psum l j+l[j]:=by
 unfold psum
 rw[List.take_succ_eq_append_getElem h,total_append]
 simp[total]
theorem psum_zero (l:List Int):psum l 0=0:=rfl
theorem psum_all (l:List Int) (j:Nat) (h:l.length≤j):psum l j=total l:=by
 unfold psum
 rw[List.take_of_length_le h]
def Nonneg (l:List Int):Prop:=∀ x ∈ l,0≤x
theorem Nonneg.at_ {l:List Int} (h:Nonneg l) (j:Nat) (hj:j<l.length):0≤l[j]:=h _ (List.getElem_mem hj)
theorem psum_mono {l:List Int} (h:Nonneg l) (i:Nat):∀ d,psum l i≤psum l (i+d):=by
 intro d
 induction d with
 | zero=>exact Int.le_refl _
 | succ d ih =>
  by_cases hl:i+d<l.length
  ·have:=psum_succ l (i+d) hl
   have:=h.at_ (i+d) hl
   rw[show i+(d+1)=i+d+1 from rfl]
   omega
  ·rw[psum_all l (i+d) (by omega)] at ih
   rw[psum_all l (i+(d+1)) (by omega)]
   exact ih
theorem psum_le {l:List Int} (h:Nonneg l) (i j:Nat) (hij:i≤j):psum l i≤psum l j:=by
 have:=psum_mono h i (j-i)
 rwa [show i+(j-i)=j from by omega] at this
theorem psum_nonneg {l:List Int} (h:Nonneg l) (j:Nat):0≤psum l j:=by
 have:=psum_le h 0 j (Nat.zero_le _)
 rwa [psum_zero] at this
theorem psum_total {l:List Int} (h:Nonneg l) (j:Nat):psum l j≤total l:=by
 rcases Nat.lt_or_ge j l.length with hl|hl
 ·have:=psum_le h j l.length (by omega)
  rwa [psum_all l l.length (Nat.le_refl _)] at this
 ·rw[psum_all l j hl];exact Int.le_refl _
theorem total_nonneg {l:List Int} (h:Nonneg l):0≤total l:=by
 have:=psum_nonneg h l.length
 rwa [psum_all l l.length (Nat.le_refl _)] at this
theorem place_unique {l:List Int} (h:Nonneg l) {i j:Nat} {o p:Int} (hi:i<l.length) (hj:j<l.length) (ho:0≤o) (ho':o<l[i]) (hp:0≤p) (hp':p<l[j]) (e:psum l i+o=psum l j+p):i=j∧o=p:=by
 rcases Nat.lt_trichotomy i j with hlt|rfl|hgt
 ·have:=psum_le h (i+1) j hlt
  rw[psum_succ l i hi] at this
  omega
 ·exact⟨rfl,by omega⟩
 ·have:=psum_le h (j+1) i hgt
  rw[psum_succ l j hj] at this
  omega
theorem place_exists {l:List Int} (h:Nonneg l) (d:Int) (h0:0≤d) (ht:d<total l):∃ (j:Nat) (hj:j<l.length) (o:Int),0≤o∧o<l[j]∧d=psum l j+o:=by
 have key:∀ n:Nat,n≤l.length→(∃ (j:Nat) (hj:j<l.length) (o:Int),0≤o∧o<l[j]∧d=psum l j+o)∨psum l n≤d:=by
  intro n
  induction n with
  | zero=>intro _;right;rw[psum_zero];exact h0
  | succ n ih =>
   intro hn
   rcases ih (by omega) with h1|h1
   ·exact .inl h1
   ·by_cases h2:d<psum l (n+1)
    ·left
     rw[psum_succ l n (by omega)] at h2
     exact⟨n,by omega,d-psum l n,by omega,by omega,by omega⟩
    ·right;omega
 rcases key l.length (Nat.le_refl _) with h1|h1
 ·exact h1
 ·rw[psum_all l l.length (Nat.le_refl _)] at h1;omega
def dec (l:List Int) (j:Nat):List Int:=l.set j (l.getD j 0-1)
theorem dec_length (l:List Int) (j:Nat):(dec l j).length=l.length:=by simp[dec]
theorem dec_get (l:List Int) (j i:Nat) (hi:i<l.length):(dec l j)[i]'(by rw[dec_length];exact hi)=if j=i then l[i]-1 else l[i]:=by
 unfold dec
 rw[List.getElem_set]
 by_cases e:j=i
 ·subst e;simp[hi]
 ·simp[e]
theorem dec_getD (l:List Int) (j i:Nat) (hi:i<l.length):(dec l j).getD i 0=if j=i then l.getD i 0-1 else l.getD i 0:=by
 rw[List.getD_eq_getElem?_getD,List.getElem?_eq_getElem (by rw[dec_length];exact hi),Option.getD_some,dec_get l j i hi]
 simp[List.getD_eq_getElem?_getD,hi]
theorem total_set (l:List Int) (j:Nat) (v:Int) (hj:j<l.length):total (l.set j v)=total l-l[j]+v:=by
 induction l generalizing j with
 | nil=>simp at hj
 | cons x l ih =>
  cases j with
  | zero=>simp[total];omega
  | succ j =>
   simp at hj
   simp[total,ih j hj]
   omega
theorem dec_total (l:List Int) (j:Nat) (hj:j<l.length):total (dec l j)=total l-1:=by
 unfold dec
 rw[total_set l j _ hj]
 simp[List.getD_eq_getElem?_getD,hj]
 omega
theorem dec_nonneg {l:List Int} (h:Nonneg l) (j:Nat) (hj:j<l.length) (hp:0<l[j]):Nonneg (dec l j):=by
 intro x hx
 obtain⟨i,hi,rfl⟩:=List.getElem_of_mem hx
 rw[dec_length] at hi
 rw[dec_get l j i hi]
 split
 ·rename_i e;subst e;omega
 ·exact h.at_ i hi
inductive Pat:List Int→List Int→List (Nat×Int)→Prop
 | nil (l:List Int):Pat l [] []
 | cons {l ds:List Int} {P:List (Nat×Int)} {d o:Int} {j:Nat} (hj:j<l.length) (h0:0≤o) (h1:o<l[j]) (hd:d=psum l j+o) (t:Pat (dec l j) ds P):Pat l (d ::ds) ((j,o) ::P)
def vis (j:Nat) (P:List (Nat×Int)):List Int:=(P.filter fun x=>x.1 == j).map (·.2)
theorem vis_nil (j:Nat):vis j []=[]:=rfl
theorem vis_cons (i j:Nat) (o:Int) (P:List (Nat×Int)):vis i ((j,o) ::P)=if j=i then o ::vis i P else vis i P:=by
 unfold vis
 by_cases e:j=i
 ·simp[e]
 ·simp[e]
theorem Pat.len {l ds:List Int} {P:List (Nat×Int)} (h:Pat l ds P):P.length=ds.length:=by
 induction h with
 | nil=>rfl
 | cons=>simp_all
theorem Pat.range {l ds:List Int} {P:List (Nat×Int)} (h:Pat l ds P):∀ x ∈ P,x.1<l.length:=by
 induction h with
 | nil=>simp
 | cons hj h0 h1 hd t ih =>
  intro x hx
  rcases List.mem_cons.1 hx with rfl|hx
  ·exact hj
  ·have:=ih x hx
   rwa [dec_length] at this
theorem Pat.unique {l ds:List Int} {P Q:List (Nat×Int)} (hn:Nonneg l) (h:Pat l ds P) (h':Pat l ds Q):P=Q:=by
 induction h generalizing Q with
 | nil=>cases h';rfl
 | cons hj h0 h1 hd t ih =>
  cases h' with
  | cons hj' h0' h1' hd' t' =>
   obtain⟨rfl,rfl⟩:=place_unique hn hj hj' h0 h1 h0' h1' (by omega)
   rw[ih (dec_nonneg hn _ hj (by omega)) t']
theorem Pat.draws {l ds es:List Int} {P:List (Nat×Int)} (h:Pat l ds P) (h':Pat l es P):ds=es:=by
 induction h generalizing es with
 | nil=>cases h';rfl
 | cons hj h0 h1 hd t ih =>
  cases h' with
  | cons hj' h0' h1' hd' t'=>rw[ih t',hd,hd']
theorem Pat.bound {l ds:List Int} {P:List (Nat×Int)} (hn:Nonneg l) (h:Pat l ds P):∀ (i:Nat) (hi:i<ds.length),0≤ds[i]∧ds[i]<total l-i:=by
 induction h with
 | nil=>intro i hi;simp at hi
 | @cons l ds P d o j hj h0 h1 hd t ih =>
  intro i hi
  have hnn:=dec_nonneg hn j hj (by omega)
  cases i with
  | zero =>
   have a:=psum_nonneg hn j
   have b:=psum_total hn (j+1)
   rw[psum_succ l j hj] at b
   simp only[List.getElem_cons_zero]
   omega
  | succ i =>
   have:=ih hnn i (by simpa using hi)
   rw[dec_total l j hj] at this
   simp only[List.getElem_cons_succ]
   omega
theorem Pat.count {l ds:List Int} {P:List (Nat×Int)} (hn:Nonneg l) (h:Pat l ds P) (ht:total l=ds.length):∀ j:Nat,j<l.length→((vis j P).length:Int)=l.getD j 0:=by
 induction h with
 | nil l =>
  intro j hj
  have a:=psum_le hn (j+1) l.length (by omega)
  rw[psum_succ l j hj,psum_all l l.length (Nat.le_refl _)] at a
  have b:=psum_nonneg hn j
  have c:=hn.at_ j hj
  simp at ht
  simp[vis_nil,List.getD_eq_getElem?_getD,hj]
  omega
 | @cons l ds P d o i hi h0 h1 hd t ih =>
  intro j hj
  have hnn:=dec_nonneg hn i hi (by omega)
  have:=ih hnn (by rw[dec_total l i hi,ht];simp) j (by rw[dec_length];exact hj)
  rw[dec_getD l i j hj] at this
  rw[vis_cons]
  by_cases e:i=j
  ·simp[e] at this ⊢
   omega
  ·simp[e] at this ⊢
   exact this
theorem Pat.count_le {l ds:List Int} {P:List (Nat×Int)} (hn:Nonneg l) (h:Pat l ds P):∀ j:Nat,j<l.length→((vis j P).length:Int)≤l.getD j 0:=by
 induction h with
 | nil l =>
  intro j hj
  have c:=hn.at_ j hj
  simp[vis_nil,List.getD_eq_getElem?_getD,hj]
  exact c
 | @cons l ds P d o i hi h0 h1 hd t ih =>
  intro j hj
  have hnn:=dec_nonneg hn i hi (by omega)
  have:=ih hnn j (by rw[dec_length];exact hj)
  rw[dec_getD l i j hj] at this
  rw[vis_cons]
  by_cases e:i=j
  ·simp[e] at this ⊢
   omega
  ·simp[e] at this ⊢
   exact this
theorem Pat.offs {l ds:List Int} {P:List (Nat×Int)} (hn:Nonneg l) (h:Pat l ds P):∀ (j k:Nat),j<l.length→(hk:k<(vis j P).length)→0≤(vis j P)[k]∧(vis j P)[k]<l.getD j 0-k:=by
 induction h with
 | nil=>intro j k hj hk;simp[vis_nil] at hk
 | @cons l ds P d o i hi h0 h1 hd t ih =>
  intro j k hj hk
  have hnn:=dec_nonneg hn i hi (by omega)
  have hh:=fun k'=>ih hnn j k' (by rw[dec_length];exact hj)
  rw[dec_getD l i j hj] at hh
  by_cases e:i=j
  ·subst e
   simp only[vis_cons,if_true] at hk ⊢
   simp only[if_true] at hh
   cases k with
   | zero =>
    simp[List.getD_eq_getElem?_getD,hi]
    omega
   | succ k =>
    have:=hh k (by simpa using hk)
    simp only[List.getElem_cons_succ]
    omega
  ·simp only[vis_cons,if_neg e] at hk ⊢
   simp only[if_neg e] at hh
   exact hh k hk
def Rdo (nx:Nat→Nat) (off:List Int) (P:List (Nat×Int)):Prop:=∀ (j k:Nat),(hk:k<(vis j P).length)→(vis j P)[k]=off.getD (nx j+k) 0
theorem Rdo.cons {nx:Nat→Nat} {off:List Int} {P:List (Nat×Int)} {j:Nat} {o:Int} (ho:o=off.getD (nx j) 0) (h:Rdo (fun i=>if i=j then nx j+1 else nx i) off P):Rdo nx off ((j,o) ::P):=by
 intro i k hk
 by_cases e:j=i
 ·subst e
  simp only[vis_cons,if_true] at hk ⊢
  cases k with
  | zero=>simpa using ho
  | succ k =>
   have:=h j k (by simpa using hk)
   simp only[if_true] at this
   simp only[List.getElem_cons_succ,this]
   congr 1
   omega
 ·simp only[vis_cons,if_neg e] at hk ⊢
  have:=h i k hk
  simp only[if_neg (Ne.symm e)] at this
  exact this
theorem Rdo.uncons {nx:Nat→Nat} {off:List Int} {P:List (Nat×Int)} {j:Nat} {o:Int} (h:Rdo nx off ((j,o) ::P)):o=off.getD (nx j) 0∧Rdo (fun i=>if i=j then nx j+1 else nx i) off P:=by
 constructor
 ·have:=h j 0 (by simp[vis_cons])
  simpa [vis_cons] using this
 ·intro i k hk
  by_cases e:i=j
  ·subst e
   have:=h i (k+1) (by simp only[vis_cons,if_true,List.length_cons];omega)
   simp only[vis_cons,if_true,List.getElem_cons_succ] at this
   simp only[if_true,this]
   congr 1
   omega
  ·have:=h i k (by simpa [vis_cons,Ne.symm e] using hk)
   simp only[vis_cons,if_neg (Ne.symm e)] at this
   simp only[if_neg e]
   exact this
def allOff (m:Nat) (P:List (Nat×Int)):List Int:=(List.range m).flatMap fun j=>vis j P
theorem allOff_succ (m:Nat) (P:List (Nat×Int)):allOff (m+1) P=allOff m P ++ vis m P:=by
 unfold allOff
 rw[List.range_succ,List.flatMap_append]
 simp
theorem allOff_len (m:Nat) (P:List (Nat×Int)) (s:List Int) (hm:m≤s.length) (hc:∀ j,j<s.length→((vis j P).length:Int)=s.getD j 0):((allOff m P).length:Int)=psum s m:=by
 induction m with
 | zero=>simp[allOff,psum_zero]
 | succ m ih =>
  have h1:=ih (by omega)
  have h2:=hc m (by omega)
  have h3:=psum_succ s m (by omega)
  have h4:s.getD m 0=s[m]:=by simp[List.getD_eq_getElem?_getD,show m<s.length by omega]
  rw[allOff_succ,List.length_append]
  omega
def start (s:List Int) (j:Nat):Nat:=(psum s j).toNat
theorem allOff_at (m:Nat) (P:List (Nat×Int)) (s:List Int) (hn:Nonneg s) (hm:m≤s.length) (hc:∀ j,j<s.length→((vis j P).length:Int)=s.getD j 0) (j k:Nat) (hj:j<m) (hk:k<(vis j P).length) :
  (allOff m P).getD (start s j+k) 0=(vis j P)[k]:=by
 induction m with
 | zero=>omega
 | succ m ih =>
  have hl:=allOff_len m P s (by omega) hc
  rw[allOff_succ,List.getD_eq_getElem?_getD]
  have h0:=psum_nonneg hn j
  by_cases e:j=m
  ·subst e
   have hs:start s j=(allOff j P).length:=by unfold start;omega
   rw[hs,List.getElem?_append_right (by omega)]
   simp[hk]
  ·have hjm:j<m:=by omega
   have h1:=psum_le hn (j+1) m (by omega)
   rw[psum_succ s j (by omega)] at h1
   have h2:=hc j (by omega)
   have h3:s.getD j 0=s[j]:=by simp[List.getD_eq_getElem?_getD,show j<s.length by omega]
   rw[List.getElem?_append_left (by unfold start;omega),←List.getD_eq_getElem?_getD]
   exact ih (by omega) hjm
theorem vis_none {l ds:List Int} {P:List (Nat×Int)} (h:∀ x ∈ P,x.1<l.length) (j:Nat) (hj:l.length≤j):vis j P=[]:=by
 unfold vis
 simp only[List.map_eq_nil_iff,List.filter_eq_nil_iff]
 intro x hx
 have:=h x hx
 simp
 omega
theorem rdo_all {s ds:List Int} {P:List (Nat×Int)} (hn:Nonneg s) (h:Pat s ds P) (ht:total s=ds.length):Rdo (start s) (allOff s.length P) P:=by
 intro j k hk
 have hj:j<s.length:=by
  rcases Nat.lt_or_ge j s.length with h1|h1
  ·exact h1
  ·rw[vis_none (l:=s) (ds:=ds) h.range j h1] at hk
   simp at hk
 exact(allOff_at s.length P s hn (Nat.le_refl _) (h.count hn ht) j k hj hk).symm
theorem all_rdo {s ds off:List Int} {P:List (Nat×Int)} (hn:Nonneg s) (h:Pat s ds P) (ht:total s=ds.length) (ho:off.length=ds.length) (hr:Rdo (start s) off P):allOff s.length P=off:=by
 have hc:=h.count hn ht
 have hl:=allOff_len s.length P s (Nat.le_refl _) hc
 rw[psum_all s s.length (Nat.le_refl _)] at hl
 apply List.ext_getElem (by omega)
 intro i h1 h2
 obtain⟨j,hj,o,o0,o1,e⟩:=place_exists hn (i:Int) (by omega) (by omega)
 have h0:=psum_nonneg hn j
 have hcj:=hc j hj
 have h3:s.getD j 0=s[j]:=by simp[List.getD_eq_getElem?_getD,hj]
 have hk:o.toNat<(vis j P).length:=by omega
 have hi:i=start s j+o.toNat:=by unfold start;omega
 have a:=allOff_at s.length P s hn (Nat.le_refl _) hc j o.toNat hj hk
 have b:=hr j o.toNat hk
 rw[←hi] at a b
 rw[b] at a
 simpa [List.getD_eq_getElem?_getD,h1,h2] using a
theorem draws_exist (off:List Int):∀ (c:List Nat) (l:List Int) (nx:Nat→Nat),Nonneg l→(∀ j ∈ c,j<l.length)→(∀ j,j<l.length→((c.filter (· == j)).length:Int)≤l.getD j 0) →
  (∀ j k:Nat,j<l.length→(k:Int)<l.getD j 0→0≤off.getD (nx j+k) 0∧off.getD (nx j+k) 0<l.getD j 0-k) →
  ∃ ds P,Pat l ds P∧P.map (·.1)=c∧Rdo nx off P:=by
 intro c
 induction c with
 | nil=>intro l nx hn hr hc ho;exact⟨[],[],.nil l,rfl,fun j k hk=>by simp[vis_nil] at hk⟩
 | cons j c ih =>
  intro l nx hn hr hc ho
  have hj:j<l.length:=hr j (by simp)
  have hg:l.getD j 0=l[j]:=by simp[List.getD_eq_getElem?_getD,hj]
  have hp:0<l[j]:=by
   have:=hc j hj
   rw[hg] at this
   simp at this
   omega
  have h0:=ho j 0 hj (by omega)
  simp only[Nat.add_zero] at h0
  obtain⟨ds,P,h1,h2,h3⟩:=ih (dec l j) (fun i=>if i=j then nx j+1 else nx i) (dec_nonneg hn j hj hp) (fun i hi=>by rw[dec_length];exact hr i (by simp[hi])) (fun i hi=>by
   rw[dec_length] at hi
   have:=hc i hi
   rw[dec_getD l j i hi]
   by_cases e:j=i
   ·simp[e] at this ⊢
    omega
   ·simp[e] at this ⊢
    exact this) (fun i k hi hk=>by
   rw[dec_length] at hi
   rw[dec_getD l j i hi] at hk ⊢
   by_cases e:j=i
   ·subst e
    simp only[if_true] at hk ⊢
    have:=ho j (k+1) hj (by omega)
    rw[show nx j+(k+1)=nx j+1+k from by omega] at this
    omega
   ·simp only[if_neg e,if_neg (Ne.symm e)] at hk ⊢
    exact ho i k hi hk)
  refine⟨(psum l j+off.getD (nx j) 0) ::ds,(j,off.getD (nx j) 0) ::P,.cons hj h0.1 (by omega) rfl h1,by simp[h2],Rdo.cons rfl h3⟩
theorem pat_exists:∀ (ds l:List Int),Nonneg l→(∀ (i:Nat) (hi:i<ds.length),0≤ds[i]∧ds[i]<total l-i)→∃ P,Pat l ds P:=by
 intro ds
 induction ds with
 | nil=>intro l _ _;exact⟨[],.nil l⟩
 | cons d ds ih =>
  intro l hn h
  have h0:=h 0 (by simp)
  simp only[List.getElem_cons_zero] at h0
  obtain⟨j,hj,o,o0,o1,e⟩:=place_exists hn d h0.1 (by omega)
  obtain⟨P,hP⟩:=ih (dec l j) (dec_nonneg hn j hj (by omega)) (fun i hi=>by
   have:=h (i+1) (by simpa using hi)
   simp only[List.getElem_cons_succ] at this
   rw[dec_total l j hj]
   omega)
  exact⟨_,.cons hj o0 o1 e hP⟩
end Go.Proofs.Ytbnifpfnjhdenaa.Pl
end
section
set_option linter.unusedVariables false
set_option linter.unusedSimpArgs false
namespace Go.Proofs.Ytbnifpfnjhdenaa.Pl
open Go.RowKit Go.Proofs.Ytbnifpfnjhdenaa.Q Go.Proofs.YtbnifpfnjhdenaaW.PrintWords Go.Proofs.YtbnifpfnjhdenaaW.PrintLast
structure OkS (s:List Int):Prop where
 one:1≤s.length
 most:s.length≤64
 each:∀ x ∈ s,0≤x∧x≤256
 all:Go.Proofs.Ytbnifpfnjhdenaa.Pl.total s≤256
theorem OkS.nonneg {s:List Int} (h:OkS s):Nonneg s:=fun x hx=>(h.each x hx).1
theorem psum_up (s:List Int) (hb:∀ x ∈ s,0≤x∧x≤256):∀ i:Nat,i≤s.length→0≤psum s i∧psum s i≤256*i:=by
 intro i
 induction i with
 | zero=>intro _;simp[psum_zero]
 | succ i ih =>
  intro hi
  have h1:=ih (by omega)
  have h2:=hb _ (List.getElem_mem (show i<s.length by omega))
  have h3:=psum_succ s i (by omega)
  omega
theorem total_ev (s:List Int) (hl:s.length≤9223372036854775000):∃ (n:Int) (b:Bool),Ev (fun k=>braid_total.f k s) (n,b)∧(b=true↔OkS s)∧(OkS s→n=total s):=by
 unfold braid_total.f
 by_cases h1:s.length<1
 ·exact⟨0,false,ev_pos (by omega) (Ev.step (f:=fun _=>some (0,false)) (fun k=>by rw[braid_total.j0,if_pos rfl]) (Ev.now _)),by simp;intro h;have:=h.one;omega,fun h=>by have:=h.one;omega⟩
 ·by_cases h2:s.length > 64
  ·exact⟨0,false,ev_neg (by omega) (Ev.step (f:=fun _=>some (0,false)) (fun k=>by rw[braid_total.j0,if_pos (by simp;omega)]) (Ev.now _)),by simp;intro h;have:=h.most;omega,fun h=>by have:=h.most;omega⟩
  ·have key:∀ (d i:Nat),i+d=s.length→(∀ x ∈ s.take i,0≤x∧x≤256)→∃ (n:Int) (b:Bool),Ev (fun k=>braid_total.l0 k (psum s i) s (s.length:Int) (i:Int)) (n,b)∧(b=true↔OkS s)∧(OkS s→n=total s):=by
    intro d
    induction d with
    | zero =>
     intro i hi hb
     rw[List.take_of_length_le (by omega)] at hb
     refine⟨psum s i,decide (psum s i≤256),Ev.step (f:=fun _=>some (psum s i,decide (psum s i≤256))) (fun k=>by rw[braid_total.l0,if_neg (by omega)]) (Ev.now _),?_,fun _=>psum_all s i (by omega)⟩
     rw[psum_all s i (by omega)]
     exact⟨fun h=>⟨by omega,by omega,hb,by simpa using h⟩,fun h=>by simpa using h.all⟩
    | succ d ih =>
     intro i hi hb
     have hm:=rd_mem s (i:Int) (by simp;omega)
     have hlt:i<s.length:=by omega
     by_cases c1:rd s (i:Int)<0
     ·exact⟨0,false,Ev.step (f:=fun _=>some (0,false)) (fun k=>by rw[braid_total.l0,if_pos (by omega),if_pos (by omega),if_pos (by omega),if_pos c1]) (Ev.now _),by simp;intro h;have:=(h.each _ hm).1;omega,fun h=>by have:=(h.each _ hm).1;omega⟩
     ·by_cases c2:rd s (i:Int) > 256
      ·exact⟨0,false,Ev.step (f:=fun _=>some (0,false)) (fun k=>by rw[braid_total.l0,if_pos (by omega),if_pos (by omega),if_pos (by omega),if_neg c1,if_pos c2]) (Ev.now _),by simp;intro h;have:=(h.each _ hm).2;omega,fun h=>by have:=(h.each _ hm).2;omega⟩
      ·have hb':∀ x ∈ s.take (i+1),0≤x∧x≤256:=by
        rw[take_rd s i hlt]
        intro x hx
        rcases List.mem_append.1 hx with hx|hx
        ·exact hb x hx
        ·have:=List.mem_singleton.1 hx;subst this;omega
       obtain⟨n,b,e,r⟩:=ih (i+1) (by omega) hb'
       have hps:psum s (i+1)=psum s i+rd s (i:Int):=by rw[psum_succ s i hlt,rd_lt s i hlt]
       have hup:=psum_up (s.take (i+1)) hb' (i+1) (by rw[List.length_take];omega)
       have hpp:psum (s.take (i+1)) (i+1)=psum s (i+1):=by unfold psum;rw[List.take_take,Nat.min_self]
       rw[hpp] at hup
       have hpos:0≤psum s i:=by
        have:=psum_up (s.take (i+1)) hb' i (by rw[List.length_take];omega)
        have hq:psum (s.take (i+1)) i=psum s i:=by unfold psum;rw[List.take_take,Nat.min_eq_left (by omega)]
        rw[hq] at this
        exact this.1
       refine⟨n,b,Ev.step (fun k=>?_) e,r⟩
       rw[braid_total.l0,if_pos (by omega),if_pos (by omega),if_pos (by omega),if_neg c1,if_neg c2,w64 (by omega) (by omega),w64 (by omega) (by omega),hps]
       rfl
   obtain⟨n,b,e,r⟩:=key s.length 0 (by omega) (by simp)
   refine⟨n,b,ev_neg (by omega) (Ev.step (fun k=>?_) e),r⟩
   rw[braid_total.j0,if_neg (by simp;omega)]
   simp[psum_zero]
def fsts (P:List (Nat×Int)):List Int:=P.map fun x=>(x.1:Int)
theorem fsts_append (P Q:List (Nat×Int)):fsts (P ++ Q)=fsts P ++ fsts Q:=by simp[fsts]
theorem vis_append (j:Nat) (P Q:List (Nat×Int)):vis j (P ++ Q)=vis j P ++ vis j Q:=by simp[vis]
def visits (m:Nat) (P:List (Nat×Int)):List (List Int):=(List.range m).map fun j=>vis j P
theorem visits_len (m:Nat) (P:List (Nat×Int)):(visits m P).length=m:=by simp[visits]
theorem visits_get (m:Nat) (P:List (Nat×Int)) (j:Nat) (hj:j<m):rd_L3 (visits m P) (j:Int)=vis j P:=by simp[rd_L3,visits,hj]
theorem visits_set (m:Nat) (P:List (Nat×Int)) (j:Nat) (hj:j<m) (o:Int):(visits m P).set j (vis j P ++ [o])=visits m (P ++ [(j,o)]):=by
 apply List.ext_getElem
 ·simp[visits]
 ·intro i h1 h2
  rw[List.getElem_set]
  have hi:i<m:=by simpa [visits] using h2
  by_cases e:j=i
  ·subst e;simp[visits,vis_append,vis_cons,vis_nil]
  ·simp[visits,vis_append,vis_cons,vis_nil,e]
theorem visits_nil (m:Nat):visits m []=List.replicate m []:=by
 apply List.ext_getElem
 ·simp[visits]
 ·intro i h1 h2;simp[visits,vis_nil]
theorem vis_le (j:Nat) (P:List (Nat×Int)):(vis j P).length≤P.length:=by
 unfold vis
 rw[List.length_map]
 exact List.length_filter_le _ _
theorem allOff_le (P:List (Nat×Int)) (m:Nat):(allOff m P).length≤m*P.length:=by
 induction m with
 | zero=>simp[allOff]
 | succ m ih =>
  rw[allOff_succ,List.length_append,Nat.succ_mul]
  have:=vis_le m P
  omega
theorem pat_flat (c:List Int) (m:Nat) (P:List (Nat×Int)) (hm:m≤64) (hP:P.length≤256):Ev (fun k=>braid_Pattern.l2 k c [] (visits m P) ((visits m P).length:Int) 0) (c,allOff m P,0):=by
 have key:∀ (d i:Nat),i+d=m→Ev (fun k=>braid_Pattern.l2 k c (allOff i P) (visits m P) ((visits m P).length:Int) (i:Int)) (c,allOff m P,0):=by
  intro d
  induction d with
  | zero =>
   intro i hi
   have:i=m:=by omega
   subst this
   exact Ev.step (f:=fun _=>some (c,allOff i P,0)) (fun k=>by rw[braid_Pattern.l2,if_neg (by rw[visits_len];omega)]) (Ev.now _)
  | succ d ih =>
   intro i hi
   have hlen:=visits_len m P
   have h1:=vis_le i P
   have h2:=allOff_le P i
   have h3:i*P.length≤64*256:=Nat.mul_le_mul (by omega) hP
   refine Ev.step (fun k=>?_) (ih (i+1) (by omega))
   rw[braid_Pattern.l2,if_pos (by omega),if_pos (by omega),if_pos (by omega),visits_get m P i (by omega),if_pos (by omega),w64 (by omega) (by omega),allOff_succ]
   rfl
 have:=key m 0 (by omega)
 simpa [allOff] using this
theorem pat_find (x4:List Int) (n:Int) (left:List Int) (Pd:List (Nat×Int)) (ds:List Int) (i:Nat) (R:List Int×List Int×Int) (hn:Nonneg left) (hm:left.length≤64) (ht:total left≤256) (hx:x4.length≤1000) (hPd:Pd.length≤1000) (hi:i<ds.length) (hds:ds.length≤256)
  (j:Nat) (hj:j<left.length) (o:Int) (o0:0≤o) (o1:o<left[j])
  (next:Ev (fun k=>braid_Pattern.l0 k (x4 ++ [(j:Int)]) [] n (dec left j) (visits left.length (Pd ++ [(j,o)])) ds (ds.length:Int) ((i+1:Nat):Int)) R) :
  ∀ (t a:Nat),a+t=j→Ev (fun k=>braid_Pattern.l1 k x4 [] n left (visits left.length Pd) (psum left j+o-psum left a) (a:Int) ds (ds.length:Int) (i:Int)) R:=by
 intro t
 induction t with
 | zero =>
  intro a ha
  have:a=j:=by omega
  subst this
  have hv:=visits_get left.length Pd a hj
  have hvl:=vis_le a Pd
  have hr:rd left (a:Int)=left[a]:=rd_lt left a hj
  have hlt:=psum_total hn (a+1)
  have hge:=psum_nonneg hn a
  rw[psum_succ left a hj] at hlt
  have hpos:=hn.at_ a hj
  refine Ev.step (fun k=>?_) next
  have hdec:left.set ((a:Int).toNat) (wrap64 (rd left (a:Int)-1))=dec left a:=by
   rw[w64 (by rw[hr];omega) (by rw[hr];omega),hr]
   simp[dec,List.getD_eq_getElem?_getD,hj]
  rw[braid_Pattern.l1,if_pos (by omega),if_pos (by omega),if_neg (by rw[hr];omega),if_pos (by omega),if_pos (by rw[visits_len];omega),hv,if_pos (by omega),hdec,w64 (by omega) (by omega),
   show psum left a+o-psum left a=o from by omega,show((a:Int).toNat)=a from by omega,visits_set left.length Pd a hj o]
  rfl
 | succ t ih =>
  intro a ha
  have hal:a<left.length:=by omega
  have hr:rd left (a:Int)=left[a]:=rd_lt left a hal
  have h1:=psum_succ left a hal
  have h2:=psum_le hn (a+1) j (by omega)
  have h3:=psum_total hn (j+1)
  rw[psum_succ left j hj] at h3
  have h4:=psum_nonneg hn a
  have h5:=hn.at_ a hal
  refine Ev.step (fun k=>?_) (ih (a+1) (by omega))
  rw[braid_Pattern.l1,if_pos (by omega),if_pos (by omega),if_pos (by rw[hr];omega),w64 (by rw[hr];omega) (by rw[hr];omega),w64 (by omega) (by omega),hr,h1,
   show psum left j+o-psum left a-left[a]=psum left j+o-(psum left a+left[a]) from by omega]
  rfl
theorem pat_loop (ds:List Int) (m:Nat) (hm:m≤64) (hds:ds.length≤256):∀ (rem i:Nat) (left:List Int) (Pd:List (Nat×Int)),i+rem=ds.length→total left=rem→Nonneg left→left.length=m→Pd.length=i →
  (∃ P,Pat left (ds.drop i) P∧Ev (fun k=>braid_Pattern.l0 k (fsts Pd) [] (ds.length:Int) left (visits m Pd) ds (ds.length:Int) (i:Int)) (fsts (Pd ++ P),allOff m (Pd ++ P),0)) ∨
  ((∃ t,i≤t∧∃ h:t<ds.length,ds[t]<0∨(ds.length:Int)-t≤ds[t])∧Ev (fun k=>braid_Pattern.l0 k (fsts Pd) [] (ds.length:Int) left (visits m Pd) ds (ds.length:Int) (i:Int)) ([],[],2)):=by
 intro rem
 induction rem with
 | zero =>
  intro i left Pd hi ht hn hl hPd
  left
  refine⟨[],by rw[List.drop_of_length_le (by omega)];exact .nil left,?_⟩
  rw[List.append_nil]
  refine Ev.step (fun k=>?_) (pat_flat (fsts Pd) m Pd hm (by omega))
  rw[braid_Pattern.l0,if_neg (by omega)]
 | succ rem ih =>
  intro i left Pd hi ht hn hl hPd
  have hlt:i<ds.length:=by omega
  have hr:rd ds (i:Int)=ds[i]:=rd_lt ds i hlt
  have hw:wrap64 ((ds.length:Int)-(i:Int))=(ds.length:Int)-i:=w64 (by omega) (by omega)
  by_cases c1:ds[i]<0
  ·right
   refine⟨⟨i,by omega,hlt,.inl c1⟩,?_⟩
   refine Ev.step (f:=fun k=>braid_Pattern.j2 k (fsts Pd) [] (ds.length:Int) left (visits m Pd) (rd ds (i:Int)) ds (ds.length:Int) (i:Int) true) (fun k=>?_) (Ev.step (f:=fun _=>some ([],[],2)) (fun k=>by rw[braid_Pattern.j2,if_pos rfl]) (Ev.now _))
   rw[braid_Pattern.l0,if_pos (by omega),if_pos (by omega),if_pos (by omega),if_pos (by rw[hr];exact c1)]
  ·by_cases c2:(ds.length:Int)-i≤ds[i]
   ·right
    refine⟨⟨i,by omega,hlt,.inr c2⟩,?_⟩
    refine Ev.step (f:=fun k=>braid_Pattern.j2 k (fsts Pd) [] (ds.length:Int) left (visits m Pd) (rd ds (i:Int)) ds (ds.length:Int) (i:Int) true) (fun k=>?_) (Ev.step (f:=fun _=>some ([],[],2)) (fun k=>by rw[braid_Pattern.j2,if_pos rfl]) (Ev.now _))
    rw[braid_Pattern.l0,if_pos (by omega),if_pos (by omega),if_pos (by omega),if_neg (by rw[hr];exact c1),hw,decide_eq_true (show rd ds (i:Int) ≥ (ds.length:Int)-i by rw[hr];exact c2)]
   ·obtain⟨j,hj,o,o0,o1,e⟩:=place_exists hn ds[i] (by omega) (by omega)
    have hdrop:ds.drop i=ds[i] ::ds.drop (i+1):=List.drop_eq_getElem_cons hlt
    have hstep:∀ R,Ev (fun k=>braid_Pattern.l0 k (fsts (Pd ++ [(j,o)])) [] (ds.length:Int) (dec left j) (visits m (Pd ++ [(j,o)])) ds (ds.length:Int) ((i+1:Nat):Int)) R →
      Ev (fun k=>braid_Pattern.l0 k (fsts Pd) [] (ds.length:Int) left (visits m Pd) ds (ds.length:Int) (i:Int)) R:=by
     intro R hR
     subst hl
     have hR':Ev (fun k=>braid_Pattern.l0 k (fsts Pd ++ [(j:Int)]) [] (ds.length:Int) (dec left j) (visits left.length (Pd ++ [(j,o)])) ds (ds.length:Int) ((i+1:Nat):Int)) R:=by
      rw[fsts_append] at hR
      exact hR
     have h0:=pat_find (fsts Pd) (ds.length:Int) left Pd ds i R hn (by omega) (by omega) (by simp[fsts];omega) (by omega) hlt hds j hj o o0 o1 hR' j 0 (by omega)
     refine Ev.step (f:=fun k=>braid_Pattern.j2 k (fsts Pd) [] (ds.length:Int) left (visits left.length Pd) (rd ds (i:Int)) ds (ds.length:Int) (i:Int) false) (fun k=>?_) (Ev.step (fun k=>?_) h0)
     ·rw[braid_Pattern.l0,if_pos (by omega),if_pos (by omega),if_pos (by omega),if_neg (by rw[hr];exact c1),hw,decide_eq_false (show ¬ rd ds (i:Int) ≥ (ds.length:Int)-i by rw[hr];exact c2)]
     ·rw[braid_Pattern.j2,if_neg (by simp),hr,e,psum_zero,Int.sub_zero]
      rfl
    rcases ih (i+1) (dec left j) (Pd ++ [(j,o)]) (by omega) (by rw[dec_total left j hj];omega) (dec_nonneg hn j hj (by omega)) (by rw[dec_length];exact hl) (by simp;omega) with⟨P,hP,hE⟩|⟨⟨t,h1,h2,h3⟩,hE⟩
    ·left
     refine⟨(j,o) ::P,by rw[hdrop];exact .cons hj o0 o1 e hP,?_⟩
     have:=hstep _ hE
     rwa [List.append_assoc,List.singleton_append] at this
    ·right
     exact⟨⟨t,by omega,h2,h3⟩,hstep _ hE⟩
def OkD (s ds:List Int):Prop:=OkS s∧(ds.length:Int)=total s∧∀ (t:Nat) (h:t<ds.length),0≤ds[t]∧ds[t]<(ds.length:Int)-t
theorem pattern_good (s ds:List Int) (hs:OkS s) (hl:(ds.length:Int)=total s):(∃ P,Pat s ds P∧Ev (fun k=>braid_Pattern.f k s ds) (fsts P,allOff s.length P,0))∨(¬ OkD s ds∧Ev (fun k=>braid_Pattern.f k s ds) ([],[],2)):=by
 have hm:=hs.most
 obtain⟨n,b,e,hb,hn⟩:=total_ev s (by omega)
 have hbt:=hb.2 hs
 have hnt:=hn hs
 subst hbt
 have hal:=hs.all
 have hin:∀ R,Ev (fun k=>braid_Pattern.l0 k (fsts []) [] (ds.length:Int) s (visits s.length []) ds (ds.length:Int) ((0:Nat):Int)) R→Ev (fun k=>braid_Pattern.f k s ds) R:=by
  intro R hR
  unfold braid_Pattern.f
  refine ev_bind e (ev_pos rfl (Ev.step (fun k=>?_) hR))
  rw[braid_Pattern.j0,if_neg (by simp;omega)]
  simp only[Option.bind_some,List.nil_append,List.length_nil]
  rw[if_pos (by omega),if_pos (by omega),if_pos (by omega),visits_nil,show((s.length:Int).toNat)=s.length from by omega,show n=(ds.length:Int) from by omega]
  rfl
 rcases pat_loop ds s.length hm (by omega) ds.length 0 s [] (by omega) (by omega) hs.nonneg rfl rfl with⟨P,hP,hE⟩|⟨⟨t,h1,h2,h3⟩,hE⟩
 ·left
  rw[List.nil_append] at hE
  exact⟨P,by simpa using hP,hin _ hE⟩
 ·right
  refine⟨fun h=>?_,hin _ hE⟩
  have:=h.2.2 t h2
  omega
end Go.Proofs.Ytbnifpfnjhdenaa.Pl
end
section
set_option linter.unusedVariables false
set_option linter.unusedSimpArgs false
namespace Go.Proofs.Ytbnifpfnjhdenaa.Pl
open Go.RowKit Go.Proofs.Ytbnifpfnjhdenaa.Q Go.Proofs.YtbnifpfnjhdenaaW.PrintWords Go.Proofs.YtbnifpfnjhdenaaW.PrintLast
def tab (m:Nat) (f:Nat→Int):List Int:=(List.range m).map f
theorem tab_len (m:Nat) (f:Nat→Int):(tab m f).length=m:=by simp[tab]
theorem tab_rd (m:Nat) (f:Nat→Int) (j:Nat) (hj:j<m):rd (tab m f) (j:Int)=f j:=by simp[rd,tab,hj]
theorem tab_set (m:Nat) (f:Nat→Int) (j:Nat) (v:Int):(tab m f).set j v=tab m (fun i=>if i=j then v else f i):=by
 apply List.ext_getElem
 ·simp[tab]
 ·intro i h1 h2
  rw[List.getElem_set]
  by_cases e:j=i
  ·subst e;simp[tab]
  ·simp[tab,e,Ne.symm e]
theorem tab_congr (m:Nat) (f g:Nat→Int) (h:∀ j,j<m→f j=g j):tab m f=tab m g:=by
 unfold tab
 exact List.map_congr_left fun j hj=>h j (List.mem_range.1 hj)
def Told (l:List Int) (nx:Nat→Nat) (c off ds:List Int) (P:List (Nat×Int)):Prop:=Pat l ds P∧fsts P=c∧Rdo nx off P
theorem Told.head {l:List Int} {nx:Nat→Nat} {x:Int} {c off ds:List Int} {P:List (Nat×Int)} (h:Told l nx (x ::c) off ds P) :
  ∃ (j:Nat) (hj:j<l.length) (o:Int) (es:List Int) (Q:List (Nat×Int)),x=(j:Int)∧o=off.getD (nx j) 0∧0≤o∧o<l[j]∧ds=(psum l j+o) ::es∧P=(j,o) ::Q∧Told (dec l j) (fun i=>if i=j then nx j+1 else nx i) c off es Q:=by
 obtain⟨h1,h2,h3⟩:=h
 cases h1 with
 | nil=>simp[fsts] at h2
 | @cons _ es Q d o j hj h0 h1 hd t =>
  obtain⟨a,b⟩:=h3.uncons
  simp[fsts] at h2
  exact⟨j,hj,o,es,Q,h2.1.symm,a,h0,h1,by rw[hd],rfl,t,by simp[fsts];exact h2.2,b⟩
theorem draws_sum (s off left nxl out c:List Int) (j:Nat) (o:Int) (n i:Int) (R:List Int×Int) (hj:j<left.length) (hn:Nonneg left) (hb:total left≤256) (hm:left.length≤64) (h0:0≤o) (h1:o≤256)
  (next:Ev (fun k=>if out.length<17592186044416 then(if 0≤(j:Int) then(if(j:Int)<(left.length:Int) then(if(j:Int)<(nxl.length:Int) then(braid_Draws.l1 k s off (left.set ((j:Int):Int).toNat (wrap64 ((rd left (j:Int))-1))) (nxl.set ((j:Int):Int).toNat (wrap64 ((rd nxl (j:Int))+1))) (out ++ [psum left j+o]) c n (wrap64 (i+1))) else(none)) else(none)) else(none)) else(none)) R) :
  Ev (fun k=>braid_Draws.l2 k s off left nxl out (j:Int) o c n i (left.take j) ((left.take j).length:Int) 0) R:=by
 have key:∀ (t a:Nat),a+t=j→Ev (fun k=>braid_Draws.l2 k s off left nxl out (j:Int) (psum left a+o) c n i (left.take j) ((left.take j).length:Int) (a:Int)) R:=by
  intro t
  induction t with
  | zero =>
   intro a ha
   have:a=j:=by omega
   subst this
   refine Ev.step (fun k=>?_) next
   rw[braid_Draws.l2,if_neg (by rw[List.length_take];omega)]
  | succ t ih =>
   intro a ha
   have hlt:(left.take j).length=j:=by rw[List.length_take];omega
   have hr:rd (left.take j) (a:Int)=left[a]:=by
    rw[rd_lt _ a (by omega)]
    simp
   have h2:=psum_succ left a (by omega)
   have h3:=psum_nonneg hn a
   have h4:=psum_total hn (a+1)
   have h5:=hn.at_ a (by omega)
   refine Ev.step (fun k=>?_) (ih (a+1) (by omega))
   rw[braid_Draws.l2,if_pos (by omega),if_pos (by omega),if_pos (by omega),hr,w64 (by omega) (by omega),w64 (by omega) (by omega),h2,show psum left a+o+left[a]=psum left a+left[a]+o from by omega]
   rfl
 have:=key j 0 (by omega)
 rw[psum_zero,Int.zero_add] at this
 exact this
theorem draws_loop (s off c:List Int) (m:Nat) (hs:s.length=m) (hm:m≤64) (hc:c.length≤256) (hoff:off.length≤256) (hsn:Nonneg s) (hso:total s≤off.length) :
  ∀ (rem i:Nat) (left:List Int) (nx:Nat→Nat) (out:List Int),i+rem=c.length→Nonneg left→total left≤256→left.length=m→out.length≤256→(∀ x ∈ left,x≤256)→(∀ j,j<m→(nx j:Int)+left.getD j 0=psum s (j+1))→out.length=i →
  (∃ ds P,Told left nx (c.drop i) off ds P∧Ev (fun k=>braid_Draws.l1 k s off left (tab m fun j=>nx j) out c (c.length:Int) (i:Int)) (out ++ ds,0)) ∨
  ((¬ ∃ ds P,Told left nx (c.drop i) off ds P)∧Ev (fun k=>braid_Draws.l1 k s off left (tab m fun j=>nx j) out c (c.length:Int) (i:Int)) ([],2)):=by
 intro rem
 induction rem with
 | zero =>
  intro i left nx out hi hn hb hl ho hmx hnx hout
  left
  refine⟨[],[],⟨.nil left,by rw[List.drop_of_length_le (by omega)];rfl,fun j k hk=>by simp[vis_nil] at hk⟩,?_⟩
  rw[List.append_nil]
  exact Ev.step (f:=fun _=>some (out,0)) (fun k=>by rw[braid_Draws.l1,if_neg (by omega)]) (Ev.now _)
 | succ rem ih =>
  intro i left nx out hi hn hb hl ho hmx hnx hout
  have hlt:i<c.length:=by omega
  have hr:rd c (i:Int)=c[i]:=rd_lt c i hlt
  have hdrop:c.drop i=c[i] ::c.drop (i+1):=List.drop_eq_getElem_cons hlt
  have bad3:∀ x:Bool,x=true→Ev (fun k=>braid_Draws.j3 k s off left (tab m fun j=>nx j) out c[i] c (c.length:Int) (i:Int) x) ([],2):=fun x hx=>Ev.step (f:=fun _=>some ([],2)) (fun k=>by rw[braid_Draws.j3,if_pos hx]) (Ev.now _)
  by_cases c1:c[i]<0
  ·right
   refine⟨?_,Ev.step (fun k=>?_) (bad3 true rfl)⟩
   ·rintro⟨ds,P,h⟩
    rw[hdrop] at h
    obtain⟨j,hj,o,es,Q,e,_⟩:=h.head
    omega
   ·rw[braid_Draws.l1,if_pos (by omega),if_pos (by omega),if_pos (by omega),hr,if_pos c1]
  ·by_cases c2:c[i] ≥ (s.length:Int)
   ·right
    refine⟨?_,Ev.step (fun k=>?_) (bad3 true rfl)⟩
    ·rintro⟨ds,P,h⟩
     rw[hdrop] at h
     obtain⟨j,hj,o,es,Q,e,_⟩:=h.head
     omega
    ·rw[braid_Draws.l1,if_pos (by omega),if_pos (by omega),if_pos (by omega),hr,if_neg c1,if_pos c2]
   ·obtain⟨j,hj⟩:∃ j:Nat,c[i]=(j:Int):=⟨c[i].toNat,by omega⟩
    have hjm:j<m:=by omega
    have hjl:j<left.length:=by omega
    have hrl:rd left (j:Int)=left[j]:=rd_lt left j hjl
    have hrn:rd (tab m fun j=>(nx j:Int)) (j:Int)=(nx j:Int):=tab_rd m _ j hjm
    have htl:=tab_len m fun j=>(nx j:Int)
    have hgl:left.getD j 0=left[j]:=by simp[List.getD_eq_getElem?_getD,hjl]
    have hpos:=hn.at_ j hjl
    have hjx:=hnx j hjm
    have hps:=psum_total hsn (j+1)
    have hmj:=hmx _ (List.getElem_mem hjl)
    have step3:∀ R,Ev (fun k=>braid_Draws.j3 k s off left (tab m fun j=>nx j) out (j:Int) c (c.length:Int) (i:Int) (left[j] == 0)) R→Ev (fun k=>braid_Draws.l1 k s off left (tab m fun j=>nx j) out c (c.length:Int) (i:Int)) R:=by
     intro R hR
     refine Ev.step (fun k=>?_) hR
     rw[braid_Draws.l1,if_pos (by omega),if_pos (by omega),if_pos (by omega),hr,hj,if_neg (by omega),if_neg (by omega),if_pos (by omega),if_pos (by omega),hrl]
    by_cases c3:left[j]=0
    ·right
     refine⟨?_,step3 _ (by rw[←hj];exact bad3 _ (by simpa using c3))⟩
     rintro⟨ds,P,h⟩
     rw[hdrop] at h
     obtain⟨j',hj',o,es,Q,e,eo,o0,o1,_⟩:=h.head
     have:j'=j:=by omega
     subst this
     omega
    ·have hno:nx j<off.length:=by omega
     have hro:rd off (nx j:Int)=off[nx j]:=rd_lt off (nx j) hno
     have hgo:off.getD (nx j) 0=off[nx j]:=by simp[List.getD_eq_getElem?_getD,hno]
     have c3':(left[j] == 0)=false:=by simpa using c3
     have bad4:∀ x:Bool,x=true→Ev (fun k=>braid_Draws.j4 k s off left (tab m fun j=>nx j) out (j:Int) off[nx j] c (c.length:Int) (i:Int) x) ([],2):=fun x hx=>Ev.step (f:=fun _=>some ([],2)) (fun k=>by rw[braid_Draws.j4,if_pos hx]) (Ev.now _)
     by_cases c4:off[nx j]<0
     ·right
      refine⟨?_,step3 _ (Ev.step (fun k=>?_) (bad4 true rfl))⟩
      ·rintro⟨ds,P,h⟩
       rw[hdrop] at h
       obtain⟨j',hj',o,es,Q,e,eo,o0,o1,_⟩:=h.head
       have:j'=j:=by omega
       subst this
       omega
      ·rw[braid_Draws.j3,if_neg (by simp[c3]),if_pos (by omega),if_pos (by omega),hrn,if_pos (by omega),if_pos (by omega),hro,if_pos c4]
     ·have step4:∀ R,Ev (fun k=>braid_Draws.j4 k s off left (tab m fun j=>nx j) out (j:Int) off[nx j] c (c.length:Int) (i:Int) (decide (off[nx j] ≥ left[j]))) R→Ev (fun k=>braid_Draws.l1 k s off left (tab m fun j=>nx j) out c (c.length:Int) (i:Int)) R:=by
       intro R hR
       refine step3 _ (Ev.step (fun k=>?_) hR)
       rw[braid_Draws.j3,if_neg (by simp[c3]),if_pos (by omega),if_pos (by omega),hrn,if_pos (by omega),if_pos (by omega),hro,if_neg c4,if_pos (by omega),hrl]
      by_cases c5:off[nx j] ≥ left[j]
      ·right
       refine⟨?_,step4 _ (bad4 _ (by simpa using c5))⟩
       rintro⟨ds,P,h⟩
       rw[hdrop] at h
       obtain⟨j',hj',o,es,Q,e,eo,o0,o1,_⟩:=h.head
       have:j'=j:=by omega
       subst this
       omega
      ·have hdec:left.set j (wrap64 (left[j]-1))=dec left j:=by
        rw[w64 (by omega) (by omega)]
        unfold dec
        rw[hgl]
       have hnxs:(tab m fun j=>(nx j:Int)).set j (wrap64 ((nx j:Int)+1))=tab m (fun i=>((if i=j then nx j+1 else nx i:Nat):Int)):=by
        rw[w64 (by omega) (by omega),tab_set]
        refine tab_congr m _ _ fun a ha=>?_
        by_cases e:a=j
        ·simp[e]
        ·simp[e]
       have step5:∀ R,Ev (fun k=>braid_Draws.l1 k s off (dec left j) (tab m (fun i=>((if i=j then nx j+1 else nx i:Nat):Int))) (out ++ [psum left j+off[nx j]]) c (c.length:Int) ((i+1:Nat):Int)) R →
         Ev (fun k=>braid_Draws.l1 k s off left (tab m fun j=>nx j) out c (c.length:Int) (i:Int)) R:=by
        intro R hR
        have h6:=draws_sum s off left (tab m fun j=>(nx j:Int)) out c j off[nx j] (c.length:Int) (i:Int) R hjl hn hb (by omega) (by omega) (by omega) (by
         refine ev_pos (by omega) (ev_pos (by omega) (ev_pos (by omega) (ev_pos (by omega) ?_)))
         rw[hrl,hrn,show((j:Int):Int).toNat=j from by omega,hdec,hnxs,w64 (by omega) (by omega)]
         exact hR)
        refine step4 _ (Ev.step (fun k=>?_) h6)
        rw[braid_Draws.j4,if_neg (by simp;omega),if_pos (by omega),if_pos (by omega),show((j:Int):Int).toNat=j from by omega]
        rfl
       have hnn:=dec_nonneg hn j hjl (by omega)
       rcases ih (i+1) (dec left j) (fun a=>if a=j then nx j+1 else nx a) (out ++ [psum left j+off[nx j]]) (by omega) hnn (by rw[dec_total left j hjl];omega) (by rw[dec_length];exact hl) (by simp;omega) (by
         intro x hx
         obtain⟨a,ha,rfl⟩:=List.getElem_of_mem hx
         rw[dec_length] at ha
         rw[dec_get left j a ha]
         have:=hmx _ (List.getElem_mem ha)
         split <;> omega) (by
         intro a ha
         rw[dec_getD left j a (by omega)]
         have:=hnx a ha
         by_cases e:a=j
         ·subst e
          simp only[if_true]
          omega
         ·simp only[if_neg e,if_neg (Ne.symm e)]
          exact this) (by simp;omega) with⟨ds,P,hP,hE⟩|⟨hP,hE⟩
       ·left
        refine⟨(psum left j+off[nx j]) ::ds,(j,off[nx j]) ::P,?_,?_⟩
        ·rw[hdrop]
         exact⟨.cons hjl (by omega) (by omega) rfl hP.1,by simp only[fsts,List.map_cons];rw[←hj];have:=hP.2.1;unfold fsts at this;rw[this],Rdo.cons hgo.symm hP.2.2⟩
        ·have:=step5 _ hE
         rwa [List.append_assoc,List.singleton_append] at this
       ·right
        refine⟨?_,step5 _ hE⟩
        rintro⟨ds,P,h⟩
        rw[hdrop] at h
        obtain⟨j',hj',o,es,Q,e,eo,o0,o1,_,_,ht⟩:=h.head
        have:j'=j:=by omega
        subst this
        exact hP ⟨es,Q,ht⟩
theorem draws_bad (s c off:List Int) (hs:s.length≤17592186044000) (hc:c.length≤17592186044000) (ho:off.length≤17592186044000) (h:¬ (OkS s∧(c.length:Int)=total s∧(off.length:Int)=total s)):Ev (fun k=>braid_Draws.f k s c off) ([],2):=by
 obtain⟨n,b,e,hb,hn⟩:=total_ev s (by omega)
 unfold braid_Draws.f
 refine ev_bind e ?_
 have hend:∀ (x:Bool),x=true→Ev (fun k=>braid_Draws.j0 k s c off n x) ([],2):=fun x hx=>Ev.step (f:=fun _=>some ([],2)) (fun k=>by rw[braid_Draws.j0,if_pos hx]) (Ev.now _)
 by_cases hb':b=true
 ·have hO:=hb.1 hb'
  have hN:=hn hO
  refine ev_pos hb' ?_
  by_cases h1:(c.length:Int)=n
  ·refine ev_pos h1 (hend _ ?_)
   rw[bne_iff_ne]
   intro h2
   exact h ⟨hO,by omega,by omega⟩
  ·exact ev_neg h1 (hend _ rfl)
 ·exact ev_neg hb' (hend _ rfl)
theorem draws_good (s c off:List Int) (hs:OkS s) (hc:(c.length:Int)=total s) (ho:(off.length:Int)=total s) :
  (∃ ds P,Told s (start s) c off ds P∧Ev (fun k=>braid_Draws.f k s c off) (ds,0))∨((¬ ∃ ds P,Told s (start s) c off ds P)∧Ev (fun k=>braid_Draws.f k s c off) ([],2)):=by
 have hm:=hs.most
 have hal:=hs.all
 have hone:=hs.one
 obtain⟨n,b,e,hb,hn⟩:=total_ev s (by omega)
 have hbt:=hb.2 hs
 have hnt:=hn hs
 subst hbt
 have hnn:=hs.nonneg
 have hin:∀ R,Ev (fun k=>braid_Draws.l1 k s off s (tab s.length fun j=>(start s j:Nat)) [] c (c.length:Int) ((0:Nat):Int)) R→Ev (fun k=>braid_Draws.f k s c off) R:=by
  intro R hR
  have key:∀ (d a:Nat),a+d=s.length→1≤a→Ev (fun k=>braid_Draws.l0 k s c off n s (tab s.length fun j=>if j<a then psum s j else 0) (a:Int)) R:=by
   intro d
   induction d with
   | zero =>
    intro a ha h1
    refine Ev.step (fun k=>?_) hR
    rw[braid_Draws.l0,if_neg (by omega),if_pos (by omega),if_pos (by omega)]
    have:(tab s.length fun j=>if j<a then psum s j else 0)=tab s.length fun j=>((start s j:Nat):Int):=tab_congr _ _ _ fun j hj=>by
     have:=psum_nonneg hnn j
     unfold start
     rw[if_pos (by omega)]
     omega
    rw[this]
    rfl
   | succ d ih =>
    intro a ha h1
    have htl:=tab_len s.length fun j=>if j<a then psum s j else 0
    have hw:wrap64 ((a:Int)-1)=((a-1:Nat):Int):=by rw[w64 (by omega) (by omega)];omega
    have h2:=psum_succ s (a-1) (by omega)
    rw[show a-1+1=a from by omega] at h2
    have h3:=psum_nonneg hnn a
    have h4:=psum_total hnn a
    refine Ev.step (fun k=>?_) (ih (a+1) (by omega) (by omega))
    rw[braid_Draws.l0,if_pos (by omega),hw,if_pos (by omega),if_pos (by omega),if_pos (by omega),if_pos (by omega),if_pos (by omega),tab_rd _ _ (a-1) (by omega),rd_lt s (a-1) (by omega),if_pos (by omega),←h2,w64 (by omega) (by omega),w64 (by omega) (by omega),
     show((a:Int):Int).toNat=a from by omega,tab_set]
    have:(tab s.length fun i=>if i=a then psum s a else if i<a then psum s i else 0)=tab s.length fun j=>if j<a+1 then psum s j else 0:=tab_congr _ _ _ fun j hj=>by
     by_cases e:j=a
     ·subst e;simp
     ·by_cases e2:j<a
      ·simp[e,e2,show j<a+1 from by omega]
      ·simp[e,e2,show ¬ j<a+1 from by omega]
    rw[this]
    rfl
  have h1:=key (s.length-1) 1 (by omega) (by omega)
  unfold braid_Draws.f
  refine ev_bind e (ev_pos rfl (ev_pos (by omega) (Ev.step (fun k=>?_) h1)))
  rw[braid_Draws.j0,if_neg (by simp;omega)]
  simp only[Option.bind_some,List.nil_append,List.length_nil]
  have hrep:(tab s.length fun j=>if j<1 then psum s j else 0)=List.replicate s.length 0:=by
   apply List.ext_getElem
   ·simp[tab]
   ·intro i h1 h2
    simp only[tab,List.getElem_map,List.getElem_range,List.getElem_replicate]
    split
    ·rename_i h
     rw[show i=0 from by omega,psum_zero]
    ·rfl
  rw[if_pos (by omega),if_pos (by omega),if_pos (by omega),show((s.length:Int).toNat)=s.length from by omega,hrep]
  rfl
 rcases draws_loop s off c s.length rfl hm (by omega) (by omega) hnn (by omega) c.length 0 s (start s) [] (by omega) hnn hal rfl (by simp) (fun x hx=>(hs.each x hx).2) (by
  intro j hj
  have:=psum_nonneg hnn j
  rw[psum_succ s j hj]
  unfold start
  simp[List.getD_eq_getElem?_getD,hj]
  omega) rfl with⟨ds,P,hP,hE⟩|⟨hP,hE⟩
 ·left
  rw[List.nil_append] at hE
  exact⟨ds,P,by simpa using hP,hin _ hE⟩
 ·right
  exact⟨by simpa using hP,hin _ hE⟩
end Go.Proofs.Ytbnifpfnjhdenaa.Pl
end
section
set_option linter.unusedVariables false
set_option linter.unusedSimpArgs false
namespace Go.Proofs.Ytbnifpfnjhdenaa.Pl
open Go.RowKit Go.Proofs.Ytbnifpfnjhdenaa.Q Go.Proofs.YtbnifpfnjhdenaaW.PrintWords Go.Proofs.YtbnifpfnjhdenaaW.PrintLast
structure Good (s ds:List Int) (P:List (Nat×Int)):Prop where
 sizes:OkS s
 len:(ds.length:Int)=total s
 pat:Pat s ds P
theorem Good.le {s ds:List Int} {P:List (Nat×Int)} (g:Good s ds P):ds.length≤256∧P.length=ds.length∧(fsts P).length=ds.length∧(allOff s.length P).length=ds.length:=by
 have h1:=g.sizes.all
 have h2:=g.len
 have h3:=g.pat.len
 have h4:=allOff_len s.length P s (Nat.le_refl _) (g.pat.count g.sizes.nonneg h2.symm)
 rw[psum_all s s.length (Nat.le_refl _)] at h4
 exact⟨by omega,h3,by simp[fsts];exact h3,by omega⟩
theorem Good.pattern {s ds:List Int} {P:List (Nat×Int)} (g:Good s ds P):Ev (fun k=>braid_Pattern.f k s ds) (fsts P,allOff s.length P,0):=by
 rcases pattern_good s ds g.sizes g.len with⟨Q,h1,h2⟩|⟨h1,_⟩
 ·rw[g.pat.unique g.sizes.nonneg h1]
  exact h2
 ·refine absurd ⟨g.sizes,g.len,fun t ht=>?_⟩ h1
  have:=g.pat.bound g.sizes.nonneg t ht
  rw[←g.len] at this
  exact this
theorem told_unique (off:List Int):∀ (A B:List (Nat×Int)) (nx:Nat→Nat),A.map (·.1)=B.map (·.1)→Rdo nx off A→Rdo nx off B→A=B:=by
 intro A
 induction A with
 | nil=>intro B nx e _ _;cases B with
  | nil=>rfl
  | cons b B=>simp at e
 | cons a A ih =>
  intro B nx e ha hb
  cases B with
  | nil=>simp at e
  | cons b B =>
   obtain⟨j,o⟩:=a
   obtain⟨i,p⟩:=b
   simp only[List.map_cons,List.cons.injEq] at e
   obtain⟨rfl,e2⟩:=e
   obtain⟨a1,a2⟩:=ha.uncons
   obtain⟨b1,b2⟩:=hb.uncons
   rw[a1,b1,ih B _ e2 a2 b2]
theorem Good.back {s ds:List Int} {P:List (Nat×Int)} (g:Good s ds P):Ev (fun k=>braid_Draws.f k s (fsts P) (allOff s.length P)) (ds,0):=by
 have hle:=g.le
 have hl:=g.len
 have hT:Told s (start s) (fsts P) (allOff s.length P) ds P:=⟨g.pat,rfl,rdo_all g.sizes.nonneg g.pat g.len.symm⟩
 rcases draws_good s (fsts P) (allOff s.length P) g.sizes (by omega) (by omega) with⟨es,Q,h1,h2⟩|⟨h1,_⟩
 ·have hPQ:P=Q:=by
   have e1:P.map (·.1)=Q.map (·.1):=by
    have:=h1.2.1
    unfold fsts at this
    have h3:∀ (A B:List (Nat×Int)),A.map (fun x=>(x.1:Int))=B.map (fun x=>(x.1:Int))→A.map (·.1)=B.map (·.1):=by
     intro A
     induction A with
     | nil=>intro B h;cases B with
      | nil=>rfl
      | cons b B=>simp at h
     | cons a A ih=>intro B h;cases B with
      | nil=>simp at h
      | cons b B =>
       simp only[List.map_cons,List.cons.injEq] at h ⊢
       exact⟨by omega,ih B h.2⟩
    exact(h3 Q P this).symm
   exact told_unique _ _ _ _ e1 hT.2.2 h1.2.2
  subst hPQ
  rw[g.pat.draws h1.1]
  exact h2
 ·exact absurd ⟨ds,P,hT⟩ h1
theorem Good.inj {s ds es:List Int} {P Q:List (Nat×Int)} (g:Good s ds P) (g':Good s es Q) (h1:fsts P=fsts Q) (h2:allOff s.length P=allOff s.length Q):ds=es:=by
 have a:=g.back
 have b:=g'.back
 rw[h1,h2] at a
 obtain⟨K1,e1⟩:=a
 obtain⟨K2,e2⟩:=b
 have x:=e1 (max K1 K2) (Nat.le_max_left _ _)
 have y:=e2 (max K1 K2) (Nat.le_max_right _ _)
 rw[x] at y
 exact congrArg Prod.fst (Option.some.inj y)
theorem Good.same {s ds es:List Int} {P Q:List (Nat×Int)} (g:Good s ds P) (g':Good s es Q) (h:ds=es):P=Q:=by
 subst h
 exact g.pat.unique g.sizes.nonneg g'.pat
end Go.Proofs.Ytbnifpfnjhdenaa.Pl
end
section
set_option linter.unusedVariables false
set_option linter.unusedSimpArgs false
namespace Go.Proofs.Ytbnifpfnjhdenaa.Pl
open Go.RowKit Go.Proofs.Ytbnifpfnjhdenaa.Q Go.Proofs.YtbnifpfnjhdenaaW.PrintWords Go.Proofs.YtbnifpfnjhdenaaW.PrintLast
def szf (n m j:Nat):Nat:=n / m+(if j<n % m then 1 else 0)
def sz (n m:Nat):List Int:=tab m fun j=>(szf n m j:Int)
theorem sz_len (n m:Nat):(sz n m).length=m:=tab_len _ _
theorem sizes_bad (n m:Int) (h:¬ (0≤n∧n≤256∧1≤m∧m≤64)):Ev (fun k=>braid_Sizes.f k n m) ([],2):=by
 have bad:∀ b,b=true→Ev (fun k=>braid_Sizes.j0 k n m b) ([],2):=fun b hb=>Ev.step (f:=fun _=>some ([],2)) (fun k=>by rw[braid_Sizes.j0,if_pos hb]) (Ev.now _)
 unfold braid_Sizes.f
 by_cases h1:n<0
 ·exact ev_pos h1 (bad _ rfl)
 refine ev_neg h1 ?_
 by_cases h2:n > 256
 ·exact ev_pos h2 (bad _ rfl)
 refine ev_neg h2 ?_
 by_cases h3:m<1
 ·exact ev_pos h3 (bad _ rfl)
 exact ev_neg h3 (bad _ (by simp;omega))
theorem sizes_good (n m:Nat) (hn:n≤256) (h1:1≤m) (h2:m≤64):Ev (fun k=>braid_Sizes.f k (n:Int) (m:Int)) (sz n m,0):=by
 unfold braid_Sizes.f
 refine ev_neg (by omega) (ev_neg (by omega) (ev_neg (by omega) ?_))
 refine Ev.step (fun k=>by rw[braid_Sizes.j0,if_neg (by simp;omega),if_pos (by omega),if_pos (by omega),Option.bind_some]) ?_
 have hd:n / m≤256:=Nat.le_trans (Nat.div_le_self _ _) hn
 obtain⟨q,hq⟩:∃ q,n / m=q:=⟨_,rfl⟩
 obtain⟨r,hr0⟩:∃ r,n % m=r:=⟨_,rfl⟩
 have t1:Int.tdiv (n:Int) (m:Int)=(q:Int):=by rw[←hq];rfl
 have t2:Int.tmod (n:Int) (m:Int)=(r:Int):=by rw[←hr0];rfl
 have hz:∀ j,(szf n m j:Int)=(q:Int)+(if j<r then 1 else 0):=fun j=>by unfold szf;rw[hq,hr0];split <;> simp
 rw[hq] at hd
 have key:∀ (d i:Nat),i+d=m→Ev (fun k=>braid_Sizes.l0 k (n:Int) (m:Int) (tab m fun j=>if j<i then(szf n m j:Int) else 0) (m:Int) (i:Int)) (sz n m,0):=by
  intro d
  induction d with
  | zero =>
   intro i hi
   have e:(tab m fun j=>if j<i then(szf n m j:Int) else 0)=sz n m:=tab_congr _ _ _ (fun j hj=>by rw[if_pos (by omega)])
   rw[e]
   exact Ev.step (f:=fun _=>some (sz n m,0)) (fun k=>by rw[braid_Sizes.l0,if_neg (by omega)]) (Ev.now _)
  | succ d ih =>
   intro i hi
   refine Ev.step (fun k=>by rw[braid_Sizes.l0,if_pos (by omega),if_neg (by omega),if_pos (by omega),if_pos (by rw[tab_len];omega),Option.bind_some,t1,t2,Int.toNat_natCast,tab_set,w64 (x:=(q:Int)) (by omega) (by omega),w64 (x:=(i:Int)+1) (by omega) (by omega)]) ?_
   have next:=ih (i+1) (by omega)
   by_cases h:i<r
   ·refine ev_pos (by omega) ?_
    rw[tab_rd _ _ i (by omega),if_pos rfl,w64 (by omega) (by omega),tab_set]
    have e:(tab m fun j=>if j=i then(q:Int)+1 else if j=i then(q:Int) else if j<i then(szf n m j:Int) else 0)=tab m fun j=>if j<i+1 then(szf n m j:Int) else 0 :=
     tab_congr _ _ _ (fun j hj=>by
      by_cases e1:j=i
      ·subst e1
       rw[if_pos rfl,if_pos (by omega)]
       rw[hz];simp[h]
      ·rw[if_neg e1,if_neg e1]
       by_cases e2:j<i
       ·rw[if_pos e2,if_pos (by omega)]
       ·rw[if_neg e2,if_neg (by omega)])
    rw[e]
    exact next
   ·refine ev_neg (by omega) ?_
    have e:(tab m fun j=>if j=i then(q:Int) else if j<i then(szf n m j:Int) else 0)=tab m fun j=>if j<i+1 then(szf n m j:Int) else 0 :=
     tab_congr _ _ _ (fun j hj=>by
      by_cases e1:j=i
      ·subst e1
       rw[if_pos rfl,if_pos (by omega)]
       rw[hz];simp[h]
      ·rw[if_neg e1]
       by_cases e2:j<i
       ·rw[if_pos e2,if_pos (by omega)]
       ·rw[if_neg e2,if_neg (by omega)])
    rw[e]
    exact next
 have hr:(List.replicate ((m:Int):Int).toNat (0:Int))=tab m fun j=>if j<0 then(szf n m j:Int) else 0:=by
  simp[tab,List.map_const']
 rw[hr,tab_len]
 exact key m 0 (by omega)
theorem tab_succ (m:Nat) (f:Nat→Int):tab (m+1) f=tab m f ++ [f m]:=by simp[tab,List.range_succ]
def bnd (n:Nat):List Int:=tab n fun i=>(n:Int)-i
theorem bounds_good (n:Nat) (hn:n≤256):Ev (fun k=>braid_Bounds.f k (n:Int)) (bnd n):=by
 unfold braid_Bounds.f
 by_cases h:n<1
 ·refine ev_pos (by omega) ?_
  obtain rfl:n=0:=by omega
  exact Ev.step (f:=fun _=>some []) (fun k=>by rw[braid_Bounds.j0,if_pos rfl]) (Ev.now _)
 refine ev_neg (by omega) (Ev.step (fun k=>by rw[braid_Bounds.j0,if_neg (by simp;omega),if_pos (by omega),if_pos (by omega)]) ?_)
 have key:∀ (d i:Nat),i+d=n→Ev (fun k=>braid_Bounds.l0 k (tab i fun j=>(n:Int)-j) ((n:Int)-i)) (bnd n):=by
  intro d
  induction d with
  | zero =>
   intro i hi
   obtain rfl:i=n:=by omega
   exact Ev.step (f:=fun _=>some (bnd i)) (fun k=>by rw[braid_Bounds.l0,if_neg (by omega)];rfl) (Ev.now _)
  | succ d ih =>
   intro i hi
   have:=ih (i+1) (by omega)
   rw[tab_succ] at this
   have e:wrap64 ((n:Int)-i-1)=(n:Int)-((i+1:Nat):Int):=by rw[w64 (by omega) (by omega)];omega
   exact Ev.step (fun k=>by rw[braid_Bounds.l0,if_pos (by omega),if_pos (by rw[tab_len];omega),e]) this
 have:=key n 0 (by omega)
 simpa [tab] using this
theorem sz_get (n m j:Nat) (hj:j<m):(sz n m)[j]'(by rw[sz_len];exact hj)=(szf n m j:Int):=by simp[sz,tab]
theorem szf_le (n m j:Nat) (hn:n≤256) (h1:1≤m):szf n m j≤256:=by
 unfold szf
 have h3:=Nat.div_add_mod n m
 by_cases h:j<n % m
 ·rw[if_pos h]
  have:m*(n / m) ≥ n / m:=Nat.le_mul_of_pos_left _ h1
  omega
 ·rw[if_neg h]
  have:=Nat.div_le_self n m
  omega
theorem sz_psum (n m:Nat) (h1:1≤m):∀ j,j≤m→psum (sz n m) j=((j*(n / m)+min j (n % m):Nat):Int):=by
 intro j
 induction j with
 | zero=>intro _;simp[psum_zero]
 | succ j ih =>
  intro hj
  rw[psum_succ _ _ (by rw[sz_len];omega),ih (by omega),sz_get _ _ _ (by omega),Nat.succ_mul]
  unfold szf
  by_cases h:j<n % m
  ·rw[if_pos h];omega
  ·rw[if_neg h];omega
theorem sz_total (n m:Nat) (h1:1≤m):total (sz n m)=n:=by
 have:=sz_psum n m h1 m (Nat.le_refl _)
 rw[psum_all _ _ (by rw[sz_len];exact Nat.le_refl _)] at this
 rw[this]
 have h3:=Nat.div_add_mod n m
 have h4:=Nat.mod_lt n h1
 omega
theorem sz_ok (n m:Nat) (hn:n≤256) (h1:1≤m) (h2:m≤64):OkS (sz n m):=by
 refine⟨by rw[sz_len];exact h1,by rw[sz_len];exact h2,fun x hx=>?_,by rw[sz_total n m h1];omega⟩
 obtain⟨j,hj,rfl⟩:=List.getElem_of_mem hx
 rw[sz_len] at hj
 rw[sz_get n m j hj]
 have:=szf_le n m j hn h1
 omega
def ints (C:List Nat):List Int:=C.map fun j:Nat=>(j:Int)
theorem ints_len (C:List Nat):(ints C).length=C.length:=by simp[ints]
theorem ints_rd (C:List Nat) (i:Nat) (h:i<C.length):rd (ints C) (i:Int)=(C[i]:Int):=by simp[rd,ints,h]
def cn (C:List Nat) (j i:Nat):Nat:=(C.take i).count j
theorem cn_succ (C:List Nat) (j i:Nat) (h:i<C.length):cn C j (i+1)=cn C j i+if j=C[i] then 1 else 0:=by
 unfold cn
 rw[List.take_succ_eq_append_getElem h,List.count_append]
 congr 1
 rw[List.count_singleton]
 by_cases e:C[i]=j
 ·simp[e]
 ·simp[e,show ¬ j=C[i] from fun h=>e h.symm]
theorem cn_le (C:List Nat) (j i:Nat):cn C j i≤C.count j:=(List.take_sublist i C).count_le j
theorem cn_at (C:List Nat) (i:Nat) (h:i<C.length):cn C C[i] (i+1)=cn C C[i] i+1:=by rw[cn_succ C _ i h,if_pos rfl]
theorem cn_lt (C:List Nat) (i:Nat) (h:i<C.length):cn C C[i] i<C.count C[i]:=by
 have:=cn_at C i h
 have:=cn_le C C[i] (i+1)
 omega
def seg (a:Int) (t:Nat):List Int:=tab t fun i=>a+i
end Go.Proofs.Ytbnifpfnjhdenaa.Pl
end
section
set_option linter.unusedVariables false
set_option linter.unusedSimpArgs false
namespace Go.Proofs.Ytbnifpfnjhdenaa.Pl
open Go.RowKit Go.Proofs.Ytbnifpfnjhdenaa.Q Go.Proofs.YtbnifpfnjhdenaaW.PrintWords Go.Proofs.YtbnifpfnjhdenaaW.PrintLast
theorem ref_sizes_good (n m:Nat) (hn:n≤256) (h1:1≤m) (h2:m≤64):Ev (fun k=>churnref12_Sizes.f k (n:Int) (m:Int)) (sz n m,0):=by
 unfold churnref12_Sizes.f
 refine ev_neg (by omega) (ev_neg (by omega) (ev_neg (by omega) ?_))
 refine Ev.step (fun k=>by rw[churnref12_Sizes.j0,if_neg (by simp;omega)]) ?_
 have hd:n / m≤256:=Nat.le_trans (Nat.div_le_self _ _) hn
 obtain⟨q,hq⟩:∃ q,n / m=q:=⟨_,rfl⟩
 obtain⟨r,hr0⟩:∃ r,n % m=r:=⟨_,rfl⟩
 have t1:Int.tdiv (n:Int) (m:Int)=(q:Int):=by rw[←hq];rfl
 have t2:Int.tmod (n:Int) (m:Int)=(r:Int):=by rw[←hr0];rfl
 have hz:∀ j,(szf n m j:Int)=(q:Int)+(if j<r then 1 else 0):=fun j=>by unfold szf;rw[hq,hr0];split <;> simp
 rw[hq] at hd
 have key:∀ (d i:Nat),i+d=m→Ev (fun k=>churnref12_Sizes.l0 k (n:Int) (m:Int) (tab i fun j=>(szf n m j:Int)) (i:Int)) (sz n m,0):=by
  intro d
  induction d with
  | zero =>
   intro i hi
   obtain rfl:i=m:=by omega
   exact Ev.step (f:=fun _=>some (sz n i,0)) (fun k=>by rw[churnref12_Sizes.l0,if_neg (by omega)];rfl) (Ev.now _)
  | succ d ih =>
   intro i hi
   have hlen:=tab_len i fun j=>(szf n m j:Int)
   refine Ev.step (fun k=>?_) (ih (i+1) (by omega))
   rw[churnref12_Sizes.l0,if_pos (by omega),if_neg (by omega),t1,t2,tab_succ,hz i,w64 (x:=(q:Int)) (by omega) (by omega),w64 (x:=(i:Int)+1) (by omega) (by omega),w64 (x:=(q:Int)+1) (by omega) (by omega)]
   by_cases h:i<r
   ·rw[if_pos (by omega),if_pos (by omega),if_pos h]
    rfl
   ·rw[if_neg (by omega),if_pos (by omega),if_neg h,Int.add_zero]
    rfl
 exact key m 0 (by omega)
theorem ref_bounds_good (n:Nat) (hn:n≤256):Ev (fun k=>churnref12_Bounds.f k (n:Int)) (bnd n):=by
 unfold churnref12_Bounds.f
 refine ev_neg (by omega) ?_
 have key:∀ (d i:Nat),i+d=n→Ev (fun k=>churnref12_Bounds.l0 k (tab i fun i=>(n:Int)-i) ((d:Nat):Int)) (bnd n):=by
  intro d
  induction d with
  | zero =>
   intro i hi
   obtain rfl:i=n:=by omega
   exact Ev.step (f:=fun _=>some (bnd i)) (fun k=>by rw[churnref12_Bounds.l0,if_neg (by omega)];rfl) (Ev.now _)
  | succ d ih =>
   intro i hi
   have hlen:=tab_len i fun i=>(n:Int)-i
   refine Ev.step (fun k=>?_) (ih (i+1) (by omega))
   rw[churnref12_Bounds.l0,if_pos (by omega),if_pos (by omega),w64 (by omega) (by omega),tab_succ,show((d+1:Nat):Int)-1=(d:Int) by omega,show(n:Int)-(i:Int)=((d+1:Nat):Int) by omega]
 exact key n 0 (by omega)
theorem ref12_total_ev (s:List Int) (hl:s.length≤9223372036854775000):∃ n:Int,Ev (fun k=>churnref12_total.f k s) n∧(OkS s→n=total s)∧(¬ OkS s→n = -1):=by
 unfold churnref12_total.f
 have bad:∀ b,b=true→Ev (fun k=>churnref12_total.j0 k s b) (-1):=fun b hb=>Ev.step (f:=fun _=>some (-1)) (fun k=>by rw[churnref12_total.j0,if_pos hb]) (Ev.now _)
 by_cases h1:s.length<1
 ·exact⟨-1,ev_pos (by omega) (bad _ rfl),fun h=>by have:=h.one;omega,fun _=>rfl⟩
 by_cases h2:s.length > 64
 ·exact⟨-1,ev_neg (by omega) (bad _ (by simp;omega)),fun h=>by have:=h.most;omega,fun _=>rfl⟩
 have key:∀ (d i:Nat),i+d=s.length→(∀ x ∈ s.take i,0≤x)→psum s i≤256→∃ n:Int,Ev (fun k=>churnref12_total.l0 k s (psum s i) (i:Int)) n∧(OkS s→n=total s)∧(¬ OkS s→n = -1):=by
  intro d
  induction d with
  | zero =>
   intro i hi hb hp
   rw[List.take_of_length_le (by omega)] at hb
   refine⟨psum s i,Ev.step (f:=fun _=>some (psum s i)) (fun k=>by rw[churnref12_total.l0,if_neg (by omega)]) (Ev.now _),fun _=>psum_all s i (by omega),fun h=>absurd ⟨by omega,by omega,fun x hx=>⟨hb x hx,?_⟩,by rw[←psum_all s i (by omega)];exact hp⟩ h⟩
   obtain⟨j,hj,rfl⟩:=List.getElem_of_mem hx
   have hnn:Nonneg s:=hb
   have a1:=psum_succ s j hj
   have a2:=psum_nonneg hnn j
   have a3:=psum_total hnn (j+1)
   rw[psum_all s i (by omega)] at hp
   omega
  | succ d ih =>
   intro i hi hb hp
   have hlt:i<s.length:=by omega
   have hm:=rd_mem s (i:Int) (by simp;omega)
   have hps:psum s (i+1)=psum s i+rd s (i:Int):=by rw[psum_succ s i hlt,rd_lt s i hlt]
   have hnn:Nonneg (s.take i):=hb
   have hpp:psum s i=total (s.take i):=rfl
   have h0:0≤psum s i:=by rw[hpp];exact total_nonneg hnn
   by_cases c1:rd s (i:Int)<0
   ·exact⟨-1,Ev.step (f:=fun _=>some (-1)) (fun k=>by rw[churnref12_total.l0,if_pos (by omega),if_pos (by omega),if_pos c1]) (Ev.now _),fun h=>by have:=(h.each _ hm).1;omega,fun _=>rfl⟩
   ·by_cases c2:rd s (i:Int) > 256-psum s i
    ·refine⟨-1,Ev.step (f:=fun _=>some (-1)) (fun k=>by rw[churnref12_total.l0,if_pos (by omega),if_pos (by omega),if_neg c1,w64 (by omega) (by omega),if_pos c2]) (Ev.now _),fun h=>?_,fun _=>rfl⟩
     have a1:=psum_total h.nonneg (i+1)
     have a2:=h.all
     omega
    ·have hb':∀ x ∈ s.take (i+1),0≤x:=by
      rw[take_rd s i hlt]
      intro x hx
      rcases List.mem_append.1 hx with hx|hx
      ·exact hb x hx
      ·have:=List.mem_singleton.1 hx;subst this;omega
     obtain⟨n,e,r⟩:=ih (i+1) (by omega) hb' (by omega)
     refine⟨n,Ev.step (fun k=>?_) e,r⟩
     rw[churnref12_total.l0,if_pos (by omega),if_pos (by omega),if_neg c1,w64 (x:=256-psum s i) (by omega) (by omega),if_neg c2,w64 (by omega) (by omega),w64 (by omega) (by omega),hps]
     rfl
 obtain⟨n,e,r⟩:=key s.length 0 (by omega) (by simp) (by rw[psum_zero];omega)
 refine⟨n,ev_neg (by omega) (Ev.step (fun k=>?_) e),r⟩
 rw[churnref12_total.j0,if_neg (by simp;omega),psum_zero]
 rfl
theorem ref_pat_flat (c:List Int) (m:Nat) (P:List (Nat×Int)) (hm:m≤64) (hP:P.length≤256):Ev (fun k=>churnref12_Pattern.l2 k (visits m P) c [] 0) (c,allOff m P,0):=by
 have key:∀ (d i:Nat),i+d=m→Ev (fun k=>churnref12_Pattern.l2 k (visits m P) c (allOff i P) (i:Int)) (c,allOff m P,0):=by
  intro d
  induction d with
  | zero =>
   intro i hi
   have:i=m:=by omega
   subst this
   exact Ev.step (f:=fun _=>some (c,allOff i P,0)) (fun k=>by rw[churnref12_Pattern.l2,if_neg (by rw[visits_len];omega)]) (Ev.now _)
  | succ d ih =>
   intro i hi
   have hlen:=visits_len m P
   have h1:=vis_le i P
   have h2:=allOff_le P i
   have h3:i*P.length≤64*256:=Nat.mul_le_mul (by omega) hP
   refine Ev.step (fun k=>?_) (ih (i+1) (by omega))
   rw[churnref12_Pattern.l2,if_pos (by omega),if_pos (by omega),visits_get m P i (by omega),if_pos (by omega),w64 (by omega) (by omega),allOff_succ]
   rfl
 have:=key m 0 (by omega)
 simpa [allOff] using this
theorem ref_pat_find (x4:List Int) (left:List Int) (Pd:List (Nat×Int)) (ds:List Int) (i:Nat) (R:List Int×List Int×Int) (hn:Nonneg left) (hm:left.length≤64) (ht:total left≤256) (hx:x4.length≤1000) (hPd:Pd.length≤1000) (hi:i<ds.length) (hds:ds.length≤256)
  (j:Nat) (hj:j<left.length) (o:Int) (o0:0≤o) (o1:o<left[j])
  (next:Ev (fun k=>churnref12_Pattern.l0 k ds (ds.length:Int) (dec left j) (visits left.length (Pd ++ [(j,o)])) (x4 ++ [(j:Int)]) ((i+1:Nat):Int)) R) :
  ∀ (t a:Nat),a+t=j→Ev (fun k=>churnref12_Pattern.l1 k ds (ds.length:Int) left (visits left.length Pd) x4 (i:Int) (psum left j+o-psum left a) (a:Int)) R:=by
 intro t
 induction t with
 | zero =>
  intro a ha
  have:a=j:=by omega
  subst this
  have hv:=visits_get left.length Pd a hj
  have hvl:=vis_le a Pd
  have hr:rd left (a:Int)=left[a]:=rd_lt left a hj
  have hlt:=psum_total hn (a+1)
  have hge:=psum_nonneg hn a
  rw[psum_succ left a hj] at hlt
  have hpos:=hn.at_ a hj
  refine Ev.step (fun k=>?_) next
  have hdec:left.set ((a:Int).toNat) (wrap64 (rd left (a:Int)-1))=dec left a:=by
   rw[w64 (by rw[hr];omega) (by rw[hr];omega),hr]
   simp[dec,List.getD_eq_getElem?_getD,hj]
  rw[churnref12_Pattern.l1,if_pos (by omega),if_pos (by omega),if_neg (by rw[hr];omega),if_pos (by omega),if_pos (by rw[visits_len];omega),hv,if_pos (by omega),hdec,w64 (by omega) (by omega),
   show psum left a+o-psum left a=o from by omega,show((a:Int).toNat)=a from by omega,visits_set left.length Pd a hj o]
  rfl
 | succ t ih =>
  intro a ha
  have hal:a<left.length:=by omega
  have hr:rd left (a:Int)=left[a]:=rd_lt left a hal
  have h1:=psum_succ left a hal
  have h2:=psum_le hn (a+1) j (by omega)
  have h3:=psum_total hn (j+1)
  rw[psum_succ left j hj] at h3
  have h4:=psum_nonneg hn a
  have h5:=hn.at_ a hal
  refine Ev.step (fun k=>?_) (ih (a+1) (by omega))
  rw[churnref12_Pattern.l1,if_pos (by omega),if_pos (by omega),if_pos (by rw[hr];omega),w64 (by rw[hr];omega) (by rw[hr];omega),w64 (by omega) (by omega),hr,h1,
   show psum left j+o-psum left a-left[a]=psum left j+o-(psum left a+left[a]) from by omega]
  rfl
theorem ref_pat_loop (ds:List Int) (m:Nat) (hm:m≤64) (hds:ds.length≤256):∀ (rem i:Nat) (left:List Int) (Pd:List (Nat×Int)),i+rem=ds.length→total left=rem→Nonneg left→left.length=m→Pd.length=i →
  (∃ P,Pat left (ds.drop i) P∧Ev (fun k=>churnref12_Pattern.l0 k ds (ds.length:Int) left (visits m Pd) (fsts Pd) (i:Int)) (fsts (Pd ++ P),allOff m (Pd ++ P),0)) ∨
  ((∃ t,i≤t∧∃ h:t<ds.length,ds[t]<0∨(ds.length:Int)-t≤ds[t])∧Ev (fun k=>churnref12_Pattern.l0 k ds (ds.length:Int) left (visits m Pd) (fsts Pd) (i:Int)) ([],[],2)):=by
 intro rem
 induction rem with
 | zero =>
  intro i left Pd hi ht hn hl hPd
  left
  refine⟨[],by rw[List.drop_of_length_le (by omega)];exact .nil left,?_⟩
  rw[List.append_nil]
  refine Ev.step (fun k=>?_) (ref_pat_flat (fsts Pd) m Pd hm (by omega))
  rw[churnref12_Pattern.l0,if_neg (by omega)]
 | succ rem ih =>
  intro i left Pd hi ht hn hl hPd
  have hlt:i<ds.length:=by omega
  have hr:rd ds (i:Int)=ds[i]:=rd_lt ds i hlt
  have hw:wrap64 ((ds.length:Int)-(i:Int))=(ds.length:Int)-i:=w64 (by omega) (by omega)
  have bad:∀ b,b=true→Ev (fun k=>churnref12_Pattern.j2 k ds (ds.length:Int) left (visits m Pd) (fsts Pd) (i:Int) (rd ds (i:Int)) b) ([],[],2):=fun b hb=>Ev.step (f:=fun _=>some ([],[],2)) (fun k=>by rw[churnref12_Pattern.j2,if_pos hb]) (Ev.now _)
  by_cases c1:ds[i]<0
  ·right
   refine⟨⟨i,by omega,hlt,.inl c1⟩,Ev.step (fun k=>?_) (bad true rfl)⟩
   rw[churnref12_Pattern.l0,if_pos (by omega),if_pos (by omega),if_pos (by omega),if_pos (by rw[hr];exact c1)]
  ·by_cases c2:(ds.length:Int)-i≤ds[i]
   ·right
    refine⟨⟨i,by omega,hlt,.inr c2⟩,Ev.step (fun k=>?_) (bad true rfl)⟩
    rw[churnref12_Pattern.l0,if_pos (by omega),if_pos (by omega),if_pos (by omega),if_neg (by rw[hr];exact c1),hw,decide_eq_true (show rd ds (i:Int) ≥ (ds.length:Int)-i by rw[hr];exact c2)]
   ·obtain⟨j,hj,o,o0,o1,e⟩:=place_exists hn ds[i] (by omega) (by omega)
    have hdrop:ds.drop i=ds[i] ::ds.drop (i+1):=List.drop_eq_getElem_cons hlt
    have hstep:∀ R,Ev (fun k=>churnref12_Pattern.l0 k ds (ds.length:Int) (dec left j) (visits m (Pd ++ [(j,o)])) (fsts (Pd ++ [(j,o)])) ((i+1:Nat):Int)) R →
      Ev (fun k=>churnref12_Pattern.l0 k ds (ds.length:Int) left (visits m Pd) (fsts Pd) (i:Int)) R:=by
     intro R hR
     subst hl
     have hR':Ev (fun k=>churnref12_Pattern.l0 k ds (ds.length:Int) (dec left j) (visits left.length (Pd ++ [(j,o)])) (fsts Pd ++ [(j:Int)]) ((i+1:Nat):Int)) R:=by
      rw[fsts_append] at hR
      exact hR
     have h0:=ref_pat_find (fsts Pd) left Pd ds i R hn (by omega) (by omega) (by simp[fsts];omega) (by omega) hlt hds j hj o o0 o1 hR' j 0 (by omega)
     refine Ev.step (f:=fun k=>churnref12_Pattern.j2 k ds (ds.length:Int) left (visits left.length Pd) (fsts Pd) (i:Int) (rd ds (i:Int)) false) (fun k=>?_) (Ev.step (fun k=>?_) h0)
     ·rw[churnref12_Pattern.l0,if_pos (by omega),if_pos (by omega),if_pos (by omega),if_neg (by rw[hr];exact c1),hw,decide_eq_false (show ¬ rd ds (i:Int) ≥ (ds.length:Int)-i by rw[hr];exact c2)]
     ·rw[churnref12_Pattern.j2,if_neg (by simp),hr,e,psum_zero,Int.sub_zero]
      rfl
    rcases ih (i+1) (dec left j) (Pd ++ [(j,o)]) (by omega) (by rw[dec_total left j hj];omega) (dec_nonneg hn j hj (by omega)) (by rw[dec_length];exact hl) (by simp;omega) with⟨P,hP,hE⟩|⟨⟨t,h1,h2,h3⟩,hE⟩
    ·left
     refine⟨(j,o) ::P,by rw[hdrop];exact .cons hj o0 o1 e hP,?_⟩
     have:=hstep _ hE
     rwa [List.append_assoc,List.singleton_append] at this
    ·right
     exact⟨⟨t,by omega,h2,h3⟩,hstep _ hE⟩
theorem ref_good_or (s ds:List Int) (hs:s.length≤17592186044000) (hd:ds.length≤17592186044000) :
  (∃ P,Good s ds P∧Ev (fun k=>churnref12_Pattern.f k s ds) (fsts P,allOff s.length P,0))∨((¬ ∃ P,Good s ds P)∧Ev (fun k=>churnref12_Pattern.f k s ds) ([],[],2)):=by
 obtain⟨n,e,h1,h2⟩:=ref12_total_ev s (by omega)
 have hend:∀ (x:Bool),x=true→Ev (fun k=>churnref12_Pattern.j0 k s ds n x) ([],[],2):=fun x hx=>Ev.step (f:=fun _=>some ([],[],2)) (fun k=>by rw[churnref12_Pattern.j0,if_pos hx]) (Ev.now _)
 by_cases hO:OkS s
 ·have hn:=h1 hO
  have hnn:=total_nonneg hO.nonneg
  have hal:=hO.all
  have hm:=hO.most
  by_cases hl:(ds.length:Int)=total s
  ·have hin:∀ R,Ev (fun k=>churnref12_Pattern.l0 k ds (ds.length:Int) s (visits s.length []) (fsts []) ((0:Nat):Int)) R→Ev (fun k=>churnref12_Pattern.f k s ds) R:=by
    intro R hR
    unfold churnref12_Pattern.f
    refine ev_bind e (ev_neg (by omega) (Ev.step (fun k=>?_) hR))
    rw[churnref12_Pattern.j0,if_neg (by simp;omega)]
    simp only[List.nil_append,List.length_nil]
    rw[if_pos (by omega),if_pos (by omega),if_pos (by omega),visits_nil,show((s.length:Int).toNat)=s.length from by omega,show n=(ds.length:Int) from by omega]
    rfl
   rcases ref_pat_loop ds s.length hm (by omega) ds.length 0 s [] (by omega) (by omega) hO.nonneg rfl rfl with⟨P,hP,hE⟩|⟨⟨t,t1,t2,t3⟩,hE⟩
   ·left
    rw[List.nil_append] at hE
    exact⟨P,⟨hO,hl,by simpa using hP⟩,hin _ hE⟩
   ·right
    refine⟨?_,hin _ hE⟩
    rintro⟨P,g⟩
    have:=g.pat.bound g.sizes.nonneg t t2
    rw[←g.len] at this
    omega
  ·refine .inr ⟨fun⟨P,g⟩=>hl g.len,?_⟩
   unfold churnref12_Pattern.f
   exact ev_bind e (ev_neg (by omega) (hend _ (by rw[bne_iff_ne];omega)))
 ·refine .inr ⟨fun⟨P,g⟩=>hO g.sizes,?_⟩
  have hn:=h2 hO
  unfold churnref12_Pattern.f
  exact ev_bind e (ev_pos (by omega) (hend _ rfl))
theorem Good.ref {s ds:List Int} {P:List (Nat×Int)} (g:Good s ds P):Ev (fun k=>churnref12_Pattern.f k s ds) (fsts P,allOff s.length P,0):=by
 have hl:=g.le
 have hm:=g.sizes.most
 rcases ref_good_or s ds (by omega) (by omega) with⟨Q,h1,h2⟩|⟨h1,_⟩
 ·rw[g.pat.unique g.sizes.nonneg h1.pat]
  exact h2
 ·exact absurd ⟨P,g⟩ h1
theorem Good.exists {s ds:List Int} (h:OkD s ds):∃ P,Good s ds P:=by
 obtain⟨P,hP⟩:=pat_exists ds s h.1.nonneg (fun i hi=>by
  have:=h.2.2 i hi
  have e:=h.2.1
  omega)
 exact⟨P,h.1,h.2.1,hP⟩
end Go.Proofs.Ytbnifpfnjhdenaa.Pl
end
section
set_option linter.unusedVariables false
set_option linter.unusedSimpArgs false
namespace Go.Proofs.Ytbnifpfnjhdenaa.Pl
open Go.RowKit Go.Proofs.Ytbnifpfnjhdenaa.Q Go.Proofs.YtbnifpfnjhdenaaW.PrintWords Go.Proofs.YtbnifpfnjhdenaaW.PrintLast
def piece (l:List Int) (q j:Nat):List Int:=(l.take ((j+1)*q)).drop (j*q)
def pieces (l:List Int) (q c:Nat):List (List Int):=(List.range c).map (piece l q)
def noiseOf (p:List Int):List Int:=p.take 18
def restOf (p:List Int):List Int:=(p.drop 18).drop ((p.length-18) / 2)
def braidOf (p:List Int):List Int:=(p.drop 18).take ((p.length-18) / 2)
def qOf (p:List Int) (c:Nat):Nat:=(restOf p).length / c
theorem restOf_len (p:List Int):(restOf p).length=(p.length-18)-(p.length-18) / 2:=by simp[restOf];omega
theorem qmul_le (p:List Int) (c j:Nat) (hj:j≤c):j*qOf p c≤(restOf p).length :=
 Nat.le_trans (Nat.mul_le_mul_right _ hj) (by rw[Nat.mul_comm];exact Nat.div_mul_le_self _ _)
theorem piece_len (p:List Int) (c j:Nat) (hj:j<c):(piece (restOf p) (qOf p c) j).length=qOf p c:=by
 have:=qmul_le p c (j+1) hj
 unfold piece
 rw[List.length_drop,List.length_take,Nat.min_eq_left this,Nat.succ_mul]
 omega
theorem pieces_succ (l:List Int) (q c:Nat):pieces l q (c+1)=pieces l q c ++ [piece l q c]:=by
 unfold pieces
 rw[List.range_succ,List.map_append]
 rfl
def splitS (p:List Int) (c:Int):List Int×List Int×(List (List Int))×Int :=
 if c<1∨c > 64 then([],[],[],2) else if p.length<18 then([],[],[],3) else(noiseOf p,braidOf p,pieces (restOf p) (qOf p c.toNat) c.toNat,0)
theorem clone_val (l:List Int) (h:l.length<140737488355328):slices_Clone_byte_byte.f l=some l:=by
 unfold slices_Clone_byte_byte.f
 rw[if_pos h]
theorem split_ev (p:List Int) (c:Int) (hp:p.length≤140737488351232):Ev (fun k=>tape_Split.f k p c) (splitS p c):=by
 unfold tape_Split.f splitS
 by_cases h1:c<1
 ·rw[if_pos (by omega)]
  exact ev_pos h1 (Ev.step (f:=fun _=>some ([],[],[],2)) (fun k=>by rw[tape_Split.j0,if_pos rfl]) (Ev.now _))
 ·refine ev_neg h1 ?_
  by_cases h2:c > 64
  ·rw[if_pos (by omega)]
   exact Ev.step (f:=fun _=>some ([],[],[],2)) (fun k=>by rw[tape_Split.j0,if_pos (by simpa using h2)]) (Ev.now _)
  ·rw[if_neg (by omega)]
   by_cases h3:p.length<18
   ·rw[if_pos h3]
    exact Ev.step (f:=fun _=>some ([],[],[],3)) (fun k=>by rw[tape_Split.j0,if_neg (by simp;omega),if_pos (by omega)]) (Ev.now _)
   ·rw[if_neg h3]
    obtain⟨n,rfl⟩:=Int.eq_ofNat_of_zero_le (show 0≤c by omega)
    simp only[Int.toNat_natCast]
    have hrl:=restOf_len p
    have key:∀ (d j:Nat),j+d=n→Ev (fun k=>tape_Split.l0 k (restOf p) (qOf p n:Int) (n:Int) (j:Int) (noiseOf p) (braidOf p) (pieces (restOf p) (qOf p n) j)) (noiseOf p,braidOf p,pieces (restOf p) (qOf p n) n,0):=by
     intro d
     induction d with
     | zero =>
      intro j hj
      have:j=n:=by omega
      subst this
      exact Ev.step (f:=fun _=>some (noiseOf p,braidOf p,pieces (restOf p) (qOf p j) j,0)) (fun k=>by rw[tape_Split.l0,if_neg (by omega)]) (Ev.now _)
     | succ d ih =>
      intro j hj
      have a1:=qmul_le p n (j+1) (by omega)
      have a2:j*qOf p n≤(j+1)*qOf p n:=Nat.mul_le_mul_right _ (by omega)
      have hpl:=piece_len p n j (by omega)
      have hql:qOf p n≤(restOf p).length:=Nat.div_le_self _ _
      have hcl:=clone_val (piece (restOf p) (qOf p n) j) (by omega)
      have b1:(j:Int)<(n:Int):=by omega
      have b2:(0:Int)≤((j*qOf p n:Nat):Int):=by omega
      have b3:((j*qOf p n:Nat):Int)≤(((j+1)*qOf p n:Nat):Int):=by omega
      have b4:(((j+1)*qOf p n:Nat):Int)≤((restOf p).length:Int):=by omega
      have b5:j*qOf p n≤9223372036854775807:=by omega
      have b6:(j+1)*qOf p n≤9223372036854775807:=by omega
      have b8:(pieces (restOf p) (qOf p n) j).length<5864062014805:=by simp[pieces];omega
      have b10:j+1≤9223372036854775807:=by omega
      have b9:j+1+d=n:=by omega
      have b7:wrap64 ((j:Int)+1)=((j+1:Nat):Int):=w64n (x:=j+1) b10
      have e1:wrap64 ((j:Int)*(qOf p n:Int))=((j*qOf p n:Nat):Int):=by rw[←Int.natCast_mul];exact w64n b5
      have e2:wrap64 (wrap64 ((j:Int)+1)*(qOf p n:Int))=(((j+1)*qOf p n:Nat):Int):=by
       rw[b7,←Int.natCast_mul]
       exact w64n b6
      refine Ev.step (fun k=>?_) (ih (j+1) b9)
      rw[tape_Split.l0,if_pos b1,e1,e2,if_pos b2,if_pos b3,if_pos b4,Int.toNat_natCast,Int.toNat_natCast,show((restOf p).take ((j+1)*qOf p n)).drop (j*qOf p n)=piece (restOf p) (qOf p n) j from rfl,hcl,Option.bind_some,
       if_pos b8,b7,pieces_succ]
    have h0:=key n 0 (by omega)
    have hd:(p.drop 18).length=p.length-18:=by simp
    have g1:¬ ((p.length:Int)<18):=by omega
    have g2:(18:Int)≤(p.length:Int):=by omega
    have g3:(0:Int)≤(((p.length-18) / 2:Nat):Int):=by omega
    have g4:(((p.length-18) / 2:Nat):Int)≤((p.drop 18).length:Int):=by rw[hd];omega
    have g5:(p.take 18).length<140737488355328:=by simp;omega
    have g6:((p.drop 18).take ((p.length-18) / 2)).length<140737488355328:=by simp;omega
    have g7:¬ ((n:Int)=0):=by omega
    have g8:¬ (decide ((n:Int) > 64)=true):=by simpa using h2
    have g9:(restOf p).length≤9223372036854775807:=by omega
    have hw:wrap64 (((p.drop 18).length:Int) / 2)=(((p.length-18) / 2:Nat):Int):=by rw[hd,w64 (by omega) (by omega)];omega
    refine Ev.step (fun k=>?_) h0
    have hq:wrap64 (((restOf p).length:Int) / (n:Int))=(qOf p n:Int):=by
     rw[←Int.natCast_ediv]
     exact w64n (Nat.le_trans (Nat.div_le_self _ _) g9)
    rw[tape_Split.j0,if_neg g8,if_neg g1,if_pos g2,Option.bind_some,hw,clone_val _ g5,Option.bind_some,if_pos g3,if_pos g4,Int.toNat_natCast,clone_val _ g6,Option.bind_some,Option.bind_some,if_neg g7]
    show tape_Split.l0 k (restOf p) (wrap64 (((restOf p).length:Int) / (n:Int))) _ _ _ _ _=_
    rw[hq]
    rfl
end Go.Proofs.Ytbnifpfnjhdenaa.Pl
end
