/- Functions of the program as plain Lean functions, each with a proof that its call comes to just these answers, and the row that joins them to the given statement; no condition beside the statement's own. Written for this claim by this session's programs (pf.py, pack.py) over the kit's print. -/
import Derived.Test.YtbnifpfnjhdenaaZRiffleTurns0
import Derived.Test.YtbnifpfnjhdenaaZRiffleTurns1
import Derived.Test.YtbnifpfnjhdenaaZRiffleTurns2
import Derived.Test.YtbnifpfnjhdenaaZRiffleTurns3
import Derived.Test.YtbnifpfnjhdenaaZRiffleTurns4
section
namespace Go.Proofs.Ytbnifpfnjhdenaa.Q
open Go.RowKit Go.Proofs.YtbnifpfnjhdenaaW.PrintWords Go.Proofs.YtbnifpfnjhdenaaW.PrintLast Go.Proofs.YtbnifpfnjhdenaaW.PrintMore
open Go.Proofs.YtbnifpfnjhdenaaW.PrintLast renaming i64_w → jF, i32_w → jG, with_tabW → Jf
open Go.Proofs.YtbnifpfnjhdenaaW.PrintMore renaming max_three → jM, min_three → jN, max2_int → jP, min2_int → jQ, max_four → jR, min_four → jS, max_two → jY, min_two → jZ
open Go.Proofs.YtbnifpfnjhdenaaW.PrintWords renaming below_size → jc, below_step → jk, blk_drew → jl, blk_alloc → jm, blk_drewN → jn, blk_below → jo, blk_put → ju, gate_guard → jI, below_drew1 → jJ, below_set → jO, blk_far → jU, blk_lt → jV, add_plain → jW, pw_below_drewN → Je, blk_grown → Jg
open Go.Proofs.YtbnifpfnjhdenaaW.PrintWords.Kd renaming R_mono → ja, int → jb, R_far → jd, R_below → je, R_base → jf, R_elder' → jg, R_lt → jh, R_reads' → ji, R_new' → jj, R_slice → jp, R_lower → jq, R_types → jr, R_drew → js, R → jt, R_after → jv, C_below → jw, R_over' → jx, at_int → jy, R_typed → jz, fresh' → jA, slice → jB, S_mono → jC, S_below → jD, S_far → jE, R_celln → jH, S_reads' → jK, S_elder' → jL, S_slice → jT, C → jX, S_drew → Ja, S_types → Jb, S_typed → Jc, R_append → Jd
attribute [local go_sem] jP jQ jY jZ jM jN jR jS
set_option linter.unusedVariables false
set_option linter.unusedSimpArgs false
mutual
def riffle_Turn.j0:Nat→List Int→Int→Int→List Int→Bool→Option (List Int×Int)
 | 0,_,_,_,_,_=>none
 | k+1,x0,x1,x2,x3,x45=>if x45=true then(some (([]:List Int),2)) else((perm_Check.f k x3).bind fun t383=>(if t383=0 then((riffle_read.f k x0 x1 x2).bind fun bt384=>(if bt384.2.2.2.2.2.2.2.2=0 then(if 0≤x1 then(if(x1:Int).toNat≤35184372088832 then(if 0≤(bt384.2.2.2.1.length:Int) then(if((bt384.2.2.2.1.length:Int):Int).toNat≤11728124029610 then(riffle_Turn.l0 k x0 x1 bt384.2.2.2.2.2.2.1 (List.replicate (x1:Int).toNat 0) (List.replicate ((bt384.2.2.2.1.length:Int):Int).toNat []) x3 (x3.length:Int) 0 bt384.1 bt384.2.1 bt384.2.2.1 bt384.2.2.2.1 bt384.2.2.2.2.1) else(none)) else(none)) else(none)) else(none)) else(some (([]:List Int),bt384.2.2.2.2.2.2.2.2)))) else(some (([]:List Int),t383))))
def riffle_Turn.l0:Nat→List Int→Int→List Int→List Int→List (List Int)→List Int→Int→Int→List Int→List Int→List (List Int)→List Int→List Int→Option (List Int×Int)
 | 0,_,_,_,_,_,_,_,_,_,_,_,_,_=>none
 | k+1,x0,x1,x15,x18,x19,x70,x71,x72,x410000,x410001,x410002,x410003,x410004=>if x72<x71 then(if 0≤x72 then(if x72<(x70.length:Int) then((riffle_cut_of.f k x410000 x410001 x410002 x410003 x410004 (rd x70 x72)).bind fun t417=>(if x72<(x18.length:Int) then(if 0≤t417 then(if t417<(x19.length:Int) then(if t417<(x410004.length:Int) then(if(rd_L3 x19 t417).length<17592186044416 then(riffle_Turn.l0 k x0 x1 x15 (x18.set (x72:Int).toNat t417) (x19.set (t417:Int).toNat ((rd_L3 x19 t417) ++ [wrap64 ((rd x70 x72)-(rd x410004 t417))])) x70 x71 (wrap64 (x72+1)) x410000 x410001 x410002 x410003 x410004) else(none)) else(none)) else(none)) else(none)) else(none))) else(none)) else(none)) else((braid_Draws.f k x410003 x18 x15).bind fun bt425=>(if bt425.2=0 then((braid_Bounds.f k x1).bind fun t429=>((draw_Turn.f x410001 t429 bt425.1).bind fun bt432=>(if bt432.2=0 then((some (([]:List Int):List Int)).bind fun y436=>(if y436.length+x0.length<140737488355328 then((some (y436 ++ x0:List Int)).bind fun y439=>(if 0≤(x410000.length:Int) then(if(x410000.length:Int)≤(y439.length:Int) then(riffle_Turn.l1 k x19 (cpy y439 (((x410000.length:Int):Int).toNat) bt432.1) (wrap64 ((x410000.length:Int)+(cpn y439 (((x410000.length:Int):Int).toNat) bt432.1))) x410003 (x410003.length:Int) 0 x410000 x410001 x410002 x410003 x410004) else(none)) else(none))) else(none))) else(some (([]:List Int),bt432.2))))) else(some (([]:List Int),bt425.2))))
def riffle_Turn.l1:Nat→List (List Int)→List Int→Int→List Int→Int→Int→List Int→List Int→List (List Int)→List Int→List Int→Option (List Int×Int)
 | 0,_,_,_,_,_,_,_,_,_,_,_=>none
 | k+1,x19,x25,x26,x140,x141,x142,x410000,x410001,x410002,x410003,x410004=>if x142<x141 then(if 0≤x142 then(if x142<(x140.length:Int) then(if x142<(x19.length:Int) then((perm_Draws.f k (rd_L3 x19 x142)).bind fun bt451=>(if bt451.2=0 then(if x142<(x410002.length:Int) then((perm_Bounds.f k (rd x140 x142)).bind fun t456=>((draw_Turn.f (rd_L2 x410002 x142) t456 bt451.1).bind fun bt459=>(if bt459.2=0 then(if 0≤x26 then(if x26≤(x25.length:Int) then(riffle_Turn.l1 k x19 (cpy x25 ((x26:Int).toNat) bt459.1) (wrap64 (x26+(cpn x25 ((x26:Int).toNat) bt459.1))) x140 x141 (wrap64 (x142+1)) x410000 x410001 x410002 x410003 x410004) else(none)) else(none)) else(some (([]:List Int),bt459.2))))) else(none)) else(some (([]:List Int),bt451.2)))) else(none)) else(none)) else(none)) else(some (x25,0))
end
def riffle_Turn.f (k:Nat) (l0:List Int) (a1:Int) (a2:Int) (l3:List Int):Option (List Int×Int):=(braid_Sizes.f k a1 a2).bind fun bt379=>(if bt379.2=0 then(riffle_Turn.j0 k l0 a1 a2 l3 ((l3.length:Int) != a1)) else(riffle_Turn.j0 k l0 a1 a2 l3 true))
theorem riffle_Turn.mono_l:∀ k,(∀ y0 y1 y2 y3 y4,LeO (riffle_Turn.j0 k y0 y1 y2 y3 y4) (riffle_Turn.j0 (k+1) y0 y1 y2 y3 y4))∧(∀ y0 y1 y2 y3 y4 y5 y6 y7 y8 y9 y10 y11 y12,LeO (riffle_Turn.l0 k y0 y1 y2 y3 y4 y5 y6 y7 y8 y9 y10 y11 y12) (riffle_Turn.l0 (k+1) y0 y1 y2 y3 y4 y5 y6 y7 y8 y9 y10 y11 y12))∧(∀ y0 y1 y2 y3 y4 y5 y6 y7 y8 y9 y10,LeO (riffle_Turn.l1 k y0 y1 y2 y3 y4 y5 y6 y7 y8 y9 y10) (riffle_Turn.l1 (k+1) y0 y1 y2 y3 y4 y5 y6 y7 y8 y9 y10))
 | 0=>⟨fun _ _ _ _ _ r h=>by simp[riffle_Turn.j0] at h,fun _ _ _ _ _ _ _ _ _ _ _ _ _ r h=>by simp[riffle_Turn.l0] at h,fun _ _ _ _ _ _ _ _ _ _ _ r h=>by simp[riffle_Turn.l1] at h⟩
 | k+1=>by
  obtain⟨ih0,ih1,ih2⟩:=riffle_Turn.mono_l k
  refine⟨?_,?_,?_⟩
  ·intro y0 y1 y2 y3 y4
   unfold riffle_Turn.j0
   with_reducible repeat' first|exact ih0 _ _ _ _ _|exact ih1 _ _ _ _ _ _ _ _ _ _ _ _ _|exact ih2 _ _ _ _ _ _ _ _ _ _ _|exact braid_Bounds.mono _ _|exact braid_Draws.mono _ _ _ _|exact braid_Sizes.mono _ _ _|exact perm_Bounds.mono _ _|exact perm_Check.mono _ _|exact perm_Draws.mono _ _|exact riffle_cut_of.mono _ _ _ _ _ _ _|exact riffle_read.mono _ _ _ _|exact LeO.refl _|exact LeO.none _|refine LeO.ite ?_ ?_|refine LeO.bind ?_ (fun _=>?_)
  ·intro y0 y1 y2 y3 y4 y5 y6 y7 y8 y9 y10 y11 y12
   unfold riffle_Turn.l0
   with_reducible repeat' first|exact ih0 _ _ _ _ _|exact ih1 _ _ _ _ _ _ _ _ _ _ _ _ _|exact ih2 _ _ _ _ _ _ _ _ _ _ _|exact braid_Bounds.mono _ _|exact braid_Draws.mono _ _ _ _|exact braid_Sizes.mono _ _ _|exact perm_Bounds.mono _ _|exact perm_Check.mono _ _|exact perm_Draws.mono _ _|exact riffle_cut_of.mono _ _ _ _ _ _ _|exact riffle_read.mono _ _ _ _|exact LeO.refl _|exact LeO.none _|refine LeO.ite ?_ ?_|refine LeO.bind ?_ (fun _=>?_)
  intro y0 y1 y2 y3 y4 y5 y6 y7 y8 y9 y10
  unfold riffle_Turn.l1
  with_reducible repeat' first|exact ih0 _ _ _ _ _|exact ih1 _ _ _ _ _ _ _ _ _ _ _ _ _|exact ih2 _ _ _ _ _ _ _ _ _ _ _|exact braid_Bounds.mono _ _|exact braid_Draws.mono _ _ _ _|exact braid_Sizes.mono _ _ _|exact perm_Bounds.mono _ _|exact perm_Check.mono _ _|exact perm_Draws.mono _ _|exact riffle_cut_of.mono _ _ _ _ _ _ _|exact riffle_read.mono _ _ _ _|exact LeO.refl _|exact LeO.none _|refine LeO.ite ?_ ?_|refine LeO.bind ?_ (fun _=>?_)
theorem riffle_Turn.mono:∀ a0 a1 a2 a3 k,LeO (riffle_Turn.f k a0 a1 a2 a3) (riffle_Turn.f (k+1) a0 a1 a2 a3):=by
 intro a0 a1 a2 a3 k
 obtain⟨ih0,ih1,ih2⟩:=riffle_Turn.mono_l k
 unfold riffle_Turn.f
 with_reducible repeat' first|exact ih0 _ _ _ _ _|exact ih1 _ _ _ _ _ _ _ _ _ _ _ _ _|exact ih2 _ _ _ _ _ _ _ _ _ _ _|exact braid_Bounds.mono _ _|exact braid_Draws.mono _ _ _ _|exact braid_Sizes.mono _ _ _|exact perm_Bounds.mono _ _|exact perm_Check.mono _ _|exact perm_Draws.mono _ _|exact riffle_cut_of.mono _ _ _ _ _ _ _|exact riffle_read.mono _ _ _ _|exact LeO.refl _|exact LeO.none _|refine LeO.ite ?_ ?_|refine LeO.bind ?_ (fun _=>?_)
def riffle_Turn.T17:Bool×List (List Nat×List Nat):=(true,[([],[]),([],[]),([],[]),([],[]),([2,3],[2,3]),([4],[4]),([],[]),([],[]),([7],[7]),([],[]),([8,9],[8,9]),([10],[10]),([6,11],[6,11]),([12],[12]),([5,13],[5,13]),([0,1,0,1,2,3,4,5,6,7,8,9,10,11,12,13,14],[0,1]),([15,14,14,0,1,2,3,4,5,6,7,8,9,10,11,12,13,14],[14,15])])
def riffle_Turn.B17:List Nat:=[0,0,0,0,12,28,0,0,128,0,896,1920,4032,8128,16380,32767,65535]
theorem riffle_Turn.tab17:rtab .any (opsOf Try.f17 17)=riffle_Turn.T17:=by kernel_rfl
theorem riffle_Turn.bits17:waitsOk riffle_Turn.T17.2 riffle_Turn.B17=true:=by kernel_rfl
def riffle_Turn.T22:Bool×List (List Nat×List Nat):=(true,[([],[]),([0],[0]),([1],[1]),([],[]),([3],[3]),([],[]),([2,4,5,4],[2,4,5]),([6],[6]),([7],[7]),([7],[7]),([8,6,0,1,2,3,4,5,6,7,8],[8]),([9,10,0,1,2,3,4,5,6,7,8,9,10],[9])])
def riffle_Turn.B22:List Nat:=[0,1,3,0,8,0,63,127,255,255,511,2047]
theorem riffle_Turn.tab22:rtab .any (opsOf Try.f17 22)=riffle_Turn.T22:=by kernel_rfl
theorem riffle_Turn.bits22:waitsOk riffle_Turn.T22.2 riffle_Turn.B22=true:=by kernel_rfl
def riffle_Turn.T34:Bool×List (List Nat×List Nat):=(true,[([],[]),([0],[0]),([1],[1]),([],[]),([2,3],[2,3]),([4],[4]),([],[]),([6],[6]),([],[]),([5,7,8,7],[5,7,8]),([9],[9]),([10],[10]),([10],[10]),([11,9,0,1,2,3,4,5,6,7,8,9,10,11],[11]),([12,13,0,1,2,3,4,5,6,7,8,9,10,11,12,13],[12])])
def riffle_Turn.B34:List Nat:=[0,1,3,0,15,31,0,64,0,511,1023,2047,2047,4095,16383]
theorem riffle_Turn.tab34:rtab .any (opsOf Try.f17 34)=riffle_Turn.T34:=by kernel_rfl
theorem riffle_Turn.bits34:waitsOk riffle_Turn.T34.2 riffle_Turn.B34=true:=by kernel_rfl
set_option maxHeartbeats 8000000 in
set_option maxRecDepth 100000 in
theorem riffle_Turn.calls (k:Nat) (A0:Option Addr) (c0:Nat) (l0:List Int) (a1:Int) (a2:Int) (A3:Option Addr) (c3:Nat) (l3:List Int) (r1:List Int) (r2:Int) (w:World) (hr0:jX (jb .u8) w A0 l0.length l0) (hc0:l0.length≤c0) (hr3:jX (jb .i64) w A3 l3.length l3) (hc3:l3.length≤c3) (h:riffle_Turn.f k l0 a1 a2 l3=some (r1,r2)) :
  Calls Try.prog 17 #[.slice A0 l0.length c0,.int .i64 a1,.int .i64 a2,.slice A3 l3.length c3] w fun e w'=>∃ v0_:Value,e = .returned (.tuple #[v0_,.int .i64 r2])∧jt (jb .u8) 5 w' w.heap.size (fun _=>True) v0_ r1∧Below w.heap.size w w':=by
 have hu57:=Try.underlying57
 have HR0:=am_ hr0
 have HC0:=am_ hc0
 clear hr0 hc0
 have HR3:=am_ hr3
 have HC3:=am_ hc3
 clear hr3 hc3
 have HB:=am_ (Below.refl w.heap.size w)
 have H:((braid_Sizes.f k a1 a2).bind fun bt379=>(if bt379.2=0 then(riffle_Turn.j0 k l0 a1 a2 l3 ((l3.length:Int) != a1)) else(riffle_Turn.j0 k l0 a1 a2 l3 true)))=some (r1,r2):=h
 clear h
 replace H:=Option.bind_eq_some_iff.mp H
 obtain⟨⟨t379,t380⟩,A50,H⟩:=H
 try dsimp only at H
 have A5:=am_ A50
 clear A50
 have HC6:=am_ H
 clear H
 go_enter Try.func17,Try.ntmps17
 go_upto_region 2 with(first|(refine gc_ 32 ?_;refine gl_ (some 35) Try.func32 #[.int .i64 a1,.int .i64 a2] ?_;(with_reducible refine(braid_Sizes.calls k a1 a2 t379 t380 _ A5.out).mono ?_);rintro e w7 ⟨v381,rfl,ho0,hb⟩;refine⟨_,rfl,?_⟩;have n_:=P2_ (jq ho0 (jc T19_)) (jk T19_ hb);clear HB;obtain⟨HO382,HB⟩:=n_;clear hb ho0))
 (try simp only[Act.put,List.setIfInBounds_toArray,List.set_cons_zero,List.set_cons_succ])
 go_cut [45] (fun v45 wc=>∃ (kq:Nat) (x45_5:Bool),v45 = .bool x45_5∧Aside0 (riffle_Turn.j0 kq l0 a1 a2 l3 x45_5=some (r1,r2))∧Aside0 (kq≤k)∧Aside0 (Below w.heap.size w wc))
 case first =>
  have H:=HC6.out
  clear HC6
  by_cases c8:t380=0
  rotate_left
  ·rw[if_neg c8] at H
   obtain⟨c8b0,c8b1⟩:=en_ c8
   (first|rw[c8b0]|(simp only[jF,jG];rw[c8b0])|skip)
   have H':=am_ H
   clear H
   go_wp2
   go_meet
   case rel=>exact⟨_,(true),T10_,H',⟨T8_⟩,⟨T19_⟩⟩
  rw[if_pos c8] at H
  obtain⟨c8b0,c8b1⟩:=ep_ c8
  clear c8
  (first|rw[c8b0]|(simp only[jF,jG];rw[c8b0])|skip)
  have H':=am_ H
  clear H
  go_wp2
  go_meet
  case rel=>exact⟨_,(((l3.length:Int) != a1)),T10_,H',⟨T8_⟩,⟨T19_⟩⟩
 clear HC6
 obtain⟨kq,x45_5,rfl,HA,HJ5,HB⟩:=hcut
 cases kq with
 | zero=>exact absurd HA.out (by simp[riffle_Turn.j0])
 | succ kj5 =>
  have H:=HA.out
  clear HA
  simp only[riffle_Turn.j0] at H
  by_cases c9:x45_5=true
  ·subst c9
   have H1:(some (([]:List Int),2))=some (r1,r2):=by rw[if_pos rfl] at H;exact H
   clear H
   have H:=H1
   clear H1
   obtain⟨rfl,rfl⟩:=sj2_ H
   go_wp2
   go_ret2
   exact⟨_,T17_,T21_,T19_⟩
  replace c9:=Bool.eq_false_iff.mpr c9
  subst c9
  have H1:((perm_Check.f kj5 l3).bind fun t383=>(if t383=0 then((riffle_read.f kj5 l0 a1 a2).bind fun bt384=>(if bt384.2.2.2.2.2.2.2.2=0 then(if 0≤a1 then(if(a1:Int).toNat≤35184372088832 then(if 0≤(bt384.2.2.2.1.length:Int) then(if((bt384.2.2.2.1.length:Int):Int).toNat≤11728124029610 then(riffle_Turn.l0 kj5 l0 a1 bt384.2.2.2.2.2.2.1 (List.replicate (a1:Int).toNat 0) (List.replicate ((bt384.2.2.2.1.length:Int):Int).toNat []) l3 (l3.length:Int) 0 bt384.1 bt384.2.1 bt384.2.2.1 bt384.2.2.2.1 bt384.2.2.2.2.1) else(none)) else(none)) else(none)) else(none)) else(some (([]:List Int),bt384.2.2.2.2.2.2.2.2)))) else(some (([]:List Int),t383))))=some (r1,r2):=by rw[if_neg (show ¬ (false=true) by decide)] at H;exact H
  clear H
  have H:=H1
  clear H1
  replace H:=Option.bind_eq_some_iff.mp H
  obtain⟨t383,A100,H⟩:=H
  try dsimp only at H
  have A10:=am_ A100
  clear A100
  by_cases c11:t383=0
  rotate_left
  ·rw[if_neg c11] at H
   obtain⟨c11b0,c11b1⟩:=en_ c11
   obtain⟨rfl,rfl⟩:=sj2_ H
   go_wp2_with(first|(refine gc_ 18 ?_;refine gl_ (some 47) Try.func18 #[.slice A3 l3.length c3] ?_;(with_reducible refine(perm_Check.calls kj5 _ _ l3 t383 _ ?side1 ?side2 A10.out).mono ?_);(case side1=>exact cu_ (jw HR3.out HB.out));(case side2=>exact HC3.out);rintro e w133 ⟨rfl,hb⟩;refine⟨_,rfl,?_⟩;have n0_:=am_ (jk T19_ hb);clear HB;have HB:=n0_;clear n0_;clear hb))
   go_ret2
   exact⟨_,T17_,T21_,T19_⟩
  rw[if_pos c11] at H
  obtain⟨c11b0,c11b1⟩:=ep_ c11
  clear c11
  replace H:=Option.bind_eq_some_iff.mp H
  obtain⟨⟨t384,t387,t390,t393,t396,t399,t402,t405,t408⟩,A120,H⟩:=H
  try dsimp only at H
  have A12:=am_ A120
  clear A120
  by_cases c13:t408=0
  rotate_left
  ·rw[if_neg c13] at H
   obtain⟨c13b0,c13b1⟩:=en_ c13
   obtain⟨rfl,rfl⟩:=sj2_ H
   go_wp2_with(first|(refine gc_ 18 ?_;refine gl_ (some 47) Try.func18 #[.slice A3 l3.length c3] ?_;(with_reducible refine(perm_Check.calls kj5 _ _ l3 t383 _ ?side1 ?side2 A10.out).mono ?_);(case side1=>exact cu_ (jw HR3.out HB.out));(case side2=>exact HC3.out);rintro e w124 ⟨rfl,hb⟩;refine⟨_,rfl,?_⟩;have n0_:=am_ (jk T19_ hb);clear HB;have HB:=n0_;clear n0_;clear hb)|(refine gc_ 20 ?_;refine gl_ (some 55) Try.func20 #[.slice A0 l0.length c0,.int .i64 a1,.int .i64 a2] ?_;(with_reducible refine(riffle_read.calls kj5 _ _ l0 a1 a2 t384 t387 t390 t393 t396 t399 t402 t405 t408 _ ?side1 ?side2 A12.out).mono ?_);(case side1=>exact cu_ (jw HR0.out HB.out));(case side2=>exact HC0.out);rintro e w125 ⟨v385,v388,v391,v394,v397,v400,v403,v406,rfl,ho0,ho1,ho2,ho3,ho4,ho5,ho6,ho7,hb⟩;refine⟨_,rfl,?_⟩;have n_:=P9_ (jq ho0 (jc T19_)) (jq ho1 (jc T19_)) (Kd.S_lower ho2 (jc T19_)) (jq ho3 (jc T19_)) (jq ho4 (jc T19_)) (jq ho5 (jc T19_)) (jq ho6 (jc T19_)) (Kd.S_lower ho7 (jc T19_)) (jk T19_ hb);clear HB;obtain⟨HO386,HO389,HO392,HO395,HO398,HO401,HO404,HO407,HB⟩:=n_;clear hb ho0 ho1 ho2 ho3 ho4 ho5 ho6 ho7)|(refine gd_ 13 ?_;(try(refine jI T0_ ?_;dsimp only));refine bx_ 13 #[.slice none 0 0,.slice none 0 0,.slice none 0 0,.slice none 0 0,.slice none 0 0] 57 ?_;intro gb409 hg w126 hbox hb;have n_:=P12_ (je (ru_ HO386.out) hb) (je (ru_ HO389.out) hb) (jD (su_ HO392.out) hb) (je (ru_ HO395.out) hb) (je (ru_ HO398.out) hb) (je (ru_ HO401.out) hb) (je (ru_ HO404.out) hb) (jD (su_ HO407.out) hb) (jk T19_ hb) (hbox) ((by rw[hg];exact(jc T19_):w.heap.size≤gb409)) ((by rw[hg];exact(jc T19_):w.heap.size≤gb409));clear HO386 HO389 HO392 HO395 HO398 HO401 HO404 HO407 HB;obtain⟨HO386,HO389,HO392,HO395,HO398,HO401,HO404,HO407,HB,BK409,GW409,GE409⟩:=n_;clear hb hbox hg;obtain⟨Ao127,co127,eo127⟩:=jp HO386.out;subst eo127;obtain⟨hcz128_0,hcz128_1,hcz128_2,hcz128_3,hcz128_4,hfz128_0,hfz128_1,hfz128_2,hfz128_3,hfz128_4⟩:=cz5_ BK409.out;obtain⟨Ao129,co129,eo129⟩:=jp HO389.out;subst eo129;obtain⟨Ao130,co130,eo130⟩:=jT HO392.out;subst eo130;obtain⟨Ao131,co131,eo131⟩:=jp HO395.out;subst eo131;obtain⟨Ao132,co132,eo132⟩:=jp HO398.out;subst eo132))
   go_ret2
   exact⟨_,T17_,T21_,T31_⟩
  rw[if_pos c13] at H
  obtain⟨c13b0,c13b1⟩:=ep_ c13
  clear c13
  replace H:=ifn_ H;obtain⟨c14,H⟩:=H
  have c14b0:=eq_true c14
  have c14b1:decide (0≤a1)=true:=decide_eq_true c14
  clear c14
  replace H:=ifn_ H;obtain⟨c15,H⟩:=H
  have c15b0:=eq_true c15
  have c15b1:decide ((a1:Int).toNat≤35184372088832)=true:=decide_eq_true c15
  clear c15
  obtain⟨y410,hy_⟩:∃ y_:List Int,y_=(List.replicate (a1:Int).toNat 0):=⟨_,rfl⟩
  replace H:(if 0≤(t393.length:Int) then(if((t393.length:Int):Int).toNat≤11728124029610 then(riffle_Turn.l0 kj5 l0 a1 t402 y410 (List.replicate ((t393.length:Int):Int).toNat []) l3 (l3.length:Int) 0 t384 t387 t390 t393 t396) else(none)) else(none))=some (r1,r2):=hyw_
  have Ny410:=am_ hy_
  clear hy_
  replace H:=ifn_ H;obtain⟨c16,H⟩:=H
  have c16b0:=eq_true c16
  have c16b1:decide (0≤(t393.length:Int))=true:=decide_eq_true c16
  clear c16
  replace H:=ifn_ H;obtain⟨c17,H⟩:=H
  have c17b0:=eq_true c17
  have c17b1:decide (((t393.length:Int):Int).toNat≤11728124029610)=true:=decide_eq_true c17
  clear c17
  obtain⟨y413,hy_⟩:∃ y_:List (List Int),y_=(List.replicate ((t393.length:Int):Int).toNat []):=⟨_,rfl⟩
  replace H:(riffle_Turn.l0 kj5 l0 a1 t402 y410 y413 l3 (l3.length:Int) 0 t384 t387 t390 t393 t396)=some (r1,r2):=hyw_
  have Ny413:=am_ hy_
  clear hy_
  have H':=am_ H
  clear H
  go_wp2_with(first|(refine gc_ 18 ?_;refine gl_ (some 47) Try.func18 #[.slice A3 l3.length c3] ?_;(with_reducible refine(perm_Check.calls kj5 _ _ l3 t383 _ ?side1 ?side2 A10.out).mono ?_);(case side1=>exact cu_ (jw HR3.out HB.out));(case side2=>exact HC3.out);rintro e w18 ⟨rfl,hb⟩;refine⟨_,rfl,?_⟩;have n0_:=am_ (jk T19_ hb);clear HB;have HB:=n0_;clear n0_;clear hb)|(refine gc_ 20 ?_;refine gl_ (some 55) Try.func20 #[.slice A0 l0.length c0,.int .i64 a1,.int .i64 a2] ?_;(with_reducible refine(riffle_read.calls kj5 _ _ l0 a1 a2 t384 t387 t390 t393 t396 t399 t402 t405 t408 _ ?side1 ?side2 A12.out).mono ?_);(case side1=>exact cu_ (jw HR0.out HB.out));(case side2=>exact HC0.out);rintro e w19 ⟨v385,v388,v391,v394,v397,v400,v403,v406,rfl,ho0,ho1,ho2,ho3,ho4,ho5,ho6,ho7,hb⟩;refine⟨_,rfl,?_⟩;have n_:=P9_ (jq ho0 (jc T19_)) (jq ho1 (jc T19_)) (Kd.S_lower ho2 (jc T19_)) (jq ho3 (jc T19_)) (jq ho4 (jc T19_)) (jq ho5 (jc T19_)) (jq ho6 (jc T19_)) (Kd.S_lower ho7 (jc T19_)) (jk T19_ hb);clear HB;obtain⟨HO386,HO389,HO392,HO395,HO398,HO401,HO404,HO407,HB⟩:=n_;clear hb ho0 ho1 ho2 ho3 ho4 ho5 ho6 ho7)|(refine gd_ 13 ?_;(try(refine jI T0_ ?_;dsimp only));refine bx_ 13 #[.slice none 0 0,.slice none 0 0,.slice none 0 0,.slice none 0 0,.slice none 0 0] 57 ?_;intro gb409 hg w20 hbox hb;have n_:=P12_ (je (ru_ HO386.out) hb) (je (ru_ HO389.out) hb) (jD (su_ HO392.out) hb) (je (ru_ HO395.out) hb) (je (ru_ HO398.out) hb) (je (ru_ HO401.out) hb) (je (ru_ HO404.out) hb) (jD (su_ HO407.out) hb) (jk T19_ hb) (hbox) ((by rw[hg];exact(jc T19_):w.heap.size≤gb409)) ((by rw[hg];exact(jc T19_):w.heap.size≤gb409));clear HO386 HO389 HO392 HO395 HO398 HO401 HO404 HO407 HB;obtain⟨HO386,HO389,HO392,HO395,HO398,HO401,HO404,HO407,HB,BK409,GW409,GE409⟩:=n_;clear hb hbox hg;obtain⟨Ao21,co21,eo21⟩:=jp HO386.out;subst eo21;obtain⟨hcz22_0,hcz22_1,hcz22_2,hcz22_3,hcz22_4,hfz22_0,hfz22_1,hfz22_2,hfz22_3,hfz22_4⟩:=cz5_ BK409.out;obtain⟨Ao23,co23,eo23⟩:=jp HO389.out;subst eo23;obtain⟨Ao24,co24,eo24⟩:=jT HO392.out;subst eo24;obtain⟨Ao25,co25,eo25⟩:=jp HO395.out;subst eo25;obtain⟨Ao26,co26,eo26⟩:=jp HO398.out;subst eo26)|(refine gd_ 65 ?_;(try(refine jI T0_ ?_;dsimp only));refine Kd.R_make (jb .i64) _ 3 rfl (N:=65) rfl 24 _ _ rfl a1 rfl rfl Try.underlying24 (.int .i64 0) 8 info3 rfl T3_ T2_ 0 (ok:=fun _=>True) (okp:=fun _=>True) rfl (fun _ hk=>hk) trivial (od_) (Nat.le_trans (Nat.mul_le_mul_right _ (od_:a1.toNat≤35184372088832)) T2_) (Below.refl _ _) (Nat.le_refl _) ?_;intro v411 w27 ho28 hb hg_ hnew_;clear hg_ hnew_;(first|rw[←Ny410.out] at ho28|(simp only[Int.reduceToNat] at ho28;rw[←Ny410.out] at ho28));have n_:=P11_ (je (ru_ ((ja (jd (p:=⟨gb409,4,none⟩) (jd (p:=⟨gb409,3,none⟩) (jd (p:=⟨gb409,2,none⟩) (jd (p:=⟨gb409,1,none⟩) (jd (p:=⟨gb409,0,none⟩) (jr HO386.out BK409.out T3_) (fun _ hk=>hk.2) (.slice Ao21 t384.length co21)) (fun _ hk=>hk.2) (.slice Ao23 t387.length co23)) (fun _ hk=>hk.2) (.slice Ao24 t390.length co24)) (fun _ hk=>hk.2) (.slice Ao25 t393.length co25)) (fun _ hk=>hk.2) (.slice Ao26 t396.length co26)) (fun _ h_=>h_.1)))) hb) (je (ru_ ((ja (jd (p:=⟨gb409,4,none⟩) (jd (p:=⟨gb409,3,none⟩) (jd (p:=⟨gb409,2,none⟩) (jd (p:=⟨gb409,1,none⟩) (jd (p:=⟨gb409,0,none⟩) (jr HO389.out BK409.out T3_) (fun _ hk=>hk.2) (.slice Ao21 t384.length co21)) (fun _ hk=>hk.2) (.slice Ao23 t387.length co23)) (fun _ hk=>hk.2) (.slice Ao24 t390.length co24)) (fun _ hk=>hk.2) (.slice Ao25 t393.length co25)) (fun _ hk=>hk.2) (.slice Ao26 t396.length co26)) (fun _ h_=>h_.1)))) hb) (jD (su_ ((jC (jE (p:=⟨gb409,4,none⟩) (jE (p:=⟨gb409,3,none⟩) (jE (p:=⟨gb409,2,none⟩) (jE (p:=⟨gb409,1,none⟩) (jE (p:=⟨gb409,0,none⟩) (Jb HO392.out BK409.out T3_) (fun _ hk=>hk.2) (.slice Ao21 t384.length co21)) (fun _ hk=>hk.2) (.slice Ao23 t387.length co23)) (fun _ hk=>hk.2) (.slice Ao24 t390.length co24)) (fun _ hk=>hk.2) (.slice Ao25 t393.length co25)) (fun _ hk=>hk.2) (.slice Ao26 t396.length co26)) (fun _ h_=>h_.1)))) hb) (jg (ru_ ((ja (jd (p:=⟨gb409,4,none⟩) (jd (p:=⟨gb409,3,none⟩) (jd (p:=⟨gb409,2,none⟩) (jd (p:=⟨gb409,1,none⟩) (jd (p:=⟨gb409,0,none⟩) (jr HO395.out BK409.out T3_) (fun _ hk=>hk.2) (.slice Ao21 t384.length co21)) (fun _ hk=>hk.2) (.slice Ao23 t387.length co23)) (fun _ hk=>hk.2) (.slice Ao24 t390.length co24)) (fun _ hk=>hk.2) (.slice Ao25 t393.length co25)) (fun _ hk=>hk.2) (.slice Ao26 t396.length co26)) (fun _ h_=>h_.1)))) (jf ho28) hb) (jg (ru_ ((ja (jd (p:=⟨gb409,4,none⟩) (jd (p:=⟨gb409,3,none⟩) (jd (p:=⟨gb409,2,none⟩) (jd (p:=⟨gb409,1,none⟩) (jd (p:=⟨gb409,0,none⟩) (jr HO398.out BK409.out T3_) (fun _ hk=>hk.2) (.slice Ao21 t384.length co21)) (fun _ hk=>hk.2) (.slice Ao23 t387.length co23)) (fun _ hk=>hk.2) (.slice Ao24 t390.length co24)) (fun _ hk=>hk.2) (.slice Ao25 t393.length co25)) (fun _ hk=>hk.2) (.slice Ao26 t396.length co26)) (fun _ h_=>h_.1)))) (jf ho28) hb) (jg (ru_ ((ja (jd (p:=⟨gb409,4,none⟩) (jd (p:=⟨gb409,3,none⟩) (jd (p:=⟨gb409,2,none⟩) (jd (p:=⟨gb409,1,none⟩) (jd (p:=⟨gb409,0,none⟩) (jr HO401.out BK409.out T3_) (fun _ hk=>hk.2) (.slice Ao21 t384.length co21)) (fun _ hk=>hk.2) (.slice Ao23 t387.length co23)) (fun _ hk=>hk.2) (.slice Ao24 t390.length co24)) (fun _ hk=>hk.2) (.slice Ao25 t393.length co25)) (fun _ hk=>hk.2) (.slice Ao26 t396.length co26)) (fun _ h_=>h_.1)))) (jf ho28) hb) (jg (ru_ ((ja (jd (p:=⟨gb409,4,none⟩) (jd (p:=⟨gb409,3,none⟩) (jd (p:=⟨gb409,2,none⟩) (jd (p:=⟨gb409,1,none⟩) (jd (p:=⟨gb409,0,none⟩) (jr HO404.out BK409.out T3_) (fun _ hk=>hk.2) (.slice Ao21 t384.length co21)) (fun _ hk=>hk.2) (.slice Ao23 t387.length co23)) (fun _ hk=>hk.2) (.slice Ao24 t390.length co24)) (fun _ hk=>hk.2) (.slice Ao25 t393.length co25)) (fun _ hk=>hk.2) (.slice Ao26 t396.length co26)) (fun _ h_=>h_.1)))) (jf ho28) hb) (jL (su_ ((jC (jE (p:=⟨gb409,4,none⟩) (jE (p:=⟨gb409,3,none⟩) (jE (p:=⟨gb409,2,none⟩) (jE (p:=⟨gb409,1,none⟩) (jE (p:=⟨gb409,0,none⟩) (Jb HO407.out BK409.out T3_) (fun _ hk=>hk.2) (.slice Ao21 t384.length co21)) (fun _ hk=>hk.2) (.slice Ao23 t387.length co23)) (fun _ hk=>hk.2) (.slice Ao24 t390.length co24)) (fun _ hk=>hk.2) (.slice Ao25 t393.length co25)) (fun _ hk=>hk.2) (.slice Ao26 t396.length co26)) (fun _ h_=>h_.1)))) (jf ho28) hb) (jq (jj (jj (jj (jj ho28 (jh (ru_ ((ja (jd (p:=⟨gb409,4,none⟩) (jd (p:=⟨gb409,3,none⟩) (jd (p:=⟨gb409,2,none⟩) (jd (p:=⟨gb409,1,none⟩) (jd (p:=⟨gb409,0,none⟩) (jr HO395.out BK409.out T3_) (fun _ hk=>hk.2) (.slice Ao21 t384.length co21)) (fun _ hk=>hk.2) (.slice Ao23 t387.length co23)) (fun _ hk=>hk.2) (.slice Ao24 t390.length co24)) (fun _ hk=>hk.2) (.slice Ao25 t393.length co25)) (fun _ hk=>hk.2) (.slice Ao26 t396.length co26)) (fun _ h_=>h_.1)))))) (jh (ru_ ((ja (jd (p:=⟨gb409,4,none⟩) (jd (p:=⟨gb409,3,none⟩) (jd (p:=⟨gb409,2,none⟩) (jd (p:=⟨gb409,1,none⟩) (jd (p:=⟨gb409,0,none⟩) (jr HO398.out BK409.out T3_) (fun _ hk=>hk.2) (.slice Ao21 t384.length co21)) (fun _ hk=>hk.2) (.slice Ao23 t387.length co23)) (fun _ hk=>hk.2) (.slice Ao24 t390.length co24)) (fun _ hk=>hk.2) (.slice Ao25 t393.length co25)) (fun _ hk=>hk.2) (.slice Ao26 t396.length co26)) (fun _ h_=>h_.1)))))) (jh (ru_ ((ja (jd (p:=⟨gb409,4,none⟩) (jd (p:=⟨gb409,3,none⟩) (jd (p:=⟨gb409,2,none⟩) (jd (p:=⟨gb409,1,none⟩) (jd (p:=⟨gb409,0,none⟩) (jr HO401.out BK409.out T3_) (fun _ hk=>hk.2) (.slice Ao21 t384.length co21)) (fun _ hk=>hk.2) (.slice Ao23 t387.length co23)) (fun _ hk=>hk.2) (.slice Ao24 t390.length co24)) (fun _ hk=>hk.2) (.slice Ao25 t393.length co25)) (fun _ hk=>hk.2) (.slice Ao26 t396.length co26)) (fun _ h_=>h_.1)))))) (jh (ru_ ((ja (jd (p:=⟨gb409,4,none⟩) (jd (p:=⟨gb409,3,none⟩) (jd (p:=⟨gb409,2,none⟩) (jd (p:=⟨gb409,1,none⟩) (jd (p:=⟨gb409,0,none⟩) (jr HO404.out BK409.out T3_) (fun _ hk=>hk.2) (.slice Ao21 t384.length co21)) (fun _ hk=>hk.2) (.slice Ao23 t387.length co23)) (fun _ hk=>hk.2) (.slice Ao24 t390.length co24)) (fun _ hk=>hk.2) (.slice Ao25 t393.length co25)) (fun _ hk=>hk.2) (.slice Ao26 t396.length co26)) (fun _ h_=>h_.1)))))) (jc T31_)) (jo (g:=gb409) (o:=.cells #[.slice Ao21 t384.length co21,.slice Ao23 t387.length co23,.slice Ao24 t390.length co24,.slice Ao25 t393.length co25,.slice Ao26 t396.length co26] 57 (0,0)) (by(with_reducible repeat(first|refine jn ?_ _|refine jl ?_|refine jm ?_ _));refine ju (cs:=#[.slice Ao21 t384.length co21,.slice Ao23 t387.length co23,.slice Ao24 t390.length co24,.slice Ao25 t393.length co25,.slice none 0 0]) ?_ 4 _ rfl;(with_reducible repeat(first|refine jn ?_ _|refine jl ?_|refine jm ?_ _));refine ju (cs:=#[.slice Ao21 t384.length co21,.slice Ao23 t387.length co23,.slice Ao24 t390.length co24,.slice none 0 0,.slice none 0 0]) ?_ 3 _ rfl;(with_reducible repeat(first|refine jn ?_ _|refine jl ?_|refine jm ?_ _));refine ju (cs:=#[.slice Ao21 t384.length co21,.slice Ao23 t387.length co23,.slice none 0 0,.slice none 0 0,.slice none 0 0]) ?_ 2 _ rfl;(with_reducible repeat(first|refine jn ?_ _|refine jl ?_|refine jm ?_ _));refine ju (cs:=#[.slice Ao21 t384.length co21,.slice none 0 0,.slice none 0 0,.slice none 0 0,.slice none 0 0]) ?_ 1 _ rfl;(with_reducible repeat(first|refine jn ?_ _|refine jl ?_|refine jm ?_ _));refine ju (cs:=#[.slice none 0 0,.slice none 0 0,.slice none 0 0,.slice none 0 0,.slice none 0 0]) ?_ 0 _ rfl;exact bu_ BK409.out) hb) (jk T31_ hb);clear HO386 HO389 HO392 HO395 HO398 HO401 HO404 HO407 BK409 HB;obtain⟨HO386,HO389,HO392,HO395,HO398,HO401,HO404,HO407,HO412,BK409,HB⟩:=n_;clear hb ho28;obtain⟨hcz29_0,hcz29_1,hcz29_2,hcz29_3,hcz29_4,hfz29_0,hfz29_1,hfz29_2,hfz29_3,hfz29_4⟩:=cz5_ BK409.out)|(refine gd_ 69 ?_;(try(refine jI T0_ ?_;dsimp only));refine Kd.S_make (jB 3 (jb .i64)) _ 24 rfl (N:=69) rfl 51 _ _ rfl (t393.length:Int) rfl rfl Try.underlying51 (.slice none 0 0) 24 info24 rfl T3_ T2_ [] (ok:=fun _=>True) (okp:=fun _=>True) ⟨_,rfl,Kd.R_nil _ _ _ _ _⟩ (fun _ hk=>hk) trivial (od_) (Nat.le_trans (Nat.mul_le_mul_right _ (od_:(t393.length:Int).toNat≤11728124029610)) T2_) (Below.refl _ _) (Nat.le_refl _) ?_;intro v414 w30 ho31 hb hg_ hnew_;clear hg_ hnew_;(first|rw[←Ny413.out] at ho31|(simp only[Int.reduceToNat] at ho31;rw[←Ny413.out] at ho31));have n_:=P12_ (je (ru_ HO386.out) hb) (je (ru_ HO389.out) hb) (jD (su_ HO392.out) hb) (je (ru_ HO395.out) hb) (je (ru_ HO398.out) hb) (je (ru_ HO401.out) hb) (je (ru_ HO404.out) hb) (jL (su_ HO407.out) (Kd.S_base ho31) hb) (je (ru_ HO412.out) hb) (Kd.S_lower (Kd.S_new' (Kd.S_new' (Kd.S_new' (Kd.S_new' (Kd.S_new' (Kd.S_new' ho31 (jh (ru_ HO395.out))) (jh (ru_ HO398.out))) (jh (ru_ HO401.out))) (jh (ru_ HO404.out))) (Kd.S_lt (su_ HO407.out))) (jh (ru_ HO412.out))) (jc T31_)) (jo (bu_ BK409.out) hb) (jk T31_ hb);clear HO386 HO389 HO392 HO395 HO398 HO401 HO404 HO407 HO412 BK409 HB;obtain⟨HO386,HO389,HO392,HO395,HO398,HO401,HO404,HO407,HO412,HO415,BK409,HB⟩:=n_;clear hb ho31))
  go_loopg [72] kj5 (fun kq v72 w'=>∃ (x18_2:List Int) (x19_2:List (List Int)) (x72_2:Int),v72 = .int .i64 x72_2∧Aside0 (riffle_Turn.l0 kq l0 a1 t402 x18_2 x19_2 l3 (l3.length:Int) x72_2 t384 t387 t390 t393 t396=some (r1,r2))∧Aside0 (kq≤kj5)∧Aside0 (jt (jb .i64) 3 w' w.heap.size (fun k_=>ne_ k_ v411∧ne_ k_ (.slice Ao25 t393.length co25)∧ne_ k_ (.slice Ao26 t396.length co26)) v403 t402)∧Aside0 (jt (jb .i64) 3 w' w.heap.size (fun k_=>ne_ k_ v403∧ne_ k_ (.slice Ao25 t393.length co25)∧ne_ k_ (.slice Ao26 t396.length co26)) v411 x18_2)∧Aside0 (Kd.S (jB 3 (jb .i64)) 24 w' w.heap.size (fun k_=>ne_ k_ v403∧ne_ k_ v411∧ne_ k_ (.slice Ao25 t393.length co25)∧ne_ k_ (.slice Ao26 t396.length co26)) v414 x19_2)∧Aside0 (jt (jb .u8) 5 w' w.heap.size (fun k_=>ne_ k_ (.slice Ao23 t387.length co23)) (.slice Ao21 t384.length co21) t384)∧Aside0 (jt (jb .u8) 5 w' w.heap.size (fun k_=>ne_ k_ (.slice Ao21 t384.length co21)) (.slice Ao23 t387.length co23) t387)∧Aside0 (Kd.S (jB 5 (jb .u8)) 23 w' w.heap.size (fun k_=>ne_ k_ (.slice Ao21 t384.length co21)∧ne_ k_ (.slice Ao23 t387.length co23)) (.slice Ao24 t390.length co24) t390)∧Aside0 (jt (jb .i64) 3 w' w.heap.size (fun k_=>ne_ k_ v403∧ne_ k_ v411∧ne_ k_ (.slice Ao26 t396.length co26)) (.slice Ao25 t393.length co25) t393)∧Aside0 (jt (jb .i64) 3 w' w.heap.size (fun k_=>ne_ k_ v403∧ne_ k_ v411∧ne_ k_ (.slice Ao25 t393.length co25)) (.slice Ao26 t396.length co26) t396)∧Aside0 (w'.heap[gb409]? = some (.cells #[(.slice Ao21 t384.length co21),(.slice Ao23 t387.length co23),(.slice Ao24 t390.length co24),(.slice Ao25 t393.length co25),(.slice Ao26 t396.length co26)] 57 (0,0)))∧Aside0 (Below w.heap.size w w'))
  case atStart=>exact⟨(y410),(y413),(0),T10_,H',⟨Nat.le_refl _⟩,⟨ru_ (ja HO404.out (fun _ hk=>⟨hk.2,⟨hk.1.1,hk.1.2.1⟩⟩))⟩,⟨ru_ (ja HO412.out (fun _ hk=>⟨hk.2,⟨hk.1.1.1.2,hk.1.1.2⟩⟩))⟩,⟨su_ (jC HO415.out (fun _ hk=>⟨hk.1.1.2,⟨hk.2,⟨hk.1.1.1.1.1.2,hk.1.1.1.1.2⟩⟩⟩))⟩,⟨ru_ HO386.out⟩,⟨ru_ HO389.out⟩,⟨su_ HO392.out⟩,⟨ru_ (ja HO395.out (fun _ hk=>⟨hk.1.2.2,⟨hk.2,hk.1.1⟩⟩))⟩,⟨ru_ (ja HO398.out (fun _ hk=>⟨hk.1.2.2,⟨hk.2,hk.1.1⟩⟩))⟩,⟨bu_ BK409.out⟩,⟨T31_⟩⟩
  clear H'
  (try clear c3);(try clear c9);(try clear c11);(try clear c11b0 c11b1);(try clear c13);(try clear c13b0 c13b1);(try clear c14);(try clear c14b0 c14b1);(try clear c15);(try clear c15b0 c15b1);(try clear c16);(try clear c16b0 c16b1);(try clear c17);(try clear c17b0 c17b1);(try clear hcz22_0 hcz22_1 hcz22_2 hcz22_3 hcz22_4 hfz22_0 hfz22_1 hfz22_2 hfz22_3 hfz22_4);(try clear hcz29_0 hcz29_1 hcz29_2 hcz29_3 hcz29_4 hfz29_0 hfz29_1 hfz29_2 hfz29_3 hfz29_4);(try clear BK409)
  obtain⟨x18_2,x19_2,x72_2,rfl,HA,HK2,HO_15,HO_18,HO_19,HO_410000,HO_410001,HO_410002,HO_410003,HO_410004,BK409,HB⟩:=hrel
  cases gk with
  | zero=>exact absurd HA.out (by simp[riffle_Turn.l0])
  | succ k2 =>
   have H:=HA.out
   clear HA
   simp only[riffle_Turn.l0] at H
   by_cases c32:x72_2<(l3.length:Int)
   ·rw[if_pos c32] at H
    have c32b0:=decide_eq_true c32
    clear c32
    replace H:=ifn_ H;obtain⟨c33,H⟩:=H
    have c33b0:=decide_eq_true c33
    clear c33
    replace H:=ifn_ H;obtain⟨c34,H⟩:=H
    have c34b0:=decide_eq_true c34
    clear c34
    replace H:=Option.bind_eq_some_iff.mp H
    obtain⟨t417,A350,H⟩:=H
    try dsimp only at H
    have A35:=am_ A350
    clear A350
    replace H:=ifn_ H;obtain⟨c36,H⟩:=H
    have c36b0:=decide_eq_true c36
    clear c36
    obtain⟨y418,hy_⟩:∃ y_:List Int,y_=(x18_2.set (x72_2:Int).toNat t417):=⟨_,rfl⟩
    replace H:(if 0≤t417 then(if t417<(x19_2.length:Int) then(if t417<(t396.length:Int) then(if(rd_L3 x19_2 t417).length<17592186044416 then(riffle_Turn.l0 k2 l0 a1 t402 y418 (x19_2.set (t417:Int).toNat ((rd_L3 x19_2 t417) ++ [wrap64 ((rd l3 x72_2)-(rd t396 t417))])) l3 (l3.length:Int) (wrap64 (x72_2+1)) t384 t387 t390 t393 t396) else(none)) else(none)) else(none)) else(none))=some (r1,r2):=hyw_
    have Ny418:=am_ hy_
    clear hy_
    replace H:=ifn_ H;obtain⟨c38,H⟩:=H
    have c38b0:=decide_eq_true c38
    clear c38
    replace H:=ifn_ H;obtain⟨c39,H⟩:=H
    have c39b0:=decide_eq_true c39
    clear c39
    replace H:=ifn_ H;obtain⟨c40,H⟩:=H
    have c40b0:=decide_eq_true c40
    clear c40
    replace H:=ifa_ H;obtain⟨LMc41,H⟩:=H
    obtain⟨y421,hy_⟩:∃ y_:List Int,y_=((rd_L3 x19_2 t417) ++ [wrap64 ((rd l3 x72_2)-(rd t396 t417))]):=⟨_,rfl⟩
    replace H:(riffle_Turn.l0 k2 l0 a1 t402 y418 (x19_2.set (t417:Int).toNat y421) l3 (l3.length:Int) (wrap64 (x72_2+1)) t384 t387 t390 t393 t396)=some (r1,r2):=hyw_
    have Ny421:=am_ hy_
    clear hy_
    obtain⟨y424,hy_⟩:∃ y_:List (List Int),y_=(x19_2.set (t417:Int).toNat y421):=⟨_,rfl⟩
    replace H:(riffle_Turn.l0 k2 l0 a1 t402 y418 y424 l3 (l3.length:Int) (wrap64 (x72_2+1)) t384 t387 t390 t393 t396)=some (r1,r2):=hyw_
    have Ny424:=am_ hy_
    clear hy_
    have H':=am_ H
    clear H
    have p416:0≤(x72_2:Int):=od_
    have q416:x72_2<(l3.length:Int):=od_
    obtain⟨ad416,e416,hx416_0⟩:=jy HR3.out x72_2 p416 q416
    cases e416
    (try(replace hx416_0:=(HB.out.cell (World.block_lt_of_cell? w _ hx416_0)).trans hx416_0))
    replace p416:=eq_true p416
    replace q416:=eq_true q416
    obtain⟨hcz43_0,hcz43_1,hcz43_2,hcz43_3,hcz43_4,hfz43_0,hfz43_1,hfz43_2,hfz43_3,hfz43_4⟩:=cz5_ BK409.out
    try go_wp2_with(first|(refine gc_ 33 ?_;refine gl_ (some 79) Try.func33 #[.agg #[.slice Ao21 t384.length co21,.slice Ao23 t387.length co23,.slice Ao24 t390.length co24,.slice Ao25 t393.length co25,.slice Ao26 t396.length co26],.int .i64 (rd l3 x72_2)] ?_;(with_reducible refine(riffle_cut_of.calls k2 _ _ t384 _ _ t387 _ _ t390 _ _ t393 _ _ t396 (rd l3 x72_2) t417 _ ?side1 ?side2 ?side3 ?side4 ?side5 ?side6 ?side7 ?side8 ?side9 ?side10 A35.out).mono ?_);(case side1=>exact cu_ ((ji HO_410000.out).2.2));(case side2=>exact(ji HO_410000.out).2.1);(case side3=>exact cu_ ((ji HO_410001.out).2.2));(case side4=>exact(ji HO_410001.out).2.1);(case side5=>exact cu_ ((jK HO_410002.out).2.2));(case side6=>exact(jK HO_410002.out).2.1);(case side7=>exact cu_ ((ji HO_410003.out).2.2));(case side8=>exact(ji HO_410003.out).2.1);(case side9=>exact cu_ ((ji HO_410004.out).2.2));(case side10=>exact(ji HO_410004.out).2.1);rintro e w44 ⟨rfl,hb⟩;refine⟨_,rfl,?_⟩;have n_:=P10_ (je (ru_ HO_15.out) hb) (je (ru_ HO_18.out) hb) (jD (su_ HO_19.out) hb) (je (ru_ HO_410000.out) hb) (je (ru_ HO_410001.out) hb) (jD (su_ HO_410002.out) hb) (je (ru_ HO_410003.out) hb) (je (ru_ HO_410004.out) hb) (jo (bu_ BK409.out) hb) (jk T31_ hb);clear HO_15 HO_18 HO_19 HO_410000 HO_410001 HO_410002 HO_410003 HO_410004 BK409 HB;obtain⟨HO_15,HO_18,HO_19,HO_410000,HO_410001,HO_410002,HO_410003,HO_410004,BK409,HB⟩:=n_;clear hb;have p37:0≤(x72_2:Int):=od_;have q37:(x72_2:Int)<((x18_2.length:Int):Int):=od_;obtain⟨go37,co37,eo37,gb37,gl37,cl37,HG37⟩:=Kd.R_form HO_18.out T2_;(first|cases eo37|(injection eo37 with ea_ en_ ec_;(first|subst ea_|(injection ea_ with ea_;subst ea_));subst ec_;clear en_));have GB37:=am_ gb37;have GG37:=am_ HG37;clear gb37 gl37 HG37;obtain⟨hx37_0,hf37_0⟩:=jH 0 HO_18.out (x72_2:Int) p37 q37;replace p37:=eq_true p37;replace q37:=eq_true q37;obtain⟨hy45_,hz45_⟩:=jH 0 HO_18.out (x72_2:Int) (od_) (od_);have HP45:=Kd.R_putg HO_18.out (x72_2:Int) t417)|(refine gs_ 3 83 ?_;refine sv_ 3 83 (w44.setCell ⟨go37,(x72_2:Int).toNat,none⟩ (.int .i64 t417)) ?_;intro w46 hw;have hg:w44.grownBy w46 (some go37):=(by rw[hw];exact HP45.2);have hp_:jt (jb .i64) 3 w46 w.heap.size (fun k_=>ne_ k_ v403∧ne_ k_ (.slice Ao25 t393.length co25)∧ne_ k_ (.slice Ao26 t396.length co26)) (.slice (some ⟨go37,0,none⟩) x18_2.length co37) y418:=(by rw[hw,Ny418.out];exact HP45.1);clear HP45;have n_:=P10_ (jv (v:=(.slice (some ⟨go37,0,none⟩) x18_2.length co37)) (v1:=(.slice (some ⟨go37,0,none⟩) x18_2.length co37)) (ok:=(fun k_=>ne_ k_ (.slice Ao25 t393.length co25)∧ne_ k_ (.slice Ao26 t396.length co26))) (ru_ (ja HO_15.out (fun _ hk=>⟨⟨hk.2.1,hk.2.2⟩,hk.1⟩))) hg (.inl rfl)) (hp_) (Kd.S_after (v:=(.slice (some ⟨go37,0,none⟩) x18_2.length co37)) (v1:=(.slice (some ⟨go37,0,none⟩) x18_2.length co37)) (ok:=(fun k_=>ne_ k_ v403∧ne_ k_ (.slice Ao25 t393.length co25)∧ne_ k_ (.slice Ao26 t396.length co26))) (su_ (jC HO_19.out (fun _ hk=>⟨⟨hk.1,⟨hk.2.2.1,hk.2.2.2⟩⟩,hk.2.1⟩))) hg (.inl rfl)) (jx (v:=(.slice (some ⟨go37,0,none⟩) x18_2.length co37)) (ru_ HO_410000.out) (jz HO_18.out) T3_ hg) (jx (v:=(.slice (some ⟨go37,0,none⟩) x18_2.length co37)) (ru_ HO_410001.out) (jz HO_18.out) T3_ hg) (Kd.S_over' (v:=(.slice (some ⟨go37,0,none⟩) x18_2.length co37)) (su_ HO_410002.out) (jz HO_18.out) T3_ hg) (jv (v:=(.slice (some ⟨go37,0,none⟩) x18_2.length co37)) (v1:=(.slice (some ⟨go37,0,none⟩) x18_2.length co37)) (ok:=(fun k_=>ne_ k_ v403∧ne_ k_ (.slice Ao26 t396.length co26))) (ru_ (ja HO_410003.out (fun _ hk=>⟨⟨hk.1,hk.2.2⟩,hk.2.1⟩))) hg (.inl rfl)) (jv (v:=(.slice (some ⟨go37,0,none⟩) x18_2.length co37)) (v1:=(.slice (some ⟨go37,0,none⟩) x18_2.length co37)) (ok:=(fun k_=>ne_ k_ v403∧ne_ k_ (.slice Ao25 t393.length co25))) (ru_ (ja HO_410004.out (fun _ hk=>⟨⟨hk.1,hk.2.2⟩,hk.2.1⟩))) hg (.inl rfl)) (Jg (g:=gb409) (o:=.cells #[.slice Ao21 t384.length co21,.slice Ao23 t387.length co23,.slice Ao24 t390.length co24,.slice Ao25 t393.length co25,.slice Ao26 t396.length co26] 57 (0,0)) (bu_ BK409.out) hg (Kd.R_ne HO_18.out BK409.out T3_)) ((by rw[hw];exact jO (HB.out) GB37.out:Below w.heap.size w w46));clear HO_15 HO_18 HO_19 HO_410000 HO_410001 HO_410002 HO_410003 HO_410004 BK409 HB;obtain⟨HO_15,HO_18,HO_19,HO_410000,HO_410001,HO_410002,HO_410003,HO_410004,BK409,HB⟩:=n_;clear hg hw hp_))
    have n_:=P10_ (js HO_15.out) (js HO_18.out) (Ja HO_19.out) (js HO_410000.out) (js HO_410001.out) (Ja HO_410002.out) (js HO_410003.out) (js HO_410004.out) (jl BK409.out) (jJ HB.out)
    clear HO_15 HO_18 HO_19 HO_410000 HO_410001 HO_410002 HO_410003 HO_410004 BK409 HB
    obtain⟨HO_15,HO_18,HO_19,HO_410000,HO_410001,HO_410002,HO_410003,HO_410004,BK409,HB⟩:=n_
    obtain⟨Ao48,co48,eo48⟩:=jT HO_19.out
    (first|subst eo48|(injection eo48 with f1_ f2_ f3_;have f4_:=f1_.symm;have f5_:=f3_.symm;clear f1_ f2_ f3_;subst f4_;subst f5_))
    have p419:0≤(t417:Int):=od_
    have q419:t417<(x19_2.length:Int):=od_
    obtain⟨ad419,A419_0,c419_0,e419,hx419_0,hl419_0,hi419_0⟩:=at_L3 (jK HO_19.out).2.2 t417 p419 q419
    cases e419
    obtain⟨ce419,hce419,hMe419,hcc419⟩:=Kd.S_get HO_19.out [] t417 p419 (by first|exact q419|exact od_|(have e_:=(jK HO_19.out).1;omega))
    obtain⟨ve419_0,rfl,ge419_0⟩:=hMe419
    have hv419_0:=hcc419 0 _ rfl
    rw[Nat.add_zero,show((jB 3 (jb .i64))).sz=1 from rfl,Nat.mul_one] at hv419_0
    replace hv419_0:=Option.some.inj (hv419_0.symm.trans hx419_0)
    rw[hv419_0] at ge419_0
    have HL419_0:=am_ (show jt (jb .i64) 3 _ _ _ _ (rd_L3 x19_2 t417) from ge419_0)
    clear hv419_0 ge419_0
    have HX419_0:=am_ hx419_0
    clear hcc419 hce419
    have HR419_0:=am_ hi419_0
    have HC419_0:=am_ hl419_0
    clear hi419_0 hl419_0
    replace p419:=eq_true p419
    replace q419:=eq_true q419
    obtain⟨ad420,e420,hx420_0,p420,q420⟩:=ai_ (ji HO_410004.out).2.2 t417
    cases e420
    have n_:=am_ (jC (ok':=(fun k_=>ne_ k_ v403∧ne_ k_ (.slice (some ⟨go37,0,none⟩) x18_2.length co37)∧ne_ k_ (.slice Ao25 t393.length co25)∧ne_ k_ (.slice (some ad420) t396.length co26))) HO_19.out (fun k_ hk=>⟨hk.1.1,⟨hk.2,⟨hk.1.2.1,hk.1.2.2⟩⟩⟩))
    clear HO_19
    have HO_19:=n_
    clear n_
    obtain⟨go49,co49,eo49,gb49,gl49,cl49,HG49⟩:=Kd.S_form HO_19.out (by have h_:(t417:Int)<((x19_2.length:Int):Int):=od_;have h2_:0≤(t417:Int):=(od_);omega)
    (first|cases eo49|(injection eo49 with ea_ en_ ec_;(first|subst ea_|(injection ea_ with ea_;subst ea_));subst ec_;clear en_))
    have GB49:=am_ gb49
    have GG49:=am_ HG49
    clear gb49 gl49 HG49
    (first|simp only[jW] at hx419_0|skip)
    obtain⟨oki49,ce49,hcl49,hM49,hcc49,_,_,hH49⟩:=Kd.S_elem HO_19.out [] (t417:Int) (od_) (by have h_:(t417:Int)<((x19_2.length:Int):Int):=od_;first|exact h_|(have e_:=(jK HO_19.out).1;omega)|simpa using h_)
    obtain⟨ve49_0,rfl,ge49_0⟩:=hM49
    have hv49:=hcc49 0 _ rfl
    have hX49:=HX419_0.out
    (try simp only[jW] at hX49)
    (try simp only[Nat.add_zero] at hv49)
    (try rw[show((jB 3 (jb .i64))).sz=1 from rfl,Nat.mul_one] at hv49)
    replace hv49:=Option.some.inj (hv49.symm.trans hX49)
    subst hv49
    clear hX49 hcc49 hcl49
    have UU49:=am_ (show jt (jb .i64) 3 _ w.heap.size oki49 (.slice A419_0 (rd_L3 x19_2 t417).length c419_0) (rd_L3 x19_2 t417) from ge49_0)
    have HH49:=am_ hH49
    have HN49:=am_ (jK HO_19.out).1
    clear hH49 ge49_0
    refine start_ (n:=17) (S:=fun w'=>w'.cell? ⟨gb409,0,none⟩=some (.slice Ao21 t384.length co21)∧w'.cell? ⟨gb409,1,none⟩=some (.slice Ao23 t387.length co23)∧w'.cell? ⟨gb409,2,none⟩=some (.slice Ao24 t390.length co24)∧w'.cell? ⟨gb409,3,none⟩=some (.slice Ao25 t393.length co25)∧w'.cell? ⟨gb409,4,none⟩=some (.slice (some ad420) t396.length co26)∧w'.cell? ⟨go49,(t417).toNat,none⟩=some (.slice A419_0 (rd_L3 x19_2 t417).length c419_0)∧w'.cell? (ad420.add (t417).toNat)=some (.int .i64 (rd t396 t417))) (ds:=[14,16]) #[false,false,false,false,false,false,false,false,false,false,false,false,false,false,false,false,false] T4_ rfl rfl ⟨bc_ BK409.out 0,bc_ BK409.out 1,bc_ BK409.out 2,bc_ BK409.out 3,bc_ BK409.out 4,hx419_0,hx420_0⟩ (fun hHeld=>?_);refine Jf riffle_Turn.tab17 riffle_Turn.bits17 (fun HT_ HW_=>?_)
    generalize w46.drew=w47 at HO_15 HO_18 HO_19 HO_410000 HO_410001 HO_410002 HO_410003 HO_410004 BK409 HB GG49 HH49 HL419_0 HR419_0 HX419_0 UU49 hx419_0 hx420_0 hHeld ⊢
    refine pz_ 0 (some 84) ?_
    refine pz_ 1 (some 85) ?_
    refine pz_ 2 (some 86) ?_
    refine pz_ 3 (some 87) ?_
    refine pz_ 4 (some 88) ?_
    refine pz_ 6 (some 90) ?_
    refine pz_ 7 (some 91) ?_
    refine pz_ 9 (some 93) ?_
    refine tz7_ 5 (some 89) hHeld ?_
    refine tz7_ 8 (some 92) hHeld ?_
    refine pz_ 10 (some 94) ?_
    refine tz7_ 11 (some 95) hHeld ?_
    refine pz_ 12 (some 96) ?_
    refine oz_ 13 (some 97) (fun K hK=>?_)
    refine value_ (w1:=?_) (v:=?_) T0_ rfl ?_ ?_
    rotate_left 2
    ·go_simp
     constructor
     ·rfl
     rfl
    refine hK.out _ _ ⟨(blk_cell (jm BK409.out _) 0).trans rfl,(blk_cell (jm BK409.out _) 1).trans rfl,(blk_cell (jm BK409.out _) 2).trans rfl,(blk_cell (jm BK409.out _) 3).trans rfl,(blk_cell (jm BK409.out _) 4).trans rfl,(World.cell?_alloc_lt _ _ _ (World.block_lt_of_cell? _ _ (hHeld.2.2.2.2.2.1))).trans (hHeld.2.2.2.2.2.1),(World.cell?_alloc_lt _ _ _ (World.block_lt_of_cell? _ _ (hHeld.2.2.2.2.2.2))).trans (hHeld.2.2.2.2.2.2)⟩ (fun hHeld=>?_)
    clear hK K
    refine norm_ (a':=?_) ?_ ?_
    rotate_left
    ·show Act.put _ (some 97) _=_
     simp only[Act.put,List.setIfInBounds_toArray,List.set_cons_zero,List.set_cons_succ,jF,jG]
     rfl
    refine last_ (i:=14) (N:=some 98) #[true,true,true,true,true,true,true,true,true,true,true,true,true,true,true,false,false] rfl rfl (one_of HT_.out T4_) T3_ (fun K hK=>?_)
    refine Kd.R_append_step (jb .i64) (w0:=w) w.heap.size T0_ (.tmp 89) (.tmp 97) 24 3 (.int .i64 0) 8 rfl Try.underlying24 info3 rfl T3_ T2_ (.slice A419_0 (rd_L3 x19_2 t417).length c419_0) (rd_L3 x19_2 t417) (wrap64 ((rd l3 x72_2)-(rd t396 t417))) [.int .i64 (wrap64 ((rd l3 x72_2)-(rd t396 t417)))] (fun k_=>oki49 k_∨((fun k_=>ne_ k_ v403∧ne_ k_ (.slice (some ⟨go37,0,none⟩) x18_2.length co37)∧ne_ k_ (.slice Ao25 t393.length co25)∧ne_ k_ (.slice (some ad420) t396.length co26))) k_∧w47.heap.size≤k_) (fun _=>False) rfl rfl ?aP (fun _ hk=>hk.elim) ?aF ?aO ?aB ?aS ?aL ?_
    (case aP=>exact rfl)
    (case aB=>exact T31_)
    (case aF=>exact(fun k_ hk=>.inr ⟨⟨jA (jh (ru_ HO_15.out)) k_ hk,jA (jh (ru_ HO_18.out)) k_ hk,jA (jh (ru_ HO_410003.out)) k_ hk,jA (jh (ru_ HO_410004.out)) k_ hk⟩,hk⟩))
    (case aO=>exact(ru_ (ja UU49.out (fun _ hk=>.inl hk))))
    (case aS=>exact(jc T31_))
    (case aL=>have:=LMc41.out;omega)
    intro v422 w50 ho hb hg hat
    rw[←Ny421.out] at ho
    have n_:=P11_ (Kd.R_grown2 (ru_ HO_15.out) rfl hg (fun k_ e_=>(HL419_0.out.1 k_ e_).1.1.1)) (Kd.R_grown2 (ru_ HO_18.out) rfl hg (fun k_ e_=>(HL419_0.out.1 k_ e_).1.2)) (jx (v:=(.slice A419_0 (rd_L3 x19_2 t417).length c419_0)) (ru_ HO_410000.out) (jz HL419_0.out) T3_ hg) (jx (v:=(.slice A419_0 (rd_L3 x19_2 t417).length c419_0)) (ru_ HO_410001.out) (jz HL419_0.out) T3_ hg) (Kd.S_over' (v:=(.slice A419_0 (rd_L3 x19_2 t417).length c419_0)) (su_ HO_410002.out) (jz HL419_0.out) T3_ hg) (Kd.R_grown2 (ru_ HO_410003.out) rfl hg (fun k_ e_=>(HL419_0.out.1 k_ e_).1.1.2.1)) (Kd.R_grown2 (ru_ HO_410004.out) rfl hg (fun k_ e_=>(HL419_0.out.1 k_ e_).1.1.2.2)) (Jg (g:=gb409) (o:=.cells #[.slice Ao21 t384.length co21,.slice Ao23 t387.length co23,.slice Ao24 t390.length co24,.slice Ao25 t393.length co25,.slice (some ad420) t396.length co26] 57 (0,0)) (bu_ BK409.out) hg (Kd.R_ne HL419_0.out BK409.out T3_)) (hb) (Kd.H_grown (Kd.H_widen (by repeat(first|exact HH49.out|refine Kd.H_alloc ?_ _|refine Kd.H_drewN ?_ _|refine Kd.H_drew ?_))) hg (fun k_ e_=>.inl (UU49.out.1 k_ e_))) (ho)
    clear HO_15 HO_18 HO_410000 HO_410001 HO_410002 HO_410003 HO_410004 BK409 HB HH49 HO_19 UU49 HL419_0
    obtain⟨HO_15,HO_18,HO_410000,HO_410001,HO_410002,HO_410003,HO_410004,BK409,HB,HH49,HO423⟩:=n_
    clear ho hb hg hat
    have p42:0≤(t417:Int):=od_
    have q42:(t417:Int)<((x19_2.length:Int):Int):=od_
    replace p42:=eq_true p42
    replace q42:=eq_true q42
    obtain⟨Ao53,co53,eo53⟩:=jp HO423.out
    (first|subst eo53|(injection eo53 with f1_ f2_ f3_;have f4_:=f1_.symm;have f5_:=f3_.symm;clear f1_ f2_ f3_;subst f4_;subst f5_))
    obtain⟨_,_,hraw51,_,_,hcc51,_⟩:=Kd.H_raw HH49.out (od_) (by have h_:(t417:Int)<((x19_2.length:Int):Int):=od_;first|exact h_|(have e_:=(HN49.out);omega)|simpa using h_)
    obtain⟨_,hfr51⟩:=Kd.H_at HH49.out (od_) (by have h_:(t417:Int)<((x19_2.length:Int):Int):=od_;first|exact h_|(have e_:=(HN49.out);omega)|simpa using h_)
    have hx51_0:=hcc51 0 _ rfl
    have hf51_0:=hfr51 0
    (try simp only[Nat.add_zero] at hx51_0 hf51_0)
    (try rw[show((jB 3 (jb .i64))).sz=1 from rfl,Nat.mul_one] at hx51_0)
    (try rw[show((jB 3 (jb .i64))).sz=1 from rfl,Nat.mul_one] at hf51_0)
    have HP51:=Kd.S_seg0 HH49.out (od_) (by have h_:(t417:Int)<((x19_2.length:Int):Int):=od_;first|exact h_|(have e_:=(HN49.out);omega)|simpa using h_) (seg:=[.slice Ao53 y421.length co53]) (j:=0) (show 1≤1 from by decide) (x':=y421) (Kd.M_row HO423.out) (fun _ hk=>hk)
    (try simp only[show((jB 3 (jb .i64))).sz=1 from rfl,Nat.mul_one,Nat.add_zero] at HP51)
    clear hcc51 hfr51
    have HNB409_go49:=am_ (show gb409≠go49 from by have h_:=Kd.R_ne hraw51 BK409.out T3_;intro e_;exact h_ T5_)
    have HS51:=HP51.1
    rw[←Ny424.out] at HS51
    have HQ51:=am_ HS51
    obtain⟨_,hgg51⟩:=jz hraw51 go49 rfl
    have GG51_:=am_ hgg51
    clear HP51 HS51 hgg51
    refine hK.out _ _ ?_
    clear hK K
    refine norm_ (a':=?_) ?_ ?_
    rotate_left
    ·show Act.put _ (some 98) _=_
     simp only[Act.put,List.setIfInBounds_toArray,List.set_cons_zero,List.set_cons_succ,jF,jG]
     rfl
    refine pz_ 15 (some 99) ?_
    refine last_ (i:=16) (N:=none) #[true,true,true,true,true,true,true,true,true,true,true,true,true,true,true,true,true] rfl rfl (one_of HT_.out T4_) T3_ (fun K hK=>?_)
    refine skip_ (w1:=?_) T0_ rfl ?_ ?_
    rotate_left
    ·go_simp
     rfl
    refine hK.out _ _ ?_
    clear hK K
    refine done_ (done_of HT_.out T4_) ?_
    try go_wp2
    go_roundg k2
    case measure=>have:=HJ5.out;have:=HK2.out;omega
    case rel=>exact⟨(y418),(y424),(wrap64 (x72_2+1)),T10_,H',⟨(by have:=HJ5.out;have:=HK2.out;omega)⟩,⟨ru_ (ja (jd (p:=⟨go49,(t417:Int).toNat,none⟩) (jr HO_15.out GG51_.out T3_) (fun _ hk=>hk.2) (.slice Ao53 y421.length co53)) (fun _ hk=>⟨hk.1.2,⟨hk.1.1.1,hk.1.1.2⟩⟩))⟩,⟨ru_ (ja (jd (p:=⟨go49,(t417:Int).toNat,none⟩) (jr HO_18.out GG51_.out T3_) (fun _ hk=>hk.2) (.slice Ao53 y421.length co53)) (fun _ hk=>⟨hk.1.1,⟨hk.1.2.1,hk.1.2.2⟩⟩))⟩,⟨(by(with_reducible repeat(first|apply Kd.S_alloc|apply Kd.S_drewN|apply Ja));exact HQ51.out)⟩,⟨ru_ (ja (jd (p:=⟨go49,(t417:Int).toNat,none⟩) (jr HO_410000.out GG51_.out T3_) (fun _ hk=>hk.2) (.slice Ao53 y421.length co53)) (fun _ hk=>hk.1))⟩,⟨ru_ (ja (jd (p:=⟨go49,(t417:Int).toNat,none⟩) (jr HO_410001.out GG51_.out T3_) (fun _ hk=>hk.2) (.slice Ao53 y421.length co53)) (fun _ hk=>hk.1))⟩,⟨su_ (jC (jE (p:=⟨go49,(t417:Int).toNat,none⟩) (Jb HO_410002.out GG51_.out T3_) (fun _ hk=>hk.2) (.slice Ao53 y421.length co53)) (fun _ hk=>⟨hk.1.1,hk.1.2⟩))⟩,⟨ru_ (ja (jd (p:=⟨go49,(t417:Int).toNat,none⟩) (jr HO_410003.out GG51_.out T3_) (fun _ hk=>hk.2) (.slice Ao53 y421.length co53)) (fun _ hk=>⟨hk.1.1.1,⟨hk.1.2,hk.1.1.2⟩⟩))⟩,⟨ru_ (ja (jd (p:=⟨go49,(t417:Int).toNat,none⟩) (jr HO_410004.out GG51_.out T3_) (fun _ hk=>hk.2) (.slice Ao53 y421.length co53)) (fun _ hk=>⟨hk.1.1.1,⟨hk.1.2,hk.1.1.2⟩⟩))⟩,⟨(by(with_reducible repeat(first|refine jn ?_ _|refine jl ?_|refine jm ?_ _));refine jU ?_ HNB409_go49.out _;exact bu_ BK409.out)⟩,⟨(by repeat(first|(with_reducible first|exact HB.out|apply below_alloc|apply Je|apply jJ|refine jO ?_ GB49.out|refine jO ?_ GE409.out)|exact HB.out))⟩⟩
   rw[if_neg c32] at H
   have c32b0:=decide_eq_false c32
   clear c32
   replace H:=Option.bind_eq_some_iff.mp H
   obtain⟨⟨t425,t426⟩,A540,H⟩:=H
   try dsimp only at H
   have A54:=am_ A540
   clear A540
   by_cases c55:t426=0
   rotate_left
   ·rw[if_neg c55] at H
    obtain⟨c55b0,c55b1⟩:=en_ c55
    obtain⟨rfl,rfl⟩:=sj2_ H
    obtain⟨hcz120_0,hcz120_1,hcz120_2,hcz120_3,hcz120_4,hfz120_0,hfz120_1,hfz120_2,hfz120_3,hfz120_4⟩:=cz5_ BK409.out
    obtain⟨Ao121,co121,eo121⟩:=jp HO_18.out
    subst eo121
    obtain⟨Ao122,co122,eo122⟩:=jp HO_15.out
    subst eo122
    go_wp2_with(first|(refine gc_ 34 ?_;refine gl_ (some 106) Try.func34 #[.slice Ao25 t393.length co25,.slice Ao121 x18_2.length co121,.slice Ao122 t402.length co122] ?_;(with_reducible refine(braid_Draws.calls k2 _ _ t393 _ _ x18_2 _ _ t402 t425 t426 _ ?side1 ?side2 ?side3 ?side4 ?side5 ?side6 A54.out).mono ?_);(case side1=>exact cu_ ((ji HO_410003.out).2.2));(case side2=>exact(ji HO_410003.out).2.1);(case side3=>exact cu_ ((ji HO_18.out).2.2));(case side4=>exact(ji HO_18.out).2.1);(case side5=>exact cu_ ((ji HO_15.out).2.2));(case side6=>exact(ji HO_15.out).2.1);rintro e w123 ⟨v427,rfl,ho0,hb⟩;refine⟨_,rfl,?_⟩;have n_:=P11_ (jg (ru_ HO_15.out) (jf ho0) hb) (jg (ru_ HO_18.out) (jf ho0) hb) (jL (su_ HO_19.out) (jf ho0) hb) (je (ru_ HO_410000.out) hb) (je (ru_ HO_410001.out) hb) (jD (su_ HO_410002.out) hb) (jg (ru_ HO_410003.out) (jf ho0) hb) (jg (ru_ HO_410004.out) (jf ho0) hb) (jq (jj (jj (jj (jj ho0 (jh (ru_ HO_15.out))) (jh (ru_ HO_18.out))) (jh (ru_ HO_410003.out))) (jh (ru_ HO_410004.out))) (jc T31_)) (jo (bu_ BK409.out) hb) (jk T31_ hb);clear HO_15 HO_18 HO_19 HO_410000 HO_410001 HO_410002 HO_410003 HO_410004 BK409 HB;obtain⟨HO_15,HO_18,HO_19,HO_410000,HO_410001,HO_410002,HO_410003,HO_410004,HO428,BK409,HB⟩:=n_;clear hb ho0))
    go_ret2
    exact⟨_,T17_,T21_,T31_⟩
   rw[if_pos c55] at H
   obtain⟨c55b0,c55b1⟩:=ep_ c55
   clear c55
   replace H:=Option.bind_eq_some_iff.mp H
   obtain⟨t429,A560,H⟩:=H
   try dsimp only at H
   have A56:=am_ A560
   clear A560
   replace H:=Option.bind_eq_some_iff.mp H
   obtain⟨⟨t432,t433⟩,A570,H⟩:=H
   try dsimp only at H
   have A57:=am_ A570
   clear A570
   by_cases c58:t433=0
   rotate_left
   ·rw[if_neg c58] at H
    obtain⟨c58b0,c58b1⟩:=en_ c58
    obtain⟨rfl,rfl⟩:=sj2_ H
    obtain⟨hcz111_0,hcz111_1,hcz111_2,hcz111_3,hcz111_4,hfz111_0,hfz111_1,hfz111_2,hfz111_3,hfz111_4⟩:=cz5_ BK409.out
    obtain⟨Ao112,co112,eo112⟩:=jp HO_18.out
    subst eo112
    obtain⟨Ao113,co113,eo113⟩:=jp HO_15.out
    subst eo113
    try go_wp2_with(first|(refine gc_ 34 ?_;refine gl_ (some 106) Try.func34 #[.slice Ao25 t393.length co25,.slice Ao112 x18_2.length co112,.slice Ao113 t402.length co113] ?_;(with_reducible refine(braid_Draws.calls k2 _ _ t393 _ _ x18_2 _ _ t402 t425 t426 _ ?side1 ?side2 ?side3 ?side4 ?side5 ?side6 A54.out).mono ?_);(case side1=>exact cu_ ((ji HO_410003.out).2.2));(case side2=>exact(ji HO_410003.out).2.1);(case side3=>exact cu_ ((ji HO_18.out).2.2));(case side4=>exact(ji HO_18.out).2.1);(case side5=>exact cu_ ((ji HO_15.out).2.2));(case side6=>exact(ji HO_15.out).2.1);rintro e w114 ⟨v427,rfl,ho0,hb⟩;refine⟨_,rfl,?_⟩;have n_:=P11_ (jg (ru_ HO_15.out) (jf ho0) hb) (jg (ru_ HO_18.out) (jf ho0) hb) (jL (su_ HO_19.out) (jf ho0) hb) (je (ru_ HO_410000.out) hb) (je (ru_ HO_410001.out) hb) (jD (su_ HO_410002.out) hb) (jg (ru_ HO_410003.out) (jf ho0) hb) (jg (ru_ HO_410004.out) (jf ho0) hb) (jq (jj (jj (jj (jj ho0 (jh (ru_ HO_15.out))) (jh (ru_ HO_18.out))) (jh (ru_ HO_410003.out))) (jh (ru_ HO_410004.out))) (jc T31_)) (jo (bu_ BK409.out) hb) (jk T31_ hb);clear HO_15 HO_18 HO_19 HO_410000 HO_410001 HO_410002 HO_410003 HO_410004 BK409 HB;obtain⟨HO_15,HO_18,HO_19,HO_410000,HO_410001,HO_410002,HO_410003,HO_410004,HO428,BK409,HB⟩:=n_;clear hb ho0))
    have n_:=P11_ (js HO_15.out) (js HO_18.out) (Ja HO_19.out) (js HO_410000.out) (js HO_410001.out) (Ja HO_410002.out) (js HO_410003.out) (js HO_410004.out) (js HO428.out) (jl BK409.out) (jJ HB.out)
    clear HO_15 HO_18 HO_19 HO_410000 HO_410001 HO_410002 HO_410003 HO_410004 HO428 BK409 HB
    obtain⟨HO_15,HO_18,HO_19,HO_410000,HO_410001,HO_410002,HO_410003,HO_410004,HO428,BK409,HB⟩:=n_
    refine start_ (n:=12) (S:=fun w'=>w'.cell? ⟨gb409,0,none⟩=some (.slice Ao21 t384.length co21)∧w'.cell? ⟨gb409,1,none⟩=some (.slice Ao23 t387.length co23)∧w'.cell? ⟨gb409,2,none⟩=some (.slice Ao24 t390.length co24)∧w'.cell? ⟨gb409,3,none⟩=some (.slice Ao25 t393.length co25)∧w'.cell? ⟨gb409,4,none⟩=some (.slice Ao26 t396.length co26)) (ds:=[]) #[false,false,false,false,false,false,false,false,false,false,false,false] T4_ rfl rfl ⟨bc_ BK409.out 0,bc_ BK409.out 1,bc_ BK409.out 2,bc_ BK409.out 3,bc_ BK409.out 4⟩ (fun hHeld=>?_);refine Jf riffle_Turn.tab22 riffle_Turn.bits22 (fun HT_ HW_=>?_)
    generalize w114.drew=w115 at HO_15 HO_18 HO_19 HO_410000 HO_410001 HO_410002 HO_410003 HO_410004 HO428 BK409 HB hHeld ⊢
    refine pz_ 0 (some 113) ?_
    refine pz_ 1 (some 114) ?_
    refine pz_ 3 (some 116) ?_
    refine pz_ 5 (some 118) ?_
    refine tz5_ 2 (some 115) hHeld ?_
    refine oz_ 4 (some 117) (fun K hK=>?_)
    refine goes_ Try.func36 T4_ rfl #[.int .i64 a1] T0_ rfl rfl T20_ ?_
    with_reducible refine(braid_Bounds.calls k2 a1 t429 _ A56.out).mono ?_
    rintro e w116 ⟨v430,rfl,ho0,hb⟩
    refine⟨_,rfl,?_⟩
    have n_:=P12_ (jg (ru_ HO_15.out) (jf ho0) hb) (jg (ru_ HO_18.out) (jf ho0) hb) (jL (su_ HO_19.out) (jf ho0) hb) (je (ru_ HO_410000.out) hb) (je (ru_ HO_410001.out) hb) (jD (su_ HO_410002.out) hb) (jg (ru_ HO_410003.out) (jf ho0) hb) (jg (ru_ HO_410004.out) (jf ho0) hb) (jg (ru_ HO428.out) (jf ho0) hb) (jq (jj (jj (jj (jj (jj ho0 (jh (ru_ HO_15.out))) (jh (ru_ HO_18.out))) (jh (ru_ HO_410003.out))) (jh (ru_ HO_410004.out))) (jh (ru_ HO428.out))) (jc T31_)) (jo (bu_ BK409.out) hb) (jk T31_ hb)
    clear HO_15 HO_18 HO_19 HO_410000 HO_410001 HO_410002 HO_410003 HO_410004 HO428 BK409 HB
    obtain⟨HO_15,HO_18,HO_19,HO_410000,HO_410001,HO_410002,HO_410003,HO_410004,HO428,HO431,BK409,HB⟩:=n_
    (try clear hb);(try clear hk);(try clear ho0)
    obtain⟨Ao117,co117,eo117⟩:=jp HO431.out
    (first|subst eo117|(injection eo117 with f1_ f2_ f3_;have f4_:=f1_.symm;have f5_:=f3_.symm;clear f1_ f2_ f3_;subst f4_;subst f5_))
    obtain⟨Ao118,co118,eo118⟩:=jp HO428.out
    (first|subst eo118|(injection eo118 with f1_ f2_ f3_;have f4_:=f1_.symm;have f5_:=f3_.symm;clear f1_ f2_ f3_;subst f4_;subst f5_))
    refine hK.out _ _ ⟨bc_ BK409.out 0,bc_ BK409.out 1,bc_ BK409.out 2,bc_ BK409.out 3,bc_ BK409.out 4⟩ (fun hHeld=>?_)
    clear hK K
    refine norm_ (a':=?_) ?_ ?_
    rotate_left
    ·show Act.put _ (some 117) _=_
     simp only[Act.put,List.setIfInBounds_toArray,List.set_cons_zero,List.set_cons_succ,jF,jG]
     rfl
    refine oz_ 6 (some 119) (fun K hK=>?_)
    refine goes_ Try.func35 T4_ rfl #[.slice Ao23 t387.length co23,.slice Ao117 t429.length co117,.slice Ao118 t425.length co118] T0_ rfl rfl T20_ ?_
    with_reducible refine(draw_Turn.calls _ _ t387 _ _ t429 _ _ t425 t432 t433 _ ?side1 ?side2 ?side3 ?side4 ?side5 ?side6 A57.out).mono ?_
    (case side1=>exact cu_ ((ji HO_410001.out).2.2))
    (case side2=>exact(ji HO_410001.out).2.1)
    (case side3=>exact cu_ ((ji HO431.out).2.2))
    (case side4=>exact(ji HO431.out).2.1)
    (case side5=>exact cu_ ((ji HO428.out).2.2))
    (case side6=>exact(ji HO428.out).2.1)
    rintro e w119 ⟨v434,rfl,ho0,hb⟩
    refine⟨_,rfl,?_⟩
    have n_:=P13_ (je (ru_ HO_15.out) hb) (je (ru_ HO_18.out) hb) (jD (su_ HO_19.out) hb) (jg (ru_ HO_410000.out) (jf ho0) hb) (jg (ru_ HO_410001.out) (jf ho0) hb) (jL (su_ HO_410002.out) (jf ho0) hb) (je (ru_ HO_410003.out) hb) (je (ru_ HO_410004.out) hb) (je (ru_ HO428.out) hb) (je (ru_ HO431.out) hb) (jq (jj (jj ho0 (jh (ru_ HO_410000.out))) (jh (ru_ HO_410001.out))) (jc T31_)) (jo (bu_ BK409.out) hb) (jk T31_ hb)
    clear HO_15 HO_18 HO_19 HO_410000 HO_410001 HO_410002 HO_410003 HO_410004 HO428 HO431 BK409 HB
    obtain⟨HO_15,HO_18,HO_19,HO_410000,HO_410001,HO_410002,HO_410003,HO_410004,HO428,HO431,HO435,BK409,HB⟩:=n_
    (try clear hb);(try clear hk);(try clear ho0)
    refine hK.out _ _ ⟨bc_ BK409.out 0,bc_ BK409.out 1,bc_ BK409.out 2,bc_ BK409.out 3,bc_ BK409.out 4⟩ (fun hHeld=>?_)
    clear hK K
    refine norm_ (a':=?_) ?_ ?_
    rotate_left
    ·show Act.put _ (some 119) _=_
     simp only[Act.put,List.setIfInBounds_toArray,List.set_cons_zero,List.set_cons_succ,jF,jG]
     rfl
    refine pz_ 7 (some 112) ?_
    refine pz_ 8 (some 120) ?_
    refine pz_ 9 (some 121) ?_
    refine pz_ 10 (some 24) ?_
    refine pz_ 11 (some 17) ?_
    refine done_ (done_of HT_.out T4_) ?_
    try go_wp2
    go_ret2
    exact⟨_,T17_,T21_,T31_⟩
   rw[if_pos c58] at H
   obtain⟨c58b0,c58b1⟩:=ep_ c58
   clear c58
   obtain⟨y436,hy_⟩:∃ y_:List Int,y_=(([]:List Int)):=⟨_,rfl⟩
   replace H:(if y436.length+l0.length<140737488355328 then((some (y436 ++ l0:List Int)).bind fun y439=>(if 0≤(t384.length:Int) then(if(t384.length:Int)≤(y439.length:Int) then(riffle_Turn.l1 k2 x19_2 (cpy y439 (((t384.length:Int):Int).toNat) t432) (wrap64 ((t384.length:Int)+(cpn y439 (((t384.length:Int):Int).toNat) t432))) t393 (t393.length:Int) 0 t384 t387 t390 t393 t396) else(none)) else(none))) else(none))=some (r1,r2):=hyw_
   have Ny436:=am_ hy_
   clear hy_
   replace H:=ifa_ H;obtain⟨LMc59,H⟩:=H
   obtain⟨y439,hy_⟩:∃ y_:List Int,y_=(y436 ++ l0):=⟨_,rfl⟩
   replace H:(if 0≤(t384.length:Int) then(if(t384.length:Int)≤(y439.length:Int) then(riffle_Turn.l1 k2 x19_2 (cpy y439 (((t384.length:Int):Int).toNat) t432) (wrap64 ((t384.length:Int)+(cpn y439 (((t384.length:Int):Int).toNat) t432))) t393 (t393.length:Int) 0 t384 t387 t390 t393 t396) else(none)) else(none))=some (r1,r2):=hyw_
   have Ny439:=am_ hy_
   clear hy_
   replace H:=ifn_ H;obtain⟨c60,H⟩:=H
   have c60b0:=eq_true c60
   have c60b1:decide (0≤(t384.length:Int))=true:=decide_eq_true c60
   clear c60
   replace H:=ifn_ H;obtain⟨c61,H⟩:=H
   have c61b0:=eq_true c61
   have c61b1:decide ((t384.length:Int)≤(y439.length:Int))=true:=decide_eq_true c61
   clear c61
   obtain⟨y442,hy_⟩:∃ y_:List Int,y_=(y439.drop ((t384.length:Int):Int).toNat):=⟨_,rfl⟩
   replace H:(riffle_Turn.l1 k2 x19_2 (cpy y439 (((t384.length:Int):Int).toNat) t432) (wrap64 ((t384.length:Int)+(cpn y439 (((t384.length:Int):Int).toNat) t432))) t393 (t393.length:Int) 0 t384 t387 t390 t393 t396)=some (r1,r2):=hyw_
   have Ny442:=am_ hy_
   clear hy_
   obtain⟨y446,hy_⟩:∃ y_:List Int,y_=(cpy y439 (((t384.length:Int):Int).toNat) t432):=⟨_,rfl⟩
   replace H:(riffle_Turn.l1 k2 x19_2 y446 (wrap64 ((t384.length:Int)+(cpn y439 (((t384.length:Int):Int).toNat) t432))) t393 (t393.length:Int) 0 t384 t387 t390 t393 t396)=some (r1,r2):=hyw_
   have Ny446:=am_ hy_
   clear hy_
   have H':=am_ H
   clear H
   obtain⟨hcz62_0,hcz62_1,hcz62_2,hcz62_3,hcz62_4,hfz62_0,hfz62_1,hfz62_2,hfz62_3,hfz62_4⟩:=cz5_ BK409.out
   obtain⟨Ao63,co63,eo63⟩:=jp HO_18.out
   subst eo63
   obtain⟨Ao64,co64,eo64⟩:=jp HO_15.out
   subst eo64
   try go_wp2_with(first|(refine gc_ 34 ?_;refine gl_ (some 106) Try.func34 #[.slice Ao25 t393.length co25,.slice Ao63 x18_2.length co63,.slice Ao64 t402.length co64] ?_;(with_reducible refine(braid_Draws.calls k2 _ _ t393 _ _ x18_2 _ _ t402 t425 t426 _ ?side1 ?side2 ?side3 ?side4 ?side5 ?side6 A54.out).mono ?_);(case side1=>exact cu_ ((ji HO_410003.out).2.2));(case side2=>exact(ji HO_410003.out).2.1);(case side3=>exact cu_ ((ji HO_18.out).2.2));(case side4=>exact(ji HO_18.out).2.1);(case side5=>exact cu_ ((ji HO_15.out).2.2));(case side6=>exact(ji HO_15.out).2.1);rintro e w65 ⟨v427,rfl,ho0,hb⟩;refine⟨_,rfl,?_⟩;have n_:=P11_ (jg (ru_ HO_15.out) (jf ho0) hb) (jg (ru_ HO_18.out) (jf ho0) hb) (jL (su_ HO_19.out) (jf ho0) hb) (je (ru_ HO_410000.out) hb) (je (ru_ HO_410001.out) hb) (jD (su_ HO_410002.out) hb) (jg (ru_ HO_410003.out) (jf ho0) hb) (jg (ru_ HO_410004.out) (jf ho0) hb) (jq (jj (jj (jj (jj ho0 (jh (ru_ HO_15.out))) (jh (ru_ HO_18.out))) (jh (ru_ HO_410003.out))) (jh (ru_ HO_410004.out))) (jc T31_)) (jo (bu_ BK409.out) hb) (jk T31_ hb);clear HO_15 HO_18 HO_19 HO_410000 HO_410001 HO_410002 HO_410003 HO_410004 BK409 HB;obtain⟨HO_15,HO_18,HO_19,HO_410000,HO_410001,HO_410002,HO_410003,HO_410004,HO428,BK409,HB⟩:=n_;clear hb ho0))
   have n_:=P11_ (js HO_15.out) (js HO_18.out) (Ja HO_19.out) (js HO_410000.out) (js HO_410001.out) (Ja HO_410002.out) (js HO_410003.out) (js HO_410004.out) (js HO428.out) (jl BK409.out) (jJ HB.out)
   clear HO_15 HO_18 HO_19 HO_410000 HO_410001 HO_410002 HO_410003 HO_410004 HO428 BK409 HB
   obtain⟨HO_15,HO_18,HO_19,HO_410000,HO_410001,HO_410002,HO_410003,HO_410004,HO428,BK409,HB⟩:=n_
   refine start_ (n:=12) (S:=fun w'=>w'.cell? ⟨gb409,0,none⟩=some (.slice Ao21 t384.length co21)∧w'.cell? ⟨gb409,1,none⟩=some (.slice Ao23 t387.length co23)∧w'.cell? ⟨gb409,2,none⟩=some (.slice Ao24 t390.length co24)∧w'.cell? ⟨gb409,3,none⟩=some (.slice Ao25 t393.length co25)∧w'.cell? ⟨gb409,4,none⟩=some (.slice Ao26 t396.length co26)) (ds:=[]) #[false,false,false,false,false,false,false,false,false,false,false,false] T4_ rfl rfl ⟨bc_ BK409.out 0,bc_ BK409.out 1,bc_ BK409.out 2,bc_ BK409.out 3,bc_ BK409.out 4⟩ (fun hHeld=>?_);refine Jf riffle_Turn.tab22 riffle_Turn.bits22 (fun HT_ HW_=>?_)
   generalize w65.drew=w66 at HO_15 HO_18 HO_19 HO_410000 HO_410001 HO_410002 HO_410003 HO_410004 HO428 BK409 HB hHeld ⊢
   refine pz_ 0 (some 113) ?_
   refine pz_ 1 (some 114) ?_
   refine pz_ 3 (some 116) ?_
   refine pz_ 5 (some 118) ?_
   refine tz5_ 2 (some 115) hHeld ?_
   refine oz_ 4 (some 117) (fun K hK=>?_)
   refine goes_ Try.func36 T4_ rfl #[.int .i64 a1] T0_ rfl rfl T20_ ?_
   with_reducible refine(braid_Bounds.calls k2 a1 t429 _ A56.out).mono ?_
   rintro e w67 ⟨v430,rfl,ho0,hb⟩
   refine⟨_,rfl,?_⟩
   have n_:=P12_ (jg (ru_ HO_15.out) (jf ho0) hb) (jg (ru_ HO_18.out) (jf ho0) hb) (jL (su_ HO_19.out) (jf ho0) hb) (je (ru_ HO_410000.out) hb) (je (ru_ HO_410001.out) hb) (jD (su_ HO_410002.out) hb) (jg (ru_ HO_410003.out) (jf ho0) hb) (jg (ru_ HO_410004.out) (jf ho0) hb) (jg (ru_ HO428.out) (jf ho0) hb) (jq (jj (jj (jj (jj (jj ho0 (jh (ru_ HO_15.out))) (jh (ru_ HO_18.out))) (jh (ru_ HO_410003.out))) (jh (ru_ HO_410004.out))) (jh (ru_ HO428.out))) (jc T31_)) (jo (bu_ BK409.out) hb) (jk T31_ hb)
   clear HO_15 HO_18 HO_19 HO_410000 HO_410001 HO_410002 HO_410003 HO_410004 HO428 BK409 HB
   obtain⟨HO_15,HO_18,HO_19,HO_410000,HO_410001,HO_410002,HO_410003,HO_410004,HO428,HO431,BK409,HB⟩:=n_
   (try clear hb);(try clear hk);(try clear ho0)
   obtain⟨Ao68,co68,eo68⟩:=jp HO431.out
   (first|subst eo68|(injection eo68 with f1_ f2_ f3_;have f4_:=f1_.symm;have f5_:=f3_.symm;clear f1_ f2_ f3_;subst f4_;subst f5_))
   obtain⟨Ao69,co69,eo69⟩:=jp HO428.out
   (first|subst eo69|(injection eo69 with f1_ f2_ f3_;have f4_:=f1_.symm;have f5_:=f3_.symm;clear f1_ f2_ f3_;subst f4_;subst f5_))
   refine hK.out _ _ ⟨bc_ BK409.out 0,bc_ BK409.out 1,bc_ BK409.out 2,bc_ BK409.out 3,bc_ BK409.out 4⟩ (fun hHeld=>?_)
   clear hK K
   refine norm_ (a':=?_) ?_ ?_
   rotate_left
   ·show Act.put _ (some 117) _=_
    simp only[Act.put,List.setIfInBounds_toArray,List.set_cons_zero,List.set_cons_succ,jF,jG]
    rfl
   refine oz_ 6 (some 119) (fun K hK=>?_)
   refine goes_ Try.func35 T4_ rfl #[.slice Ao23 t387.length co23,.slice Ao68 t429.length co68,.slice Ao69 t425.length co69] T0_ rfl rfl T20_ ?_
   with_reducible refine(draw_Turn.calls _ _ t387 _ _ t429 _ _ t425 t432 t433 _ ?side1 ?side2 ?side3 ?side4 ?side5 ?side6 A57.out).mono ?_
   (case side1=>exact cu_ ((ji HO_410001.out).2.2))
   (case side2=>exact(ji HO_410001.out).2.1)
   (case side3=>exact cu_ ((ji HO431.out).2.2))
   (case side4=>exact(ji HO431.out).2.1)
   (case side5=>exact cu_ ((ji HO428.out).2.2))
   (case side6=>exact(ji HO428.out).2.1)
   rintro e w70 ⟨v434,rfl,ho0,hb⟩
   refine⟨_,rfl,?_⟩
   have n_:=P13_ (je (ru_ HO_15.out) hb) (je (ru_ HO_18.out) hb) (jD (su_ HO_19.out) hb) (jg (ru_ HO_410000.out) (jf ho0) hb) (jg (ru_ HO_410001.out) (jf ho0) hb) (jL (su_ HO_410002.out) (jf ho0) hb) (je (ru_ HO_410003.out) hb) (je (ru_ HO_410004.out) hb) (je (ru_ HO428.out) hb) (je (ru_ HO431.out) hb) (jq (jj (jj ho0 (jh (ru_ HO_410000.out))) (jh (ru_ HO_410001.out))) (jc T31_)) (jo (bu_ BK409.out) hb) (jk T31_ hb)
   clear HO_15 HO_18 HO_19 HO_410000 HO_410001 HO_410002 HO_410003 HO_410004 HO428 HO431 BK409 HB
   obtain⟨HO_15,HO_18,HO_19,HO_410000,HO_410001,HO_410002,HO_410003,HO_410004,HO428,HO431,HO435,BK409,HB⟩:=n_
   (try clear hb);(try clear hk);(try clear ho0)
   refine hK.out _ _ ⟨bc_ BK409.out 0,bc_ BK409.out 1,bc_ BK409.out 2,bc_ BK409.out 3,bc_ BK409.out 4⟩ (fun hHeld=>?_)
   clear hK K
   refine norm_ (a':=?_) ?_ ?_
   rotate_left
   ·show Act.put _ (some 119) _=_
    simp only[Act.put,List.setIfInBounds_toArray,List.set_cons_zero,List.set_cons_succ,jF,jG]
    rfl
   refine pz_ 7 (some 112) ?_
   refine pz_ 8 (some 120) ?_
   refine pz_ 9 (some 121) ?_
   refine pz_ 10 (some 24) ?_
   refine pz_ 11 (some 17) ?_
   refine done_ (done_of HT_.out T4_) ?_
   try go_wp2_with(first|(refine gd_ 125 ?_;(try(refine jI T0_ ?_;dsimp only));refine Kd.R_lit (jb .u8) _ 5 ?hg (N:=125) ?hd (xs:=([]:List Int)) (inner:=[]) (ok:=fun _=>True) (okp:=fun _=>True) ?hr ?hp (fun _ hk=>hk) trivial (Below.refl _ _) (Nat.le_refl _) T1_ ?_;(case hd=>rfl);(case hg=>rfl);(case hr=>first|(go_simp;done)|(go_simp;rfl));(case hp=>exact(Reps.none _ _));intro v437 w71 ho72 hb hg_ hnew_;clear hg_ hnew_;(first|rw[←Ny436.out] at ho72|(simp only[Int.reduceToNat] at ho72;rw[←Ny436.out] at ho72));have n_:=P14_ (je (ru_ HO_15.out) hb) (je (ru_ HO_18.out) hb) (jD (su_ HO_19.out) hb) (jg (ru_ HO_410000.out) (jf ho72) hb) (jg (ru_ HO_410001.out) (jf ho72) hb) (jL (su_ HO_410002.out) (jf ho72) hb) (je (ru_ HO_410003.out) hb) (je (ru_ HO_410004.out) hb) (je (ru_ HO428.out) hb) (je (ru_ HO431.out) hb) (jg (ru_ HO435.out) (jf ho72) hb) (jq (jj (jj (jj ho72 (jh (ru_ HO_410000.out))) (jh (ru_ HO_410001.out))) (jh (ru_ HO435.out))) (jc T31_)) (jo (bu_ BK409.out) hb) (jk T31_ hb);clear HO_15 HO_18 HO_19 HO_410000 HO_410001 HO_410002 HO_410003 HO_410004 HO428 HO431 HO435 BK409 HB;obtain⟨HO_15,HO_18,HO_19,HO_410000,HO_410001,HO_410002,HO_410003,HO_410004,HO428,HO431,HO435,HO438,BK409,HB⟩:=n_;clear hb ho72)|(refine gb_ .append #[.tmp 125,.tmp 126] ?_;(try(refine jI T0_ ?_;dsimp only));at_builtin;refine Kd.R_append_rows (jb .u8) (w0:=w) w.heap.size rfl (.tmp 125) (.tmp 126) 23 5 (.int .u8 0) 1 rfl Try.underlying23 info5 rfl T3_ T2_ v437 y436 l0 _ _ _ (fun k_=>ne_ k_ (.slice Ao21 t384.length co21)∧ne_ k_ (.slice Ao23 t387.length co23)∧ne_ k_ v434) (fun _=>False) rfl rfl ?aO ?aR (fun _ _ h=>h) (fun _ h=>h.elim) ?aF ?aB ?aS ?aL ?_;(case aR=>exact cu_ (jw HR0.out HB.out));(case aB=>exact T31_);(case aF=>exact(fun k_ hk=>⟨jA (jh (ru_ HO_410000.out)) k_ hk,jA (jh (ru_ HO_410001.out)) k_ hk,jA (jh (ru_ HO435.out)) k_ hk⟩));(case aO=>exact(ru_ (ja HO438.out (fun _ hk=>⟨hk.1.1.2,⟨hk.1.2,hk.2⟩⟩))));(case aS=>exact(jc T31_));(case aL=>have:=LMc59.out;omega);intro v440 w73 ho hb hg hat;rw[←Ny439.out] at ho;have n_:=P14_ (jx (ru_ HO_15.out) (jz (ru_ HO438.out)) T3_ hg) (jx (ru_ HO_18.out) (jz (ru_ HO438.out)) T3_ hg) (Kd.S_over' (su_ HO_19.out) (jz (ru_ HO438.out)) T3_ hg) (jv (ok:=(fun k_=>ne_ k_ (.slice Ao23 t387.length co23)∧ne_ k_ v434)) (ru_ HO_410000.out) hg hat) (jv (ok:=(fun k_=>ne_ k_ (.slice Ao21 t384.length co21)∧ne_ k_ v434)) (ru_ HO_410001.out) hg hat) (Kd.S_after (ok:=(fun k_=>ne_ k_ (.slice Ao21 t384.length co21)∧ne_ k_ (.slice Ao23 t387.length co23)∧ne_ k_ v434)) (su_ (jC HO_410002.out (fun _ hk=>⟨⟨hk.1.1.1,⟨hk.1.1.2,hk.1.2⟩⟩,hk.2⟩))) hg hat) (jx (ru_ HO_410003.out) (jz (ru_ HO438.out)) T3_ hg) (jx (ru_ HO_410004.out) (jz (ru_ HO438.out)) T3_ hg) (Jg (g:=gb409) (o:=.cells #[.slice Ao21 t384.length co21,.slice Ao23 t387.length co23,.slice Ao24 t390.length co24,.slice Ao25 t393.length co25,.slice Ao26 t396.length co26] 57 (0,0)) (bu_ BK409.out) hg (Kd.R_ne HO438.out BK409.out T3_)) (jx (ru_ HO428.out) (jz (ru_ HO438.out)) T3_ hg) (jx (ru_ HO431.out) (jz (ru_ HO438.out)) T3_ hg) (jv (ok:=(fun k_=>ne_ k_ (.slice Ao21 t384.length co21)∧ne_ k_ (.slice Ao23 t387.length co23))) (ru_ (ja HO435.out (fun _ hk=>⟨⟨hk.1.1.2,hk.1.2⟩,hk.2⟩))) hg hat) (hb) (ho);clear HO_15 HO_18 HO_19 HO_410000 HO_410001 HO_410002 HO_410003 HO_410004 BK409 HO428 HO431 HO435 HB HO438;obtain⟨HO_15,HO_18,HO_19,HO_410000,HO_410001,HO_410002,HO_410003,HO_410004,BK409,HO428,HO431,HO435,HB,HO441⟩:=n_;clear ho hb hg hat;obtain⟨hcz74_0,hcz74_1,hcz74_2,hcz74_3,hcz74_4,hfz74_0,hfz74_1,hfz74_2,hfz74_3,hfz74_4⟩:=cz5_ BK409.out;obtain⟨Ao76,co76,eo76⟩:=jp HO441.out;subst eo76;have q75:((t384.length:Int):Int)≤((y439.length:Int):Int):=od_;obtain⟨i075,hi075,_,hsz75,_⟩:=info_parts info5;have hroom75:y439.length≤co76:=(ji HO441.out).2.1;have hC75:jX (jb .u8) _ Ao76 y439.length y439:=(ji HO441.out).2.2;have q075:(0:Int)≤((t384.length:Int):Int):=od_;have hcut75:=cut_from (P:=Try.prog) 23 5 .i64 Try.underlying23 hi075 1 hsz75 Ao76 y439.length co76 (t384.length:Int) q075 q75;have hr75:=Kd.C_drop (m:=((t384.length:Int):Int).toNat) (c:=co76) hC75 T2_ hroom75;obtain⟨A75,hA75⟩:∃ A1,A1=(if co76=((t384.length:Int):Int).toNat then Ao76 else(Ao76:Option Addr).map (·.add (((t384.length:Int):Int).toNat*1))):=⟨_,rfl⟩;obtain⟨c75,hc75⟩:∃ c1,c1=co76-((t384.length:Int):Int).toNat:=⟨_,rfl⟩;have hy75:y442.length=y439.length-((t384.length:Int):Int).toNat:=(by rw[Ny442.out,List.length_drop] <;> omega);rw[show(y439).drop ((t384.length:Int):Int).toNat=y442 from Ny442.out.symm] at hr75;replace hr75:jX (jb .u8) _ A75 y442.length y442:=(by rw[hA75];exact hr75);rw[←hy75,←hA75,←hc75] at hcut75;have HR445:=am_ hr75;have HC445:=am_ (show y442.length≤c75 from by rw[hy75,hc75];exact Nat.sub_le_sub_right hroom75 _);clear hr75 hC75 hroom75 hi075 hsz75 hc75;have KY75:=am_ hy75;have KA75:=am_ hA75;clear hy75 hA75;have KL75:=am_ (show((t384.length:Int):Int).toNat≤y439.length from by omega);replace q75:=eq_true q75;obtain⟨Ao77,co77,eo77⟩:=jp HO435.out;subst eo77)|(refine gb_ .copy #[.tmp 135,.tmp 136] ?_;(try(refine jI T0_ ?_;dsimp only));have hyc_:=KY75.out;have hac_:=KA75.out;have hlc_:((t384.length:Int):Int)≤(y439.length:Int):=(od_);have h0c_:(0:Int)≤((t384.length:Int):Int):=(od_);refine Kd.R_copyin (w0:=w) w.heap.size rfl (.tmp 135) (.tmp 136) 23 5 rfl Try.underlying23 T4_ Ao76 y439.length co76 y439 t432 (((t384.length:Int):Int).toNat) _ _ _ _ _ _ rfl rfl hyc_ hac_ ?hoff (ru_ HO441.out) ?hR ?hB ?_;(case hoff=>omega);(case hR=>exact cu_ ((ji HO435.out).2.2));(case hB=>exact T31_);intro w78 ho hb hg;clear hyc_ hac_ hlc_ h0c_;rw[←Ny446.out] at ho;have n_:=P14_ (jx (v:=(.slice Ao76 y439.length co76)) (ru_ HO_15.out) (jz HO441.out) T3_ hg) (jx (v:=(.slice Ao76 y439.length co76)) (ru_ HO_18.out) (jz HO441.out) T3_ hg) (Kd.S_over' (v:=(.slice Ao76 y439.length co76)) (su_ HO_19.out) (jz HO441.out) T3_ hg) (jv (v:=(.slice Ao76 y439.length co76)) (v1:=(.slice Ao76 y439.length co76)) (ok:=(fun k_=>ne_ k_ (.slice Ao23 t387.length co23)∧ne_ k_ (.slice Ao77 t432.length co77))) (ru_ HO_410000.out) hg (.inl rfl)) (jv (v:=(.slice Ao76 y439.length co76)) (v1:=(.slice Ao76 y439.length co76)) (ok:=(fun k_=>ne_ k_ (.slice Ao21 t384.length co21)∧ne_ k_ (.slice Ao77 t432.length co77))) (ru_ HO_410001.out) hg (.inl rfl)) (Kd.S_after (v:=(.slice Ao76 y439.length co76)) (v1:=(.slice Ao76 y439.length co76)) (ok:=(fun k_=>ne_ k_ (.slice Ao21 t384.length co21)∧ne_ k_ (.slice Ao23 t387.length co23)∧ne_ k_ (.slice Ao77 t432.length co77))) (su_ HO_410002.out) hg (.inl rfl)) (jx (v:=(.slice Ao76 y439.length co76)) (ru_ HO_410003.out) (jz HO441.out) T3_ hg) (jx (v:=(.slice Ao76 y439.length co76)) (ru_ HO_410004.out) (jz HO441.out) T3_ hg) (Jg (g:=gb409) (o:=.cells #[.slice Ao21 t384.length co21,.slice Ao23 t387.length co23,.slice Ao24 t390.length co24,.slice Ao25 t393.length co25,.slice Ao26 t396.length co26] 57 (0,0)) (bu_ BK409.out) hg (Kd.R_ne HO441.out BK409.out T3_)) (jx (v:=(.slice Ao76 y439.length co76)) (ru_ HO428.out) (jz HO441.out) T3_ hg) (jx (v:=(.slice Ao76 y439.length co76)) (ru_ HO431.out) (jz HO441.out) T3_ hg) (jv (v:=(.slice Ao76 y439.length co76)) (v1:=(.slice Ao76 y439.length co76)) (ok:=(fun k_=>ne_ k_ (.slice Ao21 t384.length co21)∧ne_ k_ (.slice Ao23 t387.length co23))) (ru_ HO435.out) hg (.inl rfl)) (ho) (hb);clear HO_15 HO_18 HO_19 HO_410000 HO_410001 HO_410002 HO_410003 HO_410004 BK409 HO428 HO431 HO435 HO441 HB;obtain⟨HO_15,HO_18,HO_19,HO_410000,HO_410001,HO_410002,HO_410003,HO_410004,BK409,HO428,HO431,HO435,HO441,HB⟩:=n_;clear ho hb hg;obtain⟨hcz79_0,hcz79_1,hcz79_2,hcz79_3,hcz79_4,hfz79_0,hfz79_1,hfz79_2,hfz79_3,hfz79_4⟩:=cz5_ BK409.out))
   go_loopg [26,142] k2 (fun kq v26 v142 w'=>∃ (x25_3:List Int) (x26_3:Int) (x142_3:Int),v26 = .int .i64 x26_3∧v142 = .int .i64 x142_3∧Aside0 (riffle_Turn.l1 kq x19_2 x25_3 x26_3 t393 (t393.length:Int) x142_3 t384 t387 t390 t393 t396=some (r1,r2))∧Aside0 (kq≤k2)∧Aside0 (Kd.S (jB 3 (jb .i64)) 24 w' w.heap.size (fun k_=>ne_ k_ (.slice Ao25 t393.length co25)∧ne_ k_ (.slice Ao25 t393.length co25)∧ne_ k_ (.slice Ao26 t396.length co26)) v414 x19_2)∧Aside0 (jt (jb .u8) 5 w' w.heap.size (fun k_=>ne_ k_ (.slice Ao21 t384.length co21)∧ne_ k_ (.slice Ao23 t387.length co23)) (.slice Ao76 y439.length co76) x25_3)∧Aside0 (jt (jb .i64) 3 w' w.heap.size (fun k_=>ne_ k_ (.slice Ao26 t396.length co26)) (.slice Ao25 t393.length co25) t393)∧Aside0 (jt (jb .u8) 5 w' w.heap.size (fun k_=>ne_ k_ (.slice Ao76 y439.length co76)∧ne_ k_ (.slice Ao23 t387.length co23)) (.slice Ao21 t384.length co21) t384)∧Aside0 (jt (jb .u8) 5 w' w.heap.size (fun k_=>ne_ k_ (.slice Ao76 y439.length co76)∧ne_ k_ (.slice Ao21 t384.length co21)) (.slice Ao23 t387.length co23) t387)∧Aside0 (Kd.S (jB 5 (jb .u8)) 23 w' w.heap.size (fun k_=>ne_ k_ (.slice Ao76 y439.length co76)∧ne_ k_ (.slice Ao21 t384.length co21)∧ne_ k_ (.slice Ao23 t387.length co23)) (.slice Ao24 t390.length co24) t390)∧Aside0 (jt (jb .i64) 3 w' w.heap.size (fun k_=>ne_ k_ (.slice Ao26 t396.length co26)) (.slice Ao25 t393.length co25) t393)∧Aside0 (jt (jb .i64) 3 w' w.heap.size (fun k_=>ne_ k_ (.slice Ao25 t393.length co25)∧ne_ k_ (.slice Ao25 t393.length co25)) (.slice Ao26 t396.length co26) t396)∧Aside0 (w'.heap[gb409]? = some (.cells #[(.slice Ao21 t384.length co21),(.slice Ao23 t387.length co23),(.slice Ao24 t390.length co24),(.slice Ao25 t393.length co25),(.slice Ao26 t396.length co26)] 57 (0,0)))∧Aside0 (Below w.heap.size w w'))
   case atStart=>exact⟨(y446),(wrap64 ((t384.length:Int)+(cpn y439 (((t384.length:Int):Int).toNat) t432))),(0),T10_,T10_,H',⟨Nat.le_refl _⟩,⟨su_ (jC HO_19.out (fun _ hk=>⟨hk.1.1.2.2.1,⟨hk.1.1.2.2.1,hk.1.1.2.2.2⟩⟩))⟩,⟨ru_ (ja HO441.out (fun _ hk=>⟨hk.1,hk.2.1⟩))⟩,⟨ru_ (ja HO_410003.out (fun _ hk=>hk.1.1.2.2))⟩,⟨ru_ (ja HO_410000.out (fun _ hk=>⟨hk.2,hk.1.1⟩))⟩,⟨ru_ (ja HO_410001.out (fun _ hk=>⟨hk.2,hk.1.1⟩))⟩,⟨su_ (jC HO_410002.out (fun _ hk=>⟨hk.2,⟨hk.1.1,hk.1.2.1⟩⟩))⟩,⟨ru_ (ja HO_410003.out (fun _ hk=>hk.1.1.2.2))⟩,⟨ru_ (ja HO_410004.out (fun _ hk=>⟨hk.1.1.2.2,hk.1.1.2.2⟩))⟩,⟨bu_ BK409.out⟩,⟨T31_⟩⟩
   clear H'
   (try clear c1);(try clear c3);(try clear c32);(try clear c32b0);(try clear c55);(try clear c55b0 c55b1);(try clear c58);(try clear c58b0 c58b1);(try clear c60);(try clear c60b0 c60b1);(try clear c61);(try clear c61b0 c61b1);(try clear c75);(try clear q75);(try clear hcz62_0 hcz62_1 hcz62_2 hcz62_3 hcz62_4 hfz62_0 hfz62_1 hfz62_2 hfz62_3 hfz62_4);(try clear hcz74_0 hcz74_1 hcz74_2 hcz74_3 hcz74_4 hfz74_0 hfz74_1 hfz74_2 hfz74_3 hfz74_4);(try clear hcz79_0 hcz79_1 hcz79_2 hcz79_3 hcz79_4 hfz79_0 hfz79_1 hfz79_2 hfz79_3 hfz79_4);(try clear q075);(try clear BK409)
   obtain⟨x25_3,x26_3,x142_3,rfl,rfl,HA,HK3,HO_19,HO_25,HO_140,HO_410000,HO_410001,HO_410002,HO_410003,HO_410004,BK409,HB⟩:=hrel
   have hl25_3:=(ji HO_25.out).1
   rw[hl25_3] at HO_25
   (try simp only[hl25_3])
   (try simp only[hl25_3] at BK409)
   (try simp only[hl25_3] at HO_19)
   (try simp only[hl25_3] at HO_140)
   (try simp only[hl25_3] at HO_410000)
   (try simp only[hl25_3] at HO_410001)
   (try simp only[hl25_3] at HO_410002)
   (try simp only[hl25_3] at HO_410003)
   (try simp only[hl25_3] at HO_410004)
   cases gk with
   | zero=>exact absurd HA.out (by simp[riffle_Turn.l1])
   | succ k3 =>
    have H:=HA.out
    clear HA
    simp only[riffle_Turn.l1] at H
    by_cases c80:x142_3<(t393.length:Int)
    rotate_left
    ·rw[if_neg c80] at H
     have c80b0:=decide_eq_false c80
     (try(have c80b0_:=c80b0;simp only[hl25_3] at c80b0_))
     clear c80
     obtain⟨rfl,rfl⟩:=sj2_ H
     go_wp2
     go_ret2
     exact⟨_,T17_,ru_ (ja HO_25.out (fun _ hk=>trivial)),T31_⟩
    rw[if_pos c80] at H
    have c80b0:=decide_eq_true c80
    (try(have c80b0_:=c80b0;simp only[hl25_3] at c80b0_))
    clear c80
    replace H:=ifn_ H;obtain⟨c81,H⟩:=H
    have c81b0:=decide_eq_true c81
    (try(have c81b0_:=c81b0;simp only[hl25_3] at c81b0_))
    clear c81
    replace H:=ifn_ H;obtain⟨c82,H⟩:=H
    have c82b0:=decide_eq_true c82
    (try(have c82b0_:=c82b0;simp only[hl25_3] at c82b0_))
    clear c82
    replace H:=ifn_ H;obtain⟨c83,H⟩:=H
    have c83b0:=decide_eq_true c83
    (try(have c83b0_:=c83b0;simp only[hl25_3] at c83b0_))
    clear c83
    replace H:=Option.bind_eq_some_iff.mp H
    obtain⟨⟨t451,t452⟩,A840,H⟩:=H
    try dsimp only at H
    have A84:=am_ A840
    clear A840
    by_cases c85:t452=0
    rotate_left
    ·rw[if_neg c85] at H
     obtain⟨c85b0,c85b1⟩:=en_ c85
     obtain⟨rfl,rfl⟩:=sj2_ H
     obtain⟨ad449,e449,hx449_0,p449,q449⟩:=ai_ (ji HO_140.out).2.2 x142_3
     cases e449
     obtain⟨Ao109,co109,eo109⟩:=jT HO_19.out
     subst eo109
     have p450:0≤(x142_3:Int):=od_
     have q450:x142_3<(x19_2.length:Int):=od_
     obtain⟨ad450,A450_0,c450_0,e450,hx450_0,hl450_0,hi450_0⟩:=at_L3 (jK HO_19.out).2.2 x142_3 p450 q450
     cases e450
     obtain⟨ce450,hce450,hMe450,hcc450⟩:=Kd.S_get HO_19.out [] x142_3 p450 T14_
     obtain⟨ve450_0,rfl,ge450_0⟩:=hMe450
     have hv450_0:=hcc450 0 _ rfl
     rw[Nat.add_zero,show((jB 3 (jb .i64))).sz=1 from rfl,Nat.mul_one] at hv450_0
     replace hv450_0:=Option.some.inj (hv450_0.symm.trans hx450_0)
     rw[hv450_0] at ge450_0
     have HL450_0:=am_ (show jt (jb .i64) 3 _ _ _ _ (rd_L3 x19_2 x142_3) from ge450_0)
     clear hv450_0 ge450_0
     have HX450_0:=am_ hx450_0
     clear hcc450 hce450
     have HR450_0:=am_ hi450_0
     have HC450_0:=am_ hl450_0
     clear hi450_0 hl450_0
     replace p450:=eq_true p450
     replace q450:=eq_true q450
     go_wp2_with(first|(refine gc_ 37 ?_;refine gl_ (some 152) Try.func37 #[.slice A450_0 (rd_L3 x19_2 x142_3).length c450_0] ?_;(with_reducible refine(perm_Draws.calls k3 _ _ (rd_L3 x19_2 x142_3) t451 t452 _ ?side1 ?side2 A84.out).mono ?_);(case side1=>exact cu_ HR450_0.out);(case side2=>exact HC450_0.out);rintro e w110 ⟨v453,rfl,ho0,hb⟩;refine⟨_,rfl,?_⟩;have n_:=P14_ (jL (su_ HO_19.out) (jf ho0) hb) (je (ru_ HO_25.out) hb) (jg (ru_ HO_140.out) (jf ho0) hb) (je (ru_ HO_410000.out) hb) (je (ru_ HO_410001.out) hb) (jD (su_ HO_410002.out) hb) (jg (ru_ HO_410003.out) (jf ho0) hb) (jg (ru_ HO_410004.out) (jf ho0) hb) (jg (ru_ HL450_0.out) (jf ho0) hb) (jq (jj (jj (jj (jj ho0 (jh (ru_ HO_140.out))) (jh (ru_ HO_410003.out))) (jh (ru_ HO_410004.out))) (jh (ru_ HL450_0.out))) (jc T31_)) (jo (bu_ BK409.out) hb) (jw (cu_ HR450_0.out) hb) (pw_cell_below hb HX450_0.out) (jk T31_ hb);clear HO_19 HO_25 HO_140 HO_410000 HO_410001 HO_410002 HO_410003 HO_410004 HL450_0 BK409 HR450_0 HX450_0 HB;obtain⟨HO_19,HO_25,HO_140,HO_410000,HO_410001,HO_410002,HO_410003,HO_410004,HL450_0,HO454,BK409,HR450_0,HX450_0,HB⟩:=n_;clear hb ho0))
     go_ret2
     exact⟨_,T17_,T21_,T31_⟩
    rw[if_pos c85] at H
    obtain⟨c85b0,c85b1⟩:=ep_ c85
    clear c85
    replace H:=ifn_ H;obtain⟨c86,H⟩:=H
    have c86b0:=decide_eq_true c86
    (try(have c86b0_:=c86b0;simp only[hl25_3] at c86b0_))
    clear c86
    replace H:=Option.bind_eq_some_iff.mp H
    obtain⟨t456,A870,H⟩:=H
    try dsimp only at H
    have A87:=am_ A870
    clear A870
    replace H:=Option.bind_eq_some_iff.mp H
    obtain⟨⟨t459,t460⟩,A880,H⟩:=H
    try dsimp only at H
    have A88:=am_ A880
    clear A880
    by_cases c89:t460=0
    rotate_left
    ·rw[if_neg c89] at H
     obtain⟨c89b0,c89b1⟩:=en_ c89
     obtain⟨rfl,rfl⟩:=sj2_ H
     obtain⟨ad449,e449,hx449_0,p449,q449⟩:=ai_ (ji HO_140.out).2.2 x142_3
     cases e449
     obtain⟨Ao102,co102,eo102⟩:=jT HO_19.out
     subst eo102
     have p450:0≤(x142_3:Int):=od_
     have q450:x142_3<(x19_2.length:Int):=od_
     obtain⟨ad450,A450_0,c450_0,e450,hx450_0,hl450_0,hi450_0⟩:=at_L3 (jK HO_19.out).2.2 x142_3 p450 q450
     cases e450
     obtain⟨ce450,hce450,hMe450,hcc450⟩:=Kd.S_get HO_19.out [] x142_3 p450 T14_
     obtain⟨ve450_0,rfl,ge450_0⟩:=hMe450
     have hv450_0:=hcc450 0 _ rfl
     rw[Nat.add_zero,show((jB 3 (jb .i64))).sz=1 from rfl,Nat.mul_one] at hv450_0
     replace hv450_0:=Option.some.inj (hv450_0.symm.trans hx450_0)
     rw[hv450_0] at ge450_0
     have HL450_0:=am_ (show jt (jb .i64) 3 _ _ _ _ (rd_L3 x19_2 x142_3) from ge450_0)
     clear hv450_0 ge450_0
     have HX450_0:=am_ hx450_0
     clear hcc450 hce450
     have HR450_0:=am_ hi450_0
     have HC450_0:=am_ hl450_0
     clear hi450_0 hl450_0
     replace p450:=eq_true p450
     replace q450:=eq_true q450
     try go_wp2_with(first|(refine gc_ 37 ?_;refine gl_ (some 152) Try.func37 #[.slice A450_0 (rd_L3 x19_2 x142_3).length c450_0] ?_;(with_reducible refine(perm_Draws.calls k3 _ _ (rd_L3 x19_2 x142_3) t451 t452 _ ?side1 ?side2 A84.out).mono ?_);(case side1=>exact cu_ HR450_0.out);(case side2=>exact HC450_0.out);rintro e w103 ⟨v453,rfl,ho0,hb⟩;refine⟨_,rfl,?_⟩;have n_:=P14_ (jL (su_ HO_19.out) (jf ho0) hb) (je (ru_ HO_25.out) hb) (jg (ru_ HO_140.out) (jf ho0) hb) (je (ru_ HO_410000.out) hb) (je (ru_ HO_410001.out) hb) (jD (su_ HO_410002.out) hb) (jg (ru_ HO_410003.out) (jf ho0) hb) (jg (ru_ HO_410004.out) (jf ho0) hb) (jg (ru_ HL450_0.out) (jf ho0) hb) (jq (jj (jj (jj (jj ho0 (jh (ru_ HO_140.out))) (jh (ru_ HO_410003.out))) (jh (ru_ HO_410004.out))) (jh (ru_ HL450_0.out))) (jc T31_)) (jo (bu_ BK409.out) hb) (jw (cu_ HR450_0.out) hb) (pw_cell_below hb HX450_0.out) (jk T31_ hb);clear HO_19 HO_25 HO_140 HO_410000 HO_410001 HO_410002 HO_410003 HO_410004 HL450_0 BK409 HR450_0 HX450_0 HB;obtain⟨HO_19,HO_25,HO_140,HO_410000,HO_410001,HO_410002,HO_410003,HO_410004,HL450_0,HO454,BK409,HR450_0,HX450_0,HB⟩:=n_;clear hb ho0))
     have n_:=P13_ (Ja HO_19.out) (js HO_25.out) (js HO_140.out) (js HO_410000.out) (js HO_410001.out) (Ja HO_410002.out) (js HO_410003.out) (js HO_410004.out) (js HL450_0.out) (js HO454.out) (jl BK409.out) (Kd.C_drew HR450_0.out) (jJ HB.out)
     clear HO_19 HO_25 HO_140 HO_410000 HO_410001 HO_410002 HO_410003 HO_410004 HL450_0 HO454 BK409 HR450_0 HB
     obtain⟨HO_19,HO_25,HO_140,HO_410000,HO_410001,HO_410002,HO_410003,HO_410004,HL450_0,HO454,BK409,HR450_0,HB⟩:=n_
     have p455:0≤(x142_3:Int):=od_
     have q455:x142_3<(t390.length:Int):=od_
     obtain⟨ad455,A455_0,c455_0,e455,hx455_0,hl455_0,hi455_0⟩:=at_L2 (jK HO_410002.out).2.2 x142_3 p455 q455
     cases e455
     obtain⟨ce455,hce455,hMe455,hcc455⟩:=Kd.S_get HO_410002.out [] x142_3 p455 (by first|exact q455|exact od_|(have e_:=(jK HO_410002.out).1;omega))
     obtain⟨ve455_0,rfl,ge455_0⟩:=hMe455
     have hv455_0:=hcc455 0 _ rfl
     rw[Nat.add_zero,show((jB 5 (jb .u8))).sz=1 from rfl,Nat.mul_one] at hv455_0
     replace hv455_0:=Option.some.inj (hv455_0.symm.trans hx455_0)
     rw[hv455_0] at ge455_0
     have HL455_0:=am_ (show jt (jb .u8) 5 _ _ _ _ (rd_L2 t390 x142_3) from ge455_0)
     clear hv455_0 ge455_0
     have HX455_0:=am_ hx455_0
     clear hcc455 hce455
     have HR455_0:=am_ hi455_0
     have HC455_0:=am_ hl455_0
     clear hi455_0 hl455_0
     replace p455:=eq_true p455
     replace q455:=eq_true q455
     refine start_ (n:=15) (S:=fun w'=>w'.cell? ⟨gb409,0,none⟩=some (.slice Ao21 t384.length co21)∧w'.cell? ⟨gb409,1,none⟩=some (.slice Ao23 t387.length co23)∧w'.cell? ⟨gb409,2,none⟩=some (.slice (some ad455) t390.length co24)∧w'.cell? ⟨gb409,3,none⟩=some (.slice (some ad449) t393.length co25)∧w'.cell? ⟨gb409,4,none⟩=some (.slice Ao26 t396.length co26)∧w'.cell? (ad455.add (x142_3).toNat)=some (.slice A455_0 (rd_L2 t390 x142_3).length c455_0)) (ds:=[]) #[false,false,false,false,false,false,false,false,false,false,false,false,false,false,false] T4_ rfl rfl ⟨bc_ BK409.out 0,bc_ BK409.out 1,bc_ BK409.out 2,bc_ BK409.out 3,bc_ BK409.out 4,hx455_0⟩ (fun hHeld=>?_);refine Jf riffle_Turn.tab34 riffle_Turn.bits34 (fun HT_ HW_=>?_)
     generalize w103.drew=w104 at HO_19 HO_25 HO_140 HO_410000 HO_410001 HO_410002 HO_410003 HO_410004 HL450_0 HO454 BK409 HR450_0 HB HL455_0 HR455_0 HX455_0 hx455_0 hHeld ⊢
     refine pz_ 0 (some 159) ?_
     refine pz_ 1 (some 160) ?_
     refine pz_ 3 (some 162) ?_
     refine pz_ 6 (some 165) ?_
     refine pz_ 8 (some 167) ?_
     refine tz6_ 2 (some 161) hHeld ?_
     refine pz_ 4 (some 163) ?_
     refine tz6_ 5 (some 164) hHeld ?_
     refine oz_ 7 (some 166) (fun K hK=>?_)
     refine goes_ Try.func38 T4_ rfl #[.int .i64 (rd t393 x142_3)] T0_ rfl rfl T20_ ?_
     with_reducible refine(perm_Bounds.calls k3 (rd t393 x142_3) t456 _ A87.out).mono ?_
     rintro e w105 ⟨v457,rfl,ho0,hb⟩
     have HS5_:=(hb.cell (World.block_lt_of_cell? _ _ (hHeld.2.2.2.2.2))).trans (hHeld.2.2.2.2.2)
     refine⟨_,rfl,?_⟩
     have n_:=P17_ (jL (su_ HO_19.out) (jf ho0) hb) (je (ru_ HO_25.out) hb) (jg (ru_ HO_140.out) (jf ho0) hb) (je (ru_ HO_410000.out) hb) (je (ru_ HO_410001.out) hb) (jD (su_ HO_410002.out) hb) (jg (ru_ HO_410003.out) (jf ho0) hb) (jg (ru_ HO_410004.out) (jf ho0) hb) (jg (ru_ HL450_0.out) (jf ho0) hb) (jg (ru_ HO454.out) (jf ho0) hb) (je (ru_ HL455_0.out) hb) (jq (jj (jj (jj (jj (jj ho0 (jh (ru_ HO_140.out))) (jh (ru_ HO_410003.out))) (jh (ru_ HO_410004.out))) (jh (ru_ HL450_0.out))) (jh (ru_ HO454.out))) (jc T31_)) (jo (bu_ BK409.out) hb) (jw (cu_ HR450_0.out) hb) (jw (cu_ HR455_0.out) hb) (pw_cell_below hb HX455_0.out) (jk T31_ hb)
     clear HO_19 HO_25 HO_140 HO_410000 HO_410001 HO_410002 HO_410003 HO_410004 HL450_0 HO454 HL455_0 BK409 HR450_0 HR455_0 HX455_0 HB
     obtain⟨HO_19,HO_25,HO_140,HO_410000,HO_410001,HO_410002,HO_410003,HO_410004,HL450_0,HO454,HL455_0,HO458,BK409,HR450_0,HR455_0,HX455_0,HB⟩:=n_
     (try clear hb);(try clear hk);(try clear ho0)
     obtain⟨Ao106,co106,eo106⟩:=jp HO458.out
     (first|subst eo106|(injection eo106 with f1_ f2_ f3_;have f4_:=f1_.symm;have f5_:=f3_.symm;clear f1_ f2_ f3_;subst f4_;subst f5_))
     obtain⟨Ao107,co107,eo107⟩:=jp HO454.out
     (first|subst eo107|(injection eo107 with f1_ f2_ f3_;have f4_:=f1_.symm;have f5_:=f3_.symm;clear f1_ f2_ f3_;subst f4_;subst f5_))
     refine hK.out _ _ ⟨bc_ BK409.out 0,bc_ BK409.out 1,bc_ BK409.out 2,bc_ BK409.out 3,bc_ BK409.out 4,HS5_⟩ (fun hHeld=>?_)
     clear hK K
     refine norm_ (a':=?_) ?_ ?_
     rotate_left
     ·show Act.put _ (some 166) _=_
      simp only[Act.put,List.setIfInBounds_toArray,List.set_cons_zero,List.set_cons_succ,jF,jG]
      rfl
     refine oz_ 9 (some 168) (fun K hK=>?_)
     refine goes_ Try.func35 T4_ rfl #[.slice A455_0 (rd_L2 t390 x142_3).length c455_0,.slice Ao106 t456.length co106,.slice Ao107 t451.length co107] T0_ rfl rfl T20_ ?_
     with_reducible refine(draw_Turn.calls _ _ (rd_L2 t390 x142_3) _ _ t456 _ _ t451 t459 t460 _ ?side1 ?side2 ?side3 ?side4 ?side5 ?side6 A88.out).mono ?_
     (case side1=>exact cu_ HR455_0.out)
     (case side2=>exact HC455_0.out)
     (case side3=>exact cu_ ((ji HO458.out).2.2))
     (case side4=>exact(ji HO458.out).2.1)
     (case side5=>exact cu_ ((ji HO454.out).2.2))
     (case side6=>exact(ji HO454.out).2.1)
     rintro e w108 ⟨v461,rfl,ho0,hb⟩
     have HS5_:=(hb.cell (World.block_lt_of_cell? _ _ (hHeld.2.2.2.2.2))).trans (hHeld.2.2.2.2.2)
     refine⟨_,rfl,?_⟩
     have n_:=P18_ (jD (su_ HO_19.out) hb) (jg (ru_ HO_25.out) (jf ho0) hb) (je (ru_ HO_140.out) hb) (jg (ru_ HO_410000.out) (jf ho0) hb) (jg (ru_ HO_410001.out) (jf ho0) hb) (jL (su_ HO_410002.out) (jf ho0) hb) (je (ru_ HO_410003.out) hb) (je (ru_ HO_410004.out) hb) (je (ru_ HL450_0.out) hb) (je (ru_ HO454.out) hb) (jg (ru_ HL455_0.out) (jf ho0) hb) (je (ru_ HO458.out) hb) (jq (jj (jj (jj (jj ho0 (jh (ru_ HO_25.out))) (jh (ru_ HO_410000.out))) (jh (ru_ HO_410001.out))) (jh (ru_ HL455_0.out))) (jc T31_)) (jo (bu_ BK409.out) hb) (jw (cu_ HR450_0.out) hb) (jw (cu_ HR455_0.out) hb) (pw_cell_below hb HX455_0.out) (jk T31_ hb)
     clear HO_19 HO_25 HO_140 HO_410000 HO_410001 HO_410002 HO_410003 HO_410004 HL450_0 HO454 HL455_0 HO458 BK409 HR450_0 HR455_0 HX455_0 HB
     obtain⟨HO_19,HO_25,HO_140,HO_410000,HO_410001,HO_410002,HO_410003,HO_410004,HL450_0,HO454,HL455_0,HO458,HO462,BK409,HR450_0,HR455_0,HX455_0,HB⟩:=n_
     (try clear hb);(try clear hk);(try clear ho0)
     refine hK.out _ _ ⟨bc_ BK409.out 0,bc_ BK409.out 1,bc_ BK409.out 2,bc_ BK409.out 3,bc_ BK409.out 4,HS5_⟩ (fun hHeld=>?_)
     clear hK K
     refine norm_ (a':=?_) ?_ ?_
     rotate_left
     ·show Act.put _ (some 168) _=_
      simp only[Act.put,List.setIfInBounds_toArray,List.set_cons_zero,List.set_cons_succ,jF,jG]
      rfl
     refine pz_ 10 (some 158) ?_
     refine pz_ 11 (some 169) ?_
     refine pz_ 12 (some 170) ?_
     refine pz_ 13 (some 31) ?_
     refine pz_ 14 (some 30) ?_
     refine done_ (done_of HT_.out T4_) ?_
     try go_wp2
     go_ret2
     exact⟨_,T17_,T21_,T31_⟩
    rw[if_pos c89] at H
    obtain⟨c89b0,c89b1⟩:=ep_ c89
    clear c89
    replace H:=ifn_ H;obtain⟨c90,H⟩:=H
    have c90b0:=eq_true c90
    have c90b1:decide (0≤x26_3)=true:=decide_eq_true c90
    (try(have c90b1_:=c90b1;simp only[hl25_3] at c90b1_))
    clear c90
    replace H:=ifn_ H;obtain⟨c91,H⟩:=H
    have c91b0:=eq_true c91
    have c91b1:decide (x26_3≤(x25_3.length:Int))=true:=decide_eq_true c91
    (try(have c91b1_:=c91b1;simp only[hl25_3] at c91b1_))
    clear c91
    obtain⟨y463,hy_⟩:∃ y_:List Int,y_=(x25_3.drop (x26_3:Int).toNat):=⟨_,rfl⟩
    replace H:(riffle_Turn.l1 k3 x19_2 (cpy x25_3 ((x26_3:Int).toNat) t459) (wrap64 (x26_3+(cpn x25_3 ((x26_3:Int).toNat) t459))) t393 (t393.length:Int) (wrap64 (x142_3+1)) t384 t387 t390 t393 t396)=some (r1,r2):=hyw_
    have Ny463:=am_ hy_
    clear hy_
    obtain⟨y467,hy_⟩:∃ y_:List Int,y_=(cpy x25_3 ((x26_3:Int).toNat) t459):=⟨_,rfl⟩
    replace H:(riffle_Turn.l1 k3 x19_2 y467 (wrap64 (x26_3+(cpn x25_3 ((x26_3:Int).toNat) t459))) t393 (t393.length:Int) (wrap64 (x142_3+1)) t384 t387 t390 t393 t396)=some (r1,r2):=hyw_
    have Ny467:=am_ hy_
    clear hy_
    have H':=am_ H
    clear H
    obtain⟨ad449,e449,hx449_0,p449,q449⟩:=ai_ (ji HO_140.out).2.2 x142_3
    cases e449
    obtain⟨Ao92,co92,eo92⟩:=jT HO_19.out
    subst eo92
    have p450:0≤(x142_3:Int):=od_
    have q450:x142_3<(x19_2.length:Int):=od_
    obtain⟨ad450,A450_0,c450_0,e450,hx450_0,hl450_0,hi450_0⟩:=at_L3 (jK HO_19.out).2.2 x142_3 p450 q450
    cases e450
    obtain⟨ce450,hce450,hMe450,hcc450⟩:=Kd.S_get HO_19.out [] x142_3 p450 T14_
    obtain⟨ve450_0,rfl,ge450_0⟩:=hMe450
    have hv450_0:=hcc450 0 _ rfl
    rw[Nat.add_zero,show((jB 3 (jb .i64))).sz=1 from rfl,Nat.mul_one] at hv450_0
    replace hv450_0:=Option.some.inj (hv450_0.symm.trans hx450_0)
    rw[hv450_0] at ge450_0
    have HL450_0:=am_ (show jt (jb .i64) 3 _ _ _ _ (rd_L3 x19_2 x142_3) from ge450_0)
    clear hv450_0 ge450_0
    have HX450_0:=am_ hx450_0
    clear hcc450 hce450
    have HR450_0:=am_ hi450_0
    have HC450_0:=am_ hl450_0
    clear hi450_0 hl450_0
    replace p450:=eq_true p450
    replace q450:=eq_true q450
    try go_wp2_with(first|(refine gc_ 37 ?_;refine gl_ (some 152) Try.func37 #[.slice A450_0 (rd_L3 x19_2 x142_3).length c450_0] ?_;(with_reducible refine(perm_Draws.calls k3 _ _ (rd_L3 x19_2 x142_3) t451 t452 _ ?side1 ?side2 A84.out).mono ?_);(case side1=>exact cu_ HR450_0.out);(case side2=>exact HC450_0.out);rintro e w93 ⟨v453,rfl,ho0,hb⟩;refine⟨_,rfl,?_⟩;have n_:=P14_ (jL (su_ HO_19.out) (jf ho0) hb) (je (ru_ HO_25.out) hb) (jg (ru_ HO_140.out) (jf ho0) hb) (je (ru_ HO_410000.out) hb) (je (ru_ HO_410001.out) hb) (jD (su_ HO_410002.out) hb) (jg (ru_ HO_410003.out) (jf ho0) hb) (jg (ru_ HO_410004.out) (jf ho0) hb) (jg (ru_ HL450_0.out) (jf ho0) hb) (jq (jj (jj (jj (jj ho0 (jh (ru_ HO_140.out))) (jh (ru_ HO_410003.out))) (jh (ru_ HO_410004.out))) (jh (ru_ HL450_0.out))) (jc T31_)) (jo (bu_ BK409.out) hb) (jw (cu_ HR450_0.out) hb) (pw_cell_below hb HX450_0.out) (jk T31_ hb);clear HO_19 HO_25 HO_140 HO_410000 HO_410001 HO_410002 HO_410003 HO_410004 HL450_0 BK409 HR450_0 HX450_0 HB;obtain⟨HO_19,HO_25,HO_140,HO_410000,HO_410001,HO_410002,HO_410003,HO_410004,HL450_0,HO454,BK409,HR450_0,HX450_0,HB⟩:=n_;clear hb ho0))
    have n_:=P13_ (Ja HO_19.out) (js HO_25.out) (js HO_140.out) (js HO_410000.out) (js HO_410001.out) (Ja HO_410002.out) (js HO_410003.out) (js HO_410004.out) (js HL450_0.out) (js HO454.out) (jl BK409.out) (Kd.C_drew HR450_0.out) (jJ HB.out)
    clear HO_19 HO_25 HO_140 HO_410000 HO_410001 HO_410002 HO_410003 HO_410004 HL450_0 HO454 BK409 HR450_0 HB
    obtain⟨HO_19,HO_25,HO_140,HO_410000,HO_410001,HO_410002,HO_410003,HO_410004,HL450_0,HO454,BK409,HR450_0,HB⟩:=n_
    have p455:0≤(x142_3:Int):=od_
    have q455:x142_3<(t390.length:Int):=od_
    obtain⟨ad455,A455_0,c455_0,e455,hx455_0,hl455_0,hi455_0⟩:=at_L2 (jK HO_410002.out).2.2 x142_3 p455 q455
    cases e455
    obtain⟨ce455,hce455,hMe455,hcc455⟩:=Kd.S_get HO_410002.out [] x142_3 p455 (by first|exact q455|exact od_|(have e_:=(jK HO_410002.out).1;omega))
    obtain⟨ve455_0,rfl,ge455_0⟩:=hMe455
    have hv455_0:=hcc455 0 _ rfl
    rw[Nat.add_zero,show((jB 5 (jb .u8))).sz=1 from rfl,Nat.mul_one] at hv455_0
    replace hv455_0:=Option.some.inj (hv455_0.symm.trans hx455_0)
    rw[hv455_0] at ge455_0
    have HL455_0:=am_ (show jt (jb .u8) 5 _ _ _ _ (rd_L2 t390 x142_3) from ge455_0)
    clear hv455_0 ge455_0
    have HX455_0:=am_ hx455_0
    clear hcc455 hce455
    have HR455_0:=am_ hi455_0
    have HC455_0:=am_ hl455_0
    clear hi455_0 hl455_0
    replace p455:=eq_true p455
    replace q455:=eq_true q455
    refine start_ (n:=15) (S:=fun w'=>w'.cell? ⟨gb409,0,none⟩=some (.slice Ao21 t384.length co21)∧w'.cell? ⟨gb409,1,none⟩=some (.slice Ao23 t387.length co23)∧w'.cell? ⟨gb409,2,none⟩=some (.slice (some ad455) t390.length co24)∧w'.cell? ⟨gb409,3,none⟩=some (.slice (some ad449) t393.length co25)∧w'.cell? ⟨gb409,4,none⟩=some (.slice Ao26 t396.length co26)∧w'.cell? (ad455.add (x142_3).toNat)=some (.slice A455_0 (rd_L2 t390 x142_3).length c455_0)) (ds:=[]) #[false,false,false,false,false,false,false,false,false,false,false,false,false,false,false] T4_ rfl rfl ⟨bc_ BK409.out 0,bc_ BK409.out 1,bc_ BK409.out 2,bc_ BK409.out 3,bc_ BK409.out 4,hx455_0⟩ (fun hHeld=>?_);refine Jf riffle_Turn.tab34 riffle_Turn.bits34 (fun HT_ HW_=>?_)
    generalize w93.drew=w94 at HO_19 HO_25 HO_140 HO_410000 HO_410001 HO_410002 HO_410003 HO_410004 HL450_0 HO454 BK409 HR450_0 HB HL455_0 HR455_0 HX455_0 hx455_0 hHeld ⊢
    refine pz_ 0 (some 159) ?_
    refine pz_ 1 (some 160) ?_
    refine pz_ 3 (some 162) ?_
    refine pz_ 6 (some 165) ?_
    refine pz_ 8 (some 167) ?_
    refine tz6_ 2 (some 161) hHeld ?_
    refine pz_ 4 (some 163) ?_
    refine tz6_ 5 (some 164) hHeld ?_
    refine oz_ 7 (some 166) (fun K hK=>?_)
    refine goes_ Try.func38 T4_ rfl #[.int .i64 (rd t393 x142_3)] T0_ rfl rfl T20_ ?_
    with_reducible refine(perm_Bounds.calls k3 (rd t393 x142_3) t456 _ A87.out).mono ?_
    rintro e w95 ⟨v457,rfl,ho0,hb⟩
    have HS5_:=(hb.cell (World.block_lt_of_cell? _ _ (hHeld.2.2.2.2.2))).trans (hHeld.2.2.2.2.2)
    refine⟨_,rfl,?_⟩
    have n_:=P17_ (jL (su_ HO_19.out) (jf ho0) hb) (je (ru_ HO_25.out) hb) (jg (ru_ HO_140.out) (jf ho0) hb) (je (ru_ HO_410000.out) hb) (je (ru_ HO_410001.out) hb) (jD (su_ HO_410002.out) hb) (jg (ru_ HO_410003.out) (jf ho0) hb) (jg (ru_ HO_410004.out) (jf ho0) hb) (jg (ru_ HL450_0.out) (jf ho0) hb) (jg (ru_ HO454.out) (jf ho0) hb) (je (ru_ HL455_0.out) hb) (jq (jj (jj (jj (jj (jj ho0 (jh (ru_ HO_140.out))) (jh (ru_ HO_410003.out))) (jh (ru_ HO_410004.out))) (jh (ru_ HL450_0.out))) (jh (ru_ HO454.out))) (jc T31_)) (jo (bu_ BK409.out) hb) (jw (cu_ HR450_0.out) hb) (jw (cu_ HR455_0.out) hb) (pw_cell_below hb HX455_0.out) (jk T31_ hb)
    clear HO_19 HO_25 HO_140 HO_410000 HO_410001 HO_410002 HO_410003 HO_410004 HL450_0 HO454 HL455_0 BK409 HR450_0 HR455_0 HX455_0 HB
    obtain⟨HO_19,HO_25,HO_140,HO_410000,HO_410001,HO_410002,HO_410003,HO_410004,HL450_0,HO454,HL455_0,HO458,BK409,HR450_0,HR455_0,HX455_0,HB⟩:=n_
    (try clear hb);(try clear hk);(try clear ho0)
    obtain⟨Ao96,co96,eo96⟩:=jp HO458.out
    (first|subst eo96|(injection eo96 with f1_ f2_ f3_;have f4_:=f1_.symm;have f5_:=f3_.symm;clear f1_ f2_ f3_;subst f4_;subst f5_))
    obtain⟨Ao97,co97,eo97⟩:=jp HO454.out
    (first|subst eo97|(injection eo97 with f1_ f2_ f3_;have f4_:=f1_.symm;have f5_:=f3_.symm;clear f1_ f2_ f3_;subst f4_;subst f5_))
    refine hK.out _ _ ⟨bc_ BK409.out 0,bc_ BK409.out 1,bc_ BK409.out 2,bc_ BK409.out 3,bc_ BK409.out 4,HS5_⟩ (fun hHeld=>?_)
    clear hK K
    refine norm_ (a':=?_) ?_ ?_
    rotate_left
    ·show Act.put _ (some 166) _=_
     simp only[Act.put,List.setIfInBounds_toArray,List.set_cons_zero,List.set_cons_succ,jF,jG]
     rfl
    refine oz_ 9 (some 168) (fun K hK=>?_)
    refine goes_ Try.func35 T4_ rfl #[.slice A455_0 (rd_L2 t390 x142_3).length c455_0,.slice Ao96 t456.length co96,.slice Ao97 t451.length co97] T0_ rfl rfl T20_ ?_
    with_reducible refine(draw_Turn.calls _ _ (rd_L2 t390 x142_3) _ _ t456 _ _ t451 t459 t460 _ ?side1 ?side2 ?side3 ?side4 ?side5 ?side6 A88.out).mono ?_
    (case side1=>exact cu_ HR455_0.out)
    (case side2=>exact HC455_0.out)
    (case side3=>exact cu_ ((ji HO458.out).2.2))
    (case side4=>exact(ji HO458.out).2.1)
    (case side5=>exact cu_ ((ji HO454.out).2.2))
    (case side6=>exact(ji HO454.out).2.1)
    rintro e w98 ⟨v461,rfl,ho0,hb⟩
    have HS5_:=(hb.cell (World.block_lt_of_cell? _ _ (hHeld.2.2.2.2.2))).trans (hHeld.2.2.2.2.2)
    refine⟨_,rfl,?_⟩
    have n_:=P18_ (jD (su_ HO_19.out) hb) (jg (ru_ HO_25.out) (jf ho0) hb) (je (ru_ HO_140.out) hb) (jg (ru_ HO_410000.out) (jf ho0) hb) (jg (ru_ HO_410001.out) (jf ho0) hb) (jL (su_ HO_410002.out) (jf ho0) hb) (je (ru_ HO_410003.out) hb) (je (ru_ HO_410004.out) hb) (je (ru_ HL450_0.out) hb) (je (ru_ HO454.out) hb) (jg (ru_ HL455_0.out) (jf ho0) hb) (je (ru_ HO458.out) hb) (jq (jj (jj (jj (jj ho0 (jh (ru_ HO_25.out))) (jh (ru_ HO_410000.out))) (jh (ru_ HO_410001.out))) (jh (ru_ HL455_0.out))) (jc T31_)) (jo (bu_ BK409.out) hb) (jw (cu_ HR450_0.out) hb) (jw (cu_ HR455_0.out) hb) (pw_cell_below hb HX455_0.out) (jk T31_ hb)
    clear HO_19 HO_25 HO_140 HO_410000 HO_410001 HO_410002 HO_410003 HO_410004 HL450_0 HO454 HL455_0 HO458 BK409 HR450_0 HR455_0 HX455_0 HB
    obtain⟨HO_19,HO_25,HO_140,HO_410000,HO_410001,HO_410002,HO_410003,HO_410004,HL450_0,HO454,HL455_0,HO458,HO462,BK409,HR450_0,HR455_0,HX455_0,HB⟩:=n_
    (try clear hb);(try clear hk);(try clear ho0)
    refine hK.out _ _ ⟨bc_ BK409.out 0,bc_ BK409.out 1,bc_ BK409.out 2,bc_ BK409.out 3,bc_ BK409.out 4,HS5_⟩ (fun hHeld=>?_)
    clear hK K
    refine norm_ (a':=?_) ?_ ?_
    rotate_left
    ·show Act.put _ (some 168) _=_
     simp only[Act.put,List.setIfInBounds_toArray,List.set_cons_zero,List.set_cons_succ,jF,jG]
     rfl
    refine pz_ 10 (some 158) ?_
    refine pz_ 11 (some 169) ?_
    refine pz_ 12 (some 170) ?_
    refine pz_ 13 (some 31) ?_
    refine pz_ 14 (some 30) ?_
    refine done_ (done_of HT_.out T4_) ?_
    have q99:(x26_3:Int)≤((x25_3.length:Int):Int):=od_
    obtain⟨i099,hi099,_,hsz99,_⟩:=info_parts info5
    have hroom99:x25_3.length≤co76:=(ji HO_25.out).2.1
    have hC99:jX (jb .u8) _ Ao76 x25_3.length x25_3:=(ji HO_25.out).2.2
    have q099:(0:Int)≤(x26_3:Int):=od_
    have hcut99:=cut_from (P:=Try.prog) 23 5 .i64 Try.underlying23 hi099 1 hsz99 Ao76 x25_3.length co76 x26_3 q099 q99
    have hr99:=Kd.C_drop (m:=(x26_3:Int).toNat) (c:=co76) hC99 T2_ hroom99
    obtain⟨A99,hA99⟩:∃ A1,A1=(if co76=(x26_3:Int).toNat then Ao76 else(Ao76:Option Addr).map (·.add ((x26_3:Int).toNat*1))):=⟨_,rfl⟩
    obtain⟨c99,hc99⟩:∃ c1,c1=co76-(x26_3:Int).toNat:=⟨_,rfl⟩
    have hy99:y463.length=x25_3.length-(x26_3:Int).toNat:=(by rw[Ny463.out,List.length_drop] <;> omega)
    rw[show(x25_3).drop (x26_3:Int).toNat=y463 from Ny463.out.symm] at hr99
    replace hr99:jX (jb .u8) _ A99 y463.length y463:=(by rw[hA99];exact hr99)
    rw[←hy99,←hA99,←hc99] at hcut99
    have HR466:=am_ hr99
    have HC466:=am_ (show y463.length≤c99 from by rw[hy99,hc99];exact Nat.sub_le_sub_right hroom99 _)
    clear hr99 hC99 hroom99 hi099 hsz99 hc99
    have KY99:=am_ hy99
    have KA99:=am_ hA99
    clear hy99 hA99
    have KL99:=am_ (show(x26_3:Int).toNat≤x25_3.length from by omega)
    replace q99:=eq_true q99
    obtain⟨Ao100,co100,eo100⟩:=jp HO462.out
    subst eo100
    have n_:=am_ (ja (ok':=(fun k_=>ne_ k_ (.slice Ao21 t384.length co21)∧ne_ k_ (.slice Ao23 t387.length co23)∧ne_ k_ (.slice Ao100 t459.length co100))) HO_25.out (fun k_ hk=>⟨hk.1.1,⟨hk.1.2,hk.2⟩⟩))
    clear HO_25
    have HO_25:=n_
    clear n_
    try go_wp2_with(first|(refine gb_ .copy #[.tmp 177,.tmp 178] ?_;(try(refine jI T0_ ?_;dsimp only));have hyc_:=KY99.out;have hac_:=KA99.out;have hlc_:(x26_3:Int)≤(x25_3.length:Int):=(od_);have h0c_:(0:Int)≤(x26_3:Int):=(od_);refine Kd.R_copyin (w0:=w) w.heap.size rfl (.tmp 177) (.tmp 178) 23 5 rfl Try.underlying23 T4_ Ao76 x25_3.length co76 x25_3 t459 ((x26_3:Int).toNat) _ _ _ _ _ _ rfl rfl hyc_ hac_ ?hoff (ru_ HO_25.out) ?hR ?hB ?_;(case hoff=>omega);(case hR=>exact cu_ ((ji HO462.out).2.2));(case hB=>exact T31_);intro w101 ho hb hg;clear hyc_ hac_ hlc_ h0c_;rw[←Ny467.out] at ho;have n_:=P15_ (Kd.S_over' (v:=(.slice Ao76 x25_3.length co76)) (su_ HO_19.out) (jz HO_25.out) T3_ hg) (ho) (jx (v:=(.slice Ao76 x25_3.length co76)) (ru_ HO_140.out) (jz HO_25.out) T3_ hg) (jv (v:=(.slice Ao76 x25_3.length co76)) (v1:=(.slice Ao76 x25_3.length co76)) (ok:=(fun k_=>ne_ k_ (.slice Ao23 t387.length co23)∧ne_ k_ (.slice Ao100 t459.length co100))) (ru_ (ja HO_410000.out (fun _ hk=>⟨⟨hk.1.2,hk.2⟩,hk.1.1⟩))) hg (.inl rfl)) (jv (v:=(.slice Ao76 x25_3.length co76)) (v1:=(.slice Ao76 x25_3.length co76)) (ok:=(fun k_=>ne_ k_ (.slice Ao21 t384.length co21)∧ne_ k_ (.slice Ao100 t459.length co100))) (ru_ (ja HO_410001.out (fun _ hk=>⟨⟨hk.1.2,hk.2⟩,hk.1.1⟩))) hg (.inl rfl)) (Kd.S_after (v:=(.slice Ao76 x25_3.length co76)) (v1:=(.slice Ao76 x25_3.length co76)) (ok:=(fun k_=>ne_ k_ (.slice Ao21 t384.length co21)∧ne_ k_ (.slice Ao23 t387.length co23)∧ne_ k_ (.slice Ao100 t459.length co100))) (su_ (jC HO_410002.out (fun _ hk=>⟨⟨hk.1.2.1,⟨hk.1.2.2,hk.2⟩⟩,hk.1.1⟩))) hg (.inl rfl)) (jx (v:=(.slice Ao76 x25_3.length co76)) (ru_ HO_410003.out) (jz HO_25.out) T3_ hg) (jx (v:=(.slice Ao76 x25_3.length co76)) (ru_ HO_410004.out) (jz HO_25.out) T3_ hg) (Jg (g:=gb409) (o:=.cells #[.slice Ao21 t384.length co21,.slice Ao23 t387.length co23,.slice (some ad455) t390.length co24,.slice (some ad449) t393.length co25,.slice Ao26 t396.length co26] 57 (0,0)) (bu_ BK409.out) hg (Kd.R_ne HO_25.out BK409.out T3_)) (jx (v:=(.slice Ao76 x25_3.length co76)) (ru_ HL450_0.out) (jz HO_25.out) T3_ hg) (jx (v:=(.slice Ao76 x25_3.length co76)) (ru_ HO454.out) (jz HO_25.out) T3_ hg) (jv (v:=(.slice Ao76 x25_3.length co76)) (v1:=(.slice Ao76 x25_3.length co76)) (ok:=(fun k_=>ne_ k_ (.slice Ao21 t384.length co21)∧ne_ k_ (.slice Ao23 t387.length co23)∧ne_ k_ (.slice (some ad455) t390.length co24)∧ne_ k_ (.slice Ao100 t459.length co100))) (ru_ (ja HL455_0.out (fun _ hk=>⟨⟨hk.1.1.2.1,⟨hk.1.1.2.2,⟨hk.1.2,hk.2⟩⟩⟩,hk.1.1.1⟩))) hg (.inl rfl)) (jx (v:=(.slice Ao76 x25_3.length co76)) (ru_ HO458.out) (jz HO_25.out) T3_ hg) (jv (v:=(.slice Ao76 x25_3.length co76)) (v1:=(.slice Ao76 x25_3.length co76)) (ok:=(fun k_=>ne_ k_ (.slice Ao21 t384.length co21)∧ne_ k_ (.slice Ao23 t387.length co23)∧ne_ k_ (.slice A455_0 (rd_L2 t390 x142_3).length c455_0))) (ru_ (ja HO462.out (fun _ hk=>⟨⟨hk.1.1.2,⟨hk.1.2,hk.2⟩⟩,hk.1.1.1.2⟩))) hg (.inl rfl)) (hb);clear HO_19 HO_25 HO_140 HO_410000 HO_410001 HO_410002 HO_410003 HO_410004 BK409 HL450_0 HO454 HL455_0 HO458 HO462 HB;obtain⟨HO_19,HO_25,HO_140,HO_410000,HO_410001,HO_410002,HO_410003,HO_410004,BK409,HL450_0,HO454,HL455_0,HO458,HO462,HB⟩:=n_;clear ho hb hg))
    (try simp only[←hl25_3])
    go_roundg k3
    case measure=>have:=HJ5.out;have:=HK2.out;have:=HK3.out;omega
    case rel=>exact⟨(y467),(wrap64 (x26_3+(cpn x25_3 ((x26_3:Int).toNat) t459))),(wrap64 (x142_3+1)),T10_,T10_,H',⟨(by have:=HJ5.out;have:=HK2.out;have:=HK3.out;omega)⟩,⟨(by(try simp only[hl25_3]);(with_reducible repeat(first|apply Kd.S_alloc|apply Kd.S_drewN|apply Ja));exact jC HO_19.out (fun _ hk=>⟨hk.1.1.1,⟨hk.1.1.2.1,hk.1.1.2.2⟩⟩))⟩,⟨(by(try simp only[hl25_3]);(with_reducible repeat(first|apply Kd.R_alloc|apply Kd.R_drewN|apply js));exact ja HO_25.out (fun _ hk=>⟨hk.1,hk.2.1⟩))⟩,⟨(by(try simp only[hl25_3]);(with_reducible repeat(first|apply Kd.R_alloc|apply Kd.R_drewN|apply js));exact ja HO_140.out (fun _ hk=>hk.1.1))⟩,⟨(by(try simp only[hl25_3]);(with_reducible repeat(first|apply Kd.R_alloc|apply Kd.R_drewN|apply js));exact ja HO_410000.out (fun _ hk=>⟨hk.2,hk.1.1⟩))⟩,⟨(by(try simp only[hl25_3]);(with_reducible repeat(first|apply Kd.R_alloc|apply Kd.R_drewN|apply js));exact ja HO_410001.out (fun _ hk=>⟨hk.2,hk.1.1⟩))⟩,⟨(by(try simp only[hl25_3]);(with_reducible repeat(first|apply Kd.S_alloc|apply Kd.S_drewN|apply Ja));exact jC HO_410002.out (fun _ hk=>⟨hk.2,⟨hk.1.1,hk.1.2.1⟩⟩))⟩,⟨(by(try simp only[hl25_3]);(with_reducible repeat(first|apply Kd.R_alloc|apply Kd.R_drewN|apply js));exact ja HO_410003.out (fun _ hk=>hk.1.1))⟩,⟨(by(try simp only[hl25_3]);(with_reducible repeat(first|apply Kd.R_alloc|apply Kd.R_drewN|apply js));exact ja HO_410004.out (fun _ hk=>⟨hk.1.1.1,hk.1.1.2⟩))⟩,⟨(by(try simp only[hl25_3]);(with_reducible repeat(first|refine jn ?_ _|refine jl ?_|refine jm ?_ _));exact BK409.out)⟩,⟨T31_⟩⟩
def riffle_Order.l0:Nat→List (List Int)→List Int→List Int→List Int→Int→Int→List Int→List Int→List (List Int)→List Int→List Int→Option (List Int×Int)
 | 0,_,_,_,_,_,_,_,_,_,_,_=>none
 | k+1,x11,x13,x14,x36,x37,x38,x281000,x281001,x281002,x281003,x281004=>if x38<x37 then(if 0≤x38 then(if x38<(x36.length:Int) then(if 0≤(rd x36 x38) then(if(rd x36 x38)<(x281004.length:Int) then(if(rd x36 x38)<(x11.length:Int) then(if(rd x36 x38)<(x13.length:Int) then(if 0≤(rd x13 (rd x36 x38)) then(if(rd x13 (rd x36 x38))<((rd_L3 x11 (rd x36 x38)).length:Int) then(if x38<(x14.length:Int) then(riffle_Order.l0 k x11 (x13.set ((rd x36 x38):Int).toNat (wrap64 ((rd x13 (rd x36 x38))+1))) (x14.set (x38:Int).toNat (wrap64 ((rd x281004 (rd x36 x38))+(rd (rd_L3 x11 (rd x36 x38)) (rd x13 (rd x36 x38)))))) x36 x37 (wrap64 (x38+1)) x281000 x281001 x281002 x281003 x281004) else(none)) else(none)) else(none)) else(none)) else(none)) else(none)) else(none)) else(none)) else(none)) else(some (x14,0))
def riffle_Order.f (k:Nat) (l0:List Int) (a1:Int) (a2:Int):Option (List Int×Int):=(riffle_read.f k l0 a1 a2).bind fun bt255=>(if bt255.2.2.2.2.2.2.2.2=0 then(if 0≤(bt255.2.2.2.1.length:Int) then(if((bt255.2.2.2.1.length:Int):Int).toNat≤35184372088832 then(if 0≤a1 then(if(a1:Int).toNat≤35184372088832 then(riffle_Order.l0 k bt255.2.2.2.2.2.2.2.1 (List.replicate ((bt255.2.2.2.1.length:Int):Int).toNat 0) (List.replicate (a1:Int).toNat 0) bt255.2.2.2.2.2.1 (bt255.2.2.2.2.2.1.length:Int) 0 bt255.1 bt255.2.1 bt255.2.2.1 bt255.2.2.2.1 bt255.2.2.2.2.1) else(none)) else(none)) else(none)) else(none)) else(some (([]:List Int),bt255.2.2.2.2.2.2.2.2)))
theorem riffle_Order.mono_l:∀ k,(∀ y0 y1 y2 y3 y4 y5 y6 y7 y8 y9 y10,LeO (riffle_Order.l0 k y0 y1 y2 y3 y4 y5 y6 y7 y8 y9 y10) (riffle_Order.l0 (k+1) y0 y1 y2 y3 y4 y5 y6 y7 y8 y9 y10))
 | 0=>fun _ _ _ _ _ _ _ _ _ _ _ r h=>by simp[riffle_Order.l0] at h
 | k+1=>by
  have ih0:=riffle_Order.mono_l k
  intro y0 y1 y2 y3 y4 y5 y6 y7 y8 y9 y10
  unfold riffle_Order.l0
  with_reducible repeat' first|exact ih0 _ _ _ _ _ _ _ _ _ _ _|exact riffle_read.mono _ _ _ _|exact LeO.refl _|exact LeO.none _|refine LeO.ite ?_ ?_|refine LeO.bind ?_ (fun _=>?_)
theorem riffle_Order.mono:∀ a0 a1 a2 k,LeO (riffle_Order.f k a0 a1 a2) (riffle_Order.f (k+1) a0 a1 a2):=by
 intro a0 a1 a2 k
 have ih0:=riffle_Order.mono_l k
 unfold riffle_Order.f
 with_reducible repeat' first|exact ih0 _ _ _ _ _ _ _ _ _ _ _|exact riffle_read.mono _ _ _ _|exact LeO.refl _|exact LeO.none _|refine LeO.ite ?_ ?_|refine LeO.bind ?_ (fun _=>?_)
def riffle_Order.T9:Bool×List (List Nat×List Nat):=(true,[([],[]),([],[]),([],[]),([2],[2]),([],[]),([3,4],[3,4]),([5],[5]),([],[]),([],[]),([7,8],[7,8]),([9],[9]),([],[]),([],[]),([11,12],[11,12]),([13],[13]),([10,14],[10,14]),([15],[15]),([6,16],[6,16]),([0,1,0,1,2,3,4,5,6,7,8,9,10,11,12,13,14,15,16,17],[0,1]),([18,17,0,1,2,3,4,5,6,7,8,9,10,11,12,13,14,15,16,17],[17,18])])
def riffle_Order.B9:List Nat:=[0,0,0,4,0,28,60,0,0,384,896,0,0,6144,14336,32640,65408,131068,262143,524287]
theorem riffle_Order.tab9:rtab .any (opsOf Try.f11 9)=riffle_Order.T9:=by kernel_rfl
theorem riffle_Order.bits9:waitsOk riffle_Order.T9.2 riffle_Order.B9=true:=by kernel_rfl
set_option maxHeartbeats 8000000 in
set_option maxRecDepth 100000 in
theorem riffle_Order.calls (k:Nat) (A0:Option Addr) (c0:Nat) (l0:List Int) (a1:Int) (a2:Int) (r1:List Int) (r2:Int) (w:World) (hr0:jX (jb .u8) w A0 l0.length l0) (hc0:l0.length≤c0) (h:riffle_Order.f k l0 a1 a2=some (r1,r2)) :
  Calls Try.prog 11 #[.slice A0 l0.length c0,.int .i64 a1,.int .i64 a2] w fun e w'=>∃ v0_:Value,e = .returned (.tuple #[v0_,.int .i64 r2])∧jt (jb .i64) 3 w' w.heap.size (fun _=>True) v0_ r1∧Below w.heap.size w w':=by
 have hu57:=Try.underlying57
 have HR0:=am_ hr0
 have HC0:=am_ hc0
 clear hr0 hc0
 have HB:=am_ (Below.refl w.heap.size w)
 have H:((riffle_read.f k l0 a1 a2).bind fun bt255=>(if bt255.2.2.2.2.2.2.2.2=0 then(if 0≤(bt255.2.2.2.1.length:Int) then(if((bt255.2.2.2.1.length:Int):Int).toNat≤35184372088832 then(if 0≤a1 then(if(a1:Int).toNat≤35184372088832 then(riffle_Order.l0 k bt255.2.2.2.2.2.2.2.1 (List.replicate ((bt255.2.2.2.1.length:Int):Int).toNat 0) (List.replicate (a1:Int).toNat 0) bt255.2.2.2.2.2.1 (bt255.2.2.2.2.2.1.length:Int) 0 bt255.1 bt255.2.1 bt255.2.2.1 bt255.2.2.2.1 bt255.2.2.2.2.1) else(none)) else(none)) else(none)) else(none)) else(some (([]:List Int),bt255.2.2.2.2.2.2.2.2))))=some (r1,r2):=h
 clear h
 replace H:=Option.bind_eq_some_iff.mp H
 obtain⟨⟨t255,t258,t261,t264,t267,t270,t273,t276,t279⟩,A40,H⟩:=H
 try dsimp only at H
 have A4:=am_ A40
 clear A40
 by_cases c5:t279=0
 rotate_left
 ·rw[if_neg c5] at H
  obtain⟨c5b0,c5b1⟩:=en_ c5
  obtain⟨rfl,rfl⟩:=sj2_ H
  go_enter Try.func11,Try.ntmps11
  go_wp2_with(first|(refine gc_ 20 ?_;refine gl_ (some 21) Try.func20 #[.slice A0 l0.length c0,.int .i64 a1,.int .i64 a2] ?_;(with_reducible refine(riffle_read.calls k _ _ l0 a1 a2 t255 t258 t261 t264 t267 t270 t273 t276 t279 _ ?side1 ?side2 A4.out).mono ?_);(case side1=>exact cu_ HR0.out);(case side2=>exact HC0.out);rintro e w42 ⟨v256,v259,v262,v265,v268,v271,v274,v277,rfl,ho0,ho1,ho2,ho3,ho4,ho5,ho6,ho7,hb⟩;refine⟨_,rfl,?_⟩;have n_:=P9_ (jq ho0 (jc T19_)) (jq ho1 (jc T19_)) (Kd.S_lower ho2 (jc T19_)) (jq ho3 (jc T19_)) (jq ho4 (jc T19_)) (jq ho5 (jc T19_)) (jq ho6 (jc T19_)) (Kd.S_lower ho7 (jc T19_)) (jk T19_ hb);clear HB;obtain⟨HO257,HO260,HO263,HO266,HO269,HO272,HO275,HO278,HB⟩:=n_;clear hb ho0 ho1 ho2 ho3 ho4 ho5 ho6 ho7)|(refine gd_ 8 ?_;refine bx_ 8 #[.slice none 0 0,.slice none 0 0,.slice none 0 0,.slice none 0 0,.slice none 0 0] 57 ?_;intro gb280 hg w43 hbox hb;have n_:=P12_ (je (ru_ HO257.out) hb) (je (ru_ HO260.out) hb) (jD (su_ HO263.out) hb) (je (ru_ HO266.out) hb) (je (ru_ HO269.out) hb) (je (ru_ HO272.out) hb) (je (ru_ HO275.out) hb) (jD (su_ HO278.out) hb) (jk T19_ hb) (hbox) ((by rw[hg];exact(jc T19_):w.heap.size≤gb280)) ((by rw[hg];exact(jc T19_):w.heap.size≤gb280));clear HO257 HO260 HO263 HO266 HO269 HO272 HO275 HO278 HB;obtain⟨HO257,HO260,HO263,HO266,HO269,HO272,HO275,HO278,HB,BK280,GW280,GE280⟩:=n_;clear hb hbox hg;obtain⟨Ao44,co44,eo44⟩:=jp HO257.out;subst eo44;obtain⟨hcz45_0,hcz45_1,hcz45_2,hcz45_3,hcz45_4,hfz45_0,hfz45_1,hfz45_2,hfz45_3,hfz45_4⟩:=cz5_ BK280.out;obtain⟨Ao46,co46,eo46⟩:=jp HO260.out;subst eo46;obtain⟨Ao47,co47,eo47⟩:=jT HO263.out;subst eo47;obtain⟨Ao48,co48,eo48⟩:=jp HO266.out;subst eo48;obtain⟨Ao49,co49,eo49⟩:=jp HO269.out;subst eo49))
  go_ret2
  exact⟨_,T17_,T21_,T32_⟩
 rw[if_pos c5] at H
 obtain⟨c5b0,c5b1⟩:=ep_ c5
 clear c5
 replace H:=ifn_ H;obtain⟨c6,H⟩:=H
 have c6b0:=eq_true c6
 have c6b1:decide (0≤(t264.length:Int))=true:=decide_eq_true c6
 clear c6
 replace H:=ifn_ H;obtain⟨c7,H⟩:=H
 have c7b0:=eq_true c7
 have c7b1:decide (((t264.length:Int):Int).toNat≤35184372088832)=true:=decide_eq_true c7
 clear c7
 obtain⟨y281,hy_⟩:∃ y_:List Int,y_=(List.replicate ((t264.length:Int):Int).toNat 0):=⟨_,rfl⟩
 replace H:(if 0≤a1 then(if(a1:Int).toNat≤35184372088832 then(riffle_Order.l0 k t276 y281 (List.replicate (a1:Int).toNat 0) t270 (t270.length:Int) 0 t255 t258 t261 t264 t267) else(none)) else(none))=some (r1,r2):=hyw_
 have Ny281:=am_ hy_
 clear hy_
 replace H:=ifn_ H;obtain⟨c8,H⟩:=H
 have c8b0:=eq_true c8
 have c8b1:decide (0≤a1)=true:=decide_eq_true c8
 clear c8
 replace H:=ifn_ H;obtain⟨c9,H⟩:=H
 have c9b0:=eq_true c9
 have c9b1:decide ((a1:Int).toNat≤35184372088832)=true:=decide_eq_true c9
 clear c9
 obtain⟨y284,hy_⟩:∃ y_:List Int,y_=(List.replicate (a1:Int).toNat 0):=⟨_,rfl⟩
 replace H:(riffle_Order.l0 k t276 y281 y284 t270 (t270.length:Int) 0 t255 t258 t261 t264 t267)=some (r1,r2):=hyw_
 have Ny284:=am_ hy_
 clear hy_
 have H':=am_ H
 clear H
 go_enter Try.func11,Try.ntmps11
 go_wp2_with(first|(refine gc_ 20 ?_;refine gl_ (some 21) Try.func20 #[.slice A0 l0.length c0,.int .i64 a1,.int .i64 a2] ?_;(with_reducible refine(riffle_read.calls k _ _ l0 a1 a2 t255 t258 t261 t264 t267 t270 t273 t276 t279 _ ?side1 ?side2 A4.out).mono ?_);(case side1=>exact cu_ HR0.out);(case side2=>exact HC0.out);rintro e w10 ⟨v256,v259,v262,v265,v268,v271,v274,v277,rfl,ho0,ho1,ho2,ho3,ho4,ho5,ho6,ho7,hb⟩;refine⟨_,rfl,?_⟩;have n_:=P9_ (jq ho0 (jc T19_)) (jq ho1 (jc T19_)) (Kd.S_lower ho2 (jc T19_)) (jq ho3 (jc T19_)) (jq ho4 (jc T19_)) (jq ho5 (jc T19_)) (jq ho6 (jc T19_)) (Kd.S_lower ho7 (jc T19_)) (jk T19_ hb);clear HB;obtain⟨HO257,HO260,HO263,HO266,HO269,HO272,HO275,HO278,HB⟩:=n_;clear hb ho0 ho1 ho2 ho3 ho4 ho5 ho6 ho7)|(refine gd_ 8 ?_;refine bx_ 8 #[.slice none 0 0,.slice none 0 0,.slice none 0 0,.slice none 0 0,.slice none 0 0] 57 ?_;intro gb280 hg w11 hbox hb;have n_:=P12_ (je (ru_ HO257.out) hb) (je (ru_ HO260.out) hb) (jD (su_ HO263.out) hb) (je (ru_ HO266.out) hb) (je (ru_ HO269.out) hb) (je (ru_ HO272.out) hb) (je (ru_ HO275.out) hb) (jD (su_ HO278.out) hb) (jk T19_ hb) (hbox) ((by rw[hg];exact(jc T19_):w.heap.size≤gb280)) ((by rw[hg];exact(jc T19_):w.heap.size≤gb280));clear HO257 HO260 HO263 HO266 HO269 HO272 HO275 HO278 HB;obtain⟨HO257,HO260,HO263,HO266,HO269,HO272,HO275,HO278,HB,BK280,GW280,GE280⟩:=n_;clear hb hbox hg;obtain⟨Ao12,co12,eo12⟩:=jp HO257.out;subst eo12;obtain⟨hcz13_0,hcz13_1,hcz13_2,hcz13_3,hcz13_4,hfz13_0,hfz13_1,hfz13_2,hfz13_3,hfz13_4⟩:=cz5_ BK280.out;obtain⟨Ao14,co14,eo14⟩:=jp HO260.out;subst eo14;obtain⟨Ao15,co15,eo15⟩:=jT HO263.out;subst eo15;obtain⟨Ao16,co16,eo16⟩:=jp HO266.out;subst eo16;obtain⟨Ao17,co17,eo17⟩:=jp HO269.out;subst eo17)|(refine gd_ 33 ?_;refine Kd.R_make (jb .i64) _ 3 rfl (N:=33) rfl 24 _ _ rfl (t264.length:Int) rfl rfl Try.underlying24 (.int .i64 0) 8 info3 rfl T3_ T2_ 0 (ok:=fun _=>True) (okp:=fun _=>True) rfl (fun _ hk=>hk) trivial (od_) (Nat.le_trans (Nat.mul_le_mul_right _ (od_:(t264.length:Int).toNat≤35184372088832)) T2_) (Below.refl _ _) (Nat.le_refl _) ?_;intro v282 w18 ho19 hb hg_ hnew_;clear hg_ hnew_;(first|rw[←Ny281.out] at ho19|(simp only[Int.reduceToNat] at ho19;rw[←Ny281.out] at ho19));have n_:=P11_ (je (ru_ ((ja (jd (p:=⟨gb280,4,none⟩) (jd (p:=⟨gb280,3,none⟩) (jd (p:=⟨gb280,2,none⟩) (jd (p:=⟨gb280,1,none⟩) (jd (p:=⟨gb280,0,none⟩) (jr HO257.out BK280.out T3_) (fun _ hk=>hk.2) (.slice Ao12 t255.length co12)) (fun _ hk=>hk.2) (.slice Ao14 t258.length co14)) (fun _ hk=>hk.2) (.slice Ao15 t261.length co15)) (fun _ hk=>hk.2) (.slice Ao16 t264.length co16)) (fun _ hk=>hk.2) (.slice Ao17 t267.length co17)) (fun _ h_=>h_.1)))) hb) (je (ru_ ((ja (jd (p:=⟨gb280,4,none⟩) (jd (p:=⟨gb280,3,none⟩) (jd (p:=⟨gb280,2,none⟩) (jd (p:=⟨gb280,1,none⟩) (jd (p:=⟨gb280,0,none⟩) (jr HO260.out BK280.out T3_) (fun _ hk=>hk.2) (.slice Ao12 t255.length co12)) (fun _ hk=>hk.2) (.slice Ao14 t258.length co14)) (fun _ hk=>hk.2) (.slice Ao15 t261.length co15)) (fun _ hk=>hk.2) (.slice Ao16 t264.length co16)) (fun _ hk=>hk.2) (.slice Ao17 t267.length co17)) (fun _ h_=>h_.1)))) hb) (jD (su_ ((jC (jE (p:=⟨gb280,4,none⟩) (jE (p:=⟨gb280,3,none⟩) (jE (p:=⟨gb280,2,none⟩) (jE (p:=⟨gb280,1,none⟩) (jE (p:=⟨gb280,0,none⟩) (Jb HO263.out BK280.out T3_) (fun _ hk=>hk.2) (.slice Ao12 t255.length co12)) (fun _ hk=>hk.2) (.slice Ao14 t258.length co14)) (fun _ hk=>hk.2) (.slice Ao15 t261.length co15)) (fun _ hk=>hk.2) (.slice Ao16 t264.length co16)) (fun _ hk=>hk.2) (.slice Ao17 t267.length co17)) (fun _ h_=>h_.1)))) hb) (jg (ru_ ((ja (jd (p:=⟨gb280,4,none⟩) (jd (p:=⟨gb280,3,none⟩) (jd (p:=⟨gb280,2,none⟩) (jd (p:=⟨gb280,1,none⟩) (jd (p:=⟨gb280,0,none⟩) (jr HO266.out BK280.out T3_) (fun _ hk=>hk.2) (.slice Ao12 t255.length co12)) (fun _ hk=>hk.2) (.slice Ao14 t258.length co14)) (fun _ hk=>hk.2) (.slice Ao15 t261.length co15)) (fun _ hk=>hk.2) (.slice Ao16 t264.length co16)) (fun _ hk=>hk.2) (.slice Ao17 t267.length co17)) (fun _ h_=>h_.1)))) (jf ho19) hb) (jg (ru_ ((ja (jd (p:=⟨gb280,4,none⟩) (jd (p:=⟨gb280,3,none⟩) (jd (p:=⟨gb280,2,none⟩) (jd (p:=⟨gb280,1,none⟩) (jd (p:=⟨gb280,0,none⟩) (jr HO269.out BK280.out T3_) (fun _ hk=>hk.2) (.slice Ao12 t255.length co12)) (fun _ hk=>hk.2) (.slice Ao14 t258.length co14)) (fun _ hk=>hk.2) (.slice Ao15 t261.length co15)) (fun _ hk=>hk.2) (.slice Ao16 t264.length co16)) (fun _ hk=>hk.2) (.slice Ao17 t267.length co17)) (fun _ h_=>h_.1)))) (jf ho19) hb) (jg (ru_ ((ja (jd (p:=⟨gb280,4,none⟩) (jd (p:=⟨gb280,3,none⟩) (jd (p:=⟨gb280,2,none⟩) (jd (p:=⟨gb280,1,none⟩) (jd (p:=⟨gb280,0,none⟩) (jr HO272.out BK280.out T3_) (fun _ hk=>hk.2) (.slice Ao12 t255.length co12)) (fun _ hk=>hk.2) (.slice Ao14 t258.length co14)) (fun _ hk=>hk.2) (.slice Ao15 t261.length co15)) (fun _ hk=>hk.2) (.slice Ao16 t264.length co16)) (fun _ hk=>hk.2) (.slice Ao17 t267.length co17)) (fun _ h_=>h_.1)))) (jf ho19) hb) (jg (ru_ ((ja (jd (p:=⟨gb280,4,none⟩) (jd (p:=⟨gb280,3,none⟩) (jd (p:=⟨gb280,2,none⟩) (jd (p:=⟨gb280,1,none⟩) (jd (p:=⟨gb280,0,none⟩) (jr HO275.out BK280.out T3_) (fun _ hk=>hk.2) (.slice Ao12 t255.length co12)) (fun _ hk=>hk.2) (.slice Ao14 t258.length co14)) (fun _ hk=>hk.2) (.slice Ao15 t261.length co15)) (fun _ hk=>hk.2) (.slice Ao16 t264.length co16)) (fun _ hk=>hk.2) (.slice Ao17 t267.length co17)) (fun _ h_=>h_.1)))) (jf ho19) hb) (jL (su_ ((jC (jE (p:=⟨gb280,4,none⟩) (jE (p:=⟨gb280,3,none⟩) (jE (p:=⟨gb280,2,none⟩) (jE (p:=⟨gb280,1,none⟩) (jE (p:=⟨gb280,0,none⟩) (Jb HO278.out BK280.out T3_) (fun _ hk=>hk.2) (.slice Ao12 t255.length co12)) (fun _ hk=>hk.2) (.slice Ao14 t258.length co14)) (fun _ hk=>hk.2) (.slice Ao15 t261.length co15)) (fun _ hk=>hk.2) (.slice Ao16 t264.length co16)) (fun _ hk=>hk.2) (.slice Ao17 t267.length co17)) (fun _ h_=>h_.1)))) (jf ho19) hb) (jq (jj (jj (jj (jj ho19 (jh (ru_ ((ja (jd (p:=⟨gb280,4,none⟩) (jd (p:=⟨gb280,3,none⟩) (jd (p:=⟨gb280,2,none⟩) (jd (p:=⟨gb280,1,none⟩) (jd (p:=⟨gb280,0,none⟩) (jr HO266.out BK280.out T3_) (fun _ hk=>hk.2) (.slice Ao12 t255.length co12)) (fun _ hk=>hk.2) (.slice Ao14 t258.length co14)) (fun _ hk=>hk.2) (.slice Ao15 t261.length co15)) (fun _ hk=>hk.2) (.slice Ao16 t264.length co16)) (fun _ hk=>hk.2) (.slice Ao17 t267.length co17)) (fun _ h_=>h_.1)))))) (jh (ru_ ((ja (jd (p:=⟨gb280,4,none⟩) (jd (p:=⟨gb280,3,none⟩) (jd (p:=⟨gb280,2,none⟩) (jd (p:=⟨gb280,1,none⟩) (jd (p:=⟨gb280,0,none⟩) (jr HO269.out BK280.out T3_) (fun _ hk=>hk.2) (.slice Ao12 t255.length co12)) (fun _ hk=>hk.2) (.slice Ao14 t258.length co14)) (fun _ hk=>hk.2) (.slice Ao15 t261.length co15)) (fun _ hk=>hk.2) (.slice Ao16 t264.length co16)) (fun _ hk=>hk.2) (.slice Ao17 t267.length co17)) (fun _ h_=>h_.1)))))) (jh (ru_ ((ja (jd (p:=⟨gb280,4,none⟩) (jd (p:=⟨gb280,3,none⟩) (jd (p:=⟨gb280,2,none⟩) (jd (p:=⟨gb280,1,none⟩) (jd (p:=⟨gb280,0,none⟩) (jr HO272.out BK280.out T3_) (fun _ hk=>hk.2) (.slice Ao12 t255.length co12)) (fun _ hk=>hk.2) (.slice Ao14 t258.length co14)) (fun _ hk=>hk.2) (.slice Ao15 t261.length co15)) (fun _ hk=>hk.2) (.slice Ao16 t264.length co16)) (fun _ hk=>hk.2) (.slice Ao17 t267.length co17)) (fun _ h_=>h_.1)))))) (jh (ru_ ((ja (jd (p:=⟨gb280,4,none⟩) (jd (p:=⟨gb280,3,none⟩) (jd (p:=⟨gb280,2,none⟩) (jd (p:=⟨gb280,1,none⟩) (jd (p:=⟨gb280,0,none⟩) (jr HO275.out BK280.out T3_) (fun _ hk=>hk.2) (.slice Ao12 t255.length co12)) (fun _ hk=>hk.2) (.slice Ao14 t258.length co14)) (fun _ hk=>hk.2) (.slice Ao15 t261.length co15)) (fun _ hk=>hk.2) (.slice Ao16 t264.length co16)) (fun _ hk=>hk.2) (.slice Ao17 t267.length co17)) (fun _ h_=>h_.1)))))) (jc T32_)) (jo (g:=gb280) (o:=.cells #[.slice Ao12 t255.length co12,.slice Ao14 t258.length co14,.slice Ao15 t261.length co15,.slice Ao16 t264.length co16,.slice Ao17 t267.length co17] 57 (0,0)) (by(with_reducible repeat(first|refine jn ?_ _|refine jl ?_|refine jm ?_ _));refine ju (cs:=#[.slice Ao12 t255.length co12,.slice Ao14 t258.length co14,.slice Ao15 t261.length co15,.slice Ao16 t264.length co16,.slice none 0 0]) ?_ 4 _ rfl;(with_reducible repeat(first|refine jn ?_ _|refine jl ?_|refine jm ?_ _));refine ju (cs:=#[.slice Ao12 t255.length co12,.slice Ao14 t258.length co14,.slice Ao15 t261.length co15,.slice none 0 0,.slice none 0 0]) ?_ 3 _ rfl;(with_reducible repeat(first|refine jn ?_ _|refine jl ?_|refine jm ?_ _));refine ju (cs:=#[.slice Ao12 t255.length co12,.slice Ao14 t258.length co14,.slice none 0 0,.slice none 0 0,.slice none 0 0]) ?_ 2 _ rfl;(with_reducible repeat(first|refine jn ?_ _|refine jl ?_|refine jm ?_ _));refine ju (cs:=#[.slice Ao12 t255.length co12,.slice none 0 0,.slice none 0 0,.slice none 0 0,.slice none 0 0]) ?_ 1 _ rfl;(with_reducible repeat(first|refine jn ?_ _|refine jl ?_|refine jm ?_ _));refine ju (cs:=#[.slice none 0 0,.slice none 0 0,.slice none 0 0,.slice none 0 0,.slice none 0 0]) ?_ 0 _ rfl;exact bu_ BK280.out) hb) (jk T32_ hb);clear HO257 HO260 HO263 HO266 HO269 HO272 HO275 HO278 BK280 HB;obtain⟨HO257,HO260,HO263,HO266,HO269,HO272,HO275,HO278,HO283,BK280,HB⟩:=n_;clear hb ho19)|(refine gd_ 35 ?_;refine Kd.R_make (jb .i64) _ 3 rfl (N:=35) rfl 24 _ _ rfl a1 rfl rfl Try.underlying24 (.int .i64 0) 8 info3 rfl T3_ T2_ 0 (ok:=fun _=>True) (okp:=fun _=>True) rfl (fun _ hk=>hk) trivial (od_) (Nat.le_trans (Nat.mul_le_mul_right _ (od_:a1.toNat≤35184372088832)) T2_) (Below.refl _ _) (Nat.le_refl _) ?_;intro v285 w20 ho21 hb hg_ hnew_;clear hg_ hnew_;(first|rw[←Ny284.out] at ho21|(simp only[Int.reduceToNat] at ho21;rw[←Ny284.out] at ho21));have n_:=P12_ (je (ru_ HO257.out) hb) (je (ru_ HO260.out) hb) (jD (su_ HO263.out) hb) (jg (ru_ HO266.out) (jf ho21) hb) (jg (ru_ HO269.out) (jf ho21) hb) (jg (ru_ HO272.out) (jf ho21) hb) (jg (ru_ HO275.out) (jf ho21) hb) (jL (su_ HO278.out) (jf ho21) hb) (jg (ru_ HO283.out) (jf ho21) hb) (jq (jj (jj (jj (jj (jj ho21 (jh (ru_ HO266.out))) (jh (ru_ HO269.out))) (jh (ru_ HO272.out))) (jh (ru_ HO275.out))) (jh (ru_ HO283.out))) (jc T32_)) (jo (bu_ BK280.out) hb) (jk T32_ hb);clear HO257 HO260 HO263 HO266 HO269 HO272 HO275 HO278 HO283 BK280 HB;obtain⟨HO257,HO260,HO263,HO266,HO269,HO272,HO275,HO278,HO283,HO286,BK280,HB⟩:=n_;clear hb ho21;obtain⟨Ao22,co22,eo22⟩:=jp HO272.out;subst eo22))
 go_loopg [38] k (fun kq v38 w'=>∃ (x13_1:List Int) (x14_1:List Int) (x38_1:Int),v38 = .int .i64 x38_1∧Aside0 (riffle_Order.l0 kq t276 x13_1 x14_1 t270 (t270.length:Int) x38_1 t255 t258 t261 t264 t267=some (r1,r2))∧Aside0 (kq≤k)∧Aside0 (Kd.S (jB 3 (jb .i64)) 24 w' w.heap.size (fun k_=>ne_ k_ v282∧ne_ k_ v285∧ne_ k_ (.slice Ao22 t270.length co22)∧ne_ k_ (.slice Ao16 t264.length co16)∧ne_ k_ (.slice Ao17 t267.length co17)) v277 t276)∧Aside0 (jt (jb .i64) 3 w' w.heap.size (fun k_=>ne_ k_ v285∧ne_ k_ (.slice Ao22 t270.length co22)∧ne_ k_ (.slice Ao16 t264.length co16)∧ne_ k_ (.slice Ao17 t267.length co17)) v282 x13_1)∧Aside0 (jt (jb .i64) 3 w' w.heap.size (fun k_=>ne_ k_ v282∧ne_ k_ (.slice Ao22 t270.length co22)∧ne_ k_ (.slice Ao16 t264.length co16)∧ne_ k_ (.slice Ao17 t267.length co17)) v285 x14_1)∧Aside0 (jt (jb .i64) 3 w' w.heap.size (fun k_=>ne_ k_ v282∧ne_ k_ v285∧ne_ k_ (.slice Ao16 t264.length co16)∧ne_ k_ (.slice Ao17 t267.length co17)) (.slice Ao22 t270.length co22) t270)∧Aside0 (jt (jb .u8) 5 w' w.heap.size (fun k_=>ne_ k_ (.slice Ao14 t258.length co14)) (.slice Ao12 t255.length co12) t255)∧Aside0 (jt (jb .u8) 5 w' w.heap.size (fun k_=>ne_ k_ (.slice Ao12 t255.length co12)) (.slice Ao14 t258.length co14) t258)∧Aside0 (Kd.S (jB 5 (jb .u8)) 23 w' w.heap.size (fun k_=>ne_ k_ (.slice Ao12 t255.length co12)∧ne_ k_ (.slice Ao14 t258.length co14)) (.slice Ao15 t261.length co15) t261)∧Aside0 (jt (jb .i64) 3 w' w.heap.size (fun k_=>ne_ k_ v282∧ne_ k_ v285∧ne_ k_ (.slice Ao22 t270.length co22)∧ne_ k_ (.slice Ao17 t267.length co17)) (.slice Ao16 t264.length co16) t264)∧Aside0 (jt (jb .i64) 3 w' w.heap.size (fun k_=>ne_ k_ v282∧ne_ k_ v285∧ne_ k_ (.slice Ao22 t270.length co22)∧ne_ k_ (.slice Ao16 t264.length co16)) (.slice Ao17 t267.length co17) t267)∧Aside0 (w'.heap[gb280]? = some (.cells #[(.slice Ao12 t255.length co12),(.slice Ao14 t258.length co14),(.slice Ao15 t261.length co15),(.slice Ao16 t264.length co16),(.slice Ao17 t267.length co17)] 57 (0,0)))∧Aside0 (Below w.heap.size w w'))
 case atStart=>exact⟨(y281),(y284),(0),T10_,H',⟨Nat.le_refl _⟩,⟨su_ (jC HO278.out (fun _ hk=>⟨hk.1.2,⟨hk.2,⟨hk.1.1.2.2.1,⟨hk.1.1.1,hk.1.1.2.1⟩⟩⟩⟩))⟩,⟨ru_ (ja HO283.out (fun _ hk=>⟨hk.2,⟨hk.1.1.2,⟨hk.1.1.1.1.2,hk.1.1.1.2⟩⟩⟩))⟩,⟨ru_ (ja HO286.out (fun _ hk=>⟨hk.2,⟨hk.1.1.2,⟨hk.1.1.1.1.2,hk.1.1.1.2⟩⟩⟩))⟩,⟨ru_ (ja HO272.out (fun _ hk=>⟨hk.1.2,⟨hk.2,⟨hk.1.1.1,hk.1.1.2.1⟩⟩⟩))⟩,⟨ru_ HO257.out⟩,⟨ru_ HO260.out⟩,⟨su_ HO263.out⟩,⟨ru_ (ja HO266.out (fun _ hk=>⟨hk.1.2,⟨hk.2,⟨hk.1.1.2.1,hk.1.1.1⟩⟩⟩))⟩,⟨ru_ (ja HO269.out (fun _ hk=>⟨hk.1.2,⟨hk.2,⟨hk.1.1.2.1,hk.1.1.1⟩⟩⟩))⟩,⟨bu_ BK280.out⟩,⟨T32_⟩⟩
 clear H'
 (try clear c5);(try clear c5b0 c5b1);(try clear c6);(try clear c6b0 c6b1);(try clear c7);(try clear c7b0 c7b1);(try clear c8);(try clear c8b0 c8b1);(try clear c9);(try clear c9b0 c9b1);(try clear hcz13_0 hcz13_1 hcz13_2 hcz13_3 hcz13_4 hfz13_0 hfz13_1 hfz13_2 hfz13_3 hfz13_4);(try clear BK280)
 obtain⟨x13_1,x14_1,x38_1,rfl,HA,HK1,HO_11,HO_13,HO_14,HO_36,HO_281000,HO_281001,HO_281002,HO_281003,HO_281004,BK280,HB⟩:=hrel
 cases gk with
 | zero=>exact absurd HA.out (by simp[riffle_Order.l0])
 | succ k1 =>
  have H:=HA.out
  clear HA
  simp only[riffle_Order.l0] at H
  by_cases c23:x38_1<(t270.length:Int)
  rotate_left
  ·rw[if_neg c23] at H
   have c23b0:=decide_eq_false c23
   clear c23
   obtain⟨rfl,rfl⟩:=sj2_ H
   go_wp2
   go_ret2
   exact⟨_,T17_,ru_ (ja HO_14.out (fun _ hk=>trivial)),T32_⟩
  rw[if_pos c23] at H
  have c23b0:=decide_eq_true c23
  clear c23
  replace H:=ifn_ H;obtain⟨c24,H⟩:=H
  have c24b0:=decide_eq_true c24
  clear c24
  replace H:=ifn_ H;obtain⟨c25,H⟩:=H
  have c25b0:=decide_eq_true c25
  clear c25
  replace H:=ifn_ H;obtain⟨c26,H⟩:=H
  have c26b0:=decide_eq_true c26
  clear c26
  replace H:=ifn_ H;obtain⟨c27,H⟩:=H
  have c27b0:=decide_eq_true c27
  clear c27
  replace H:=ifn_ H;obtain⟨c28,H⟩:=H
  have c28b0:=decide_eq_true c28
  clear c28
  replace H:=ifn_ H;obtain⟨c29,H⟩:=H
  have c29b0:=decide_eq_true c29
  clear c29
  replace H:=ifn_ H;obtain⟨c30,H⟩:=H
  have c30b0:=decide_eq_true c30
  clear c30
  replace H:=ifn_ H;obtain⟨c31,H⟩:=H
  have c31b0:=decide_eq_true c31
  clear c31
  replace H:=ifn_ H;obtain⟨c32,H⟩:=H
  have c32b0:=decide_eq_true c32
  clear c32
  obtain⟨y292,hy_⟩:∃ y_:List Int,y_=(x14_1.set (x38_1:Int).toNat (wrap64 ((rd t267 (rd t270 x38_1))+(rd (rd_L3 t276 (rd t270 x38_1)) (rd x13_1 (rd t270 x38_1)))))):=⟨_,rfl⟩
  replace H:(riffle_Order.l0 k1 t276 (x13_1.set ((rd t270 x38_1):Int).toNat (wrap64 ((rd x13_1 (rd t270 x38_1))+1))) y292 t270 (t270.length:Int) (wrap64 (x38_1+1)) t255 t258 t261 t264 t267)=some (r1,r2):=hyw_
  have Ny292:=am_ hy_
  clear hy_
  obtain⟨y294,hy_⟩:∃ y_:List Int,y_=(x13_1.set ((rd t270 x38_1):Int).toNat (wrap64 ((rd x13_1 (rd t270 x38_1))+1))):=⟨_,rfl⟩
  replace H:(riffle_Order.l0 k1 t276 y294 y292 t270 (t270.length:Int) (wrap64 (x38_1+1)) t255 t258 t261 t264 t267)=some (r1,r2):=hyw_
  have Ny294:=am_ hy_
  clear hy_
  have H':=am_ H
  clear H
  obtain⟨ad287,e287,hx287_0,p287,q287⟩:=ai_ (ji HO_36.out).2.2 x38_1
  cases e287
  try go_wp2
  have n_:=P11_ (Ja HO_11.out) (js HO_13.out) (js HO_14.out) (js HO_36.out) (js HO_281000.out) (js HO_281001.out) (Ja HO_281002.out) (js HO_281003.out) (js HO_281004.out) (jl BK280.out) (jJ HB.out)
  clear HO_11 HO_13 HO_14 HO_36 HO_281000 HO_281001 HO_281002 HO_281003 HO_281004 BK280 HB
  obtain⟨HO_11,HO_13,HO_14,HO_36,HO_281000,HO_281001,HO_281002,HO_281003,HO_281004,BK280,HB⟩:=n_
  obtain⟨ad288,e288,hx288_0,p288,q288⟩:=ai_ (ji HO_281004.out).2.2 (rd t270 x38_1)
  cases e288
  obtain⟨Ao36,co36,eo36⟩:=jT HO_11.out
  (first|subst eo36|(injection eo36 with f1_ f2_ f3_;have f4_:=f1_.symm;have f5_:=f3_.symm;clear f1_ f2_ f3_;subst f4_;subst f5_))
  have p289:0≤((rd t270 x38_1):Int):=od_
  have q289:(rd t270 x38_1)<(t276.length:Int):=od_
  obtain⟨ad289,A289_0,c289_0,e289,hx289_0,hl289_0,hi289_0⟩:=at_L3 (jK HO_11.out).2.2 (rd t270 x38_1) p289 q289
  cases e289
  obtain⟨ce289,hce289,hMe289,hcc289⟩:=Kd.S_get HO_11.out [] (rd t270 x38_1) p289 (by first|exact q289|exact od_|(have e_:=(jK HO_11.out).1;omega))
  obtain⟨ve289_0,rfl,ge289_0⟩:=hMe289
  have hv289_0:=hcc289 0 _ rfl
  rw[Nat.add_zero,show((jB 3 (jb .i64))).sz=1 from rfl,Nat.mul_one] at hv289_0
  replace hv289_0:=Option.some.inj (hv289_0.symm.trans hx289_0)
  rw[hv289_0] at ge289_0
  have HL289_0:=am_ (show jt (jb .i64) 3 _ _ _ _ (rd_L3 t276 (rd t270 x38_1)) from ge289_0)
  clear hv289_0 ge289_0 hcc289 hce289
  have HR289_0:=am_ hi289_0
  have HC289_0:=am_ hl289_0
  clear hi289_0 hl289_0
  replace p289:=eq_true p289
  replace q289:=eq_true q289
  obtain⟨Ao37,co37,eo37⟩:=jp HO_13.out
  (first|subst eo37|(injection eo37 with f1_ f2_ f3_;have f4_:=f1_.symm;have f5_:=f3_.symm;clear f1_ f2_ f3_;subst f4_;subst f5_))
  obtain⟨ad290,e290,hx290_0,p290,q290⟩:=ai_ (ji HO_13.out).2.2 (rd t270 x38_1)
  cases e290
  obtain⟨ad291,e291,hx291_0,p291,q291⟩:=ai_ HR289_0.out (rd x13_1 (rd t270 x38_1))
  cases e291
  have p33:0≤(x38_1:Int):=od_
  have q33:(x38_1:Int)<((x14_1.length:Int):Int):=od_
  obtain⟨go33,co33,eo33,gb33,gl33,cl33,HG33⟩:=Kd.R_form HO_14.out T2_
  (first|cases eo33|(injection eo33 with ea_ en_ ec_;(first|subst ea_|(injection ea_ with ea_;subst ea_));subst ec_;clear en_))
  have GB33:=am_ gb33
  have GG33:=am_ HG33
  clear gb33 gl33 HG33
  obtain⟨hx33_0,hf33_0⟩:=jH 0 HO_14.out (x38_1:Int) p33 q33
  replace p33:=eq_true p33
  replace q33:=eq_true q33
  have HP38:=Kd.R_putn HO_14.out (x38_1:Int) (wrap64 ((rd t267 (rd t270 x38_1))+(rd (rd_L3 t276 (rd t270 x38_1)) (rd x13_1 (rd t270 x38_1)))))
  rw[←Ny292.out] at HP38
  have HQ38:=am_ HP38
  clear HP38
  refine start_ (n:=20) (S:=fun w'=>w'.cell? ⟨gb280,0,none⟩=some (.slice Ao12 t255.length co12)∧w'.cell? ⟨gb280,1,none⟩=some (.slice Ao14 t258.length co14)∧w'.cell? ⟨gb280,2,none⟩=some (.slice Ao15 t261.length co15)∧w'.cell? ⟨gb280,3,none⟩=some (.slice Ao16 t264.length co16)∧w'.cell? ⟨gb280,4,none⟩=some (.slice (some ad288) t267.length co17)∧w'.cell? (ad288.add ((rd t270 x38_1)).toNat)=some (.int .i64 (rd t267 (rd t270 x38_1)))∧w'.cell? (ad289.add ((rd t270 x38_1)).toNat)=some (.slice (some ad291) (rd_L3 t276 (rd t270 x38_1)).length c289_0)∧w'.cell? (ad290.add ((rd t270 x38_1)).toNat)=some (.int .i64 (rd x13_1 (rd t270 x38_1)))∧w'.cell? (ad291.add ((rd x13_1 (rd t270 x38_1))).toNat)=some (.int .i64 (rd (rd_L3 t276 (rd t270 x38_1)) (rd x13_1 (rd t270 x38_1))))) (ds:=[19]) #[false,false,false,false,false,false,false,false,false,false,false,false,false,false,false,false,false,false,false,false] T4_ rfl rfl ⟨bc_ BK280.out 0,bc_ BK280.out 1,bc_ BK280.out 2,bc_ BK280.out 3,bc_ BK280.out 4,hx288_0,hx289_0,hx290_0,hx291_0⟩ (fun hHeld=>?_);refine Jf riffle_Order.tab9 riffle_Order.bits9 (fun HT_ HW_=>?_)
  generalize wr.drew=w35 at HO_11 HO_13 HO_14 HO_36 HO_281000 HO_281001 HO_281002 HO_281003 HO_281004 BK280 HB GG33 HL289_0 HQ38 HR289_0 hf33_0 hx288_0 hx289_0 hx290_0 hx291_0 hx33_0 hHeld ⊢
  refine pz_ 0 (some 43) ?_
  refine pz_ 1 (some 44) ?_
  refine pz_ 2 (some 45) ?_
  refine pz_ 4 (some 47) ?_
  refine pz_ 7 (some 50) ?_
  refine pz_ 8 (some 51) ?_
  refine pz_ 9 (some 52) ?_
  refine pz_ 11 (some 54) ?_
  refine pz_ 12 (some 55) ?_
  refine pz_ 13 (some 56) ?_
  refine tz9_ 3 (some 46) hHeld ?_
  refine pz_ 5 (some 48) ?_
  refine tz9_ 6 (some 49) hHeld ?_
  refine tz9_ 10 (some 53) hHeld ?_
  refine tz9_ 14 (some 57) hHeld ?_
  refine pz_ 15 (some 58) ?_
  refine tz9_ 16 (some 59) hHeld ?_
  refine pz_ 17 (some 60) ?_
  refine pz_ 18 (some 61) ?_
  refine last_ (i:=19) (N:=none) #[true,true,true,true,true,true,true,true,true,true,true,true,true,true,true,true,true,true,true,true] rfl rfl (one_of HT_.out T4_) T3_ (fun K hK=>?_)
  refine skip_ (w1:=?_) T0_ rfl ?_ ?_
  rotate_left
  ·go_simp
   rfl
  refine hK.out _ _ ?_
  clear hK K
  refine done_ (done_of HT_.out T4_) ?_
  have n0_:Aside0 (Kd.S (jB 3 (jb .i64)) 24 (w35.setCell ⟨go33,(x38_1:Int).toNat,none⟩ (.int .i64 (wrap64 ((rd t267 (rd t270 x38_1))+(rd (rd_L3 t276 (rd t270 x38_1)) (rd x13_1 (rd t270 x38_1))))))) w.heap.size (fun k_=>ne_ k_ (.slice (some ad290) x13_1.length co37)∧ne_ k_ (.slice (some ⟨go33,0,none⟩) x14_1.length co33)∧ne_ k_ (.slice (some ad287) t270.length co22)∧ne_ k_ (.slice Ao16 t264.length co16)∧ne_ k_ (.slice (some ad288) t267.length co17)) (.slice (some ad289) t276.length co36) t276):=⟨su_ (jC (jE (p:=⟨go33,(x38_1:Int).toNat,none⟩) (jC HO_11.out (fun k_ hk=>(⟨hk,fun e_=>hk.2.1 T5_⟩:_∧k_≠go33))) (fun _ hk=>hk.2) (.int .i64 (wrap64 ((rd t267 (rd t270 x38_1))+(rd (rd_L3 t276 (rd t270 x38_1)) (rd x13_1 (rd t270 x38_1))))))) (fun _ hk=>⟨hk.1.1,⟨hk.1.2.1,⟨hk.1.2.2.1,⟨hk.1.2.2.2.1,hk.1.2.2.2.2⟩⟩⟩⟩))⟩
  have n1_:Aside0 (jt (jb .i64) 3 (w35.setCell ⟨go33,(x38_1:Int).toNat,none⟩ (.int .i64 (wrap64 ((rd t267 (rd t270 x38_1))+(rd (rd_L3 t276 (rd t270 x38_1)) (rd x13_1 (rd t270 x38_1))))))) w.heap.size (fun k_=>ne_ k_ (.slice (some ⟨go33,0,none⟩) x14_1.length co33)∧ne_ k_ (.slice (some ad287) t270.length co22)∧ne_ k_ (.slice Ao16 t264.length co16)∧ne_ k_ (.slice (some ad288) t267.length co17)) (.slice (some ad290) x13_1.length co37) x13_1):=⟨ru_ (ja (jd (p:=⟨go33,(x38_1:Int).toNat,none⟩) (ja HO_13.out (fun k_ hk=>(⟨hk,fun e_=>hk.1 T5_⟩:_∧k_≠go33))) (fun _ hk=>hk.2) (.int .i64 (wrap64 ((rd t267 (rd t270 x38_1))+(rd (rd_L3 t276 (rd t270 x38_1)) (rd x13_1 (rd t270 x38_1))))))) (fun _ hk=>⟨hk.1.1,⟨hk.1.2.1,⟨hk.1.2.2.1,hk.1.2.2.2⟩⟩⟩))⟩
  have n2_:Aside0 (jt (jb .i64) 3 (w35.setCell ⟨go33,(x38_1:Int).toNat,none⟩ (.int .i64 (wrap64 ((rd t267 (rd t270 x38_1))+(rd (rd_L3 t276 (rd t270 x38_1)) (rd x13_1 (rd t270 x38_1))))))) w.heap.size (fun k_=>ne_ k_ (.slice (some ad290) x13_1.length co37)∧ne_ k_ (.slice (some ad287) t270.length co22)∧ne_ k_ (.slice Ao16 t264.length co16)∧ne_ k_ (.slice (some ad288) t267.length co17)) (.slice (some ⟨go33,0,none⟩) x14_1.length co33) y292):=⟨(by(with_reducible repeat(first|apply Kd.R_alloc|apply Kd.R_drewN|apply js));exact HQ38.out)⟩
  have n3_:Aside0 (jt (jb .i64) 3 (w35.setCell ⟨go33,(x38_1:Int).toNat,none⟩ (.int .i64 (wrap64 ((rd t267 (rd t270 x38_1))+(rd (rd_L3 t276 (rd t270 x38_1)) (rd x13_1 (rd t270 x38_1))))))) w.heap.size (fun k_=>ne_ k_ (.slice (some ad290) x13_1.length co37)∧ne_ k_ (.slice (some ⟨go33,0,none⟩) x14_1.length co33)∧ne_ k_ (.slice Ao16 t264.length co16)∧ne_ k_ (.slice (some ad288) t267.length co17)) (.slice (some ad287) t270.length co22) t270):=⟨ru_ (ja (jd (p:=⟨go33,(x38_1:Int).toNat,none⟩) (ja HO_36.out (fun k_ hk=>(⟨hk,fun e_=>hk.2.1 T5_⟩:_∧k_≠go33))) (fun _ hk=>hk.2) (.int .i64 (wrap64 ((rd t267 (rd t270 x38_1))+(rd (rd_L3 t276 (rd t270 x38_1)) (rd x13_1 (rd t270 x38_1))))))) (fun _ hk=>⟨hk.1.1,⟨hk.1.2.1,⟨hk.1.2.2.1,hk.1.2.2.2⟩⟩⟩))⟩
  have n4_:Aside0 (jt (jb .u8) 5 (w35.setCell ⟨go33,(x38_1:Int).toNat,none⟩ (.int .i64 (wrap64 ((rd t267 (rd t270 x38_1))+(rd (rd_L3 t276 (rd t270 x38_1)) (rd x13_1 (rd t270 x38_1))))))) w.heap.size (fun k_=>ne_ k_ (.slice Ao14 t258.length co14)) (.slice Ao12 t255.length co12) t255):=⟨ru_ (ja (jd (p:=⟨go33,(x38_1:Int).toNat,none⟩) (jr HO_281000.out GG33.out T3_) (fun _ hk=>hk.2) (.int .i64 (wrap64 ((rd t267 (rd t270 x38_1))+(rd (rd_L3 t276 (rd t270 x38_1)) (rd x13_1 (rd t270 x38_1))))))) (fun _ hk=>hk.1))⟩
  have n5_:Aside0 (jt (jb .u8) 5 (w35.setCell ⟨go33,(x38_1:Int).toNat,none⟩ (.int .i64 (wrap64 ((rd t267 (rd t270 x38_1))+(rd (rd_L3 t276 (rd t270 x38_1)) (rd x13_1 (rd t270 x38_1))))))) w.heap.size (fun k_=>ne_ k_ (.slice Ao12 t255.length co12)) (.slice Ao14 t258.length co14) t258):=⟨ru_ (ja (jd (p:=⟨go33,(x38_1:Int).toNat,none⟩) (jr HO_281001.out GG33.out T3_) (fun _ hk=>hk.2) (.int .i64 (wrap64 ((rd t267 (rd t270 x38_1))+(rd (rd_L3 t276 (rd t270 x38_1)) (rd x13_1 (rd t270 x38_1))))))) (fun _ hk=>hk.1))⟩
  have n6_:Aside0 (Kd.S (jB 5 (jb .u8)) 23 (w35.setCell ⟨go33,(x38_1:Int).toNat,none⟩ (.int .i64 (wrap64 ((rd t267 (rd t270 x38_1))+(rd (rd_L3 t276 (rd t270 x38_1)) (rd x13_1 (rd t270 x38_1))))))) w.heap.size (fun k_=>ne_ k_ (.slice Ao12 t255.length co12)∧ne_ k_ (.slice Ao14 t258.length co14)) (.slice Ao15 t261.length co15) t261):=⟨su_ (jC (jE (p:=⟨go33,(x38_1:Int).toNat,none⟩) (Jb HO_281002.out GG33.out T3_) (fun _ hk=>hk.2) (.int .i64 (wrap64 ((rd t267 (rd t270 x38_1))+(rd (rd_L3 t276 (rd t270 x38_1)) (rd x13_1 (rd t270 x38_1))))))) (fun _ hk=>⟨hk.1.1,hk.1.2⟩))⟩
  have n7_:Aside0 (jt (jb .i64) 3 (w35.setCell ⟨go33,(x38_1:Int).toNat,none⟩ (.int .i64 (wrap64 ((rd t267 (rd t270 x38_1))+(rd (rd_L3 t276 (rd t270 x38_1)) (rd x13_1 (rd t270 x38_1))))))) w.heap.size (fun k_=>ne_ k_ (.slice (some ad290) x13_1.length co37)∧ne_ k_ (.slice (some ⟨go33,0,none⟩) x14_1.length co33)∧ne_ k_ (.slice (some ad287) t270.length co22)∧ne_ k_ (.slice (some ad288) t267.length co17)) (.slice Ao16 t264.length co16) t264):=⟨ru_ (ja (jd (p:=⟨go33,(x38_1:Int).toNat,none⟩) (ja HO_281003.out (fun k_ hk=>(⟨hk,fun e_=>hk.2.1 T5_⟩:_∧k_≠go33))) (fun _ hk=>hk.2) (.int .i64 (wrap64 ((rd t267 (rd t270 x38_1))+(rd (rd_L3 t276 (rd t270 x38_1)) (rd x13_1 (rd t270 x38_1))))))) (fun _ hk=>⟨hk.1.1,⟨hk.1.2.1,⟨hk.1.2.2.1,hk.1.2.2.2⟩⟩⟩))⟩
  have n8_:Aside0 (jt (jb .i64) 3 (w35.setCell ⟨go33,(x38_1:Int).toNat,none⟩ (.int .i64 (wrap64 ((rd t267 (rd t270 x38_1))+(rd (rd_L3 t276 (rd t270 x38_1)) (rd x13_1 (rd t270 x38_1))))))) w.heap.size (fun k_=>ne_ k_ (.slice (some ad290) x13_1.length co37)∧ne_ k_ (.slice (some ⟨go33,0,none⟩) x14_1.length co33)∧ne_ k_ (.slice (some ad287) t270.length co22)∧ne_ k_ (.slice Ao16 t264.length co16)) (.slice (some ad288) t267.length co17) t267):=⟨ru_ (ja (jd (p:=⟨go33,(x38_1:Int).toNat,none⟩) (ja HO_281004.out (fun k_ hk=>(⟨hk,fun e_=>hk.2.1 T5_⟩:_∧k_≠go33))) (fun _ hk=>hk.2) (.int .i64 (wrap64 ((rd t267 (rd t270 x38_1))+(rd (rd_L3 t276 (rd t270 x38_1)) (rd x13_1 (rd t270 x38_1))))))) (fun _ hk=>⟨hk.1.1,⟨hk.1.2.1,⟨hk.1.2.2.1,hk.1.2.2.2⟩⟩⟩))⟩
  have n9_:Aside0 (jt (jb .i64) 3 (w35.setCell ⟨go33,(x38_1:Int).toNat,none⟩ (.int .i64 (wrap64 ((rd t267 (rd t270 x38_1))+(rd (rd_L3 t276 (rd t270 x38_1)) (rd x13_1 (rd t270 x38_1))))))) w.heap.size (fun k_=>ne_ k_ (.slice (some ad289) t276.length co36)∧ne_ k_ (.slice (some ad290) x13_1.length co37)∧ne_ k_ (.slice (some ⟨go33,0,none⟩) x14_1.length co33)∧ne_ k_ (.slice (some ad287) t270.length co22)∧ne_ k_ (.slice Ao16 t264.length co16)∧ne_ k_ (.slice (some ad288) t267.length co17)) (.slice (some ad291) (rd_L3 t276 (rd t270 x38_1)).length c289_0) (rd_L3 t276 (rd t270 x38_1))):=⟨ru_ (ja (jd (p:=⟨go33,(x38_1:Int).toNat,none⟩) (ja HL289_0.out (fun k_ hk=>(⟨hk,fun e_=>hk.1.2.1 T5_⟩:_∧k_≠go33))) (fun _ hk=>hk.2) (.int .i64 (wrap64 ((rd t267 (rd t270 x38_1))+(rd (rd_L3 t276 (rd t270 x38_1)) (rd x13_1 (rd t270 x38_1))))))) (fun _ hk=>⟨hk.1.2,⟨hk.1.1.1,⟨hk.1.1.2.1,⟨hk.1.1.2.2.1,⟨hk.1.1.2.2.2.1,hk.1.1.2.2.2.2⟩⟩⟩⟩⟩))⟩
  have n10_:Aside0 ((w35.setCell ⟨go33,(x38_1:Int).toNat,none⟩ (.int .i64 (wrap64 ((rd t267 (rd t270 x38_1))+(rd (rd_L3 t276 (rd t270 x38_1)) (rd x13_1 (rd t270 x38_1))))))).heap[gb280]? = some (.cells #[.slice Ao12 t255.length co12,.slice Ao14 t258.length co14,.slice Ao15 t261.length co15,.slice Ao16 t264.length co16,.slice (some ad288) t267.length co17] 57 (0,0))):=⟨(by(with_reducible repeat(first|refine jn ?_ _|refine jl ?_|refine jm ?_ _));refine jU ?_ (by have h_:=Kd.R_ne HO_14.out BK280.out T3_;intro e_;exact h_ T5_) _;exact bu_ BK280.out)⟩
  have n11_:Aside0 (Below w.heap.size w (w35.setCell ⟨go33,(x38_1:Int).toNat,none⟩ (.int .i64 (wrap64 ((rd t267 (rd t270 x38_1))+(rd (rd_L3 t276 (rd t270 x38_1)) (rd x13_1 (rd t270 x38_1)))))))):=⟨(by repeat(first|(with_reducible first|exact HB.out|apply below_alloc|apply Je|apply jJ|refine jO ?_ GB33.out|refine jO ?_ GE280.out)|exact HB.out))⟩
  (try clear HO_11);(try clear HO_13);(try clear HO_14);(try clear HO_36);(try clear HO_281000);(try clear HO_281001);(try clear HO_281002);(try clear HO_281003);(try clear HO_281004);(try clear HL289_0);(try clear BK280);(try clear HB)
  generalize (w35.setCell ⟨go33,(x38_1:Int).toNat,none⟩ (.int .i64 (wrap64 ((rd t267 (rd t270 x38_1))+(rd (rd_L3 t276 (rd t270 x38_1)) (rd x13_1 (rd t270 x38_1)))))))=w39 at n0_ n1_ n2_ n3_ n4_ n5_ n6_ n7_ n8_ n9_ n10_ n11_ ⊢
  have HO_11:=n0_
  have HO_13:=n1_
  have HO_14:=n2_
  have HO_36:=n3_
  have HO_281000:=n4_
  have HO_281001:=n5_
  have HO_281002:=n6_
  have HO_281003:=n7_
  have HO_281004:=n8_
  have HL289_0:=n9_
  have BK280:=n10_
  have HB:=n11_
  clear n0_ n1_ n2_ n3_ n4_ n5_ n6_ n7_ n8_ n9_ n10_ n11_
  have p293:0≤((rd t270 x38_1):Int):=od_
  have q293:(rd t270 x38_1)<(x13_1.length:Int):=od_
  obtain⟨ad293,e293,hx293_0⟩:=jy (ji HO_13.out).2.2 (rd t270 x38_1) p293 q293
  obtain rfl:ad290=ad293:=(by injection e293)
  replace p293:=eq_true p293
  replace q293:=eq_true q293
  have p34:0≤((rd t270 x38_1):Int):=od_
  have q34:((rd t270 x38_1):Int)<((x13_1.length:Int):Int):=od_
  obtain⟨go34,co34,eo34,gb34,gl34,cl34,HG34⟩:=Kd.R_form HO_13.out T2_
  (first|cases eo34|(injection eo34 with ea_ en_ ec_;(first|subst ea_|(injection ea_ with ea_;subst ea_));subst ec_;clear en_))
  have GB34:=am_ gb34
  have GG34:=am_ HG34
  clear gb34 gl34 HG34
  (first|simp only[jW] at hx290_0|skip)
  (first|simp only[jW] at hx293_0|skip)
  obtain⟨hx34_0,hf34_0⟩:=jH 0 HO_13.out ((rd t270 x38_1):Int) p34 q34
  replace p34:=eq_true p34
  replace q34:=eq_true q34
  obtain⟨hy40_,hz40_⟩:=jH 0 HO_13.out ((rd t270 x38_1):Int) (od_) (od_)
  have HP40:=Kd.R_putg HO_13.out ((rd t270 x38_1):Int) (wrap64 ((rd x13_1 (rd t270 x38_1))+1))
  try go_wp2_with(first|(refine gs_ 3 67 ?_;refine store_event (t:=3) (p:=67) (v:=?vo_w41) (w1:=(w39.setCell ⟨go34,((rd t270 x38_1):Int).toNat,none⟩ (.int .i64 (wrap64 ((rd x13_1 (rd t270 x38_1))+1))))) ?hg ?ho ?hn ?hr ?_;(case ho=>rfl);(case hg=>rfl);(case hn=>rfl);(case hr=>first|(go_simp;done)|(go_simp;rfl));intro w41 hw;have hg:w39.grownBy w41 (some go34):=(by rw[hw];exact HP40.2);have hp_:jt (jb .i64) 3 w41 w.heap.size (fun k_=>ne_ k_ (.slice (some ⟨go33,0,none⟩) x14_1.length co33)∧ne_ k_ (.slice (some ad287) t270.length co22)∧ne_ k_ (.slice Ao16 t264.length co16)∧ne_ k_ (.slice (some ad288) t267.length co17)) (.slice (some ⟨go34,0,none⟩) x13_1.length co37) y294:=(by rw[hw,Ny294.out];exact HP40.1);clear HP40;have n_:=P12_ (Kd.S_after (v:=(.slice (some ⟨go34,0,none⟩) x13_1.length co37)) (v1:=(.slice (some ⟨go34,0,none⟩) x13_1.length co37)) (ok:=(fun k_=>ne_ k_ (.slice (some ⟨go33,0,none⟩) x14_1.length co33)∧ne_ k_ (.slice (some ad287) t270.length co22)∧ne_ k_ (.slice Ao16 t264.length co16)∧ne_ k_ (.slice (some ad288) t267.length co17))) (su_ (jC HO_11.out (fun _ hk=>⟨⟨hk.2.1,⟨hk.2.2.1,⟨hk.2.2.2.1,hk.2.2.2.2⟩⟩⟩,hk.1⟩))) hg (.inl rfl)) (hp_) (jv (v:=(.slice (some ⟨go34,0,none⟩) x13_1.length co37)) (v1:=(.slice (some ⟨go34,0,none⟩) x13_1.length co37)) (ok:=(fun k_=>ne_ k_ (.slice (some ad287) t270.length co22)∧ne_ k_ (.slice Ao16 t264.length co16)∧ne_ k_ (.slice (some ad288) t267.length co17))) (ru_ (ja HO_14.out (fun _ hk=>⟨⟨hk.2.1,⟨hk.2.2.1,hk.2.2.2⟩⟩,hk.1⟩))) hg (.inl rfl)) (jv (v:=(.slice (some ⟨go34,0,none⟩) x13_1.length co37)) (v1:=(.slice (some ⟨go34,0,none⟩) x13_1.length co37)) (ok:=(fun k_=>ne_ k_ (.slice (some ⟨go33,0,none⟩) x14_1.length co33)∧ne_ k_ (.slice Ao16 t264.length co16)∧ne_ k_ (.slice (some ad288) t267.length co17))) (ru_ (ja HO_36.out (fun _ hk=>⟨⟨hk.2.1,⟨hk.2.2.1,hk.2.2.2⟩⟩,hk.1⟩))) hg (.inl rfl)) (jx (v:=(.slice (some ⟨go34,0,none⟩) x13_1.length co37)) (ru_ HO_281000.out) (jz HO_13.out) T3_ hg) (jx (v:=(.slice (some ⟨go34,0,none⟩) x13_1.length co37)) (ru_ HO_281001.out) (jz HO_13.out) T3_ hg) (Kd.S_over' (v:=(.slice (some ⟨go34,0,none⟩) x13_1.length co37)) (su_ HO_281002.out) (jz HO_13.out) T3_ hg) (jv (v:=(.slice (some ⟨go34,0,none⟩) x13_1.length co37)) (v1:=(.slice (some ⟨go34,0,none⟩) x13_1.length co37)) (ok:=(fun k_=>ne_ k_ (.slice (some ⟨go33,0,none⟩) x14_1.length co33)∧ne_ k_ (.slice (some ad287) t270.length co22)∧ne_ k_ (.slice (some ad288) t267.length co17))) (ru_ (ja HO_281003.out (fun _ hk=>⟨⟨hk.2.1,⟨hk.2.2.1,hk.2.2.2⟩⟩,hk.1⟩))) hg (.inl rfl)) (jv (v:=(.slice (some ⟨go34,0,none⟩) x13_1.length co37)) (v1:=(.slice (some ⟨go34,0,none⟩) x13_1.length co37)) (ok:=(fun k_=>ne_ k_ (.slice (some ⟨go33,0,none⟩) x14_1.length co33)∧ne_ k_ (.slice (some ad287) t270.length co22)∧ne_ k_ (.slice Ao16 t264.length co16))) (ru_ (ja HO_281004.out (fun _ hk=>⟨⟨hk.2.1,⟨hk.2.2.1,hk.2.2.2⟩⟩,hk.1⟩))) hg (.inl rfl)) (Jg (g:=gb280) (o:=.cells #[.slice Ao12 t255.length co12,.slice Ao14 t258.length co14,.slice Ao15 t261.length co15,.slice Ao16 t264.length co16,.slice (some ad288) t267.length co17] 57 (0,0)) (bu_ BK280.out) hg (Kd.R_ne HO_13.out BK280.out T3_)) (jv (v:=(.slice (some ⟨go34,0,none⟩) x13_1.length co37)) (v1:=(.slice (some ⟨go34,0,none⟩) x13_1.length co37)) (ok:=(fun k_=>ne_ k_ (.slice (some ad289) t276.length co36)∧ne_ k_ (.slice (some ⟨go33,0,none⟩) x14_1.length co33)∧ne_ k_ (.slice (some ad287) t270.length co22)∧ne_ k_ (.slice Ao16 t264.length co16)∧ne_ k_ (.slice (some ad288) t267.length co17))) (ru_ (ja HL289_0.out (fun _ hk=>⟨⟨hk.1,⟨hk.2.2.1,⟨hk.2.2.2.1,⟨hk.2.2.2.2.1,hk.2.2.2.2.2⟩⟩⟩⟩,hk.2.1⟩))) hg (.inl rfl)) ((by rw[hw];exact jO (HB.out) GB34.out:Below w.heap.size w w41));clear HO_11 HO_13 HO_14 HO_36 HO_281000 HO_281001 HO_281002 HO_281003 HO_281004 BK280 HL289_0 HB;obtain⟨HO_11,HO_13,HO_14,HO_36,HO_281000,HO_281001,HO_281002,HO_281003,HO_281004,BK280,HL289_0,HB⟩:=n_;clear hg hw hp_))
  go_roundg k1
  case measure=>have:=HK1.out;omega
  case rel=>exact⟨(y294),(y292),(wrap64 (x38_1+1)),T10_,H',⟨T7_⟩,⟨su_ (jC HO_11.out (fun _ hk=>⟨hk.2,⟨hk.1.1,⟨hk.1.2.1,⟨hk.1.2.2.1,hk.1.2.2.2⟩⟩⟩⟩))⟩,⟨ru_ HO_13.out⟩,⟨ru_ (ja HO_14.out (fun _ hk=>⟨hk.2,⟨hk.1.1,⟨hk.1.2.1,hk.1.2.2⟩⟩⟩))⟩,⟨ru_ (ja HO_36.out (fun _ hk=>⟨hk.2,⟨hk.1.1,⟨hk.1.2.1,hk.1.2.2⟩⟩⟩))⟩,⟨ru_ HO_281000.out⟩,⟨ru_ HO_281001.out⟩,⟨su_ HO_281002.out⟩,⟨ru_ (ja HO_281003.out (fun _ hk=>⟨hk.2,⟨hk.1.1,⟨hk.1.2.1,hk.1.2.2⟩⟩⟩))⟩,⟨ru_ (ja HO_281004.out (fun _ hk=>⟨hk.2,⟨hk.1.1,⟨hk.1.2.1,hk.1.2.2⟩⟩⟩))⟩,⟨bu_ BK280.out⟩,⟨T32_⟩⟩
def perm_picked_string.l0:Nat→List ByteArray→List ByteArray→List Int→Int→Int→Option (List ByteArray)
 | 0,_,_,_,_,_=>none
 | k+1,x1,x5,x11,x12,x13=>if x13<x12 then(if 0≤x13 then(if x13<(x11.length:Int) then(if 0≤(rd x11 x13) then(if(rd x11 x13)<(x1.length:Int) then(if x5.length<8796093022208 then(perm_picked_string.l0 k x1 (x5 ++ [rdOf ByteArray.empty x1 (rd x11 x13)]) x11 x12 (wrap64 (x13+1))) else(none)) else(none)) else(none)) else(none)) else(none)) else(some x5)
def perm_picked_string.f (k:Nat) (l0:List Int) (l1:List ByteArray):Option (List ByteArray):=if 0≤(l0.length:Int) then(if((l0.length:Int):Int).toNat≤17592186044416 then(perm_picked_string.l0 k l1 (([]:List ByteArray)) l0 (l0.length:Int) 0) else(none)) else(none)
theorem perm_picked_string.mono_l:∀ k,(∀ y0 y1 y2 y3 y4,LeO (perm_picked_string.l0 k y0 y1 y2 y3 y4) (perm_picked_string.l0 (k+1) y0 y1 y2 y3 y4))
 | 0=>fun _ _ _ _ _ r h=>by simp[perm_picked_string.l0] at h
 | k+1=>by
  have ih0:=perm_picked_string.mono_l k
  intro y0 y1 y2 y3 y4
  unfold perm_picked_string.l0
  with_reducible repeat' first|exact ih0 _ _ _ _ _|exact LeO.refl _|exact LeO.none _|refine LeO.ite ?_ ?_|refine LeO.bind ?_ (fun _=>?_)
theorem perm_picked_string.mono:∀ a0 a1 k,LeO (perm_picked_string.f k a0 a1) (perm_picked_string.f (k+1) a0 a1):=by
 intro a0 a1 k
 have ih0:=perm_picked_string.mono_l k
 unfold perm_picked_string.f
 with_reducible repeat' first|exact ih0 _ _ _ _ _|exact LeO.refl _|exact LeO.none _|refine LeO.ite ?_ ?_|refine LeO.bind ?_ (fun _=>?_)
set_option maxHeartbeats 8000000 in
set_option maxRecDepth 100000 in
theorem perm_picked_string.calls (k:Nat) (A0:Option Addr) (c0:Nat) (l0:List Int) (A1:Option Addr) (c1:Nat) (l1:List ByteArray) (r:List ByteArray) (w:World) (hr0:jX (jb .i64) w A0 l0.length l0) (hc0:l0.length≤c0) (hr1:jX Kd.string w A1 l1.length l1) (hc1:l1.length≤c1) (h:perm_picked_string.f k l0 l1=some r) :
  Calls Try.prog 49 #[.slice A0 l0.length c0,.slice A1 l1.length c1] w fun e w'=>∃ v0_:Value,e = .returned (v0_)∧jt Kd.string 9 w' w.heap.size (fun _=>True) v0_ r∧Below w.heap.size w w':=by
 have HR0:=am_ hr0
 have HC0:=am_ hc0
 clear hr0 hc0
 have HR1:=am_ hr1
 have HC1:=am_ hc1
 clear hr1 hc1
 have HB:=am_ (Below.refl w.heap.size w)
 have H:(if 0≤(l0.length:Int) then(if((l0.length:Int):Int).toNat≤17592186044416 then(perm_picked_string.l0 k l1 (([]:List ByteArray)) l0 (l0.length:Int) 0) else(none)) else(none))=some r:=h
 clear h
 replace H:=ifn_ H;obtain⟨c3,H⟩:=H
 have c3b0:=eq_true c3
 have c3b1:decide (0≤(l0.length:Int))=true:=decide_eq_true c3
 clear c3
 replace H:=ifn_ H;obtain⟨c4,H⟩:=H
 have c4b0:=eq_true c4
 have c4b1:decide (((l0.length:Int):Int).toNat≤17592186044416)=true:=decide_eq_true c4
 clear c4
 obtain⟨y301,hy_⟩:∃ y_:List ByteArray,y_=(([]:List ByteArray)):=⟨_,rfl⟩
 replace H:(perm_picked_string.l0 k l1 y301 l0 (l0.length:Int) 0)=some r:=hyw_
 have Ny301:=am_ hy_
 clear hy_
 have H':=am_ H
 clear H
 go_enter Try.func49,Try.ntmps49
 go_wp2_with(first|(refine gd_ 10 ?_;refine Kd.R_make0 Kd.string _ 9 rfl (N:=10) rfl 32 _ _ rfl (l0.length:Int) rfl rfl Try.underlying32 (.string ⟨#[]⟩) 16 info9 rfl T3_ T2_ (⟨#[]⟩:ByteArray) (ok:=fun _=>True) (okp:=fun _=>True) rfl (fun _ hk=>hk) trivial (od_) (Nat.le_trans (Nat.mul_le_mul_right _ (od_:(l0.length:Int).toNat≤17592186044416)) T2_) (Below.refl _ _) (Nat.le_refl _) ?_;intro v302 w5 ho6 hb hg_ hnew_;clear hg_ hnew_;(first|rw[←Ny301.out] at ho6|(simp only[Int.reduceToNat] at ho6;rw[←Ny301.out] at ho6));have n_:=P2_ (jq ho6 (jc T19_)) (jk T19_ hb);clear HB;obtain⟨HO303,HB⟩:=n_;clear hb ho6))
 go_loopg [5,13] k (fun kq v5 v13 w'=>∃ (x5_1:List ByteArray) (x13_1:Int),v13 = .int .i64 x13_1∧Aside0 (perm_picked_string.l0 kq l1 x5_1 l0 (l0.length:Int) x13_1=some r)∧Aside0 (kq≤k)∧Aside0 (jt Kd.string 9 w' w.heap.size (fun _=>True) v5 x5_1)∧Aside0 (Below w.heap.size w w'))
 case atStart=>exact⟨(y301),(0),T10_,H',⟨Nat.le_refl _⟩,⟨ru_ HO303.out⟩,⟨T19_⟩⟩
 clear H'
 (try clear c3);(try clear c3b0 c3b1);(try clear c4);(try clear c4b0 c4b1)
 obtain⟨x5_1,x13_1,rfl,HA,HK1,HO_5,HB⟩:=hrel
 cases gk with
 | zero=>exact absurd HA.out (by simp[perm_picked_string.l0])
 | succ k1 =>
  have H:=HA.out
  clear HA
  simp only[perm_picked_string.l0] at H
  by_cases c7:x13_1<(l0.length:Int)
  rotate_left
  ·rw[if_neg c7] at H
   have c7b0:=decide_eq_false c7
   clear c7
   obtain rfl:=Option.some.inj H
   obtain⟨rfl⟩:=sj1_ H
   go_wp2
   go_ret
   exact⟨_,T17_,ru_ HO_5.out,T19_⟩
  rw[if_pos c7] at H
  have c7b0:=decide_eq_true c7
  clear c7
  replace H:=ifn_ H;obtain⟨c8,H⟩:=H
  have c8b0:=decide_eq_true c8
  clear c8
  replace H:=ifn_ H;obtain⟨c9,H⟩:=H
  have c9b0:=decide_eq_true c9
  clear c9
  replace H:=ifn_ H;obtain⟨c10,H⟩:=H
  have c10b0:=decide_eq_true c10
  clear c10
  replace H:=ifn_ H;obtain⟨c11,H⟩:=H
  have c11b0:=decide_eq_true c11
  clear c11
  replace H:=ifa_ H;obtain⟨LMc12,H⟩:=H
  obtain⟨y306,hy_⟩:∃ y_:List ByteArray,y_=(x5_1 ++ [rdOf ByteArray.empty l1 (rd l0 x13_1)]):=⟨_,rfl⟩
  replace H:(perm_picked_string.l0 k1 l1 y306 l0 (l0.length:Int) (wrap64 (x13_1+1)))=some r:=hyw_
  have Ny306:=am_ hy_
  clear hy_
  have H':=am_ H
  clear H
  have p304:0≤(x13_1:Int):=od_
  have q304:x13_1<(l0.length:Int):=od_
  obtain⟨ad304,e304,hx304_0⟩:=jy HR0.out x13_1 p304 q304
  cases e304
  (try(replace hx304_0:=(HB.out.cell (World.block_lt_of_cell? w _ hx304_0)).trans hx304_0))
  replace p304:=eq_true p304
  replace q304:=eq_true q304
  have p305:0≤((rd l0 x13_1):Int):=od_
  have q305:(rd l0 x13_1)<(l1.length:Int):=od_
  obtain⟨ad305,e305,hx305_0⟩:=Kd.at_string HR1.out (rd l0 x13_1) p305 q305
  cases e305
  (try(replace hx305_0:=(HB.out.cell (World.block_lt_of_cell? w _ hx305_0)).trans hx305_0))
  replace p305:=eq_true p305
  replace q305:=eq_true q305
  go_wp2_with(first|(refine gb_ .append #[.tmp 17,.tmp 22] ?_;at_builtin;refine Jd Kd.string (w0:=w) w.heap.size rfl (.tmp 17) (.tmp 22) 32 9 (.string ⟨#[]⟩) 16 rfl Try.underlying32 info9 rfl T3_ T2_ u5 x5_1 (rdOf ByteArray.empty l1 (rd l0 x13_1)) [.string (rdOf ByteArray.empty l1 (rd l0 x13_1))] (fun _=>True) (fun _=>False) rfl rfl ?aP (fun _ hk=>hk.elim) ?aF ?aO ?aB ?aS ?aL ?_;(case aP=>exact rfl);(case aB=>exact T19_);(case aF=>exact(fun _ _=>trivial));(case aO=>exact(ru_ HO_5.out));(case aS=>exact(jc T19_));(case aL=>have:=LMc12.out;omega);intro v307 w13 ho hb hg hat;rw[←Ny306.out] at ho;have n_:=P2_ (hb) (ho);clear HB HO_5;obtain⟨HB,HO308⟩:=n_;clear ho hb hg hat))
  go_roundg k1
  case measure=>have:=HK1.out;omega
  case rel=>exact⟨(y306),(wrap64 (x13_1+1)),T10_,H',⟨T7_⟩,⟨ru_ HO308.out⟩,⟨T19_⟩⟩
def perm_Apply_string.f (k:Nat) (l0:List Int) (l1:List ByteArray):Option (List ByteArray×Int):=if(l0.length:Int)=(l1.length:Int) then((perm_fits.f k l0).bind fun t309=>(if t309=true then((perm_picked_string.f k l0 l1).bind fun t310=>(some (t310,0))) else(some (([]:List ByteArray),110)))) else(some (([]:List ByteArray),110))
theorem perm_Apply_string.mono:∀ a0 a1 k,LeO (perm_Apply_string.f k a0 a1) (perm_Apply_string.f (k+1) a0 a1):=by
 intro a0 a1 k
 unfold perm_Apply_string.f
 with_reducible repeat' first|exact perm_fits.mono _ _|exact perm_picked_string.mono _ _ _|exact LeO.refl _|exact LeO.none _|refine LeO.ite ?_ ?_|refine LeO.bind ?_ (fun _=>?_)
set_option maxHeartbeats 8000000 in
set_option maxRecDepth 100000 in
theorem perm_Apply_string.calls (k:Nat) (A0:Option Addr) (c0:Nat) (l0:List Int) (A1:Option Addr) (c1:Nat) (l1:List ByteArray) (r1:List ByteArray) (r2:Int) (w:World) (hr0:jX (jb .i64) w A0 l0.length l0) (hc0:l0.length≤c0) (hr1:jX Kd.string w A1 l1.length l1) (hc1:l1.length≤c1) (h:perm_Apply_string.f k l0 l1=some (r1,r2)) :
  Calls Try.prog 24 #[.slice A0 l0.length c0,.slice A1 l1.length c1] w fun e w'=>∃ v0_:Value,e = .returned (.tuple #[v0_,.int .i64 r2])∧jt Kd.string 9 w' w.heap.size (fun _=>True) v0_ r1∧Below w.heap.size w w':=by
 have HR0:=am_ hr0
 have HC0:=am_ hc0
 clear hr0 hc0
 have HR1:=am_ hr1
 have HC1:=am_ hc1
 clear hr1 hc1
 have HB:=am_ (Below.refl w.heap.size w)
 have H:(if(l0.length:Int)=(l1.length:Int) then((perm_fits.f k l0).bind fun t309=>(if t309=true then((perm_picked_string.f k l0 l1).bind fun t310=>(some (t310,0))) else(some (([]:List ByteArray),110)))) else(some (([]:List ByteArray),110)))=some (r1,r2):=h
 clear h
 by_cases c3:(l0.length:Int)=(l1.length:Int)
 rotate_left
 ·rw[if_neg c3] at H
  obtain⟨c3b0,c3b1⟩:=en_ c3
  have c3b2:(l0.length == l1.length)=false:=by first|simpa using c3|(simp at c3 ⊢;omega)
  obtain⟨rfl,rfl⟩:=sj2_ H
  go_enter Try.func24,Try.ntmps24
  go_wp2
  go_ret2
  exact⟨_,T17_,T21_,T19_⟩
 rw[if_pos c3] at H
 obtain⟨c3b0,c3b1⟩:=ep_ c3
 have c3b2:(l0.length == l1.length)=true:=by first|simpa using c3|(simp at c3 ⊢;omega)
 clear c3
 replace H:=Option.bind_eq_some_iff.mp H
 obtain⟨t309,A40,H⟩:=H
 try dsimp only at H
 have A4:=am_ A40
 clear A40
 by_cases c5:t309=true
 rotate_left
 ·replace c5:=Bool.eq_false_iff.mpr c5
  subst c5
  have H1:(some (([]:List ByteArray),110))=some (r1,r2):=by rw[if_neg (show ¬ (false=true) by decide)] at H;exact H
  clear H
  have H:=H1
  clear H1
  obtain⟨rfl,rfl⟩:=sj2_ H
  go_enter Try.func24,Try.ntmps24
  go_wp2_with(first|(go_at_call 39;(with_reducible refine(perm_fits.calls k _ _ l0 false _ ?side1 ?side2 A4.out).mono ?_);(case side1=>exact cu_ HR0.out);(case side2=>exact HC0.out);rintro e w9 ⟨rfl,hb⟩;have n0_:=am_ (jk T19_ hb);clear HB;have HB:=n0_;clear n0_;clear hb))
  go_ret2
  exact⟨_,T17_,T21_,T19_⟩
 subst c5
 have H1:((perm_picked_string.f k l0 l1).bind fun t310=>(some (t310,0)))=some (r1,r2):=by rw[if_pos rfl] at H;exact H
 clear H
 have H:=H1
 clear H1
 replace H:=Option.bind_eq_some_iff.mp H
 obtain⟨t310,A60,H⟩:=H
 replace H:(some (t310,0))=some (r1,r2):=H
 have A6:=am_ A60
 clear A60
 obtain⟨rfl,rfl⟩:=sj2_ H
 go_enter Try.func24,Try.ntmps24
 go_wp2_with(first|(go_at_call 39;(with_reducible refine(perm_fits.calls k _ _ l0 true _ ?side1 ?side2 A4.out).mono ?_);(case side1=>exact cu_ HR0.out);(case side2=>exact HC0.out);rintro e w7 ⟨rfl,hb⟩;have n0_:=am_ (jk T19_ hb);clear HB;have HB:=n0_;clear n0_;clear hb)|(refine gc_ 49 ?_;refine gl_ (some 18) Try.func49 #[.slice A0 l0.length c0,.slice A1 l1.length c1] ?_;(with_reducible refine(perm_picked_string.calls k _ _ l0 _ _ l1 t310 _ ?side1 ?side2 ?side3 ?side4 A6.out).mono ?_);(case side1=>exact cu_ (jw HR0.out HB.out));(case side2=>exact HC0.out);(case side3=>exact cu_ (jw HR1.out HB.out));(case side4=>exact HC1.out);rintro e w8 ⟨v311,rfl,ho0,hb⟩;refine⟨_,rfl,?_⟩;have n_:=P2_ (jq ho0 (jc T19_)) (jk T19_ hb);clear HB;obtain⟨HO312,HB⟩:=n_;clear hb ho0))
 go_ret2
 exact⟨_,T17_,ru_ HO312.out,T19_⟩
def riffle_Shuffle_string.f (k:Nat) (l0:List Int) (a1:Int) (l2:List ByteArray):Option (List ByteArray×Int):=(riffle_Order.f k l0 (l2.length:Int) a1).bind fun bt313=>(if bt313.2=0 then((perm_Apply_string.f k bt313.1 l2).bind fun bt317=>(some (bt317.1,bt317.2))) else(some (([]:List ByteArray),bt313.2)))
theorem riffle_Shuffle_string.mono:∀ a0 a1 a2 k,LeO (riffle_Shuffle_string.f k a0 a1 a2) (riffle_Shuffle_string.f (k+1) a0 a1 a2):=by
 intro a0 a1 a2 k
 unfold riffle_Shuffle_string.f
 with_reducible repeat' first|exact perm_Apply_string.mono _ _ _|exact riffle_Order.mono _ _ _ _|exact LeO.refl _|exact LeO.none _|refine LeO.ite ?_ ?_|refine LeO.bind ?_ (fun _=>?_)
set_option maxHeartbeats 8000000 in
set_option maxRecDepth 100000 in
theorem riffle_Shuffle_string.calls (k:Nat) (A0:Option Addr) (c0:Nat) (l0:List Int) (a1:Int) (A2:Option Addr) (c2:Nat) (l2:List ByteArray) (r1:List ByteArray) (r2:Int) (w:World) (hr0:jX (jb .u8) w A0 l0.length l0) (hc0:l0.length≤c0) (hr2:jX Kd.string w A2 l2.length l2) (hc2:l2.length≤c2) (h:riffle_Shuffle_string.f k l0 a1 l2=some (r1,r2)) :
  Calls Try.prog 15 #[.slice A0 l0.length c0,.int .i64 a1,.slice A2 l2.length c2] w fun e w'=>∃ v0_:Value,e = .returned (.tuple #[v0_,.int .i64 r2])∧jt Kd.string 9 w' w.heap.size (fun _=>True) v0_ r1∧Below w.heap.size w w':=by
 have HR0:=am_ hr0
 have HC0:=am_ hc0
 clear hr0 hc0
 have HR2:=am_ hr2
 have HC2:=am_ hc2
 clear hr2 hc2
 have HB:=am_ (Below.refl w.heap.size w)
 have H:((riffle_Order.f k l0 (l2.length:Int) a1).bind fun bt313=>(if bt313.2=0 then((perm_Apply_string.f k bt313.1 l2).bind fun bt317=>(some (bt317.1,bt317.2))) else(some (([]:List ByteArray),bt313.2))))=some (r1,r2):=h
 clear h
 replace H:=Option.bind_eq_some_iff.mp H
 obtain⟨⟨t313,t314⟩,A40,H⟩:=H
 try dsimp only at H
 have A4:=am_ A40
 clear A40
 by_cases c5:t314=0
 rotate_left
 ·rw[if_neg c5] at H
  obtain⟨c5b0,c5b1⟩:=en_ c5
  obtain⟨rfl,rfl⟩:=sj2_ H
  go_enter Try.func15,Try.ntmps15
  go_wp2_with(first|(refine gc_ 11 ?_;refine gl_ (some 15) Try.func11 #[.slice A0 l0.length c0,.int .i64 (l2.length:Int),.int .i64 a1] ?_;(with_reducible refine(riffle_Order.calls k _ _ l0 (l2.length:Int) a1 t313 t314 _ ?side1 ?side2 A4.out).mono ?_);(case side1=>exact cu_ HR0.out);(case side2=>exact HC0.out);rintro e w10 ⟨v315,rfl,ho0,hb⟩;refine⟨_,rfl,?_⟩;have n_:=P2_ (jq ho0 (jc T19_)) (jk T19_ hb);clear HB;obtain⟨HO316,HB⟩:=n_;clear hb ho0))
  go_ret2
  exact⟨_,T17_,T21_,T19_⟩
 rw[if_pos c5] at H
 obtain⟨c5b0,c5b1⟩:=ep_ c5
 clear c5
 replace H:=Option.bind_eq_some_iff.mp H
 obtain⟨⟨t317,t318⟩,A60,H⟩:=H
 replace H:(some (t317,t318))=some (r1,r2):=H
 have A6:=am_ A60
 clear A60
 obtain⟨rfl,rfl⟩:=sj2_ H
 go_enter Try.func15,Try.ntmps15
 go_wp2_with(first|(refine gc_ 11 ?_;refine gl_ (some 15) Try.func11 #[.slice A0 l0.length c0,.int .i64 (l2.length:Int),.int .i64 a1] ?_;(with_reducible refine(riffle_Order.calls k _ _ l0 (l2.length:Int) a1 t313 t314 _ ?side1 ?side2 A4.out).mono ?_);(case side1=>exact cu_ HR0.out);(case side2=>exact HC0.out);rintro e w7 ⟨v315,rfl,ho0,hb⟩;refine⟨_,rfl,?_⟩;have n_:=P2_ (jq ho0 (jc T19_)) (jk T19_ hb);clear HB;obtain⟨HO316,HB⟩:=n_;clear hb ho0;obtain⟨Ao8,co8,eo8⟩:=jp HO316.out;subst eo8)|(refine gc_ 24 ?_;refine gl_ (some 23) Try.func24 #[.slice Ao8 t313.length co8,.slice A2 l2.length c2] ?_;(with_reducible refine(perm_Apply_string.calls k _ _ t313 _ _ l2 t317 t318 _ ?side1 ?side2 ?side3 ?side4 A6.out).mono ?_);(case side1=>exact cu_ ((ji HO316.out).2.2));(case side2=>exact(ji HO316.out).2.1);(case side3=>exact cu_ (jw HR2.out HB.out));(case side4=>exact HC2.out);rintro e w9 ⟨v319,rfl,ho0,hb⟩;refine⟨_,rfl,?_⟩;have n_:=P3_ (je (ru_ HO316.out) hb) (jq ho0 (jc T19_)) (jk T19_ hb);clear HO316 HB;obtain⟨HO316,HO320,HB⟩:=n_;clear hb ho0))
 go_ret2
 exact⟨_,T17_,ru_ HO320.out,T19_⟩
def churnlaw13_counted.l0:Nat→List Int→Int→Option (List Int)
 | 0,_,_=>none
 | k+1,x1,x2=>if x2≤24 then(if x1.length<140737488355328 then(churnlaw13_counted.l0 k (x1 ++ [(x2) % 256]) (wrap64 (x2+1))) else(none)) else(some x1)
def churnlaw13_counted.f (k:Nat)  :Option (List Int):=churnlaw13_counted.l0 k (List.replicate 18 0) 1
theorem churnlaw13_counted.mono_l:∀ k,(∀ y0 y1,LeO (churnlaw13_counted.l0 k y0 y1) (churnlaw13_counted.l0 (k+1) y0 y1))
 | 0=>fun _ _ r h=>by simp[churnlaw13_counted.l0] at h
 | k+1=>by
  have ih0:=churnlaw13_counted.mono_l k
  intro y0 y1
  unfold churnlaw13_counted.l0
  with_reducible repeat' first|exact ih0 _ _|exact LeO.refl _|exact LeO.none _|refine LeO.ite ?_ ?_|refine LeO.bind ?_ (fun _=>?_)
theorem churnlaw13_counted.mono:∀ k,LeO (churnlaw13_counted.f k ) (churnlaw13_counted.f (k+1) ):=by
 intro  k
 have ih0:=churnlaw13_counted.mono_l k
 unfold churnlaw13_counted.f
 with_reducible repeat' first|exact ih0 _ _|exact LeO.refl _|exact LeO.none _|refine LeO.ite ?_ ?_|refine LeO.bind ?_ (fun _=>?_)
set_option maxHeartbeats 8000000 in
set_option maxRecDepth 100000 in
theorem churnlaw13_counted.calls (k:Nat)  (r:List Int) (w:World) (h:churnlaw13_counted.f k  = some r) :
  Calls Try.prog 19 #[] w fun e w'=>∃ v0_:Value,e = .returned (v0_)∧jt (jb .u8) 5 w' w.heap.size (fun _=>True) v0_ r∧Below w.heap.size w w':=by
 have HB:=am_ (Below.refl w.heap.size w)
 have H:(churnlaw13_counted.l0 k (List.replicate 18 0) 1)=some r:=h
 clear h
 obtain⟨y470,hy_⟩:∃ y_:List Int,y_=(List.replicate 18 0):=⟨_,rfl⟩
 replace H:(churnlaw13_counted.l0 k y470 1)=some r:=hyw_
 have Ny470:=am_ hy_
 clear hy_
 have H':=am_ H
 clear H
 go_enter Try.func19,Try.ntmps19
 go_wp2_with(first|(refine gd_ 3 ?_;refine Kd.R_makecap (jb .u8) _ 5 rfl (N:=3) rfl 23 _ _ rfl 18 rfl rfl Try.underlying23 (.int .u8 0) 1 info5 rfl T3_ T2_ 0 (ok:=fun _=>True) (okp:=fun _=>True) rfl (fun _ hk=>hk) trivial T2_ T2_ (Below.refl _ _) (Nat.le_refl _) ?_;intro v471 w1 ho2 hb hg_ hnew_;clear hg_ hnew_;(first|rw[←Ny470.out] at ho2|(simp only[Int.reduceToNat] at ho2;rw[←Ny470.out] at ho2));have n_:=P2_ (jq ho2 (jc T19_)) (jk T19_ hb);clear HB;obtain⟨HO472,HB⟩:=n_;clear hb ho2))
 go_loopg [1,2] k (fun kq v1 v2 w'=>∃ (x1_1:List Int) (x2_1:Int),v2 = .int .i64 x2_1∧Aside0 (churnlaw13_counted.l0 kq x1_1 x2_1=some r)∧Aside0 (kq≤k)∧Aside0 (jt (jb .u8) 5 w' w.heap.size (fun _=>True) v1 x1_1)∧Aside0 (Below w.heap.size w w'))
 case atStart=>exact⟨(y470),(1),T10_,H',⟨Nat.le_refl _⟩,⟨ru_ HO472.out⟩,⟨T19_⟩⟩
 clear H'
 obtain⟨x1_1,x2_1,rfl,HA,HK1,HO_1,HB⟩:=hrel
 cases gk with
 | zero=>exact absurd HA.out (by simp[churnlaw13_counted.l0])
 | succ k1 =>
  have H:=HA.out
  clear HA
  simp only[churnlaw13_counted.l0] at H
  by_cases c3:x2_1≤24
  rotate_left
  ·rw[if_neg c3] at H
   have c3b0:=decide_eq_false c3
   clear c3
   obtain rfl:=Option.some.inj H
   obtain⟨rfl⟩:=sj1_ H
   go_wp2
   go_ret
   exact⟨_,T17_,ru_ HO_1.out,T19_⟩
  rw[if_pos c3] at H
  have c3b0:=decide_eq_true c3
  clear c3
  replace H:=ifa_ H;obtain⟨LMc4,H⟩:=H
  obtain⟨y473,hy_⟩:∃ y_:List Int,y_=(x1_1 ++ [(x2_1) % 256]):=⟨_,rfl⟩
  replace H:(churnlaw13_counted.l0 k1 y473 (wrap64 (x2_1+1)))=some r:=hyw_
  have Ny473:=am_ hy_
  clear hy_
  have H':=am_ H
  clear H
  go_wp2_with(first|(refine gb_ .append #[.tmp 8,.tmp 11] ?_;at_builtin;refine Jd (jb .u8) (w0:=w) w.heap.size rfl (.tmp 8) (.tmp 11) 23 5 (.int .u8 0) 1 rfl Try.underlying23 info5 rfl T3_ T2_ u1 x1_1 ((x2_1) % 256) [.int .u8 ((x2_1) % 256)] (fun _=>True) (fun _=>False) rfl rfl ?aP (fun _ hk=>hk.elim) ?aF ?aO ?aB ?aS ?aL ?_;(case aP=>exact rfl);(case aB=>exact T19_);(case aF=>exact(fun _ _=>trivial));(case aO=>exact(ru_ HO_1.out));(case aS=>exact(jc T19_));(case aL=>have:=LMc4.out;omega);intro v474 w5 ho hb hg hat;rw[←Ny473.out] at ho;have n_:=P2_ (hb) (ho);clear HB HO_1;obtain⟨HB,HO475⟩:=n_;clear ho hb hg hat))
  go_roundg k1
  case measure=>have:=HK1.out;omega
  case rel=>exact⟨(y473),(wrap64 (x2_1+1)),T10_,H',⟨T7_⟩,⟨ru_ HO475.out⟩,⟨T19_⟩⟩
def churnlaw13_alive.f (k:Nat)  :Option (Bool):=(churnlaw13_counted.f k).bind fun t476=>((riffle_Order.f k t476 3 1).bind fun bt479=>((churnlaw13_counted.f k).bind fun t483=>((riffle_Shuffle_string.f k t483 2 (([(⟨#[97]⟩:ByteArray),(⟨#[98]⟩:ByteArray),(⟨#[99]⟩:ByteArray),(⟨#[100]⟩:ByteArray)]:List ByteArray))).bind fun bt489=>((churnlaw13_counted.f k).bind fun t493=>((riffle_Turn.f k t493 2 1 (([1,0]:List Int))).bind fun bt499=>(if bt479.2=0 then(if bt489.2=0 then(if bt499.2=0 then(if(bt479.1.length:Int)=3 then(if(bt489.1.length:Int)=4 then(if(bt499.1.length:Int)=42 then(if 0<(bt479.1.length:Int) then(if(rd bt479.1 0)=2 then(if 1<(bt479.1.length:Int) then(if(rd bt479.1 1)=0 then(if 2<(bt479.1.length:Int) then(if(rd bt479.1 2)=1 then(if 1<(bt489.1.length:Int) then(if(rdOf ByteArray.empty bt489.1 1).toList=([99]:List UInt8) then(if 3<(bt489.1.length:Int) then(some ((rdOf ByteArray.empty bt489.1 3).toList == ([98]:List UInt8))) else(none)) else(some false)) else(none)) else(some false)) else(none)) else(some false)) else(none)) else(some false)) else(none)) else(some false)) else(some false)) else(some false)) else(some false)) else(some false)) else(some false)))))))
theorem churnlaw13_alive.mono:∀ k,LeO (churnlaw13_alive.f k ) (churnlaw13_alive.f (k+1) ):=by
 intro  k
 unfold churnlaw13_alive.f
 with_reducible repeat' first|exact churnlaw13_counted.mono _|exact riffle_Order.mono _ _ _ _|exact riffle_Shuffle_string.mono _ _ _ _|exact riffle_Turn.mono _ _ _ _ _|exact LeO.refl _|exact LeO.none _|refine LeO.ite ?_ ?_|refine LeO.bind ?_ (fun _=>?_)
set_option maxHeartbeats 8000000 in
set_option maxRecDepth 100000 in
theorem churnlaw13_alive.calls (k:Nat)  (r:Bool) (w:World) (hr_:r=true) (h:churnlaw13_alive.f k  = some r) :
  Calls Try.prog 10 #[] w fun e w'=>e = .returned (.bool r)∧Below w.heap.size w w':=by
 have HR_:=am_ hr_
 clear hr_
 have HB:=am_ (Below.refl w.heap.size w)
 have H:((churnlaw13_counted.f k).bind fun t476=>((riffle_Order.f k t476 3 1).bind fun bt479=>((churnlaw13_counted.f k).bind fun t483=>((riffle_Shuffle_string.f k t483 2 (([(⟨#[97]⟩:ByteArray),(⟨#[98]⟩:ByteArray),(⟨#[99]⟩:ByteArray),(⟨#[100]⟩:ByteArray)]:List ByteArray))).bind fun bt489=>((churnlaw13_counted.f k).bind fun t493=>((riffle_Turn.f k t493 2 1 (([1,0]:List Int))).bind fun bt499=>(if bt479.2=0 then(if bt489.2=0 then(if bt499.2=0 then(if(bt479.1.length:Int)=3 then(if(bt489.1.length:Int)=4 then(if(bt499.1.length:Int)=42 then(if 0<(bt479.1.length:Int) then(if(rd bt479.1 0)=2 then(if 1<(bt479.1.length:Int) then(if(rd bt479.1 1)=0 then(if 2<(bt479.1.length:Int) then(if(rd bt479.1 2)=1 then(if 1<(bt489.1.length:Int) then(if(rdOf ByteArray.empty bt489.1 1).toList=([99]:List UInt8) then(if 3<(bt489.1.length:Int) then(some ((rdOf ByteArray.empty bt489.1 3).toList == ([98]:List UInt8))) else(none)) else(some false)) else(none)) else(some false)) else(none)) else(some false)) else(none)) else(some false)) else(none)) else(some false)) else(some false)) else(some false)) else(some false)) else(some false)) else(some false))))))))=some r:=h
 clear h
 replace H:=Option.bind_eq_some_iff.mp H
 obtain⟨t476,A10,H⟩:=H
 try dsimp only at H
 have A1:=am_ A10
 clear A10
 replace H:=Option.bind_eq_some_iff.mp H
 obtain⟨⟨t479,t480⟩,A20,H⟩:=H
 try dsimp only at H
 have A2:=am_ A20
 clear A20
 replace H:=Option.bind_eq_some_iff.mp H
 obtain⟨t483,A30,H⟩:=H
 try dsimp only at H
 have A3:=am_ A30
 clear A30
 obtain⟨y486,hy_⟩:∃ y_:List ByteArray,y_=(([(⟨#[97]⟩:ByteArray),(⟨#[98]⟩:ByteArray),(⟨#[99]⟩:ByteArray),(⟨#[100]⟩:ByteArray)]:List ByteArray)):=⟨_,rfl⟩
 replace H:((riffle_Shuffle_string.f k t483 2 y486).bind fun bt489=>((churnlaw13_counted.f k).bind fun t493=>((riffle_Turn.f k t493 2 1 (([1,0]:List Int))).bind fun bt499=>(if t480=0 then(if bt489.2=0 then(if bt499.2=0 then(if(t479.length:Int)=3 then(if(bt489.1.length:Int)=4 then(if(bt499.1.length:Int)=42 then(if 0<(t479.length:Int) then(if(rd t479 0)=2 then(if 1<(t479.length:Int) then(if(rd t479 1)=0 then(if 2<(t479.length:Int) then(if(rd t479 2)=1 then(if 1<(bt489.1.length:Int) then(if(rdOf ByteArray.empty bt489.1 1).toList=([99]:List UInt8) then(if 3<(bt489.1.length:Int) then(some ((rdOf ByteArray.empty bt489.1 3).toList == ([98]:List UInt8))) else(none)) else(some false)) else(none)) else(some false)) else(none)) else(some false)) else(none)) else(some false)) else(none)) else(some false)) else(some false)) else(some false)) else(some false)) else(some false)) else(some false)))))=some r:=hyw_
 have Ny486:=am_ hy_
 clear hy_
 replace H:=Option.bind_eq_some_iff.mp H
 obtain⟨⟨t489,t490⟩,A40,H⟩:=H
 try dsimp only at H
 have A4:=am_ A40
 clear A40
 replace H:=Option.bind_eq_some_iff.mp H
 obtain⟨t493,A50,H⟩:=H
 try dsimp only at H
 have A5:=am_ A50
 clear A50
 obtain⟨y496,hy_⟩:∃ y_:List Int,y_=(([1,0]:List Int)):=⟨_,rfl⟩
 replace H:((riffle_Turn.f k t493 2 1 y496).bind fun bt499=>(if t480=0 then(if t490=0 then(if bt499.2=0 then(if(t479.length:Int)=3 then(if(t489.length:Int)=4 then(if(bt499.1.length:Int)=42 then(if 0<(t479.length:Int) then(if(rd t479 0)=2 then(if 1<(t479.length:Int) then(if(rd t479 1)=0 then(if 2<(t479.length:Int) then(if(rd t479 2)=1 then(if 1<(t489.length:Int) then(if(rdOf ByteArray.empty t489 1).toList=([99]:List UInt8) then(if 3<(t489.length:Int) then(some ((rdOf ByteArray.empty t489 3).toList == ([98]:List UInt8))) else(none)) else(some false)) else(none)) else(some false)) else(none)) else(some false)) else(none)) else(some false)) else(none)) else(some false)) else(some false)) else(some false)) else(some false)) else(some false)) else(some false)))=some r:=hyw_
 have Ny496:=am_ hy_
 clear hy_
 replace H:=Option.bind_eq_some_iff.mp H
 obtain⟨⟨t499,t500⟩,A60,H⟩:=H
 try dsimp only at H
 have A6:=am_ A60
 clear A60
 by_cases c7:t480=0
 rotate_left
 ·rw[if_neg c7] at H
  obtain⟨c7b0,c7b1⟩:=en_ c7
  obtain rfl:=Option.some.inj H
  exact absurd HR_.out T3_
 rw[if_pos c7] at H
 obtain⟨c7b0,c7b1⟩:=ep_ c7
 clear c7
 by_cases c8:t490=0
 rotate_left
 ·rw[if_neg c8] at H
  obtain⟨c8b0,c8b1⟩:=en_ c8
  obtain rfl:=Option.some.inj H
  exact absurd HR_.out T3_
 rw[if_pos c8] at H
 obtain⟨c8b0,c8b1⟩:=ep_ c8
 clear c8
 by_cases c9:t500=0
 rotate_left
 ·rw[if_neg c9] at H
  obtain⟨c9b0,c9b1⟩:=en_ c9
  obtain rfl:=Option.some.inj H
  exact absurd HR_.out T3_
 rw[if_pos c9] at H
 obtain⟨c9b0,c9b1⟩:=ep_ c9
 clear c9
 by_cases c10:(t479.length:Int)=3
 rotate_left
 ·rw[if_neg c10] at H
  obtain⟨c10b0,c10b1⟩:=en_ c10
  obtain rfl:=Option.some.inj H
  exact absurd HR_.out T3_
 rw[if_pos c10] at H
 obtain⟨c10b0,c10b1⟩:=ep_ c10
 clear c10
 by_cases c11:(t489.length:Int)=4
 rotate_left
 ·rw[if_neg c11] at H
  obtain⟨c11b0,c11b1⟩:=en_ c11
  obtain rfl:=Option.some.inj H
  exact absurd HR_.out T3_
 rw[if_pos c11] at H
 obtain⟨c11b0,c11b1⟩:=ep_ c11
 clear c11
 by_cases c12:(t499.length:Int)=42
 rotate_left
 ·rw[if_neg c12] at H
  obtain⟨c12b0,c12b1⟩:=en_ c12
  obtain rfl:=Option.some.inj H
  exact absurd HR_.out T3_
 rw[if_pos c12] at H
 obtain⟨c12b0,c12b1⟩:=ep_ c12
 clear c12
 replace H:=ifn_ H;obtain⟨c13,H⟩:=H
 have c13b0:=decide_eq_true c13
 have c13b1:decide (0<t479.length)=true:=decide_eq_true T2_
 clear c13
 by_cases c14:(rd t479 0)=2
 rotate_left
 ·rw[if_neg c14] at H
  obtain⟨c14b0,c14b1⟩:=en_ c14
  obtain rfl:=Option.some.inj H
  exact absurd HR_.out T3_
 rw[if_pos c14] at H
 obtain⟨c14b0,c14b1⟩:=ep_ c14
 clear c14
 replace H:=ifn_ H;obtain⟨c15,H⟩:=H
 have c15b0:=decide_eq_true c15
 have c15b1:decide (1<t479.length)=true:=decide_eq_true T2_
 clear c15
 by_cases c16:(rd t479 1)=0
 rotate_left
 ·rw[if_neg c16] at H
  obtain⟨c16b0,c16b1⟩:=en_ c16
  obtain rfl:=Option.some.inj H
  exact absurd HR_.out T3_
 rw[if_pos c16] at H
 obtain⟨c16b0,c16b1⟩:=ep_ c16
 clear c16
 replace H:=ifn_ H;obtain⟨c17,H⟩:=H
 have c17b0:=decide_eq_true c17
 have c17b1:decide (2<t479.length)=true:=decide_eq_true T2_
 clear c17
 by_cases c18:(rd t479 2)=1
 rotate_left
 ·rw[if_neg c18] at H
  obtain⟨c18b0,c18b1⟩:=en_ c18
  obtain rfl:=Option.some.inj H
  exact absurd HR_.out T3_
 rw[if_pos c18] at H
 obtain⟨c18b0,c18b1⟩:=ep_ c18
 clear c18
 replace H:=ifn_ H;obtain⟨c19,H⟩:=H
 have c19b0:=decide_eq_true c19
 have c19b1:decide (1<t489.length)=true:=decide_eq_true T2_
 clear c19
 by_cases c20:(rdOf ByteArray.empty t489 1).toList=([99]:List UInt8)
 rotate_left
 ·rw[if_neg c20] at H
  obtain⟨c20b0,c20b1⟩:=en_ c20
  obtain rfl:=Option.some.inj H
  exact absurd HR_.out T3_
 rw[if_pos c20] at H
 obtain⟨c20b0,c20b1⟩:=ep_ c20
 clear c20
 replace H:=ifn_ H;obtain⟨c21,H⟩:=H
 have c21b0:=decide_eq_true c21
 have c21b1:decide (3<t489.length)=true:=decide_eq_true T2_
 clear c21
 obtain rfl:=Option.some.inj H
 obtain⟨rfl⟩:=sj1_ H
 go_enter Try.func10,Try.ntmps10
 go_wp2_with(first|(refine gc_ 19 ?_;refine gl_ (some 8) Try.func19 #[] ?_;(with_reducible refine(churnlaw13_counted.calls k  t476 _ A1.out).mono ?_);rintro e w22 ⟨v477,rfl,ho0,hb⟩;refine⟨_,rfl,?_⟩;have n_:=P2_ (jq ho0 (jc T19_)) (jk T19_ hb);clear HB;obtain⟨HO478,HB⟩:=n_;clear hb ho0;obtain⟨Ao23,co23,eo23⟩:=jp HO478.out;subst eo23)|(refine gc_ 11 ?_;refine gl_ (some 9) Try.func11 #[.slice Ao23 t476.length co23,.int .i64 3,.int .i64 1] ?_;(with_reducible refine(riffle_Order.calls k _ _ t476 3 1 t479 t480 _ ?side1 ?side2 A2.out).mono ?_);(case side1=>exact cu_ ((ji HO478.out).2.2));(case side2=>exact(ji HO478.out).2.1);rintro e w24 ⟨v481,rfl,ho0,hb⟩;refine⟨_,rfl,?_⟩;have n_:=P3_ (je (ru_ HO478.out) hb) (jq ho0 (jc T19_)) (jk T19_ hb);clear HO478 HB;obtain⟨HO478,HO482,HB⟩:=n_;clear hb ho0)|(refine gc_ 19 ?_;refine gl_ (some 13) Try.func19 #[] ?_;(with_reducible refine(churnlaw13_counted.calls k  t483 _ A3.out).mono ?_);rintro e w25 ⟨v484,rfl,ho0,hb⟩;refine⟨_,rfl,?_⟩;have n_:=P4_ (jg (ru_ HO478.out) (jf ho0) hb) (je (ru_ HO482.out) hb) (jq (jj ho0 (jh (ru_ HO478.out))) (jc T19_)) (jk T19_ hb);clear HO478 HO482 HB;obtain⟨HO478,HO482,HO485,HB⟩:=n_;clear hb ho0)|(refine gd_ 14 ?_;(try(refine jI T0_ ?_;dsimp only));refine Kd.R_lit Kd.string _ 9 ?hg (N:=14) ?hd (xs:=([(⟨#[97]⟩:ByteArray),(⟨#[98]⟩:ByteArray),(⟨#[99]⟩:ByteArray),(⟨#[100]⟩:ByteArray)]:List ByteArray)) (inner:=[.string (⟨#[97]⟩:ByteArray),.string (⟨#[98]⟩:ByteArray),.string (⟨#[99]⟩:ByteArray),.string (⟨#[100]⟩:ByteArray)]) (ok:=fun _=>True) (okp:=fun _=>True) ?hr ?hp (fun _ hk=>hk) trivial (Below.refl _ _) (Nat.le_refl _) T1_ ?_;(case hd=>rfl);(case hg=>rfl);(case hr=>first|(go_simp;done)|(go_simp;rfl));(case hp=>exact(Reps.one (show Kd.M Kd.string _ _ _ (⟨#[97]⟩:ByteArray) [.string (⟨#[97]⟩:ByteArray)] from rfl) (Reps.one (show Kd.M Kd.string _ _ _ (⟨#[98]⟩:ByteArray) [.string (⟨#[98]⟩:ByteArray)] from rfl) (Reps.one (show Kd.M Kd.string _ _ _ (⟨#[99]⟩:ByteArray) [.string (⟨#[99]⟩:ByteArray)] from rfl) (Reps.one (show Kd.M Kd.string _ _ _ (⟨#[100]⟩:ByteArray) [.string (⟨#[100]⟩:ByteArray)] from rfl) (Reps.none _ _))))));intro v487 w26 ho27 hb hg_ hnew_;clear hg_ hnew_;(first|rw[←Ny486.out] at ho27|(simp only[Int.reduceToNat] at ho27;rw[←Ny486.out] at ho27));have n_:=P5_ (je (ru_ HO478.out) hb) (je (ru_ HO482.out) hb) (je (ru_ HO485.out) hb) (jq ho27 (jc T19_)) (jk T19_ hb);clear HO478 HO482 HO485 HB;obtain⟨HO478,HO482,HO485,HO488,HB⟩:=n_;clear hb ho27;obtain⟨Ao28,co28,eo28⟩:=jp HO485.out;subst eo28;obtain⟨Ao29,co29,eo29⟩:=jp HO488.out;subst eo29)|(refine gc_ 15 ?_;refine gl_ (some 15) Try.func15 #[.slice Ao28 t483.length co28,.int .i64 2,.slice Ao29 y486.length co29] ?_;(with_reducible refine(riffle_Shuffle_string.calls k _ _ t483 2 _ _ y486 t489 t490 _ ?side1 ?side2 ?side3 ?side4 A4.out).mono ?_);(case side1=>exact cu_ ((ji HO485.out).2.2));(case side2=>exact(ji HO485.out).2.1);(case side3=>exact cu_ ((ji HO488.out).2.2));(case side4=>exact(ji HO488.out).2.1);rintro e w30 ⟨v491,rfl,ho0,hb⟩;refine⟨_,rfl,?_⟩;have n_:=P6_ (je (ru_ HO478.out) hb) (je (ru_ HO482.out) hb) (je (ru_ HO485.out) hb) (jg (ru_ HO488.out) (jf ho0) hb) (jq (jj ho0 (jh (ru_ HO488.out))) (jc T19_)) (jk T19_ hb);clear HO478 HO482 HO485 HO488 HB;obtain⟨HO478,HO482,HO485,HO488,HO492,HB⟩:=n_;clear hb ho0)|(refine gc_ 19 ?_;refine gl_ (some 19) Try.func19 #[] ?_;(with_reducible refine(churnlaw13_counted.calls k  t493 _ A5.out).mono ?_);rintro e w31 ⟨v494,rfl,ho0,hb⟩;refine⟨_,rfl,?_⟩;have n_:=P7_ (jg (ru_ HO478.out) (jf ho0) hb) (je (ru_ HO482.out) hb) (jg (ru_ HO485.out) (jf ho0) hb) (je (ru_ HO488.out) hb) (je (ru_ HO492.out) hb) (jq (jj (jj ho0 (jh (ru_ HO478.out))) (jh (ru_ HO485.out))) (jc T19_)) (jk T19_ hb);clear HO478 HO482 HO485 HO488 HO492 HB;obtain⟨HO478,HO482,HO485,HO488,HO492,HO495,HB⟩:=n_;clear hb ho0)|(refine gd_ 20 ?_;(try(refine jI T0_ ?_;dsimp only));refine Kd.R_lit (jb .i64) _ 3 ?hg (N:=20) ?hd (xs:=([1,0]:List Int)) (inner:=[.int .i64 1,.int .i64 0]) (ok:=fun _=>True) (okp:=fun _=>True) ?hr ?hp (fun _ hk=>hk) trivial (Below.refl _ _) (Nat.le_refl _) T1_ ?_;(case hd=>rfl);(case hg=>rfl);(case hr=>first|(go_simp;done)|(go_simp;rfl));(case hp=>exact(Reps.one (show Kd.M (jb .i64) _ _ _ 1 [.int .i64 1] from rfl) (Reps.one (show Kd.M (jb .i64) _ _ _ 0 [.int .i64 0] from rfl) (Reps.none _ _))));intro v497 w32 ho33 hb hg_ hnew_;clear hg_ hnew_;(first|rw[←Ny496.out] at ho33|(simp only[Int.reduceToNat] at ho33;rw[←Ny496.out] at ho33));have n_:=P8_ (je (ru_ HO478.out) hb) (jg (ru_ HO482.out) (jf ho33) hb) (je (ru_ HO485.out) hb) (je (ru_ HO488.out) hb) (je (ru_ HO492.out) hb) (je (ru_ HO495.out) hb) (jq (jj ho33 (jh (ru_ HO482.out))) (jc T19_)) (jk T19_ hb);clear HO478 HO482 HO485 HO488 HO492 HO495 HB;obtain⟨HO478,HO482,HO485,HO488,HO492,HO495,HO498,HB⟩:=n_;clear hb ho33;obtain⟨Ao34,co34,eo34⟩:=jp HO495.out;subst eo34;obtain⟨Ao35,co35,eo35⟩:=jp HO498.out;subst eo35)|(refine gc_ 17 ?_;refine gl_ (some 21) Try.func17 #[.slice Ao34 t493.length co34,.int .i64 2,.int .i64 1,.slice Ao35 y496.length co35] ?_;(with_reducible refine(riffle_Turn.calls k _ _ t493 2 1 _ _ y496 t499 t500 _ ?side1 ?side2 ?side3 ?side4 A6.out).mono ?_);(case side1=>exact cu_ ((ji HO495.out).2.2));(case side2=>exact(ji HO495.out).2.1);(case side3=>exact cu_ ((ji HO498.out).2.2));(case side4=>exact(ji HO498.out).2.1);rintro e w36 ⟨v501,rfl,ho0,hb⟩;refine⟨_,rfl,?_⟩;have n_:=P9_ (jg (ru_ HO478.out) (jf ho0) hb) (je (ru_ HO482.out) hb) (jg (ru_ HO485.out) (jf ho0) hb) (je (ru_ HO488.out) hb) (je (ru_ HO492.out) hb) (jg (ru_ HO495.out) (jf ho0) hb) (je (ru_ HO498.out) hb) (jq (jj (jj (jj ho0 (jh (ru_ HO478.out))) (jh (ru_ HO485.out))) (jh (ru_ HO495.out))) (jc T19_)) (jk T19_ hb);clear HO478 HO482 HO485 HO488 HO492 HO495 HO498 HB;obtain⟨HO478,HO482,HO485,HO488,HO492,HO495,HO498,HO502,HB⟩:=n_;clear hb ho0;obtain⟨Ao37,co37,eo37⟩:=jp HO482.out;subst eo37;obtain⟨Ao38,co38,eo38⟩:=jp HO492.out;subst eo38;obtain⟨Ao39,co39,eo39⟩:=jp HO502.out;subst eo39;have p503:0≤(0:Int):=T2_;have q503:0<(t479.length:Int):=od_;obtain⟨ad503,e503,hx503_0⟩:=jy (ji HO482.out).2.2 0 p503 q503;cases e503;have qi503:(0<t479.length)=True:=eq_true T2_;(try rw[show((0:Int)).toNat=0 from rfl] at hx503_0);(try rw[Addr.add_zero'] at hx503_0);replace p503:=eq_true p503;replace q503:=eq_true q503;have p504:0≤(1:Int):=T2_;have q504:1<(t479.length:Int):=od_;obtain⟨ad504,e504,hx504_0⟩:=jy (ji HO482.out).2.2 1 p504 q504;obtain rfl:ad503=ad504:=(by injection e504);(try simp only[show(1:Int).toNat=1 from rfl,Nat.reduceMul,Nat.reduceEqDiff,Go.Addr.add,↓reduceIte] at hx504_0);have qi504:(1<t479.length)=True:=eq_true T2_;(try rw[show((1:Int)).toNat=1 from rfl] at hx504_0);replace p504:=eq_true p504;replace q504:=eq_true q504;have p505:0≤(2:Int):=T2_;have q505:2<(t479.length:Int):=od_;obtain⟨ad505,e505,hx505_0⟩:=jy (ji HO482.out).2.2 2 p505 q505;obtain rfl:ad503=ad505:=(by injection e505);(try simp only[show(2:Int).toNat=2 from rfl,Nat.reduceMul,Nat.reduceEqDiff,Go.Addr.add,↓reduceIte] at hx505_0);have qi505:(2<t479.length)=True:=eq_true T2_;(try rw[show((2:Int)).toNat=2 from rfl] at hx505_0);replace p505:=eq_true p505;replace q505:=eq_true q505;have p506:0≤(1:Int):=T2_;have q506:1<(t489.length:Int):=od_;obtain⟨ad506,e506,hx506_0⟩:=Kd.at_string (ji HO492.out).2.2 1 p506 q506;cases e506;(try simp only[show(1:Int).toNat=1 from rfl,Nat.reduceMul,Nat.reduceEqDiff,Go.Addr.add,↓reduceIte] at hx506_0);have qi506:(1<t489.length)=True:=eq_true T2_;(try rw[show((1:Int)).toNat=1 from rfl] at hx506_0);replace p506:=eq_true p506;replace q506:=eq_true q506;have p507:0≤(3:Int):=T2_;have q507:3<(t489.length:Int):=od_;obtain⟨ad507,e507,hx507_0⟩:=Kd.at_string (ji HO492.out).2.2 3 p507 q507;obtain rfl:ad506=ad507:=(by injection e507);(try simp only[show(3:Int).toNat=3 from rfl,Nat.reduceMul,Nat.reduceEqDiff,Go.Addr.add,↓reduceIte] at hx507_0);have qi507:(3<t489.length)=True:=eq_true T2_;(try rw[show((3:Int)).toNat=3 from rfl] at hx507_0);replace p507:=eq_true p507;replace q507:=eq_true q507))
 go_ret
 exact⟨T17_,T19_⟩
def churnref13_fit.f (a0:Int) (a1:Int):Option (Bool):=if a0 ≥ 0 then(if a0≤256 then(if a1 ≥ 1 then(some (decide (a1≤64))) else(some false)) else(some false)) else(some false)
set_option maxHeartbeats 8000000 in
set_option maxRecDepth 100000 in
theorem churnref13_fit.calls (a0:Int) (a1:Int) (r:Bool) (w:World) (h:churnref13_fit.f a0 a1=some r) :
  Calls Try.prog 22 #[.int .i64 a0,.int .i64 a1] w fun e w'=>e = .returned (.bool r)∧Drawn0 w w':=by
 have H:(if a0 ≥ 0 then(if a0≤256 then(if a1 ≥ 1 then(some (decide (a1≤64))) else(some false)) else(some false)) else(some false))=some r:=h
 clear h
 by_cases c3:a0 ≥ 0
 rotate_left
 ·rw[if_neg c3] at H
  have c3b0:=decide_eq_false c3
  clear c3
  obtain rfl:=Option.some.inj H
  obtain⟨rfl⟩:=sj1_ H
  go_enter Try.func22,Try.ntmps22
  go_wp2
  go_ret
  exact⟨T10_,T11_⟩
 rw[if_pos c3] at H
 have c3b0:=decide_eq_true c3
 clear c3
 by_cases c4:a0≤256
 rotate_left
 ·rw[if_neg c4] at H
  have c4b0:=decide_eq_false c4
  clear c4
  obtain rfl:=Option.some.inj H
  obtain⟨rfl⟩:=sj1_ H
  go_enter Try.func22,Try.ntmps22
  go_wp2
  go_ret
  exact⟨T10_,T11_⟩
 rw[if_pos c4] at H
 have c4b0:=decide_eq_true c4
 clear c4
 by_cases c5:a1 ≥ 1
 ·rw[if_pos c5] at H
  have c5b0:=decide_eq_true c5
  clear c5
  obtain rfl:=Option.some.inj H
  obtain⟨rfl⟩:=sj1_ H
  go_enter Try.func22,Try.ntmps22
  go_wp2
  go_ret
  exact⟨T10_,T11_⟩
 rw[if_neg c5] at H
 have c5b0:=decide_eq_false c5
 clear c5
 obtain rfl:=Option.some.inj H
 obtain⟨rfl⟩:=sj1_ H
 go_enter Try.func22,Try.ntmps22
 go_wp2
 go_ret
 exact⟨T10_,T11_⟩
def churnref09_copied.f (l0:List Int):Option (List Int):=if([]:List Int).length+l0.length<140737488355328 then(some (([]:List Int) ++ l0)) else(none)
set_option maxHeartbeats 8000000 in
set_option maxRecDepth 100000 in
theorem churnref09_copied.calls (A0:Option Addr) (c0:Nat) (l0:List Int) (r:List Int) (w:World) (hr0:jX (jb .u8) w A0 l0.length l0) (hc0:l0.length≤c0) (h:churnref09_copied.f l0=some r) :
  Calls Try.prog 50 #[.slice A0 l0.length c0] w fun e w'=>∃ v0_:Value,e = .returned (v0_)∧jt (jb .u8) 5 w' w.heap.size (fun _=>True) v0_ r∧Below w.heap.size w w':=by
 have HR0:=am_ hr0
 have HC0:=am_ hc0
 clear hr0 hc0
 have HB:=am_ (Below.refl w.heap.size w)
 have H:(if([]:List Int).length+l0.length<140737488355328 then(some (([]:List Int) ++ l0)) else(none))=some r:=h
 clear h
 replace H:=ifa_ H;obtain⟨LMc2,H⟩:=H
 obtain⟨y571,hy_⟩:∃ y_:List Int,y_=(([]:List Int) ++ l0):=⟨_,rfl⟩
 replace H:(some y571)=some r:=hyw_
 have Ny571:=am_ hy_
 clear hy_
 obtain rfl:=Option.some.inj H
 obtain⟨rfl⟩:=sj1_ H
 go_enter Try.func50,Try.ntmps50
 go_wp2_with(first|(refine gb_ .append #[.tmp 4,.tmp 5] ?_;at_builtin;refine Kd.R_append_rows (jb .u8) (w0:=w) w.heap.size rfl (.tmp 4) (.tmp 5) 23 5 (.int .u8 0) 1 rfl Try.underlying23 info5 rfl T3_ T2_ (.slice none 0 0) ([]:List Int) l0 _ _ _ (fun _=>True) (fun _=>False) rfl rfl ?aO ?aR (fun _ _ h=>h) (fun _ h=>h.elim) ?aF ?aB ?aS ?aL ?_;(case aR=>exact cu_ HR0.out);(case aB=>exact T19_);(case aF=>exact(fun _ _=>trivial));(case aO=>exact((Kd.R_nil _ _ _ _ (fun _=>True))));(case aS=>exact(jc T19_));(case aL=>have:=LMc2.out;omega);intro v572 w3 ho hb hg hat;rw[←Ny571.out] at ho;have n_:=P2_ (hb) (ho);clear HB;obtain⟨HB,HO573⟩:=n_;clear ho hb hg hat))
 go_ret
 exact⟨_,T17_,ru_ HO573.out,T19_⟩
mutual
def churnref09_Split.j0:Nat→List Int→Int→Bool→Option (List Int×List Int×(List (List Int))×Int)
 | 0,_,_,_=>none
 | k+1,x0,x1,x16=>if x16=true then(some (([]:List Int),([]:List Int),([]:List (List Int)),2)) else(if(x0.length:Int)<18 then(some (([]:List Int),([]:List Int),([]:List (List Int)),3)) else(if 18≤(x0.length:Int) then((churnref09_copied.f (x0.take 18)).bind fun t580=>((some (x0.drop 18:List Int)).bind fun y583=>(if 0≤(wrap64 ((y583.length:Int) / 2)) then(if(wrap64 ((y583.length:Int) / 2))≤(y583.length:Int) then((churnref09_copied.f (y583.take ((wrap64 ((y583.length:Int) / 2)):Int).toNat)).bind fun t591=>((some (y583.drop ((wrap64 ((y583.length:Int) / 2)):Int).toNat:List Int)).bind fun y594=>(if x1=0 then(none) else(churnref09_Split.l0 k x1 y594 (wrap64 ((y594.length:Int) / x1)) 0 t580 t591 ([]:List (List Int)))))) else(none)) else(none)))) else(none)))
def churnref09_Split.l0:Nat→Int→List Int→Int→Int→List Int→List Int→List (List Int)→Option (List Int×List Int×(List (List Int))×Int)
 | 0,_,_,_,_,_,_,_=>none
 | k+1,x1,x7,x9,x10,x576000,x576001,x576002=>if x10<x1 then(if 0≤(wrap64 (x10*x9)) then(if(wrap64 (x10*x9))≤(wrap64 ((wrap64 (x10*x9))+x9)) then(if(wrap64 ((wrap64 (x10*x9))+x9))≤(x7.length:Int) then((churnref09_copied.f ((x7.take ((wrap64 ((wrap64 (x10*x9))+x9)):Int).toNat).drop ((wrap64 (x10*x9)):Int).toNat)).bind fun t602=>(if x576002.length<5864062014805 then(churnref09_Split.l0 k x1 x7 x9 (wrap64 (x10+1)) x576000 x576001 (x576002 ++ [t602])) else(none))) else(none)) else(none)) else(none)) else(some (x576000,x576001,x576002,0))
end
def churnref09_Split.f (k:Nat) (l0:List Int) (a1:Int):Option (List Int×List Int×(List (List Int))×Int):=if a1<1 then(churnref09_Split.j0 k l0 a1 true) else(churnref09_Split.j0 k l0 a1 (decide (a1 > 64)))
def churnref09_Split.T15:Bool×List (List Nat×List Nat):=(true,[([],[]),([0],[0]),([],[]),([],[]),([],[]),([3,4],[3,4]),([],[]),([],[]),([6,7],[6,7]),([],[]),([8,9],[8,9]),([2,5,10],[2,5,10]),([11],[11]),([12],[12]),([1,13,12],[1,13]),([0,1,2,3,4,5,6,7,8,9,10,11,12,13,14],[]),([15,14,14,0,1,2,3,4,5,6,7,8,9,10,11,12,13,14],[14,15])])
def churnref09_Split.B15:List Nat:=[0,1,0,0,0,24,0,0,192,0,960,2044,4092,8188,16383,32767,65535]
theorem churnref09_Split.tab15:rtab .any (opsOf Try.f26 15)=churnref09_Split.T15:=by kernel_rfl
theorem churnref09_Split.bits15:waitsOk churnref09_Split.T15.2 churnref09_Split.B15=true:=by kernel_rfl
set_option maxHeartbeats 8000000 in
set_option maxRecDepth 100000 in
theorem churnref09_Split.calls (k:Nat) (A0:Option Addr) (c0:Nat) (l0:List Int) (a1:Int) (r1:List Int) (r2:List Int) (r3:List (List Int)) (r4:Int) (w:World) (hr0:jX (jb .u8) w A0 l0.length l0) (hc0:l0.length≤c0) (h:churnref09_Split.f k l0 a1=some (r1,r2,r3,r4)) :
  Calls Try.prog 26 #[.slice A0 l0.length c0,.int .i64 a1] w fun e w'=>∃ v0_ v1_ v2_:Value,e = .returned (.tuple #[.agg #[v0_,v1_,v2_],.int .i64 r4])∧jt (jb .u8) 5 w' w.heap.size (fun k_=>ne_ k_ v1_) v0_ r1∧jt (jb .u8) 5 w' w.heap.size (fun k_=>ne_ k_ v0_) v1_ r2∧Kd.S (jB 5 (jb .u8)) 23 w' w.heap.size (fun k_=>ne_ k_ v0_∧ne_ k_ v1_) v2_ r3∧Below w.heap.size w w':=by
 have hu55:=Try.underlying55
 have HR0:=am_ hr0
 have HC0:=am_ hc0
 clear hr0 hc0
 have HB:=am_ (Below.refl w.heap.size w)
 have H:(if a1<1 then(churnref09_Split.j0 k l0 a1 true) else(churnref09_Split.j0 k l0 a1 (decide (a1 > 64))))=some (r1,r2,r3,r4):=h
 clear h
 have HC3:=am_ H
 clear H
 go_enter Try.func26,Try.ntmps26
 go_upto_region 1 with(first|(refine gd_ 4 ?_;refine bx_ 4 #[.slice none 0 0,.slice none 0 0,.slice none 0 0] 55 ?_;intro gb574 hg w4 hbox hb;have n_:=P4_ (jk T19_ hb) (hbox) ((by rw[hg];exact(jc T19_):w.heap.size≤gb574)) ((by rw[hg];exact(jc T19_):w.heap.size≤gb574));clear HB;obtain⟨HB,BK574,GW574,GE574⟩:=n_;clear hb hbox hg))
 (try simp only[Act.put,List.setIfInBounds_toArray,List.set_cons_zero,List.set_cons_succ])
 go_cut [16] (fun v16 wc=>∃ (kq:Nat) (x16_2:Bool),v16 = .bool x16_2∧Aside0 (churnref09_Split.j0 kq l0 a1 x16_2=some (r1,r2,r3,r4))∧Aside0 (kq≤k)∧Aside0 (wc.heap[gb574]? = some (.cells #[(.slice none 0 0),(.slice none 0 0),(.slice none 0 0)] 55 (0,0)))∧Aside0 (Below w.heap.size w wc))
 case first =>
  have H:=HC3.out
  clear HC3
  by_cases c5:a1<1
  ·rw[if_pos c5] at H
   have c5b0:=decide_eq_true c5
   clear c5
   (first|rw[c5b0]|(simp only[jF,jG];rw[c5b0])|skip)
   have H':=am_ H
   clear H
   go_wp2
   go_meet
   case rel=>exact⟨_,(true),T10_,H',⟨T8_⟩,⟨bu_ BK574.out⟩,⟨T33_⟩⟩
  rw[if_neg c5] at H
  have c5b0:=decide_eq_false c5
  clear c5
  (first|rw[c5b0]|(simp only[jF,jG];rw[c5b0])|skip)
  have H':=am_ H
  clear H
  go_wp2
  go_meet
  case rel=>exact⟨_,(decide (a1 > 64)),T10_,H',⟨T8_⟩,⟨bu_ BK574.out⟩,⟨T33_⟩⟩
 clear HC3
 obtain⟨kq,x16_2,rfl,HA,HJ2,BK574,HB⟩:=hcut
 cases kq with
 | zero=>exact absurd HA.out (by simp[churnref09_Split.j0])
 | succ kj2 =>
  have H:=HA.out
  clear HA
  simp only[churnref09_Split.j0] at H
  by_cases c6:x16_2=true
  ·subst c6
   have H1:(some (([]:List Int),([]:List Int),([]:List (List Int)),2))=some (r1,r2,r3,r4):=by rw[if_pos rfl] at H;exact H
   clear H
   have H:=H1
   clear H1
   obtain⟨rfl,rfl,rfl,rfl⟩:=sj4_ H
   obtain⟨hcz7_0,hcz7_1,hcz7_2,hfz7_0,hfz7_1,hfz7_2⟩:=cz3_ BK574.out
   go_wp2
   refine bodyPost_ret (results_ct rfl _ _ gb574 55 #[.slice none 0 0,.slice none 0 0,.slice none 0 0] (0,0) _ rfl (by(with_reducible repeat(first|refine jn ?_ _|refine jl ?_|refine jm ?_ _));refine ju (cs:=#[.slice none 0 0,.slice none 0 0,.slice none 0 0]) ?_ 2 _ rfl;(with_reducible repeat(first|refine jn ?_ _|refine jl ?_|refine jm ?_ _));refine ju (cs:=#[.slice none 0 0,.slice none 0 0,.slice none 0 0]) ?_ 1 _ rfl;(with_reducible repeat(first|refine jn ?_ _|refine jl ?_|refine jm ?_ _));refine ju (cs:=#[.slice none 0 0,.slice none 0 0,.slice none 0 0]) ?_ 0 _ rfl;exact bu_ BK574.out) Try.underlying55 rfl T4_) rfl ?_
   exact⟨_,_,_,T17_,T21_,T21_,T22_,T33_⟩
  replace c6:=Bool.eq_false_iff.mpr c6
  subst c6
  have H1:(if(l0.length:Int)<18 then(some (([]:List Int),([]:List Int),([]:List (List Int)),3)) else(if 18≤(l0.length:Int) then((churnref09_copied.f (l0.take 18)).bind fun t580=>((some (l0.drop 18:List Int)).bind fun y583=>(if 0≤(wrap64 ((y583.length:Int) / 2)) then(if(wrap64 ((y583.length:Int) / 2))≤(y583.length:Int) then((churnref09_copied.f (y583.take ((wrap64 ((y583.length:Int) / 2)):Int).toNat)).bind fun t591=>((some (y583.drop ((wrap64 ((y583.length:Int) / 2)):Int).toNat:List Int)).bind fun y594=>(if a1=0 then(none) else(churnref09_Split.l0 kj2 a1 y594 (wrap64 ((y594.length:Int) / a1)) 0 t580 t591 ([]:List (List Int)))))) else(none)) else(none)))) else(none)))=some (r1,r2,r3,r4):=by rw[if_neg (show ¬ (false=true) by decide)] at H;exact H
  clear H
  have H:=H1
  clear H1
  by_cases c8:(l0.length:Int)<18
  ·rw[if_pos c8] at H
   have c8b0:=decide_eq_true c8
   have c8b1:decide (l0.length<18)=true:=decide_eq_true T2_
   clear c8
   obtain⟨rfl,rfl,rfl,rfl⟩:=sj4_ H
   obtain⟨hcz9_0,hcz9_1,hcz9_2,hfz9_0,hfz9_1,hfz9_2⟩:=cz3_ BK574.out
   go_wp2
   refine bodyPost_ret (results_ct rfl _ _ gb574 55 #[.slice none 0 0,.slice none 0 0,.slice none 0 0] (0,0) _ rfl (by(with_reducible repeat(first|refine jn ?_ _|refine jl ?_|refine jm ?_ _));refine ju (cs:=#[.slice none 0 0,.slice none 0 0,.slice none 0 0]) ?_ 2 _ rfl;(with_reducible repeat(first|refine jn ?_ _|refine jl ?_|refine jm ?_ _));refine ju (cs:=#[.slice none 0 0,.slice none 0 0,.slice none 0 0]) ?_ 1 _ rfl;(with_reducible repeat(first|refine jn ?_ _|refine jl ?_|refine jm ?_ _));refine ju (cs:=#[.slice none 0 0,.slice none 0 0,.slice none 0 0]) ?_ 0 _ rfl;exact bu_ BK574.out) Try.underlying55 rfl T4_) rfl ?_
   exact⟨_,_,_,T17_,T21_,T21_,T22_,T33_⟩
  rw[if_neg c8] at H
  have c8b0:=decide_eq_false c8
  have c8b1:decide (l0.length<18)=false:=decide_eq_false T2_
  clear c8
  replace H:=ifn_ H;obtain⟨c10,H⟩:=H
  have c10b0:=eq_true c10
  have c10b1:decide (18≤(l0.length:Int))=true:=decide_eq_true c10
  clear c10
  obtain⟨y576,hy_⟩:∃ y_:List Int,y_=(l0.take 18):=⟨_,rfl⟩
  replace H:((churnref09_copied.f y576).bind fun t580=>((some (l0.drop 18:List Int)).bind fun y583=>(if 0≤(wrap64 ((y583.length:Int) / 2)) then(if(wrap64 ((y583.length:Int) / 2))≤(y583.length:Int) then((churnref09_copied.f (y583.take ((wrap64 ((y583.length:Int) / 2)):Int).toNat)).bind fun t591=>((some (y583.drop ((wrap64 ((y583.length:Int) / 2)):Int).toNat:List Int)).bind fun y594=>(if a1=0 then(none) else(churnref09_Split.l0 kj2 a1 y594 (wrap64 ((y594.length:Int) / a1)) 0 t580 t591 ([]:List (List Int)))))) else(none)) else(none))))=some (r1,r2,r3,r4):=hyw_
  have Ny576:=am_ hy_
  clear hy_
  replace H:=Option.bind_eq_some_iff.mp H
  obtain⟨t580,A110,H⟩:=H
  try dsimp only at H
  have A11:=am_ A110
  clear A110
  have c12b0:=eq_true (od_:18≤(l0.length:Int))
  obtain⟨y583,hy_⟩:∃ y_:List Int,y_=(l0.drop 18):=⟨_,rfl⟩
  replace H:(if 0≤(wrap64 ((y583.length:Int) / 2)) then(if(wrap64 ((y583.length:Int) / 2))≤(y583.length:Int) then((churnref09_copied.f (y583.take ((wrap64 ((y583.length:Int) / 2)):Int).toNat)).bind fun t591=>((some (y583.drop ((wrap64 ((y583.length:Int) / 2)):Int).toNat:List Int)).bind fun y594=>(if a1=0 then(none) else(churnref09_Split.l0 kj2 a1 y594 (wrap64 ((y594.length:Int) / a1)) 0 t580 t591 ([]:List (List Int)))))) else(none)) else(none))=some (r1,r2,r3,r4):=hyw_
  have Ny583:=am_ hy_
  clear hy_
  obtain⟨ji13,hji13⟩:∃ j_:Int,(wrap64 ((y583.length:Int) / 2))=j_:=⟨_,rfl⟩
  replace H:(if 0≤(ji13) then(if(ji13)≤(y583.length:Int) then((churnref09_copied.f (y583.take ((ji13):Int).toNat)).bind fun t591=>((some (y583.drop ((ji13):Int).toNat:List Int)).bind fun y594=>(if a1=0 then(none) else(churnref09_Split.l0 kj2 a1 y594 (wrap64 ((y594.length:Int) / a1)) 0 t580 t591 ([]:List (List Int)))))) else(none)) else(none))=some (r1,r2,r3,r4):=by first|(rw[hji13] at H;exact H)|(simp only[hji13] at H ⊢;exact H)
  (try rw[hji13] at A11)
  have hji13w:(IntKind.i64.wrap ((y583.length:Int) / 2))=ji13:=(jF _).trans hji13
  replace H:=ifn_ H;obtain⟨c14,H⟩:=H
  have c14b0:=eq_true c14
  have c14b1:decide (0≤(ji13))=true:=decide_eq_true c14
  clear c14
  replace H:=ifn_ H;obtain⟨c15,H⟩:=H
  have c15b0:=eq_true c15
  have c15b1:decide ((ji13)≤(y583.length:Int))=true:=decide_eq_true c15
  clear c15
  obtain⟨y587,hy_⟩:∃ y_:List Int,y_=(y583.take ((ji13):Int).toNat):=⟨_,rfl⟩
  replace H:((churnref09_copied.f y587).bind fun t591=>((some (y583.drop ((ji13):Int).toNat:List Int)).bind fun y594=>(if a1=0 then(none) else(churnref09_Split.l0 kj2 a1 y594 (wrap64 ((y594.length:Int) / a1)) 0 t580 t591 ([]:List (List Int))))))=some (r1,r2,r3,r4):=hyw_
  have Ny587:=am_ hy_
  clear hy_
  replace H:=Option.bind_eq_some_iff.mp H
  obtain⟨t591,A160,H⟩:=H
  try dsimp only at H
  have A16:=am_ A160
  clear A160
  have c17b0:=eq_true (od_:0≤(ji13))
  have c18b0:=eq_true (od_:(ji13)≤(y583.length:Int))
  obtain⟨y594,hy_⟩:∃ y_:List Int,y_=(y583.drop ((ji13):Int).toNat):=⟨_,rfl⟩
  replace H:(if a1=0 then(none) else(churnref09_Split.l0 kj2 a1 y594 (wrap64 ((y594.length:Int) / a1)) 0 t580 t591 ([]:List (List Int))))=some (r1,r2,r3,r4):=hyw_
  have Ny594:=am_ hy_
  clear hy_
  by_cases c19:a1=0
  ·rw[if_pos c19] at H
   exact absurd H T1_
  rw[if_neg c19] at H
  obtain⟨c19b0,c19b1⟩:=en_ c19
  have H':=am_ H
  clear H
  go_wp2_with(first|(refine gd_ 6 ?_;refine bx_ 6 #[.slice none 0 0,.slice none 0 0,.slice none 0 0] 55 ?_;intro gb575 hg w20 hbox hb;have n_:=P7_ (jo (bu_ BK574.out) hb) (jk T33_ hb) (hbox) ((by rw[hg];exact(jc T33_):w.heap.size≤gb575)) ((by rw[hg];exact(jc T33_):w.heap.size≤gb575)) ((by rw[hg];exact Nat.ne_of_lt (jV (g:=gb574) (o:=.cells #[.slice none 0 0,.slice none 0 0,.slice none 0 0] 55 (0,0)) (bu_ BK574.out)):gb574≠gb575)) ((by rw[hg];exact Nat.ne_of_gt (jV (g:=gb574) (o:=.cells #[.slice none 0 0,.slice none 0 0,.slice none 0 0] 55 (0,0)) (bu_ BK574.out)):gb575≠gb574));clear BK574 HB;obtain⟨BK574,HB,BK575,GW575,GE575,NB574_575,NB575_574⟩:=n_;clear hb hbox hg;have q21:(18:Int)≤((l0.length:Int):Int):=od_;obtain⟨i021,hi021,_,hsz21,_⟩:=info_parts info5;have hroom21:l0.length≤c0:=HC0.out;have hC21:jX (jb .u8) _ A0 l0.length l0:=HR0.out;have hcut21:=cut_to (P:=Try.prog) 23 5 .i64 Try.underlying23 hi021 A0 l0.length c0 18 T2_ q21 hroom21;have hr21:=Kd.C_take (m:=18) hC21 T2_;have hy21:y576.length=(18:Int).toNat:=(by rw[Ny576.out,List.length_take];omega);rw[←Ny576.out] at hr21;rw[←hy21] at hcut21;have HR579:=am_ hr21;have HC579:=am_ (show y576.length≤c0 from by omega);clear hr21 hC21 hroom21 hi021 hsz21;have KY21:=am_ hy21;clear hy21;replace q21:=eq_true q21)|(refine gc_ 50 ?_;refine gl_ (some 24) Try.func50 #[.slice A0 y576.length c0] ?_;(with_reducible refine(churnref09_copied.calls _ _ y576 t580 _ ?side1 ?side2 A11.out).mono ?_);(case side1=>exact cu_ (jw HR579.out HB.out));(case side2=>exact HC579.out);rintro e w22 ⟨v581,rfl,ho0,hb⟩;refine⟨_,rfl,?_⟩;have n_:=P4_ (jq ho0 (jc T41_)) (jo (bu_ BK574.out) hb) (jo (bu_ BK575.out) hb) (jk T41_ hb);clear BK574 BK575 HB;obtain⟨HO582,BK574,BK575,HB⟩:=n_;clear hb ho0;obtain⟨Ao23,co23,eo23⟩:=jp HO582.out;subst eo23;have hnb24:=NB575_574.out;have hnc24:=NB574_575.out;obtain⟨hcz25_0,hcz25_1,hcz25_2,hfz25_0,hfz25_1,hfz25_2⟩:=cz3_ BK575.out)|(refine gs_ 23 25 ?_;refine sv_ 23 25 (w22.setCell ⟨gb575,0,none⟩ (.slice Ao23 t580.length co23)) ?_;intro w26 hw;have n0_:Aside0 (jt (jb .u8) 5 w26 w.heap.size (fun _=>True) (.slice Ao23 t580.length co23) t580):=⟨(by rw[hw];exact(ru_ (ja (jd (p:=⟨gb575,0,none⟩) (jr HO582.out BK575.out T3_) (fun _ hk=>hk.2) (.slice Ao23 t580.length co23)) (fun _ hk=>trivial))))⟩;have n1_:Aside0 (w26.heap[gb574]? = some (.cells #[.slice none 0 0,.slice none 0 0,.slice none 0 0] 55 (0,0))):=⟨(by rw[hw];exact T23_)⟩;have n2_:Aside0 (w26.heap[gb575]? = some (.cells #[.slice Ao23 t580.length co23,.slice none 0 0,.slice none 0 0] 55 (0,0))):=⟨(by rw[hw];exact(by(with_reducible repeat(first|refine jn ?_ _|refine jl ?_|refine jm ?_ _));refine ju (cs:=#[.slice none 0 0,.slice none 0 0,.slice none 0 0]) ?_ 0 _ rfl;exact bu_ BK575.out))⟩;have n3_:Aside0 (Below w.heap.size w w26):=⟨(by rw[hw];exact T41_)⟩;clear hw;clear HO582;clear BK574;clear BK575;clear HB;have HO582:=n0_;have BK574:=n1_;have BK575:=n2_;have HB:=n3_;clear n0_ n1_ n2_ n3_;have q27:(18:Int)≤((l0.length:Int):Int):=od_;obtain⟨i027,hi027,_,hsz27,_⟩:=info_parts info5;have hroom27:l0.length≤c0:=HC0.out;have hC27:jX (jb .u8) _ A0 l0.length l0:=HR0.out;have hcut27:=cut_from (P:=Try.prog) 23 5 .i64 Try.underlying23 hi027 1 hsz27 A0 l0.length c0 18 T2_ q27;have hr27:=Kd.C_drop (m:=(18:Int).toNat) (c:=c0) hC27 T2_ hroom27;obtain⟨A27,hA27⟩:∃ A1,A1=(if c0=(18:Int).toNat then A0 else(A0:Option Addr).map (·.add ((18:Int).toNat*1))):=⟨_,rfl⟩;obtain⟨c27,hc27⟩:∃ c1,c1=c0-(18:Int).toNat:=⟨_,rfl⟩;have hy27:y583.length=l0.length-(18:Int).toNat:=(by rw[Ny583.out,List.length_drop] <;> omega);rw[show(l0).drop (18:Int).toNat=y583 from Ny583.out.symm] at hr27;replace hr27:jX (jb .u8) _ A27 y583.length y583:=(by rw[hA27];exact hr27);rw[←hy27,←hA27,←hc27] at hcut27;have HR586:=am_ hr27;have HC586:=am_ (show y583.length≤c27 from by rw[hy27,hc27];exact Nat.sub_le_sub_right hroom27 _);clear hr27 hC27 hroom27 hi027 hsz27 hc27;have KY27:=am_ hy27;have KA27:=am_ hA27;clear hy27 hA27;replace q27:=eq_true q27;have q28:((ji13):Int)≤((y583.length:Int):Int):=od_;obtain⟨i028,hi028,_,hsz28,_⟩:=info_parts info5;have hroom28:y583.length≤c27:=HC586.out;have hC28:jX (jb .u8) _ A27 y583.length y583:=HR586.out;have hcut28:=cut_to (P:=Try.prog) 23 5 .i64 Try.underlying23 hi028 A27 y583.length c27 (ji13) (od_) q28 hroom28;have hr28:=Kd.C_take (m:=((ji13):Int).toNat) hC28 T2_;have hy28:y587.length=((ji13):Int).toNat:=(by rw[Ny587.out,List.length_take];omega);rw[←Ny587.out] at hr28;rw[←hy28] at hcut28;have HR590:=am_ hr28;have HC590:=am_ (show y587.length≤c27 from by omega);clear hr28 hC28 hroom28 hi028 hsz28;have KY28:=am_ hy28;clear hy28;replace q28:=eq_true q28)|(refine gc_ 50 ?_;refine gl_ (some 34) Try.func50 #[.slice A27 y587.length c27] ?_;(with_reducible refine(churnref09_copied.calls _ _ y587 t591 _ ?side1 ?side2 A16.out).mono ?_);(case side1=>exact cu_ (jw HR590.out HB.out));(case side2=>exact HC590.out);rintro e w29 ⟨v592,rfl,ho0,hb⟩;refine⟨_,rfl,?_⟩;have n_:=P5_ (jg (ru_ HO582.out) (jf ho0) hb) (jq (jj ho0 (jh (ru_ HO582.out))) (jc T41_)) (jo (bu_ BK574.out) hb) (jo (bu_ BK575.out) hb) (jk T41_ hb);clear HO582 BK574 BK575 HB;obtain⟨HO582,HO593,BK574,BK575,HB⟩:=n_;clear hb ho0;obtain⟨Ao30,co30,eo30⟩:=jp HO593.out;subst eo30;obtain⟨hcz31_0,hcz31_1,hcz31_2,hfz31_0,hfz31_1,hfz31_2⟩:=cz3_ BK575.out)|(refine gs_ 23 35 ?_;refine sv_ 23 35 (w29.setCell ⟨gb575,1,none⟩ (.slice Ao30 t591.length co30)) ?_;intro w32 hw;have n0_:Aside0 (jt (jb .u8) 5 w32 w.heap.size (fun k_=>ne_ k_ (.slice Ao30 t591.length co30)) (.slice Ao23 t580.length co23) t580):=⟨(by rw[hw];exact(ru_ (ja (jd (p:=⟨gb575,1,none⟩) (jr HO582.out BK575.out T3_) (fun _ hk=>hk.2) (.slice Ao30 t591.length co30)) (fun _ hk=>hk.1.2))))⟩;have n1_:Aside0 (jt (jb .u8) 5 w32 w.heap.size (fun k_=>ne_ k_ (.slice Ao23 t580.length co23)) (.slice Ao30 t591.length co30) t591):=⟨(by rw[hw];exact(ru_ (ja (jd (p:=⟨gb575,1,none⟩) (jr HO593.out BK575.out T3_) (fun _ hk=>hk.2) (.slice Ao30 t591.length co30)) (fun _ hk=>hk.1.2))))⟩;have n2_:Aside0 (w32.heap[gb574]? = some (.cells #[.slice none 0 0,.slice none 0 0,.slice none 0 0] 55 (0,0))):=⟨(by rw[hw];exact T23_)⟩;have n3_:Aside0 (w32.heap[gb575]? = some (.cells #[.slice Ao23 t580.length co23,.slice Ao30 t591.length co30,.slice none 0 0] 55 (0,0))):=⟨(by rw[hw];exact(by(with_reducible repeat(first|refine jn ?_ _|refine jl ?_|refine jm ?_ _));refine ju (cs:=#[.slice Ao23 t580.length co23,.slice none 0 0,.slice none 0 0]) ?_ 1 _ rfl;exact bu_ BK575.out))⟩;have n4_:Aside0 (Below w.heap.size w w32):=⟨(by rw[hw];exact T41_)⟩;clear hw;clear HO582;clear HO593;clear BK574;clear BK575;clear HB;have HO582:=n0_;have HO593:=n1_;have BK574:=n2_;have BK575:=n3_;have HB:=n4_;clear n0_ n1_ n2_ n3_ n4_;have q33:((ji13):Int)≤((y583.length:Int):Int):=od_;obtain⟨i033,hi033,_,hsz33,_⟩:=info_parts info5;have hroom33:y583.length≤c27:=HC586.out;have hC33:jX (jb .u8) _ A27 y583.length y583:=HR586.out;have q033:(0:Int)≤((ji13):Int):=od_;have hcut33:=cut_from (P:=Try.prog) 23 5 .i64 Try.underlying23 hi033 1 hsz33 A27 y583.length c27 (ji13) q033 q33;have hr33:=Kd.C_drop (m:=((ji13):Int).toNat) (c:=c27) hC33 T2_ hroom33;obtain⟨A33,hA33⟩:∃ A1,A1=(if c27=((ji13):Int).toNat then A27 else(A27:Option Addr).map (·.add (((ji13):Int).toNat*1))):=⟨_,rfl⟩;obtain⟨c33,hc33⟩:∃ c1,c1=c27-((ji13):Int).toNat:=⟨_,rfl⟩;have hy33:y594.length=y583.length-((ji13):Int).toNat:=(by rw[Ny594.out,List.length_drop] <;> omega);rw[show(y583).drop ((ji13):Int).toNat=y594 from Ny594.out.symm] at hr33;replace hr33:jX (jb .u8) _ A33 y594.length y594:=(by rw[hA33];exact hr33);rw[←hy33,←hA33,←hc33] at hcut33;have HR597:=am_ hr33;have HC597:=am_ (show y594.length≤c33 from by rw[hy33,hc33];exact Nat.sub_le_sub_right hroom33 _);clear hr33 hC33 hroom33 hi033 hsz33 hc33;have KY33:=am_ hy33;have KA33:=am_ hA33;clear hy33 hA33;replace q33:=eq_true q33))
  go_loopg [10] kj2 (fun kq v10 w'=>∃ (x10_2:Int) (x576002_2:List (List Int)) (u576002:Value),v10 = .int .i64 x10_2∧Aside0 (churnref09_Split.l0 kq a1 y594 (wrap64 ((y594.length:Int) / a1)) x10_2 t580 t591 x576002_2=some (r1,r2,r3,r4))∧Aside0 (kq≤kj2)∧Aside0 (jt (jb .u8) 5 w' w.heap.size (fun k_=>ne_ k_ (.slice Ao30 t591.length co30)) (.slice Ao23 t580.length co23) t580)∧Aside0 (jt (jb .u8) 5 w' w.heap.size (fun k_=>ne_ k_ (.slice Ao23 t580.length co23)) (.slice Ao30 t591.length co30) t591)∧Aside0 (Kd.S (jB 5 (jb .u8)) 23 w' w.heap.size (fun k_=>ne_ k_ (.slice Ao23 t580.length co23)∧ne_ k_ (.slice Ao30 t591.length co30)) u576002 x576002_2)∧Aside0 (w'.heap[gb574]? = some (.cells #[(.slice none 0 0),(.slice none 0 0),(.slice none 0 0)] 55 (0,0)))∧Aside0 (w'.heap[gb575]? = some (.cells #[(.slice Ao23 t580.length co23),(.slice Ao30 t591.length co30),u576002] 55 (0,0)))∧Aside0 (Below w.heap.size w w'))
  case atStart=>exact⟨(0),(([]:List (List Int))),(.slice none 0 0),T10_,H',⟨Nat.le_refl _⟩,⟨ru_ HO582.out⟩,⟨ru_ HO593.out⟩,⟨T22_⟩,⟨bu_ BK574.out⟩,⟨bu_ BK575.out⟩,⟨T41_⟩⟩
  clear H'
  (try clear c1);(try clear c6);(try clear c8);(try clear c8b0 c8b1);(try clear c10);(try clear c10b0 c10b1);(try clear c12b0);(try clear c14);(try clear c14b0 c14b1);(try clear c15);(try clear c15b0 c15b1);(try clear c17b0);(try clear c18b0);(try clear c19);(try clear c19b0 c19b1);(try clear q21);(try clear c27);(try clear q27);(try clear q28);(try clear c33);(try clear q33);(try clear hcz25_0 hcz25_1 hcz25_2 hfz25_0 hfz25_1 hfz25_2);(try clear hcz31_0 hcz31_1 hcz31_2 hfz31_0 hfz31_1 hfz31_2);(try clear q033);(try clear BK574);(try clear BK575)
  obtain⟨x10_2,x576002_2,u576002,rfl,HA,HK2,HO_576000,HO_576001,HO_576002,BK574,BK575,HB⟩:=hrel
  cases gk with
  | zero=>exact absurd HA.out (by simp[churnref09_Split.l0])
  | succ k2 =>
   have H:=HA.out
   clear HA
   simp only[churnref09_Split.l0] at H
   by_cases c34:x10_2<a1
   rotate_left
   ·rw[if_neg c34] at H
    have c34b0:=decide_eq_false c34
    clear c34
    obtain⟨rfl,rfl,rfl,rfl⟩:=sj4_ H
    have hnb48:=NB575_574.out
    have hnc48:=NB574_575.out
    obtain⟨hcz49_0,hcz49_1,hcz49_2,hfz49_0,hfz49_1,hfz49_2⟩:=cz3_ BK575.out
    obtain⟨hcz50_0,hcz50_1,hcz50_2,hfz50_0,hfz50_1,hfz50_2⟩:=cz3_ BK574.out
    obtain⟨Ao51,co51,eo51⟩:=jT HO_576002.out
    subst eo51
    go_wp2
    refine bodyPost_ret (results_ct rfl _ _ gb574 55 #[.slice Ao23 t580.length co23,.slice Ao30 t591.length co30,.slice Ao51 x576002_2.length co51] (0,0) _ rfl (by(with_reducible repeat(first|refine jn ?_ _|refine jl ?_|refine jm ?_ _));refine ju (cs:=#[.slice Ao23 t580.length co23,.slice Ao30 t591.length co30,.slice none 0 0]) ?_ 2 _ rfl;(with_reducible repeat(first|refine jn ?_ _|refine jl ?_|refine jm ?_ _));refine ju (cs:=#[.slice Ao23 t580.length co23,.slice none 0 0,.slice none 0 0]) ?_ 1 _ rfl;(with_reducible repeat(first|refine jn ?_ _|refine jl ?_|refine jm ?_ _));refine ju (cs:=#[.slice none 0 0,.slice none 0 0,.slice none 0 0]) ?_ 0 _ rfl;exact bu_ BK574.out) Try.underlying55 rfl T4_) rfl ?_
    exact⟨_,_,_,(by first|rfl|(simp[errW_none,errW_some] <;> rfl)|(simp only[←hji13];first|rfl|(simp[errW_none,errW_some] <;> rfl))|(simp[*,errW_none,errW_some] <;> rfl)),ru_ (ja (jd (p:=⟨gb574,2,none⟩) (jd (p:=⟨gb574,1,none⟩) (jd (p:=⟨gb574,0,none⟩) (jr HO_576000.out BK574.out T3_) (fun _ hk=>hk.2) (.slice Ao23 t580.length co23)) (fun _ hk=>hk.2) (.slice Ao30 t591.length co30)) (fun _ hk=>hk.2) (.slice Ao51 x576002_2.length co51)) (fun _ hk=>hk.1)),ru_ (ja (jd (p:=⟨gb574,2,none⟩) (jd (p:=⟨gb574,1,none⟩) (jd (p:=⟨gb574,0,none⟩) (jr HO_576001.out BK574.out T3_) (fun _ hk=>hk.2) (.slice Ao23 t580.length co23)) (fun _ hk=>hk.2) (.slice Ao30 t591.length co30)) (fun _ hk=>hk.2) (.slice Ao51 x576002_2.length co51)) (fun _ hk=>hk.1)),su_ (jC (jE (p:=⟨gb574,2,none⟩) (jE (p:=⟨gb574,1,none⟩) (jE (p:=⟨gb574,0,none⟩) (Jb HO_576002.out BK574.out T3_) (fun _ hk=>hk.2) (.slice Ao23 t580.length co23)) (fun _ hk=>hk.2) (.slice Ao30 t591.length co30)) (fun _ hk=>hk.2) (.slice Ao51 x576002_2.length co51)) (fun _ hk=>⟨hk.1.1,hk.1.2⟩)),T41_⟩
   rw[if_pos c34] at H
   have c34b0:=decide_eq_true c34
   clear c34
   obtain⟨ji35,hji35⟩:∃ j_:Int,(wrap64 (x10_2*(wrap64 ((y594.length:Int) / a1))))=j_:=⟨_,rfl⟩
   replace H:(if 0≤(ji35) then(if(ji35)≤(wrap64 ((ji35)+(wrap64 ((y594.length:Int) / a1)))) then(if(wrap64 ((ji35)+(wrap64 ((y594.length:Int) / a1))))≤(y594.length:Int) then((churnref09_copied.f ((y594.take ((wrap64 ((ji35)+(wrap64 ((y594.length:Int) / a1)))):Int).toNat).drop ((ji35):Int).toNat)).bind fun t602=>(if x576002_2.length<5864062014805 then(churnref09_Split.l0 k2 a1 y594 (wrap64 ((y594.length:Int) / a1)) (wrap64 (x10_2+1)) t580 t591 (x576002_2 ++ [t602])) else(none))) else(none)) else(none)) else(none))=some (r1,r2,r3,r4):=by first|(rw[hji35] at H;exact H)|(simp only[hji35] at H ⊢;exact H)
   have hji35w:(IntKind.i64.wrap (x10_2*(wrap64 ((y594.length:Int) / a1))))=ji35:=(jF _).trans hji35
   replace H:=ifn_ H;obtain⟨c36,H⟩:=H
   have c36b0:=eq_true c36
   have c36b1:decide (0≤(ji35))=true:=decide_eq_true c36
   clear c36
   replace H:=ifn_ H;obtain⟨c37,H⟩:=H
   have c37b0:=eq_true c37
   have c37b1:decide ((ji35)≤(wrap64 ((ji35)+(wrap64 ((y594.length:Int) / a1)))))=true:=decide_eq_true c37
   replace H:=ifn_ H;obtain⟨c38,H⟩:=H
   have c38b0:=eq_true c38
   have c38b1:decide ((wrap64 ((ji35)+(wrap64 ((y594.length:Int) / a1))))≤(y594.length:Int))=true:=decide_eq_true c38
   obtain⟨y598,hy_⟩:∃ y_:List Int,y_=((y594.take ((wrap64 ((ji35)+(wrap64 ((y594.length:Int) / a1)))):Int).toNat).drop ((ji35):Int).toNat):=⟨_,rfl⟩
   replace H:((churnref09_copied.f y598).bind fun t602=>(if x576002_2.length<5864062014805 then(churnref09_Split.l0 k2 a1 y594 (wrap64 ((y594.length:Int) / a1)) (wrap64 (x10_2+1)) t580 t591 (x576002_2 ++ [t602])) else(none)))=some (r1,r2,r3,r4):=hyw_
   have Ny598:=am_ hy_
   clear hy_
   replace H:=Option.bind_eq_some_iff.mp H
   obtain⟨t602,A390,H⟩:=H
   try dsimp only at H
   have A39:=am_ A390
   clear A390
   replace H:=ifa_ H;obtain⟨LMc40,H⟩:=H
   obtain⟨y605,hy_⟩:∃ y_:List (List Int),y_=(x576002_2 ++ [t602]):=⟨_,rfl⟩
   replace H:(churnref09_Split.l0 k2 a1 y594 (wrap64 ((y594.length:Int) / a1)) (wrap64 (x10_2+1)) t580 t591 y605)=some (r1,r2,r3,r4):=hyw_
   have Ny605:=am_ hy_
   clear hy_
   have H':=am_ H
   clear H
   try go_wp2
   have n_:=P6_ (js HO_576000.out) (js HO_576001.out) (Ja HO_576002.out) (jl BK574.out) (jl BK575.out) (jJ HB.out)
   clear HO_576000 HO_576001 HO_576002 BK574 BK575 HB
   obtain⟨HO_576000,HO_576001,HO_576002,BK574,BK575,HB⟩:=n_
   have q42:((wrap64 ((ji35)+(wrap64 ((y594.length:Int) / a1)))):Int)≤((y594.length:Int):Int):=od_
   obtain⟨i042,hi042,_,hsz42,_⟩:=info_parts info5
   have hroom42:y594.length≤c33:=HC597.out
   have hC42:jX (jb .u8) _ A33 y594.length y594:=HR597.out
   have ql42:((ji35):Int)≤((wrap64 ((ji35)+(wrap64 ((y594.length:Int) / a1)))):Int):=od_
   have q042:(0:Int)≤((ji35):Int):=od_
   have hcut42:=cut_mid (P:=Try.prog) 23 5 .i64 .i64 Try.underlying23 hi042 1 hsz42 A33 y594.length c33 (ji35) (wrap64 ((ji35)+(wrap64 ((y594.length:Int) / a1)))) q042 ql42 q42 hroom42
   have hr42:=Kd.C_mid (lo:=((ji35):Int).toNat) (hi:=((wrap64 ((ji35)+(wrap64 ((y594.length:Int) / a1)))):Int).toNat) (c:=c33) hC42 T2_ T2_ hroom42
   obtain⟨A42,hA42⟩:∃ A1,A1=(if c33=((ji35):Int).toNat then A33 else(A33:Option Addr).map (·.add (((ji35):Int).toNat*1))):=⟨_,rfl⟩
   obtain⟨c42,hc42⟩:∃ c1,c1=c33-((ji35):Int).toNat:=⟨_,rfl⟩
   have hy42:y598.length=((wrap64 ((ji35)+(wrap64 ((y594.length:Int) / a1)))):Int).toNat-((ji35):Int).toNat:=(by rw[Ny598.out,List.length_drop,List.length_take] <;> omega)
   rw[show((y594).take ((wrap64 ((ji35)+(wrap64 ((y594.length:Int) / a1)))):Int).toNat).drop ((ji35):Int).toNat=y598 from Ny598.out.symm] at hr42
   replace hr42:jX (jb .u8) _ A42 y598.length y598:=(by rw[hA42];exact hr42)
   rw[←hy42,←hA42,←hc42] at hcut42
   have HR601:=am_ hr42
   have HC601:=am_ (show y598.length≤c42 from by rw[hy42,hc42];exact Nat.sub_le_sub_right (Nat.le_trans T2_ hroom42) _)
   clear hr42 hC42 hroom42 hi042 hsz42 hc42
   have KY42:=am_ hy42
   have KA42:=am_ hA42
   clear hy42 hA42
   replace q42:=eq_true q42
   refine start_ (n:=17) (S:=fun w'=>w'.cell? ⟨gb575,0,none⟩=some (.slice Ao23 t580.length co23)∧w'.cell? ⟨gb575,1,none⟩=some (.slice Ao30 t591.length co30)∧w'.cell? ⟨gb575,2,none⟩=some (u576002)) (ds:=[16]) #[false,false,false,false,false,false,false,false,false,false,false,false,false,false,false,false,false] T4_ rfl rfl ⟨bc_ BK575.out 0,bc_ BK575.out 1,bc_ BK575.out 2⟩ (fun hHeld=>?_);refine Jf churnref09_Split.tab15 churnref09_Split.bits15 (fun HT_ HW_=>?_)
   generalize wr.drew=w41 at HO_576000 HO_576001 HO_576002 BK574 BK575 HB HR601 hHeld ⊢
   refine pz_ 0 (some 48) ?_
   refine pz_ 2 (some 50) ?_
   refine pz_ 3 (some 51) ?_
   refine pz_ 4 (some 52) ?_
   refine pz_ 5 (some 53) ?_
   refine pz_ 6 (some 54) ?_
   refine pz_ 7 (some 55) ?_
   refine pz_ 8 (some 56) ?_
   refine pz_ 9 (some 57) ?_
   refine pz_ 10 (some 58) ?_
   refine pz_ 11 (some 59) ?_
   refine tz3_ 1 (some 49) hHeld ?_
   refine oz_ 12 (some 60) (fun K hK=>?_)
   refine goes_ Try.func50 T4_ rfl #[.slice A42 y598.length c42] T0_ rfl rfl T20_ ?_
   with_reducible refine(churnref09_copied.calls _ _ y598 t602 _ ?side1 ?side2 A39.out).mono ?_
   (case side1=>exact cu_ (jw HR601.out HB.out))
   (case side2=>exact HC601.out)
   rintro e w43 ⟨v603,rfl,ho0,hb⟩
   refine⟨_,rfl,?_⟩
   have n_:=P7_ (jg (ru_ HO_576000.out) (jf ho0) hb) (jg (ru_ HO_576001.out) (jf ho0) hb) (jL (su_ HO_576002.out) (jf ho0) hb) (jq (jj (jj ho0 (jh (ru_ HO_576000.out))) (jh (ru_ HO_576001.out))) (jc T41_)) (jo (bu_ BK574.out) hb) (jo (bu_ BK575.out) hb) (jk T41_ hb)
   clear HO_576000 HO_576001 HO_576002 BK574 BK575 HB
   obtain⟨HO_576000,HO_576001,HO_576002,HO604,BK574,BK575,HB⟩:=n_
   (try clear hb);(try clear hk);(try clear hi);(try clear ho0)
   obtain⟨Ao45,co45,eo45⟩:=jp HO604.out
   (first|subst eo45|(injection eo45 with f1_ f2_ f3_;have f4_:=f1_.symm;have f5_:=f3_.symm;clear f1_ f2_ f3_;subst f4_;subst f5_))
   refine hK.out _ _ ⟨bc_ BK575.out 0,bc_ BK575.out 1,bc_ BK575.out 2⟩ (fun hHeld=>?_)
   clear hK K
   refine norm_ (a':=?_) ?_ ?_
   rotate_left
   ·show Act.put _ (some 60) _=_
    simp only[Act.put,List.setIfInBounds_toArray,List.set_cons_zero,List.set_cons_succ,jF,jG]
    rfl
   refine oz_ 13 (some 61) (fun K hK=>?_)
   refine value_ (w1:=?_) (v:=?_) T0_ rfl ?_ ?_
   rotate_left 2
   ·go_simp
    constructor
    ·rfl
    rfl
   refine hK.out _ _ ⟨(blk_cell (jm BK575.out _) 0).trans rfl,(blk_cell (jm BK575.out _) 1).trans rfl,(blk_cell (jm BK575.out _) 2).trans rfl⟩ (fun hHeld=>?_)
   clear hK K
   refine norm_ (a':=?_) ?_ ?_
   rotate_left
   ·show Act.put _ (some 61) _=_
    simp only[Act.put,List.setIfInBounds_toArray,List.set_cons_zero,List.set_cons_succ,jF,jG]
    rfl
   refine oz_ 14 (some 62) (fun K hK=>?_)
   refine Kd.S_append_step (jB 5 (jb .u8)) (w0:=w) w.heap.size T0_ (.tmp 49) (.tmp 61) 53 23 (.slice none 0 0) 24 rfl Try.underlying53 info23 rfl T3_ T2_ u576002 x576002_2 t602 [.slice Ao45 t602.length co45] (fun k_=>ne_ k_ (.slice Ao23 t580.length co23)∧ne_ k_ (.slice Ao30 t591.length co30)) (fun k_=>some k_=(.slice Ao45 t602.length co45:Value).ownBlock) rfl rfl ?aP (fun k_ hk_=>((ja (ok':=fun k_=>((fun k_=>ne_ k_ (.slice Ao23 t580.length co23)∧ne_ k_ (.slice Ao30 t591.length co30))) k_∧ne_ k_ u576002) (Kd.R_apart' (HO604.out) (Jc HO_576002.out) T3_) (fun k_ hk=>⟨⟨hk.1.1.2,hk.1.2⟩,hk.2⟩))).1 k_ hk_.symm) ?aF ?aO ?aB ?aS ?aL ?_
   (case aP=>exact Kd.M_row (ja (Kd.R_tight rfl (ja (ok':=fun k_=>((fun k_=>ne_ k_ (.slice Ao23 t580.length co23)∧ne_ k_ (.slice Ao30 t591.length co30))) k_∧ne_ k_ u576002) (Kd.R_apart' (HO604.out) (Jc HO_576002.out) T3_) (fun k_ hk=>⟨⟨hk.1.1.2,hk.1.2⟩,hk.2⟩))) (fun _ h_=>h_)))
   (case aB=>exact T41_)
   (case aF=>exact(fun k_ hk=>⟨jA (jh (ru_ HO_576000.out)) k_ hk,jA (jh (ru_ HO_576001.out)) k_ hk⟩))
   (case aO=>exact(su_ (jC HO_576002.out (fun k_ hk=>⟨⟨hk.1.1,hk.1.2⟩,fun e_=>hk.2 e_⟩))))
   (case aS=>exact(jc T41_))
   (case aL=>have:=LMc40.out;omega)
   intro v606 w44 ho hb hg hat
   rw[←Ny605.out] at ho
   have n_:=P6_ (jx (ru_ HO_576000.out) (Jc (su_ HO_576002.out)) T3_ hg) (jx (ru_ HO_576001.out) (Jc (su_ HO_576002.out)) T3_ hg) (Jg (g:=gb574) (o:=.cells #[.slice none 0 0,.slice none 0 0,.slice none 0 0] 55 (0,0)) (bu_ BK574.out) hg (Kd.S_ne HO_576002.out BK574.out T3_)) (Jg (g:=gb575) (o:=.cells #[.slice Ao23 t580.length co23,.slice Ao30 t591.length co30,u576002] 55 (0,0)) (bu_ BK575.out) hg (Kd.S_ne HO_576002.out BK575.out T3_)) (hb) (ho)
   clear HO_576000 HO_576001 BK574 BK575 HB HO_576002 HO604
   obtain⟨HO_576000,HO_576001,BK574,BK575,HB,HO607⟩:=n_
   clear ho hb hg hat
   obtain⟨Ao46,co46,eo46⟩:=jT HO607.out
   (first|subst eo46|(injection eo46 with f1_ f2_ f3_;have f4_:=f1_.symm;have f5_:=f3_.symm;clear f1_ f2_ f3_;subst f4_;subst f5_))
   refine hK.out _ _ ⟨bc_ BK575.out 0,bc_ BK575.out 1,bc_ BK575.out 2⟩ (fun hHeld=>?_)
   clear hK K
   refine norm_ (a':=?_) ?_ ?_
   rotate_left
   ·show Act.put _ (some 62) _=_
    simp only[Act.put,List.setIfInBounds_toArray,List.set_cons_zero,List.set_cons_succ,jF,jG]
    rfl
   refine pz_ 15 (some 63) ?_
   refine last_ (i:=16) (N:=none) #[true,true,true,true,true,true,true,true,true,true,true,true,true,true,true,true,true] rfl rfl (one_of HT_.out T4_) T3_ (fun K hK=>?_)
   have hs47:w44.cell? ⟨gb575,2,none⟩=some (u576002):=bc_ BK575.out 2
   have hfs47:=blk_frozen BK575.out 2
   have hns47_0:=NB574_575.out
   have hms47_0:=NB575_574.out
   refine skip_ (w1:=?_) T0_ rfl ?_ ?_
   rotate_left
   ·go_simp
    rfl
   refine hK.out _ _ ?_
   clear hK K
   refine done_ (done_of HT_.out T4_) ?_
   try go_wp2
   go_roundg k2
   case measure=>have:=HJ2.out;have:=HK2.out;omega
   case rel=>exact⟨(wrap64 (x10_2+1)),(y605),(.slice Ao46 y605.length co46),T10_,H',⟨T9_⟩,⟨ru_ (ja (jd (p:=⟨gb575,2,none⟩) (jr HO_576000.out BK575.out T3_) (fun _ hk=>hk.2) (.slice Ao46 y605.length co46)) (fun _ hk=>hk.1.1))⟩,⟨ru_ (ja (jd (p:=⟨gb575,2,none⟩) (jr HO_576001.out BK575.out T3_) (fun _ hk=>hk.2) (.slice Ao46 y605.length co46)) (fun _ hk=>hk.1.1))⟩,⟨su_ (jC (jE (p:=⟨gb575,2,none⟩) (Jb HO607.out BK575.out T3_) (fun _ hk=>hk.2) (.slice Ao46 y605.length co46)) (fun _ hk=>⟨hk.1.1,hk.1.2⟩))⟩,⟨T23_⟩,⟨(by(with_reducible repeat(first|refine jn ?_ _|refine jl ?_|refine jm ?_ _));refine ju (cs:=#[.slice Ao23 t580.length co23,.slice Ao30 t591.length co30,u576002]) ?_ 2 _ rfl;exact bu_ BK575.out)⟩,⟨T41_⟩⟩
def churnref12_Bounds.l0:Nat→List Int→Int→Option (List Int)
 | 0,_,_=>none
 | k+1,x3,x4=>if x4 ≥ 1 then(if x3.length<17592186044416 then(churnref12_Bounds.l0 k (x3 ++ [x4]) (wrap64 (x4-1))) else(none)) else(some x3)
def churnref12_Bounds.f (k:Nat) (a0:Int):Option (List Int):=if a0 > 256 then(some ([]:List Int)) else(churnref12_Bounds.l0 k ([]:List Int) a0)
set_option maxHeartbeats 8000000 in
set_option maxRecDepth 100000 in
theorem churnref12_Bounds.calls (k:Nat) (a0:Int) (r:List Int) (w:World) (h:churnref12_Bounds.f k a0=some r) :
  Calls Try.prog 29 #[.int .i64 a0] w fun e w'=>∃ v0_:Value,e = .returned (v0_)∧jt (jb .i64) 3 w' w.heap.size (fun _=>True) v0_ r∧Below w.heap.size w w':=by
 have HB:=am_ (Below.refl w.heap.size w)
 have H:(if a0 > 256 then(some ([]:List Int)) else(churnref12_Bounds.l0 k ([]:List Int) a0))=some r:=h
 clear h
 by_cases c2:a0 > 256
 ·rw[if_pos c2] at H
  have c2b0:=decide_eq_true c2
  clear c2
  obtain rfl:=Option.some.inj H
  obtain⟨rfl⟩:=sj1_ H
  go_enter Try.func29,Try.ntmps29
  go_wp2
  go_ret
  exact⟨_,T17_,T21_,T19_⟩
 rw[if_neg c2] at H
 have c2b0:=decide_eq_false c2
 clear c2
 have H':=am_ H
 clear H
 go_enter Try.func29,Try.ntmps29
 go_wp2
 go_loopg [3,4] k (fun kq v3 v4 w'=>∃ (x3_1:List Int) (x4_1:Int),v4 = .int .i64 x4_1∧Aside0 (churnref12_Bounds.l0 kq x3_1 x4_1=some r)∧Aside0 (kq≤k)∧Aside0 (jt (jb .i64) 3 w' w.heap.size (fun _=>True) v3 x3_1)∧Aside0 (Below w.heap.size w w'))
 case atStart=>exact⟨(([]:List Int)),(a0),T10_,H',⟨Nat.le_refl _⟩,⟨T21_⟩,⟨T19_⟩⟩
 clear H'
 (try clear c2);(try clear c2b0)
 obtain⟨x3_1,x4_1,rfl,HA,HK1,HO_3,HB⟩:=hrel
 cases gk with
 | zero=>exact absurd HA.out (by simp[churnref12_Bounds.l0])
 | succ k1 =>
  have H:=HA.out
  clear HA
  simp only[churnref12_Bounds.l0] at H
  by_cases c3:x4_1 ≥ 1
  rotate_left
  ·rw[if_neg c3] at H
   have c3b0:=decide_eq_false c3
   clear c3
   obtain rfl:=Option.some.inj H
   obtain⟨rfl⟩:=sj1_ H
   go_wp2
   go_ret
   exact⟨_,T17_,ru_ HO_3.out,T19_⟩
  rw[if_pos c3] at H
  have c3b0:=decide_eq_true c3
  clear c3
  replace H:=ifa_ H;obtain⟨LMc4,H⟩:=H
  obtain⟨y608,hy_⟩:∃ y_:List Int,y_=(x3_1 ++ [x4_1]):=⟨_,rfl⟩
  replace H:(churnref12_Bounds.l0 k1 y608 (wrap64 (x4_1-1)))=some r:=hyw_
  have Ny608:=am_ hy_
  clear hy_
  have H':=am_ H
  clear H
  go_wp2_with(first|(refine gb_ .append #[.tmp 13,.tmp 15] ?_;at_builtin;refine Jd (jb .i64) (w0:=w) w.heap.size rfl (.tmp 13) (.tmp 15) 24 3 (.int .i64 0) 8 rfl Try.underlying24 info3 rfl T3_ T2_ u3 x3_1 x4_1 [.int .i64 x4_1] (fun _=>True) (fun _=>False) rfl rfl ?aP (fun _ hk=>hk.elim) ?aF ?aO ?aB ?aS ?aL ?_;(case aP=>exact rfl);(case aB=>exact T19_);(case aF=>exact(fun _ _=>trivial));(case aO=>exact(ru_ HO_3.out));(case aS=>exact(jc T19_));(case aL=>have:=LMc4.out;omega);intro v609 w5 ho hb hg hat;rw[←Ny608.out] at ho;have n_:=P2_ (hb) (ho);clear HB HO_3;obtain⟨HB,HO610⟩:=n_;clear ho hb hg hat))
  go_roundg k1
  case measure=>have:=HK1.out;omega
  case rel=>exact⟨(y608),(wrap64 (x4_1-1)),T10_,H',⟨T7_⟩,⟨ru_ HO610.out⟩,⟨T19_⟩⟩
def churnref11_Bounds.l0:Nat→List Int→Int→Option (List Int)
 | 0,_,_=>none
 | k+1,x3,x4=>if x4 > 1 then(if x3.length<17592186044416 then(churnref11_Bounds.l0 k (x3 ++ [x4]) (wrap64 (x4-1))) else(none)) else(some x3)
def churnref11_Bounds.f (k:Nat) (a0:Int):Option (List Int):=churnref11_Bounds.l0 k ([]:List Int) a0
set_option maxHeartbeats 8000000 in
set_option maxRecDepth 100000 in
theorem churnref11_Bounds.calls (k:Nat) (a0:Int) (r:List Int) (w:World) (h:churnref11_Bounds.f k a0=some r) :
  Calls Try.prog 31 #[.int .i64 a0] w fun e w'=>∃ v0_:Value,e = .returned (v0_)∧jt (jb .i64) 3 w' w.heap.size (fun _=>True) v0_ r∧Below w.heap.size w w':=by
 have HB:=am_ (Below.refl w.heap.size w)
 have H:(churnref11_Bounds.l0 k ([]:List Int) a0)=some r:=h
 clear h
 have H':=am_ H
 clear H
 go_enter Try.func31,Try.ntmps31
 go_wp2
 go_loopg [3,4] k (fun kq v3 v4 w'=>∃ (x3_1:List Int) (x4_1:Int),v4 = .int .i64 x4_1∧Aside0 (churnref11_Bounds.l0 kq x3_1 x4_1=some r)∧Aside0 (kq≤k)∧Aside0 (jt (jb .i64) 3 w' w.heap.size (fun _=>True) v3 x3_1)∧Aside0 (Below w.heap.size w w'))
 case atStart=>exact⟨(([]:List Int)),(a0),T10_,H',⟨Nat.le_refl _⟩,⟨T21_⟩,⟨T19_⟩⟩
 clear H'
 obtain⟨x3_1,x4_1,rfl,HA,HK1,HO_3,HB⟩:=hrel
 cases gk with
 | zero=>exact absurd HA.out (by simp[churnref11_Bounds.l0])
 | succ k1 =>
  have H:=HA.out
  clear HA
  simp only[churnref11_Bounds.l0] at H
  by_cases c2:x4_1 > 1
  rotate_left
  ·rw[if_neg c2] at H
   have c2b0:=decide_eq_false c2
   clear c2
   obtain rfl:=Option.some.inj H
   obtain⟨rfl⟩:=sj1_ H
   go_wp2
   go_ret
   exact⟨_,T17_,ru_ HO_3.out,T19_⟩
  rw[if_pos c2] at H
  have c2b0:=decide_eq_true c2
  clear c2
  replace H:=ifa_ H;obtain⟨LMc3,H⟩:=H
  obtain⟨y611,hy_⟩:∃ y_:List Int,y_=(x3_1 ++ [x4_1]):=⟨_,rfl⟩
  replace H:(churnref11_Bounds.l0 k1 y611 (wrap64 (x4_1-1)))=some r:=hyw_
  have Ny611:=am_ hy_
  clear hy_
  have H':=am_ H
  clear H
  go_wp2_with(first|(refine gb_ .append #[.tmp 10,.tmp 12] ?_;at_builtin;refine Jd (jb .i64) (w0:=w) w.heap.size rfl (.tmp 10) (.tmp 12) 24 3 (.int .i64 0) 8 rfl Try.underlying24 info3 rfl T3_ T2_ u3 x3_1 x4_1 [.int .i64 x4_1] (fun _=>True) (fun _=>False) rfl rfl ?aP (fun _ hk=>hk.elim) ?aF ?aO ?aB ?aS ?aL ?_;(case aP=>exact rfl);(case aB=>exact T19_);(case aF=>exact(fun _ _=>trivial));(case aO=>exact(ru_ HO_3.out));(case aS=>exact(jc T19_));(case aL=>have:=LMc3.out;omega);intro v612 w4 ho hb hg hat;rw[←Ny611.out] at ho;have n_:=P2_ (hb) (ho);clear HB HO_3;obtain⟨HB,HO613⟩:=n_;clear ho hb hg hat))
  go_roundg k1
  case measure=>have:=HK1.out;omega
  case rel=>exact⟨(y611),(wrap64 (x4_1-1)),T10_,H',⟨T7_⟩,⟨ru_ HO613.out⟩,⟨T19_⟩⟩
mutual
def churnref12_Sizes.j0:Nat→Int→Int→Bool→Option (List Int×Int)
 | 0,_,_,_=>none
 | k+1,x0,x1,x22=>if x22=true then(some (([]:List Int),2)) else(churnref12_Sizes.l0 k x0 x1 ([]:List Int) 0)
def churnref12_Sizes.l0:Nat→Int→Int→List Int→Int→Option (List Int×Int)
 | 0,_,_,_,_=>none
 | k+1,x0,x1,x6,x7=>if x7<x1 then(if x1=0 then(none) else(if x7<(Int.tmod x0 x1) then(if x6.length<17592186044416 then(churnref12_Sizes.l0 k x0 x1 (x6 ++ [wrap64 ((wrap64 (Int.tdiv x0 x1))+1)]) (wrap64 (x7+1))) else(none)) else(if x6.length<17592186044416 then(churnref12_Sizes.l0 k x0 x1 (x6 ++ [wrap64 (Int.tdiv x0 x1)]) (wrap64 (x7+1))) else(none)))) else(some (x6,0))
end
def churnref12_Sizes.f (k:Nat) (a0:Int) (a1:Int):Option (List Int×Int):=if a0<0 then(churnref12_Sizes.j0 k a0 a1 true) else(if a0 > 256 then(churnref12_Sizes.j0 k a0 a1 true) else(if a1<1 then(churnref12_Sizes.j0 k a0 a1 true) else(churnref12_Sizes.j0 k a0 a1 (decide (a1 > 64)))))
set_option maxHeartbeats 8000000 in
set_option maxRecDepth 100000 in
theorem churnref12_Sizes.calls (k:Nat) (a0:Int) (a1:Int) (r1:List Int) (r2:Int) (w:World) (h:churnref12_Sizes.f k a0 a1=some (r1,r2)) :
  Calls Try.prog 45 #[.int .i64 a0,.int .i64 a1] w fun e w'=>∃ v0_:Value,e = .returned (.tuple #[v0_,.int .i64 r2])∧jt (jb .i64) 3 w' w.heap.size (fun _=>True) v0_ r1∧Below w.heap.size w w':=by
 have HB:=am_ (Below.refl w.heap.size w)
 have H:(if a0<0 then(churnref12_Sizes.j0 k a0 a1 true) else(if a0 > 256 then(churnref12_Sizes.j0 k a0 a1 true) else(if a1<1 then(churnref12_Sizes.j0 k a0 a1 true) else(churnref12_Sizes.j0 k a0 a1 (decide (a1 > 64))))))=some (r1,r2):=h
 clear h
 have HC3:=am_ H
 clear H
 go_enter Try.func45,Try.ntmps45
 go_upto_region 1 with(fail)
 go_cut [22] (fun v22 wc=>∃ (kq:Nat) (x22_2:Bool),v22 = .bool x22_2∧Aside0 (churnref12_Sizes.j0 kq a0 a1 x22_2=some (r1,r2))∧Aside0 (kq≤k)∧Aside0 (Below w.heap.size w wc))
 case first =>
  have H:=HC3.out
  clear HC3
  by_cases c4:a0<0
  ·rw[if_pos c4] at H
   have c4b0:=decide_eq_true c4
   clear c4
   (first|rw[c4b0]|(simp only[jF,jG];rw[c4b0])|skip)
   have H':=am_ H
   clear H
   go_wp2
   go_meet
   case rel=>exact⟨_,(true),T10_,H',⟨T8_⟩,⟨T19_⟩⟩
  rw[if_neg c4] at H
  have c4b0:=decide_eq_false c4
  clear c4
  (first|rw[c4b0]|(simp only[jF,jG];rw[c4b0])|skip)
  by_cases c5:a0 > 256
  ·rw[if_pos c5] at H
   have c5b0:=decide_eq_true c5
   clear c5
   have H':=am_ H
   clear H
   go_wp2
   go_meet
   case rel=>exact⟨_,(true),T10_,H',⟨T8_⟩,⟨T19_⟩⟩
  rw[if_neg c5] at H
  have c5b0:=decide_eq_false c5
  clear c5
  by_cases c6:a1<1
  ·rw[if_pos c6] at H
   have c6b0:=decide_eq_true c6
   clear c6
   have H':=am_ H
   clear H
   go_wp2
   go_meet
   case rel=>exact⟨_,(true),T10_,H',⟨T8_⟩,⟨T19_⟩⟩
  rw[if_neg c6] at H
  have c6b0:=decide_eq_false c6
  clear c6
  have H':=am_ H
  clear H
  go_wp2
  go_meet
  case rel=>exact⟨_,(decide (a1 > 64)),T10_,H',⟨T8_⟩,⟨T19_⟩⟩
 clear HC3
 obtain⟨kq,x22_2,rfl,HA,HJ2,HB⟩:=hcut
 cases kq with
 | zero=>exact absurd HA.out (by simp[churnref12_Sizes.j0])
 | succ kj2 =>
  have H:=HA.out
  clear HA
  simp only[churnref12_Sizes.j0] at H
  by_cases c7:x22_2=true
  ·subst c7
   have H1:(some (([]:List Int),2))=some (r1,r2):=by rw[if_pos rfl] at H;exact H
   clear H
   have H:=H1
   clear H1
   obtain⟨rfl,rfl⟩:=sj2_ H
   go_wp2
   go_ret2
   exact⟨_,T17_,T21_,T19_⟩
  replace c7:=Bool.eq_false_iff.mpr c7
  subst c7
  have H1:(churnref12_Sizes.l0 kj2 a0 a1 ([]:List Int) 0)=some (r1,r2):=by rw[if_neg (show ¬ (false=true) by decide)] at H;exact H
  clear H
  have H:=H1
  clear H1
  have H':=am_ H
  clear H
  go_wp2
  go_loopg [6,7] kj2 (fun kq v6 v7 w'=>∃ (x6_2:List Int) (x7_2:Int),v7 = .int .i64 x7_2∧Aside0 (churnref12_Sizes.l0 kq a0 a1 x6_2 x7_2=some (r1,r2))∧Aside0 (kq≤kj2)∧Aside0 (jt (jb .i64) 3 w' w.heap.size (fun _=>True) v6 x6_2)∧Aside0 (Below w.heap.size w w'))
  case atStart=>exact⟨(([]:List Int)),(0),T10_,H',⟨Nat.le_refl _⟩,⟨T21_⟩,⟨T19_⟩⟩
  clear H'
  (try clear c7)
  obtain⟨x6_2,x7_2,rfl,HA,HK2,HO_6,HB⟩:=hrel
  cases gk with
  | zero=>exact absurd HA.out (by simp[churnref12_Sizes.l0])
  | succ k2 =>
   have H:=HA.out
   clear HA
   simp only[churnref12_Sizes.l0] at H
   by_cases c8:x7_2<a1
   rotate_left
   ·rw[if_neg c8] at H
    have c8b0:=decide_eq_false c8
    clear c8
    obtain⟨rfl,rfl⟩:=sj2_ H
    go_wp2
    go_ret2
    exact⟨_,T17_,ru_ HO_6.out,T19_⟩
   rw[if_pos c8] at H
   have c8b0:=decide_eq_true c8
   clear c8
   by_cases c9:a1=0
   ·rw[if_pos c9] at H
    exact absurd H T1_
   rw[if_neg c9] at H
   obtain⟨c9b0,c9b1⟩:=en_ c9
   by_cases c10:x7_2<(Int.tmod a0 a1)
   ·rw[if_pos c10] at H
    have c10b0:=decide_eq_true c10
    clear c10
    replace H:=ifa_ H;obtain⟨LMc11,H⟩:=H
    obtain⟨y614,hy_⟩:∃ y_:List Int,y_=(x6_2 ++ [wrap64 ((wrap64 (Int.tdiv a0 a1))+1)]):=⟨_,rfl⟩
    replace H:(churnref12_Sizes.l0 k2 a0 a1 y614 (wrap64 (x7_2+1)))=some (r1,r2):=hyw_
    have Ny614:=am_ hy_
    clear hy_
    have H':=am_ H
    clear H
    go_wp2_with(first|(refine gb_ .append #[.tmp 38,.tmp 40] ?_;at_builtin;refine Jd (jb .i64) (w0:=w) w.heap.size rfl (.tmp 38) (.tmp 40) 24 3 (.int .i64 0) 8 rfl Try.underlying24 info3 rfl T3_ T2_ u6 x6_2 (wrap64 ((wrap64 (Int.tdiv a0 a1))+1)) [.int .i64 (wrap64 ((wrap64 (Int.tdiv a0 a1))+1))] (fun _=>True) (fun _=>False) rfl rfl ?aP (fun _ hk=>hk.elim) ?aF ?aO ?aB ?aS ?aL ?_;(case aP=>exact rfl);(case aB=>exact T19_);(case aF=>exact(fun _ _=>trivial));(case aO=>exact(ru_ HO_6.out));(case aS=>exact(jc T19_));(case aL=>have:=LMc11.out;omega);intro v615 w12 ho hb hg hat;rw[←Ny614.out] at ho;have n_:=P2_ (hb) (ho);clear HB HO_6;obtain⟨HB,HO616⟩:=n_;clear ho hb hg hat))
    go_roundg k2
    case measure=>have:=HJ2.out;have:=HK2.out;omega
    case rel=>exact⟨(y614),(wrap64 (x7_2+1)),T10_,H',⟨T9_⟩,⟨ru_ HO616.out⟩,⟨T19_⟩⟩
   rw[if_neg c10] at H
   have c10b0:=decide_eq_false c10
   clear c10
   replace H:=ifa_ H;obtain⟨LMc13,H⟩:=H
   obtain⟨y617,hy_⟩:∃ y_:List Int,y_=(x6_2 ++ [wrap64 (Int.tdiv a0 a1)]):=⟨_,rfl⟩
   replace H:(churnref12_Sizes.l0 k2 a0 a1 y617 (wrap64 (x7_2+1)))=some (r1,r2):=hyw_
   have Ny617:=am_ hy_
   clear hy_
   have H':=am_ H
   clear H
   go_wp2_with(first|(refine gb_ .append #[.tmp 38,.tmp 40] ?_;at_builtin;refine Jd (jb .i64) (w0:=w) w.heap.size rfl (.tmp 38) (.tmp 40) 24 3 (.int .i64 0) 8 rfl Try.underlying24 info3 rfl T3_ T2_ u6 x6_2 (wrap64 (Int.tdiv a0 a1)) [.int .i64 (wrap64 (Int.tdiv a0 a1))] (fun _=>True) (fun _=>False) rfl rfl ?aP (fun _ hk=>hk.elim) ?aF ?aO ?aB ?aS ?aL ?_;(case aP=>exact rfl);(case aB=>exact T19_);(case aF=>exact(fun _ _=>trivial));(case aO=>exact(ru_ HO_6.out));(case aS=>exact(jc T19_));(case aL=>have:=LMc13.out;omega);intro v618 w14 ho hb hg hat;rw[←Ny617.out] at ho;have n_:=P2_ (hb) (ho);clear HB HO_6;obtain⟨HB,HO619⟩:=n_;clear ho hb hg hat))
   go_roundg k2
   case measure=>have:=HJ2.out;have:=HK2.out;omega
   case rel=>exact⟨(y617),(wrap64 (x7_2+1)),T10_,H',⟨T9_⟩,⟨ru_ HO619.out⟩,⟨T19_⟩⟩
def churnref10_wrong.l0:Nat→List Int→Int→Option (Bool)
 | 0,_,_=>none
 | k+1,x0,x3=>if x3<(x0.length:Int) then(if 0≤x3 then(if(rd x0 x3)<1 then(some true) else(if(rd x0 x3) > 256 then(some true) else(churnref10_wrong.l0 k x0 (wrap64 (x3+1))))) else(none)) else(some false)
def churnref10_wrong.f (k:Nat) (l0:List Int):Option (Bool):=churnref10_wrong.l0 k l0 0
set_option maxHeartbeats 8000000 in
set_option maxRecDepth 100000 in
theorem churnref10_wrong.calls (k:Nat) (A0:Option Addr) (c0:Nat) (l0:List Int) (r:Bool) (w:World) (hr0:jX (jb .i64) w A0 l0.length l0) (hc0:l0.length≤c0) (h:churnref10_wrong.f k l0=some r) :
  Calls Try.prog 52 #[.slice A0 l0.length c0] w fun e w'=>e = .returned (.bool r)∧Drawn0 w w':=by
 have HR0:=am_ hr0
 have HC0:=am_ hc0
 clear hr0 hc0
 have H:(churnref10_wrong.l0 k l0 0)=some r:=h
 clear h
 have H':=am_ H
 clear H
 go_enter Try.func52,Try.ntmps52
 go_wp2
 go_loopg [3] k (fun kq v3 w'=>∃ (x3_1:Int),v3 = .int .i64 x3_1∧Aside0 (churnref10_wrong.l0 kq l0 x3_1=some r)∧Aside0 (kq≤k)∧Drawn0 w w')
 case atStart=>exact⟨(0),T10_,H',⟨Nat.le_refl _⟩,T11_⟩
 clear H'
 obtain⟨x3_1,rfl,HA,HK1,⟨m1,rfl⟩⟩:=hrel
 cases gk with
 | zero=>exact absurd HA.out (by simp[churnref10_wrong.l0])
 | succ k1 =>
  have H:=HA.out
  clear HA
  simp only[churnref10_wrong.l0] at H
  by_cases c2:x3_1<(l0.length:Int)
  rotate_left
  ·rw[if_neg c2] at H
   have c2b0:=decide_eq_false c2
   clear c2
   obtain rfl:=Option.some.inj H
   obtain⟨rfl⟩:=sj1_ H
   go_wp2
   go_ret
   exact⟨T10_,T11_⟩
  rw[if_pos c2] at H
  have c2b0:=decide_eq_true c2
  clear c2
  replace H:=ifn_ H;obtain⟨c3,H⟩:=H
  have c3b0:=decide_eq_true c3
  clear c3
  by_cases c4:(rd l0 x3_1)<1
  ·rw[if_pos c4] at H
   have c4b0:=decide_eq_true c4
   clear c4
   obtain rfl:=Option.some.inj H
   obtain⟨rfl⟩:=sj1_ H
   obtain⟨ad620,e620,hx620_0,p620,q620⟩:=ai_ HR0.out x3_1
   cases e620
   go_wp2
   go_ret
   exact⟨T10_,T11_⟩
  rw[if_neg c4] at H
  have c4b0:=decide_eq_false c4
  clear c4
  by_cases c5:(rd l0 x3_1) > 256
  ·rw[if_pos c5] at H
   have c5b0:=decide_eq_true c5
   clear c5
   obtain rfl:=Option.some.inj H
   obtain⟨rfl⟩:=sj1_ H
   obtain⟨ad620,e620,hx620_0,p620,q620⟩:=ai_ HR0.out x3_1
   cases e620
   have p621:0≤(x3_1:Int):=od_
   have q621:x3_1<(l0.length:Int):=od_
   obtain⟨ad621,e621,hx621_0⟩:=jy HR0.out x3_1 p621 q621
   obtain rfl:ad620=ad621:=(by injection e621)
   replace p621:=eq_true p621
   replace q621:=eq_true q621
   go_wp2
   go_ret
   exact⟨T10_,T11_⟩
  rw[if_neg c5] at H
  have c5b0:=decide_eq_false c5
  clear c5
  have H':=am_ H
  clear H
  obtain⟨ad620,e620,hx620_0,p620,q620⟩:=ai_ HR0.out x3_1
  cases e620
  have p621:0≤(x3_1:Int):=od_
  have q621:x3_1<(l0.length:Int):=od_
  obtain⟨ad621,e621,hx621_0⟩:=jy HR0.out x3_1 p621 q621
  obtain rfl:ad620=ad621:=(by injection e621)
  replace p621:=eq_true p621
  replace q621:=eq_true q621
  go_wp2
  go_roundg k1
  case measure=>have:=HK1.out;omega
  case rel=>exact⟨(wrap64 (x3_1+1)),T10_,H',⟨T7_⟩,T11_⟩
mutual
def churnref10_Below.j0:Nat→List Int→Int→Int→Bool→Option (Int×Int×Int)
 | 0,_,_,_,_=>none
 | k+1,x0,x1,x2,x15=>if x15=true then(some (0,0,2)) else(if x2=1 then(some (0,x1,0)) else(churnref10_Below.l0 k x0 x1 x2))
def churnref10_Below.l0:Nat→List Int→Int→Int→Option (Int×Int×Int)
 | 0,_,_,_=>none
 | k+1,x0,x1,x2=>if x1<(x0.length:Int) then(if 0≤x1 then(if x2=0 then(none) else(if(wrap64 (Int.tdiv (wrap64 (rd x0 x1)) x2))<(wrap64 (Int.tdiv (256:Int) x2)) then(some (Int.tmod (wrap64 (rd x0 x1)) x2,wrap64 (x1+1),0)) else(churnref10_Below.l0 k x0 (wrap64 (x1+1)) x2))) else(none)) else(some (0,0,3))
end
def churnref10_Below.f (k:Nat) (l0:List Int) (a1:Int) (a2:Int):Option (Int×Int×Int):=if a2<1 then(churnref10_Below.j0 k l0 a1 a2 true) else(churnref10_Below.j0 k l0 a1 a2 (decide (a2 > 256)))
set_option maxHeartbeats 8000000 in
set_option maxRecDepth 100000 in
theorem churnref10_Below.calls (k:Nat) (A0:Option Addr) (c0:Nat) (l0:List Int) (a1:Int) (a2:Int) (r1:Int) (r2:Int) (r3:Int) (w:World) (hr0:jX (jb .u8) w A0 l0.length l0) (hc0:l0.length≤c0) (h:churnref10_Below.f k l0 a1 a2=some (r1,r2,r3)) :
  Calls Try.prog 53 #[.slice A0 l0.length c0,.int .i64 a1,.int .i64 a2] w fun e w'=>e = .returned (.tuple #[.int .i64 r1,.int .i64 r2,.int .i64 r3])∧Drawn0 w w':=by
 have HR0:=am_ hr0
 have HC0:=am_ hc0
 clear hr0 hc0
 have H:(if a2<1 then(churnref10_Below.j0 k l0 a1 a2 true) else(churnref10_Below.j0 k l0 a1 a2 (decide (a2 > 256))))=some (r1,r2,r3):=h
 clear h
 have HC4:=am_ H
 clear H
 go_enter Try.func53,Try.ntmps53
 go_upto_region 1 with(fail)
 repeat(go_quiet(fail);go_upto_region 1 with(fail))
 go_cut [15] (fun v15 wc=>∃ (kq:Nat) (x15_3:Bool),v15 = .bool x15_3∧Aside0 (churnref10_Below.j0 kq l0 a1 a2 x15_3=some (r1,r2,r3))∧Aside0 (kq≤k)∧Drawn0 w wc)
 case first =>
  have H:=HC4.out
  clear HC4
  by_cases c5:a2<1
  ·rw[if_pos c5] at H
   have c5b0:=decide_eq_true c5
   clear c5
   (first|rw[c5b0]|(simp only[jF,jG];rw[c5b0])|skip)
   have H':=am_ H
   clear H
   go_wp2
   repeat(go_quiet(fail);try go_wp2)
   go_meet
   case rel=>exact⟨_,(true),T10_,H',⟨T8_⟩,T11_⟩
  rw[if_neg c5] at H
  have c5b0:=decide_eq_false c5
  clear c5
  (first|rw[c5b0]|(simp only[jF,jG];rw[c5b0])|skip)
  have H':=am_ H
  clear H
  go_wp2
  repeat(go_quiet(fail);try go_wp2)
  go_meet
  case rel=>exact⟨_,(decide (a2 > 256)),T10_,H',⟨T8_⟩,T11_⟩
 clear HC4
 obtain⟨kq,x15_3,rfl,HA,HJ3,⟨mc3,rfl⟩⟩:=hcut
 cases kq with
 | zero=>exact absurd HA.out (by simp[churnref10_Below.j0])
 | succ kj3 =>
  have H:=HA.out
  clear HA
  simp only[churnref10_Below.j0] at H
  by_cases c6:x15_3=true
  ·subst c6
   have H1:(some (0,0,2))=some (r1,r2,r3):=by rw[if_pos rfl] at H;exact H
   clear H
   have H:=H1
   clear H1
   obtain⟨rfl,rfl,rfl⟩:=sj3_ H
   go_wp2
   repeat(go_quiet(fail);try go_wp2)
   go_ret3
   exact⟨T10_,T11_⟩
  replace c6:=Bool.eq_false_iff.mpr c6
  subst c6
  have H1:(if a2=1 then(some (0,a1,0)) else(churnref10_Below.l0 kj3 l0 a1 a2))=some (r1,r2,r3):=by rw[if_neg (show ¬ (false=true) by decide)] at H;exact H
  clear H
  have H:=H1
  clear H1
  by_cases c7:a2=1
  ·rw[if_pos c7] at H
   obtain⟨c7b0,c7b1⟩:=ep_ c7
   clear c7
   obtain⟨rfl,rfl,rfl⟩:=sj3_ H
   go_wp2
   repeat(go_quiet(fail);try go_wp2)
   go_ret3
   exact⟨T10_,T11_⟩
  rw[if_neg c7] at H
  obtain⟨c7b0,c7b1⟩:=en_ c7
  have H':=am_ H
  clear H
  go_wp2
  repeat(go_quiet(fail);try go_wp2)
  go_loopg [1] kj3 (fun kq v1 w'=>∃ (x1_2:Int),v1 = .int .i64 x1_2∧Aside0 (churnref10_Below.l0 kq l0 x1_2 a2=some (r1,r2,r3))∧Aside0 (kq≤kj3)∧Drawn0 w w')
  case atStart=>exact⟨(a1),T10_,H',⟨Nat.le_refl _⟩,T11_⟩
  clear H'
  (try clear c6);(try clear c7);(try clear c7b0 c7b1)
  obtain⟨x1_2,rfl,HA,HK2,⟨m2,rfl⟩⟩:=hrel
  cases gk with
  | zero=>exact absurd HA.out (by simp[churnref10_Below.l0])
  | succ k2 =>
   have H:=HA.out
   clear HA
   simp only[churnref10_Below.l0] at H
   by_cases c8:x1_2<(l0.length:Int)
   rotate_left
   ·rw[if_neg c8] at H
    have c8b0:=decide_eq_false c8
    clear c8
    obtain⟨rfl,rfl,rfl⟩:=sj3_ H
    go_wp2
    repeat(go_quiet(fail);try go_wp2)
    go_ret3
    exact⟨T10_,T11_⟩
   rw[if_pos c8] at H
   have c8b0:=decide_eq_true c8
   clear c8
   replace H:=ifn_ H;obtain⟨c9,H⟩:=H
   have c9b0:=decide_eq_true c9
   clear c9
   by_cases c10:a2=0
   ·rw[if_pos c10] at H
    exact absurd H T1_
   rw[if_neg c10] at H
   obtain⟨c10b0,c10b1⟩:=en_ c10
   by_cases c11:(wrap64 (Int.tdiv (wrap64 (rd l0 x1_2)) a2))<(wrap64 (Int.tdiv (256:Int) a2))
   ·rw[if_pos c11] at H
    have c11b0:=decide_eq_true c11
    clear c11
    obtain⟨rfl,rfl,rfl⟩:=sj3_ H
    obtain⟨ad622,e622,hx622_0,p622,q622⟩:=ai_ HR0.out x1_2
    cases e622
    go_wp2
    repeat(go_quiet(fail);try go_wp2)
    go_ret3
    exact⟨T10_,T11_⟩
   rw[if_neg c11] at H
   have c11b0:=decide_eq_false c11
   clear c11
   have H':=am_ H
   clear H
   obtain⟨ad622,e622,hx622_0,p622,q622⟩:=ai_ HR0.out x1_2
   cases e622
   go_wp2
   repeat(go_quiet(fail);try go_wp2)
   go_roundg k2
   case measure=>have:=HJ3.out;have:=HK2.out;omega
   case rel=>exact⟨(wrap64 (x1_2+1)),T10_,H',⟨(by have:=HJ3.out;have:=HK2.out;omega)⟩,T11_⟩
def churnref10_All.l0:Nat→List Int→List Int→List Int→Int→Int→Option (List Int×Int×Int)
 | 0,_,_,_,_,_=>none
 | k+1,x0,x1,x7,x8,x9=>if x9<(x1.length:Int) then(if 0≤x9 then((churnref10_Below.f k x0 x8 (rd x1 x9)).bind fun bt628=>(if bt628.2.2=0 then(if x7.length<17592186044416 then(churnref10_All.l0 k x0 x1 (x7 ++ [bt628.1]) bt628.2.1 (wrap64 (x9+1))) else(none)) else(some (([]:List Int),0,bt628.2.2)))) else(none)) else(some (x7,x8,0))
def churnref10_All.f (k:Nat) (l0:List Int) (l1:List Int):Option (List Int×Int×Int):=(churnref10_wrong.f k l1).bind fun t623=>(if t623=true then(some (([]:List Int),0,2)) else(if 0≤(l1.length:Int) then(if((l1.length:Int):Int).toNat≤35184372088832 then(churnref10_All.l0 k l0 l1 (([]:List Int)) 0 0) else(none)) else(none)))
set_option maxHeartbeats 8000000 in
set_option maxRecDepth 100000 in
theorem churnref10_All.calls (k:Nat) (A0:Option Addr) (c0:Nat) (l0:List Int) (A1:Option Addr) (c1:Nat) (l1:List Int) (r1:List Int) (r2:Int) (r3:Int) (w:World) (hr0:jX (jb .u8) w A0 l0.length l0) (hc0:l0.length≤c0) (hr1:jX (jb .i64) w A1 l1.length l1) (hc1:l1.length≤c1) (h:churnref10_All.f k l0 l1=some (r1,r2,r3)) :
  Calls Try.prog 46 #[.slice A0 l0.length c0,.slice A1 l1.length c1] w fun e w'=>∃ v0_:Value,e = .returned (.tuple #[v0_,.int .i64 r2,.int .i64 r3])∧jt (jb .i64) 3 w' w.heap.size (fun _=>True) v0_ r1∧Below w.heap.size w w':=by
 have HR0:=am_ hr0
 have HC0:=am_ hc0
 clear hr0 hc0
 have HR1:=am_ hr1
 have HC1:=am_ hc1
 clear hr1 hc1
 have HB:=am_ (Below.refl w.heap.size w)
 have H:((churnref10_wrong.f k l1).bind fun t623=>(if t623=true then(some (([]:List Int),0,2)) else(if 0≤(l1.length:Int) then(if((l1.length:Int):Int).toNat≤35184372088832 then(churnref10_All.l0 k l0 l1 (([]:List Int)) 0 0) else(none)) else(none))))=some (r1,r2,r3):=h
 clear h
 replace H:=Option.bind_eq_some_iff.mp H
 obtain⟨t623,A30,H⟩:=H
 try dsimp only at H
 have A3:=am_ A30
 clear A30
 by_cases c4:t623=true
 ·subst c4
  have H1:(some (([]:List Int),0,2))=some (r1,r2,r3):=by rw[if_pos rfl] at H;exact H
  clear H
  have H:=H1
  clear H1
  obtain⟨rfl,rfl,rfl⟩:=sj3_ H
  go_enter Try.func46,Try.ntmps46
  go_wp2_with(first|(refine gc_ 52 ?_;refine gl_ (some 14) Try.func52 #[.slice A1 l1.length c1] ?_;(with_reducible refine(churnref10_wrong.calls k _ _ l1 true _ ?side1 ?side2 A3.out).mono ?_);(case side1=>exact cu_ HR1.out);(case side2=>exact HC1.out);rintro e w' ⟨rfl,⟨nd,rfl⟩⟩;refine⟨_,rfl,?_⟩))
  go_ret3
  exact⟨_,T17_,T21_,T19_⟩
 replace c4:=Bool.eq_false_iff.mpr c4
 subst c4
 have H1:(if 0≤(l1.length:Int) then(if((l1.length:Int):Int).toNat≤35184372088832 then(churnref10_All.l0 k l0 l1 (([]:List Int)) 0 0) else(none)) else(none))=some (r1,r2,r3):=by rw[if_neg (show ¬ (false=true) by decide)] at H;exact H
 clear H
 have H:=H1
 clear H1
 replace H:=ifn_ H;obtain⟨c5,H⟩:=H
 have c5b0:=eq_true c5
 have c5b1:decide (0≤(l1.length:Int))=true:=decide_eq_true c5
 clear c5
 replace H:=ifn_ H;obtain⟨c6,H⟩:=H
 have c6b0:=eq_true c6
 have c6b1:decide (((l1.length:Int):Int).toNat≤35184372088832)=true:=decide_eq_true c6
 clear c6
 obtain⟨y624,hy_⟩:∃ y_:List Int,y_=(([]:List Int)):=⟨_,rfl⟩
 replace H:(churnref10_All.l0 k l0 l1 y624 0 0)=some (r1,r2,r3):=hyw_
 have Ny624:=am_ hy_
 clear hy_
 have H':=am_ H
 clear H
 go_enter Try.func46,Try.ntmps46
 go_wp2_with(first|(refine gc_ 52 ?_;refine gl_ (some 14) Try.func52 #[.slice A1 l1.length c1] ?_;(with_reducible refine(churnref10_wrong.calls k _ _ l1 false _ ?side1 ?side2 A3.out).mono ?_);(case side1=>exact cu_ HR1.out);(case side2=>exact HC1.out);rintro e w' ⟨rfl,⟨nd,rfl⟩⟩;refine⟨_,rfl,?_⟩)|(refine gd_ 17 ?_;refine Kd.R_make0 (jb .i64) _ 3 rfl (N:=17) rfl 24 _ _ rfl (l1.length:Int) rfl rfl Try.underlying24 (.int .i64 0) 8 info3 rfl T3_ T2_ 0 (ok:=fun _=>True) (okp:=fun _=>True) rfl (fun _ hk=>hk) trivial (od_) (Nat.le_trans (Nat.mul_le_mul_right _ (od_:(l1.length:Int).toNat≤35184372088832)) T2_) (Below.refl _ _) (Nat.le_refl _) ?_;intro v625 w7 ho8 hb hg_ hnew_;clear hg_ hnew_;(first|rw[←Ny624.out] at ho8|(simp only[Int.reduceToNat] at ho8;rw[←Ny624.out] at ho8));have n_:=P2_ (jq ho8 (jc T19_)) (jk T19_ hb);clear HB;obtain⟨HO626,HB⟩:=n_;clear hb ho8))
 go_loopg [7,8,9] k (fun kq v7 v8 v9 w'=>∃ (x7_1:List Int) (x8_1:Int) (x9_1:Int),v8 = .int .i64 x8_1∧v9 = .int .i64 x9_1∧Aside0 (churnref10_All.l0 kq l0 l1 x7_1 x8_1 x9_1=some (r1,r2,r3))∧Aside0 (kq≤k)∧Aside0 (jt (jb .i64) 3 w' w.heap.size (fun _=>True) v7 x7_1)∧Aside0 (Below w.heap.size w w'))
 case atStart=>exact⟨(y624),(0),(0),T10_,T10_,H',⟨Nat.le_refl _⟩,⟨ru_ HO626.out⟩,⟨T19_⟩⟩
 clear H'
 (try clear c1);(try clear c4);(try clear c5);(try clear c5b0 c5b1);(try clear c6);(try clear c6b0 c6b1)
 obtain⟨x7_1,x8_1,x9_1,rfl,rfl,HA,HK1,HO_7,HB⟩:=hrel
 cases gk with
 | zero=>exact absurd HA.out (by simp[churnref10_All.l0])
 | succ k1 =>
  have H:=HA.out
  clear HA
  simp only[churnref10_All.l0] at H
  by_cases c9:x9_1<(l1.length:Int)
  rotate_left
  ·rw[if_neg c9] at H
   have c9b0:=decide_eq_false c9
   clear c9
   obtain⟨rfl,rfl,rfl⟩:=sj3_ H
   go_wp2
   go_ret3
   exact⟨_,T17_,ru_ HO_7.out,T19_⟩
  rw[if_pos c9] at H
  have c9b0:=decide_eq_true c9
  clear c9
  replace H:=ifn_ H;obtain⟨c10,H⟩:=H
  have c10b0:=decide_eq_true c10
  clear c10
  replace H:=Option.bind_eq_some_iff.mp H
  obtain⟨⟨t628,t629,t630⟩,A110,H⟩:=H
  try dsimp only at H
  have A11:=am_ A110
  clear A110
  by_cases c12:t630=0
  rotate_left
  ·rw[if_neg c12] at H
   obtain⟨c12b0,c12b1⟩:=en_ c12
   obtain⟨rfl,rfl,rfl⟩:=sj3_ H
   have p627:0≤(x9_1:Int):=od_
   have q627:x9_1<(l1.length:Int):=od_
   obtain⟨ad627,e627,hx627_0⟩:=jy HR1.out x9_1 p627 q627
   cases e627
   (try(replace hx627_0:=(HB.out.cell (World.block_lt_of_cell? w _ hx627_0)).trans hx627_0))
   replace p627:=eq_true p627
   replace q627:=eq_true q627
   go_wp2_with(first|(refine gc_ 53 ?_;refine gl_ (some 31) Try.func53 #[.slice A0 l0.length c0,.int .i64 x8_1,.int .i64 (rd l1 x9_1)] ?_;(with_reducible refine(churnref10_Below.calls k1 _ _ l0 x8_1 (rd l1 x9_1) t628 t629 t630 _ ?side1 ?side2 A11.out).mono ?_);(case side1=>exact cu_ (jw HR0.out HB.out));(case side2=>exact HC0.out);rintro e w' ⟨rfl,⟨nd,rfl⟩⟩;refine⟨_,rfl,?_⟩))
   go_ret3
   exact⟨_,T17_,T21_,T19_⟩
  rw[if_pos c12] at H
  obtain⟨c12b0,c12b1⟩:=ep_ c12
  clear c12
  replace H:=ifa_ H;obtain⟨LMc13,H⟩:=H
  obtain⟨y631,hy_⟩:∃ y_:List Int,y_=(x7_1 ++ [t628]):=⟨_,rfl⟩
  replace H:(churnref10_All.l0 k1 l0 l1 y631 t629 (wrap64 (x9_1+1)))=some (r1,r2,r3):=hyw_
  have Ny631:=am_ hy_
  clear hy_
  have H':=am_ H
  clear H
  have p627:0≤(x9_1:Int):=od_
  have q627:x9_1<(l1.length:Int):=od_
  obtain⟨ad627,e627,hx627_0⟩:=jy HR1.out x9_1 p627 q627
  cases e627
  (try(replace hx627_0:=(HB.out.cell (World.block_lt_of_cell? w _ hx627_0)).trans hx627_0))
  replace p627:=eq_true p627
  replace q627:=eq_true q627
  go_wp2_with(first|(refine gc_ 53 ?_;refine gl_ (some 31) Try.func53 #[.slice A0 l0.length c0,.int .i64 x8_1,.int .i64 (rd l1 x9_1)] ?_;(with_reducible refine(churnref10_Below.calls k1 _ _ l0 x8_1 (rd l1 x9_1) t628 t629 t630 _ ?side1 ?side2 A11.out).mono ?_);(case side1=>exact cu_ (jw HR0.out HB.out));(case side2=>exact HC0.out);rintro e w' ⟨rfl,⟨nd,rfl⟩⟩;refine⟨_,rfl,?_⟩)|(refine gb_ .append #[.tmp 38,.tmp 40] ?_;at_builtin;refine Jd (jb .i64) (w0:=w) w.heap.size rfl (.tmp 38) (.tmp 40) 24 3 (.int .i64 0) 8 rfl Try.underlying24 info3 rfl T3_ T2_ u7 x7_1 t628 [.int .i64 t628] (fun _=>True) (fun _=>False) rfl rfl ?aP (fun _ hk=>hk.elim) ?aF ?aO ?aB ?aS ?aL ?_;(case aP=>exact rfl);(case aB=>exact T19_);(case aF=>exact(fun _ _=>trivial));(case aO=>exact(ru_ HO_7.out));(case aS=>exact(jc T19_));(case aL=>have:=LMc13.out;omega);intro v632 w14 ho hb hg hat;rw[←Ny631.out] at ho;have n_:=P2_ (hb) (ho);clear HB HO_7;obtain⟨HB,HO633⟩:=n_;clear ho hb hg hat))
  go_roundg k1
  case measure=>have:=HK1.out;omega
  case rel=>exact⟨(y631),(t629),(wrap64 (x9_1+1)),T10_,T10_,H',⟨T7_⟩,⟨ru_ HO633.out⟩,⟨T19_⟩⟩
mutual
def churnref12_total.j0:Nat→List Int→Bool→Option (Int)
 | 0,_,_=>none
 | k+1,x0,x12=>if x12=true then(some (-1)) else(churnref12_total.l0 k x0 0 0)
def churnref12_total.l0:Nat→List Int→Int→Int→Option (Int)
 | 0,_,_,_=>none
 | k+1,x0,x3,x4=>if x4<(x0.length:Int) then(if 0≤x4 then(if(rd x0 x4)<0 then(some (-1)) else(if(rd x0 x4) > (wrap64 (256-x3)) then(some (-1)) else(churnref12_total.l0 k x0 (wrap64 (x3+(rd x0 x4))) (wrap64 (x4+1))))) else(none)) else(some x3)
end
def churnref12_total.f (k:Nat) (l0:List Int):Option (Int):=if(l0.length:Int)<1 then(churnref12_total.j0 k l0 true) else(churnref12_total.j0 k l0 (decide ((l0.length:Int) > 64)))
set_option maxHeartbeats 8000000 in
set_option maxRecDepth 100000 in
theorem churnref12_total.calls (k:Nat) (A0:Option Addr) (c0:Nat) (l0:List Int) (r:Int) (w:World) (hr0:jX (jb .i64) w A0 l0.length l0) (hc0:l0.length≤c0) (h:churnref12_total.f k l0=some r) :
  Calls Try.prog 51 #[.slice A0 l0.length c0] w fun e w'=>e = .returned (.int .i64 r)∧Drawn0 w w':=by
 have HR0:=am_ hr0
 have HC0:=am_ hc0
 clear hr0 hc0
 have H:(if(l0.length:Int)<1 then(churnref12_total.j0 k l0 true) else(churnref12_total.j0 k l0 (decide ((l0.length:Int) > 64))))=some r:=h
 clear h
 have HC2:=am_ H
 clear H
 go_enter Try.func51,Try.ntmps51
 go_upto_region 1 with(fail)
 go_cut [12] (fun v12 wc=>∃ (kq:Nat) (x12_1:Bool),v12 = .bool x12_1∧Aside0 (churnref12_total.j0 kq l0 x12_1=some r)∧Aside0 (kq≤k)∧Drawn0 w wc)
 case first =>
  have H:=HC2.out
  clear HC2
  by_cases c3:(l0.length:Int)<1
  ·rw[if_pos c3] at H
   have c3b0:=decide_eq_true c3
   have c3b1:decide (l0.length<1)=true:=decide_eq_true T2_
   clear c3
   (first|rw[c3b0]|(simp only[jF,jG];rw[c3b0])|skip)
   have H':=am_ H
   clear H
   go_wp2
   go_meet
   case rel=>exact⟨_,(true),T10_,H',⟨T8_⟩,T11_⟩
  rw[if_neg c3] at H
  have c3b0:=decide_eq_false c3
  have c3b1:decide (l0.length<1)=false:=decide_eq_false T2_
  clear c3
  (first|rw[c3b0]|(simp only[jF,jG];rw[c3b0])|skip)
  have H':=am_ H
  clear H
  go_wp2
  go_meet
  case rel=>exact⟨_,(decide ((l0.length:Int) > 64)),T10_,H',⟨T8_⟩,T11_⟩
 clear HC2
 obtain⟨kq,x12_1,rfl,HA,HJ1,⟨mc1,rfl⟩⟩:=hcut
 cases kq with
 | zero=>exact absurd HA.out (by simp[churnref12_total.j0])
 | succ kj1 =>
  have H:=HA.out
  clear HA
  simp only[churnref12_total.j0] at H
  by_cases c4:x12_1=true
  ·subst c4
   have H1:(some (-1))=some r:=by rw[if_pos rfl] at H;exact H
   clear H
   have H:=H1
   clear H1
   obtain rfl:=Option.some.inj H
   obtain⟨rfl⟩:=sj1_ H
   go_wp2
   go_ret
   exact⟨T10_,T11_⟩
  replace c4:=Bool.eq_false_iff.mpr c4
  subst c4
  have H1:(churnref12_total.l0 kj1 l0 0 0)=some r:=by rw[if_neg (show ¬ (false=true) by decide)] at H;exact H
  clear H
  have H:=H1
  clear H1
  have H':=am_ H
  clear H
  go_wp2
  go_loopg [3,4] kj1 (fun kq v3 v4 w'=>∃ (x3_2:Int) (x4_2:Int),v3 = .int .i64 x3_2∧v4 = .int .i64 x4_2∧Aside0 (churnref12_total.l0 kq l0 x3_2 x4_2=some r)∧Aside0 (kq≤kj1)∧Drawn0 w w')
  case atStart=>exact⟨(0),(0),T10_,T10_,H',⟨Nat.le_refl _⟩,T11_⟩
  clear H'
  (try clear c4)
  obtain⟨x3_2,x4_2,rfl,rfl,HA,HK2,⟨m2,rfl⟩⟩:=hrel
  cases gk with
  | zero=>exact absurd HA.out (by simp[churnref12_total.l0])
  | succ k2 =>
   have H:=HA.out
   clear HA
   simp only[churnref12_total.l0] at H
   by_cases c5:x4_2<(l0.length:Int)
   rotate_left
   ·rw[if_neg c5] at H
    have c5b0:=decide_eq_false c5
    clear c5
    obtain rfl:=Option.some.inj H
    obtain⟨rfl⟩:=sj1_ H
    go_wp2
    go_ret
    exact⟨T10_,T11_⟩
   rw[if_pos c5] at H
   have c5b0:=decide_eq_true c5
   clear c5
   replace H:=ifn_ H;obtain⟨c6,H⟩:=H
   have c6b0:=decide_eq_true c6
   clear c6
   by_cases c7:(rd l0 x4_2)<0
   ·rw[if_pos c7] at H
    have c7b0:=decide_eq_true c7
    clear c7
    obtain rfl:=Option.some.inj H
    obtain⟨rfl⟩:=sj1_ H
    obtain⟨ad634,e634,hx634_0,p634,q634⟩:=ai_ HR0.out x4_2
    cases e634
    go_wp2
    go_ret
    exact⟨T10_,T11_⟩
   rw[if_neg c7] at H
   have c7b0:=decide_eq_false c7
   clear c7
   by_cases c8:(rd l0 x4_2) > (wrap64 (256-x3_2))
   ·rw[if_pos c8] at H
    have c8b0:=decide_eq_true c8
    clear c8
    obtain rfl:=Option.some.inj H
    obtain⟨rfl⟩:=sj1_ H
    obtain⟨ad634,e634,hx634_0,p634,q634⟩:=ai_ HR0.out x4_2
    cases e634
    have p635:0≤(x4_2:Int):=od_
    have q635:x4_2<(l0.length:Int):=od_
    obtain⟨ad635,e635,hx635_0⟩:=jy HR0.out x4_2 p635 q635
    obtain rfl:ad634=ad635:=(by injection e635)
    replace p635:=eq_true p635
    replace q635:=eq_true q635
    go_wp2
    go_ret
    exact⟨T10_,T11_⟩
   rw[if_neg c8] at H
   have c8b0:=decide_eq_false c8
   clear c8
   have H':=am_ H
   clear H
   obtain⟨ad634,e634,hx634_0,p634,q634⟩:=ai_ HR0.out x4_2
   cases e634
   have p635:0≤(x4_2:Int):=od_
   have q635:x4_2<(l0.length:Int):=od_
   obtain⟨ad635,e635,hx635_0⟩:=jy HR0.out x4_2 p635 q635
   obtain rfl:ad634=ad635:=(by injection e635)
   replace p635:=eq_true p635
   replace q635:=eq_true q635
   have p636:0≤(x4_2:Int):=od_
   have q636:x4_2<(l0.length:Int):=od_
   obtain⟨ad636,e636,hx636_0⟩:=jy HR0.out x4_2 p636 q636
   obtain rfl:ad634=ad636:=(by injection e636)
   replace p636:=eq_true p636
   replace q636:=eq_true q636
   go_wp2
   go_roundg k2
   case measure=>have:=HJ1.out;have:=HK2.out;omega
   case rel=>exact⟨(wrap64 (x3_2+(rd l0 x4_2))),(wrap64 (x4_2+1)),T10_,T10_,H',⟨(by have:=HJ1.out;have:=HK2.out;omega)⟩,T11_⟩
end Go.Proofs.Ytbnifpfnjhdenaa.Q
end
