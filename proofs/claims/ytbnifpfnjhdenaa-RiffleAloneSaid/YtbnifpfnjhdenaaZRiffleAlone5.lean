/- Functions of the program as plain Lean functions, each with a proof that its call comes to just these answers, and the row that joins them to the given statement; no condition beside the statement's own. Written for this claim by this session's programs (pf.py, pack.py) over the kit's print. -/
import Derived.Test.YtbnifpfnjhdenaaZRiffleAlone0
import Derived.Test.YtbnifpfnjhdenaaZRiffleAlone1
import Derived.Test.YtbnifpfnjhdenaaZRiffleAlone2
import Derived.Test.YtbnifpfnjhdenaaZRiffleAlone3
import Derived.Test.YtbnifpfnjhdenaaZRiffleAlone4
section
namespace Go.Proofs.Ytbnifpfnjhdenaa.Q
open Go.RowKit Go.Proofs.YtbnifpfnjhdenaaW.PrintWords Go.Proofs.YtbnifpfnjhdenaaW.PrintLast Go.Proofs.YtbnifpfnjhdenaaW.PrintMore
open Go.Proofs.YtbnifpfnjhdenaaW.PrintLast renaming i64_w → jD, i32_w → jE
open Go.Proofs.YtbnifpfnjhdenaaW.PrintMore renaming max_three → jK, min_three → jL
open Go.Proofs.YtbnifpfnjhdenaaW.PrintWords renaming below_size → ja, below_step → ji, blk_drew → jl, blk_alloc → jn, blk_drewN → jp, blk_below → jr, blk_put → jt, below_drew1 → jG, below_set → jJ
open Go.Proofs.YtbnifpfnjhdenaaW.PrintWords.Kd renaming int → jb, R_mono → jc, R_below → jd, R_far → je, R_base → jf, R_elder' → jg, R_reads' → jh, R_lt → jj, R_new' → jk, R_lower → jm, R_slice → jo, R_drew → jq, R_types → js, R → ju, C_below → jv, R_after → jw, R_over' → jx, slice → jy, R_typed → jz, S_below → jA, S_mono → jB, S_far → jC, fresh' → jF, at_int → jH, S_elder' → jI, S_reads' → jM
attribute [local go_sem] max2_int min2_int max_two min_two jK jL max_four min_four
set_option linter.unusedVariables false
set_option linter.unusedSimpArgs false
def riffle_read.l0:Nat→List (List Int)→List Int→Int→List Int→Int→Int→List Int→List Int→List (List Int)→List Int→List Int→Option (List Int×List Int×(List (List Int))×List Int×List Int×List Int×List Int×(List (List Int))×Int)
 | 0,_,_,_,_,_,_,_,_,_,_,_=>none
 | k+1,x9,x11,x13,x57,x58,x59,x206000,x206001,x206002,x206003,x206004=>if x59<x58 then(if 0≤x59 then(if x59<(x57.length:Int) then(if x206004.length<17592186044416 then(if x59<(x206002.length:Int) then((perm_Bounds.f k (rd x57 x59)).bind fun t240=>((draw_All.f (rd_L2 x206002 x59) t240).bind fun bt243=>(if bt243.2.2=0 then((perm_From.f k (rd x57 x59) bt243.1).bind fun bt248=>(if bt248.2=0 then(if x9.length<5864062014805 then(riffle_read.l0 k (x9 ++ [bt248.1]) x11 (wrap64 (x13+(rd x57 x59))) x57 x58 (wrap64 (x59+1)) x206000 x206001 x206002 x206003 (x206004 ++ [x13])) else(none)) else(some (([]:List Int),([]:List Int),([]:List (List Int)),([]:List Int),([]:List Int),([]:List Int),([]:List Int),([]:List (List Int)),bt248.2)))) else(some (([]:List Int),([]:List Int),([]:List (List Int)),([]:List Int),([]:List Int),([]:List Int),([]:List Int),([]:List (List Int)),bt243.2.2))))) else(none)) else(none)) else(none)) else(none)) else((braid_Pattern.f k x206003 x11).bind fun bt228=>(some (x206000,x206001,x206002,x206003,x206004,bt228.1,bt228.2.1,x9,bt228.2.2)))
def riffle_read.f (k:Nat) (l0:List Int) (a1:Int) (a2:Int):Option (List Int×List Int×(List (List Int))×List Int×List Int×List Int×List Int×(List (List Int))×Int):=(braid_Sizes.f k a1 a2).bind fun bt206=>(if bt206.2=0 then((tape_Split.f k l0 a2).bind fun bt210=>(if bt210.2.2.2=0 then((braid_Bounds.f k a1).bind fun t220=>((draw_All.f bt210.2.1 t220).bind fun bt223=>(if bt223.2.2=0 then(riffle_read.l0 k ([]:List (List Int)) bt223.1 0 bt206.1 (bt206.1.length:Int) 0 bt210.1 bt210.2.1 bt210.2.2.1 bt206.1 ([]:List Int)) else(some (([]:List Int),([]:List Int),([]:List (List Int)),([]:List Int),([]:List Int),([]:List Int),([]:List Int),([]:List (List Int)),bt223.2.2))))) else(some (([]:List Int),([]:List Int),([]:List (List Int)),([]:List Int),([]:List Int),([]:List Int),([]:List Int),([]:List (List Int)),bt210.2.2.2)))) else(some (([]:List Int),([]:List Int),([]:List (List Int)),([]:List Int),([]:List Int),([]:List Int),([]:List Int),([]:List (List Int)),bt206.2)))
theorem riffle_read.mono_l:∀ k,(∀ y0 y1 y2 y3 y4 y5 y6 y7 y8 y9 y10,LeO (riffle_read.l0 k y0 y1 y2 y3 y4 y5 y6 y7 y8 y9 y10) (riffle_read.l0 (k+1) y0 y1 y2 y3 y4 y5 y6 y7 y8 y9 y10))
 | 0=>fun _ _ _ _ _ _ _ _ _ _ _ r h=>by simp[riffle_read.l0] at h
 | k+1=>by
  have ih0:=riffle_read.mono_l k
  intro y0 y1 y2 y3 y4 y5 y6 y7 y8 y9 y10
  unfold riffle_read.l0
  with_reducible repeat' first|exact ih0 _ _ _ _ _ _ _ _ _ _ _|exact braid_Bounds.mono _ _|exact braid_Pattern.mono _ _ _|exact braid_Sizes.mono _ _ _|exact perm_Bounds.mono _ _|exact perm_From.mono _ _ _|exact tape_Split.mono _ _ _|exact LeO.refl _|exact LeO.none _|refine LeO.ite ?_ ?_|refine LeO.bind ?_ (fun _=>?_)
theorem riffle_read.mono:∀ a0 a1 a2 k,LeO (riffle_read.f k a0 a1 a2) (riffle_read.f (k+1) a0 a1 a2):=by
 intro a0 a1 a2 k
 have ih0:=riffle_read.mono_l k
 unfold riffle_read.f
 with_reducible repeat' first|exact ih0 _ _ _ _ _ _ _ _ _ _ _|exact braid_Bounds.mono _ _|exact braid_Pattern.mono _ _ _|exact braid_Sizes.mono _ _ _|exact perm_Bounds.mono _ _|exact perm_From.mono _ _ _|exact tape_Split.mono _ _ _|exact LeO.refl _|exact LeO.none _|refine LeO.ite ?_ ?_|refine LeO.bind ?_ (fun _=>?_)
def riffle_read.T7:Bool×List (List Nat×List Nat):=(true,[([],[]),([0],[0]),([1],[1]),([],[]),([3],[3]),([2,4,4],[2,4]),([5],[5]),([6],[6]),([6],[6]),([6],[6]),([7,5,0,1,2,3,4,5,6,7],[7]),([8,10,0,1,2,3,4,5,6,7,8,10],[8]),([9,11,0,1,2,3,4,5,6,7,8,9,10,11],[9])])
def riffle_read.B7:List Nat:=[0,1,3,0,8,31,63,127,127,127,255,1535,4095]
theorem riffle_read.tab7:rtab .any (opsOf Try.f20 7)=riffle_read.T7:=by kernel_rfl
theorem riffle_read.bits7:waitsOk riffle_read.T7.2 riffle_read.B7=true:=by kernel_rfl
def riffle_read.T16:Bool×List (List Nat×List Nat):=(true,[([],[]),([0],[0]),([1],[1]),([],[]),([2,3],[2,3]),([4],[4]),([],[]),([6],[6]),([5,7,7],[5,7]),([8],[8]),([9],[9]),([9],[9]),([9],[9]),([10,8,0,1,2,3,4,5,6,7,8,9,10],[10]),([11,13,0,1,2,3,4,5,6,7,8,9,10,11,13],[11]),([12,14,0,1,2,3,4,5,6,7,8,9,10,11,12,13,14],[12])])
def riffle_read.B16:List Nat:=[0,1,3,0,15,31,0,64,255,511,1023,1023,1023,2047,12287,32767]
theorem riffle_read.tab16:rtab .any (opsOf Try.f20 16)=riffle_read.T16:=by kernel_rfl
theorem riffle_read.bits16:waitsOk riffle_read.T16.2 riffle_read.B16=true:=by kernel_rfl
set_option maxHeartbeats 8000000 in
set_option maxRecDepth 100000 in
theorem riffle_read.calls (k:Nat) (A0:Option Addr) (c0:Nat) (l0:List Int) (a1:Int) (a2:Int) (r1:List Int) (r2:List Int) (r3:List (List Int)) (r4:List Int) (r5:List Int) (r6:List Int) (r7:List Int) (r8:List (List Int)) (r9:Int) (w:World) (hr0:Kd.C (jb .u8) w A0 l0.length l0) (hc0:l0.length≤c0) (h:riffle_read.f k l0 a1 a2=some (r1,r2,r3,r4,r5,r6,r7,r8,r9)) :
  Calls Try.prog 20 #[.slice A0 l0.length c0,.int .i64 a1,.int .i64 a2] w fun e w'=>∃ v0_ v1_ v2_ v3_ v4_ v5_ v6_ v7_:Value,e = .returned (.tuple #[.agg #[v0_,v1_,v2_,v3_,v4_],v5_,v6_,v7_,.int .i64 r9])∧ju (jb .u8) 5 w' w.heap.size (fun k_=>ne_ k_ v1_) v0_ r1∧ju (jb .u8) 5 w' w.heap.size (fun k_=>ne_ k_ v0_) v1_ r2∧Kd.S (jy 5 (jb .u8)) 23 w' w.heap.size (fun k_=>ne_ k_ v0_∧ne_ k_ v1_) v2_ r3∧ju (jb .i64) 3 w' w.heap.size (fun k_=>ne_ k_ v4_∧ne_ k_ v5_∧ne_ k_ v6_) v3_ r4∧ju (jb .i64) 3 w' w.heap.size (fun k_=>ne_ k_ v3_∧ne_ k_ v5_∧ne_ k_ v6_) v4_ r5∧ju (jb .i64) 3 w' w.heap.size (fun k_=>ne_ k_ v3_∧ne_ k_ v4_∧ne_ k_ v6_) v5_ r6∧ju (jb .i64) 3 w' w.heap.size (fun k_=>ne_ k_ v3_∧ne_ k_ v4_∧ne_ k_ v5_) v6_ r7∧Kd.S (jy 3 (jb .i64)) 24 w' w.heap.size (fun k_=>ne_ k_ v3_∧ne_ k_ v4_∧ne_ k_ v5_∧ne_ k_ v6_) v7_ r8∧Below w.heap.size w w':=by
 have hu57:=Try.underlying57
 have hu55:=Try.underlying55
 have HR0:=am_ hr0
 have HC0:=am_ hc0
 clear hr0 hc0
 have HB:=am_ (Below.refl w.heap.size w)
 have H:((braid_Sizes.f k a1 a2).bind fun bt206=>(if bt206.2=0 then((tape_Split.f k l0 a2).bind fun bt210=>(if bt210.2.2.2=0 then((braid_Bounds.f k a1).bind fun t220=>((draw_All.f bt210.2.1 t220).bind fun bt223=>(if bt223.2.2=0 then(riffle_read.l0 k ([]:List (List Int)) bt223.1 0 bt206.1 (bt206.1.length:Int) 0 bt210.1 bt210.2.1 bt210.2.2.1 bt206.1 ([]:List Int)) else(some (([]:List Int),([]:List Int),([]:List (List Int)),([]:List Int),([]:List Int),([]:List Int),([]:List Int),([]:List (List Int)),bt223.2.2))))) else(some (([]:List Int),([]:List Int),([]:List (List Int)),([]:List Int),([]:List Int),([]:List Int),([]:List Int),([]:List (List Int)),bt210.2.2.2)))) else(some (([]:List Int),([]:List Int),([]:List (List Int)),([]:List Int),([]:List Int),([]:List Int),([]:List Int),([]:List (List Int)),bt206.2))))=some (r1,r2,r3,r4,r5,r6,r7,r8,r9):=h
 clear h
 replace H:=Option.bind_eq_some_iff.mp H
 obtain⟨⟨t206,t207⟩,A40,H⟩:=H
 try dsimp only at H
 have A4:=am_ A40
 clear A40
 by_cases c5:t207=0
 rotate_left
 ·rw[if_neg c5] at H
  obtain⟨c5b0,c5b1⟩:=en_ c5
  obtain⟨rfl,rfl,rfl,rfl,rfl,rfl,rfl,rfl,rfl⟩:=sj9_ H
  go_enter Try.func20,Try.ntmps20
  go_wp2_with(first|(refine gd_ 6 ?_;refine bx_ 6 #[.slice none 0 0,.slice none 0 0,.slice none 0 0,.slice none 0 0,.slice none 0 0] 57 ?_;intro gb205 hg w109 hbox hb;have n_:=P4_ (ji T16_ hb) (hbox) ((by rw[hg];exact(ja T16_):w.heap.size≤gb205)) ((by rw[hg];exact(ja T16_):w.heap.size≤gb205));clear HB;obtain⟨HB,BK205,GW205,GE205⟩:=n_;clear hb hbox hg)|(refine gc_ 32 ?_;refine gl_ (some 23) Try.func32 #[.int .i64 a1,.int .i64 a2] ?_;(with_reducible refine(braid_Sizes.calls k a1 a2 t206 t207 _ A4.out).mono ?_);rintro e w110 ⟨v208,rfl,ho0,hb⟩;refine⟨_,rfl,?_⟩;have n_:=P3_ (jm ho0 (ja T23_)) (jr (bu_ BK205.out) hb) (ji T23_ hb);clear BK205 HB;obtain⟨HO209,BK205,HB⟩:=n_;clear hb ho0;obtain⟨Ao111,co111,eo111⟩:=jo HO209.out;subst eo111;obtain⟨hcz112_0,hcz112_1,hcz112_2,hcz112_3,hcz112_4,hfz112_0,hfz112_1,hfz112_2,hfz112_3,hfz112_4⟩:=cz5_ BK205.out))
  refine bodyPost_ret (results_list (rs:=[.cell 6 57,.tmp 7,.tmp 8,.tmp 9,.tmp 10]) rfl T1_ (.cell gb205 57 #[.slice none 0 0,.slice none 0 0,.slice none 0 0,.slice none 0 0,.slice none 0 0] (0,0) _ rfl (by(with_reducible repeat(first|refine jp ?_ _|refine jl ?_|refine jn ?_ _));refine jt (cs:=#[.slice none 0 0,.slice none 0 0,.slice none 0 0,.slice none 0 0,.slice none 0 0]) ?_ 4 _ rfl;(with_reducible repeat(first|refine jp ?_ _|refine jl ?_|refine jn ?_ _));refine jt (cs:=#[.slice none 0 0,.slice none 0 0,.slice none 0 0,.slice Ao111 t206.length co111,.slice none 0 0]) ?_ 3 _ rfl;(with_reducible repeat(first|refine jp ?_ _|refine jl ?_|refine jn ?_ _));refine jt (cs:=#[.slice none 0 0,.slice none 0 0,.slice none 0 0,.slice Ao111 t206.length co111,.slice none 0 0]) ?_ 2 _ rfl;(with_reducible repeat(first|refine jp ?_ _|refine jl ?_|refine jn ?_ _));refine jt (cs:=#[.slice none 0 0,.slice none 0 0,.slice none 0 0,.slice Ao111 t206.length co111,.slice none 0 0]) ?_ 1 _ rfl;(with_reducible repeat(first|refine jp ?_ _|refine jl ?_|refine jn ?_ _));refine jt (cs:=#[.slice none 0 0,.slice none 0 0,.slice none 0 0,.slice Ao111 t206.length co111,.slice none 0 0]) ?_ 0 _ rfl;(with_reducible repeat(first|refine jp ?_ _|refine jl ?_|refine jn ?_ _));refine jt (cs:=#[.slice none 0 0,.slice none 0 0,.slice none 0 0,.slice none 0 0,.slice none 0 0]) ?_ 3 _ rfl;exact bu_ BK205.out) Try.underlying57 rfl T4_ (.tmp (.tmp (.tmp (.tmp .nil)))))) rfl ?_
  exact⟨_,_,_,_,_,_,_,_,T14_,T18_,T18_,T19_,T18_,T18_,T18_,T18_,T19_,T23_⟩
 rw[if_pos c5] at H
 obtain⟨c5b0,c5b1⟩:=ep_ c5
 clear c5
 replace H:=Option.bind_eq_some_iff.mp H
 obtain⟨⟨t210,t213,t216,t219⟩,A60,H⟩:=H
 try dsimp only at H
 have A6:=am_ A60
 clear A60
 by_cases c7:t219=0
 rotate_left
 ·rw[if_neg c7] at H
  obtain⟨c7b0,c7b1⟩:=en_ c7
  obtain⟨rfl,rfl,rfl,rfl,rfl,rfl,rfl,rfl,rfl⟩:=sj9_ H
  go_enter Try.func20,Try.ntmps20
  go_wp2_with(first|(refine gd_ 6 ?_;refine bx_ 6 #[.slice none 0 0,.slice none 0 0,.slice none 0 0,.slice none 0 0,.slice none 0 0] 57 ?_;intro gb205 hg w100 hbox hb;have n_:=P4_ (ji T16_ hb) (hbox) ((by rw[hg];exact(ja T16_):w.heap.size≤gb205)) ((by rw[hg];exact(ja T16_):w.heap.size≤gb205));clear HB;obtain⟨HB,BK205,GW205,GE205⟩:=n_;clear hb hbox hg)|(refine gc_ 32 ?_;refine gl_ (some 23) Try.func32 #[.int .i64 a1,.int .i64 a2] ?_;(with_reducible refine(braid_Sizes.calls k a1 a2 t206 t207 _ A4.out).mono ?_);rintro e w101 ⟨v208,rfl,ho0,hb⟩;refine⟨_,rfl,?_⟩;have n_:=P3_ (jm ho0 (ja T23_)) (jr (bu_ BK205.out) hb) (ji T23_ hb);clear BK205 HB;obtain⟨HO209,BK205,HB⟩:=n_;clear hb ho0;obtain⟨Ao102,co102,eo102⟩:=jo HO209.out;subst eo102;obtain⟨hcz103_0,hcz103_1,hcz103_2,hcz103_3,hcz103_4,hfz103_0,hfz103_1,hfz103_2,hfz103_3,hfz103_4⟩:=cz5_ BK205.out)|(refine gc_ 40 ?_;refine gl_ (some 34) Try.func40 #[.slice A0 l0.length c0,.int .i64 a2] ?_;(with_reducible refine(tape_Split.calls k _ _ l0 a2 t210 t213 t216 t219 _ ?side1 ?side2 A6.out).mono ?_);(case side1=>exact jv HR0.out T23_);(case side2=>exact HC0.out);rintro e w104 ⟨v211,v214,v217,rfl,ho0,ho1,ho2,hb⟩;refine⟨_,rfl,?_⟩;have n_:=P6_ (jd (ru_ ((jc (je (p:=⟨gb205,3,none⟩) (js HO209.out BK205.out T3_) (fun _ hk=>hk.2) (.slice Ao102 t206.length co102)) (fun _ h_=>h_.1)))) hb) (jm ho0 (ja T23_)) (jm ho1 (ja T23_)) (Kd.S_lower ho2 (ja T23_)) (jr (g:=gb205) (o:=.cells #[.slice none 0 0,.slice none 0 0,.slice none 0 0,.slice Ao102 t206.length co102,.slice none 0 0] 57 (0,0)) (by(with_reducible repeat(first|refine jp ?_ _|refine jl ?_|refine jn ?_ _));refine jt (cs:=#[.slice none 0 0,.slice none 0 0,.slice none 0 0,.slice none 0 0,.slice none 0 0]) ?_ 3 _ rfl;exact bu_ BK205.out) hb) (ji T23_ hb);clear HO209 BK205 HB;obtain⟨HO209,HO212,HO215,HO218,BK205,HB⟩:=n_;clear hb ho0 ho1 ho2;obtain⟨Ao105,co105,eo105⟩:=jo HO212.out;subst eo105;obtain⟨hcz106_0,hcz106_1,hcz106_2,hcz106_3,hcz106_4,hfz106_0,hfz106_1,hfz106_2,hfz106_3,hfz106_4⟩:=cz5_ BK205.out;obtain⟨Ao107,co107,eo107⟩:=jo HO215.out;subst eo107;obtain⟨Ao108,co108,eo108⟩:=Kd.S_slice HO218.out;subst eo108))
  refine bodyPost_ret (results_list (rs:=[.cell 6 57,.tmp 7,.tmp 8,.tmp 9,.tmp 10]) rfl T1_ (.cell gb205 57 #[.slice none 0 0,.slice none 0 0,.slice none 0 0,.slice none 0 0,.slice none 0 0] (0,0) _ rfl (by(with_reducible repeat(first|refine jp ?_ _|refine jl ?_|refine jn ?_ _));refine jt (cs:=#[.slice none 0 0,.slice none 0 0,.slice none 0 0,.slice none 0 0,.slice none 0 0]) ?_ 4 _ rfl;(with_reducible repeat(first|refine jp ?_ _|refine jl ?_|refine jn ?_ _));refine jt (cs:=#[.slice none 0 0,.slice none 0 0,.slice none 0 0,.slice Ao102 t206.length co102,.slice none 0 0]) ?_ 3 _ rfl;(with_reducible repeat(first|refine jp ?_ _|refine jl ?_|refine jn ?_ _));refine jt (cs:=#[.slice none 0 0,.slice none 0 0,.slice Ao108 t216.length co108,.slice Ao102 t206.length co102,.slice none 0 0]) ?_ 2 _ rfl;(with_reducible repeat(first|refine jp ?_ _|refine jl ?_|refine jn ?_ _));refine jt (cs:=#[.slice none 0 0,.slice Ao107 t213.length co107,.slice Ao108 t216.length co108,.slice Ao102 t206.length co102,.slice none 0 0]) ?_ 1 _ rfl;(with_reducible repeat(first|refine jp ?_ _|refine jl ?_|refine jn ?_ _));refine jt (cs:=#[.slice Ao105 t210.length co105,.slice Ao107 t213.length co107,.slice Ao108 t216.length co108,.slice Ao102 t206.length co102,.slice none 0 0]) ?_ 0 _ rfl;(with_reducible repeat(first|refine jp ?_ _|refine jl ?_|refine jn ?_ _));refine jt (cs:=#[.slice Ao105 t210.length co105,.slice Ao107 t213.length co107,.slice none 0 0,.slice Ao102 t206.length co102,.slice none 0 0]) ?_ 2 _ rfl;(with_reducible repeat(first|refine jp ?_ _|refine jl ?_|refine jn ?_ _));refine jt (cs:=#[.slice Ao105 t210.length co105,.slice none 0 0,.slice none 0 0,.slice Ao102 t206.length co102,.slice none 0 0]) ?_ 1 _ rfl;(with_reducible repeat(first|refine jp ?_ _|refine jl ?_|refine jn ?_ _));refine jt (cs:=#[.slice none 0 0,.slice none 0 0,.slice none 0 0,.slice Ao102 t206.length co102,.slice none 0 0]) ?_ 0 _ rfl;exact bu_ BK205.out) Try.underlying57 rfl T4_ (.tmp (.tmp (.tmp (.tmp .nil)))))) rfl ?_
  exact⟨_,_,_,_,_,_,_,_,T14_,T18_,T18_,T19_,T18_,T18_,T18_,T18_,T19_,T23_⟩
 rw[if_pos c7] at H
 obtain⟨c7b0,c7b1⟩:=ep_ c7
 clear c7
 replace H:=Option.bind_eq_some_iff.mp H
 obtain⟨t220,A80,H⟩:=H
 try dsimp only at H
 have A8:=am_ A80
 clear A80
 replace H:=Option.bind_eq_some_iff.mp H
 obtain⟨⟨t223,t224,t225⟩,A90,H⟩:=H
 try dsimp only at H
 have A9:=am_ A90
 clear A90
 by_cases c10:t225=0
 rotate_left
 ·rw[if_neg c10] at H
  obtain⟨c10b0,c10b1⟩:=en_ c10
  obtain⟨rfl,rfl,rfl,rfl,rfl,rfl,rfl,rfl,rfl⟩:=sj9_ H
  go_enter Try.func20,Try.ntmps20
  try go_wp2_with(first|(refine gd_ 6 ?_;refine bx_ 6 #[.slice none 0 0,.slice none 0 0,.slice none 0 0,.slice none 0 0,.slice none 0 0] 57 ?_;intro gb205 hg w85 hbox hb;have n_:=P4_ (ji T16_ hb) (hbox) ((by rw[hg];exact(ja T16_):w.heap.size≤gb205)) ((by rw[hg];exact(ja T16_):w.heap.size≤gb205));clear HB;obtain⟨HB,BK205,GW205,GE205⟩:=n_;clear hb hbox hg)|(refine gc_ 32 ?_;refine gl_ (some 23) Try.func32 #[.int .i64 a1,.int .i64 a2] ?_;(with_reducible refine(braid_Sizes.calls k a1 a2 t206 t207 _ A4.out).mono ?_);rintro e w86 ⟨v208,rfl,ho0,hb⟩;refine⟨_,rfl,?_⟩;have n_:=P3_ (jm ho0 (ja T23_)) (jr (bu_ BK205.out) hb) (ji T23_ hb);clear BK205 HB;obtain⟨HO209,BK205,HB⟩:=n_;clear hb ho0;obtain⟨Ao87,co87,eo87⟩:=jo HO209.out;subst eo87;obtain⟨hcz88_0,hcz88_1,hcz88_2,hcz88_3,hcz88_4,hfz88_0,hfz88_1,hfz88_2,hfz88_3,hfz88_4⟩:=cz5_ BK205.out)|(refine gc_ 40 ?_;refine gl_ (some 34) Try.func40 #[.slice A0 l0.length c0,.int .i64 a2] ?_;(with_reducible refine(tape_Split.calls k _ _ l0 a2 t210 t213 t216 t219 _ ?side1 ?side2 A6.out).mono ?_);(case side1=>exact jv HR0.out T23_);(case side2=>exact HC0.out);rintro e w89 ⟨v211,v214,v217,rfl,ho0,ho1,ho2,hb⟩;refine⟨_,rfl,?_⟩;have n_:=P6_ (jd (ru_ ((jc (je (p:=⟨gb205,3,none⟩) (js HO209.out BK205.out T3_) (fun _ hk=>hk.2) (.slice Ao87 t206.length co87)) (fun _ h_=>h_.1)))) hb) (jm ho0 (ja T23_)) (jm ho1 (ja T23_)) (Kd.S_lower ho2 (ja T23_)) (jr (g:=gb205) (o:=.cells #[.slice none 0 0,.slice none 0 0,.slice none 0 0,.slice Ao87 t206.length co87,.slice none 0 0] 57 (0,0)) (by(with_reducible repeat(first|refine jp ?_ _|refine jl ?_|refine jn ?_ _));refine jt (cs:=#[.slice none 0 0,.slice none 0 0,.slice none 0 0,.slice none 0 0,.slice none 0 0]) ?_ 3 _ rfl;exact bu_ BK205.out) hb) (ji T23_ hb);clear HO209 BK205 HB;obtain⟨HO209,HO212,HO215,HO218,BK205,HB⟩:=n_;clear hb ho0 ho1 ho2;obtain⟨Ao90,co90,eo90⟩:=jo HO212.out;subst eo90;obtain⟨hcz91_0,hcz91_1,hcz91_2,hcz91_3,hcz91_4,hfz91_0,hfz91_1,hfz91_2,hfz91_3,hfz91_4⟩:=cz5_ BK205.out;obtain⟨Ao92,co92,eo92⟩:=jo HO215.out;subst eo92;obtain⟨Ao93,co93,eo93⟩:=Kd.S_slice HO218.out;subst eo93))
  have n0_:Aside0 (ju (jb .i64) 3 (((w89.setCell ⟨gb205,0,none⟩ (.slice Ao90 t210.length co90)).setCell ⟨gb205,1,none⟩ (.slice Ao92 t213.length co92)).setCell ⟨gb205,2,none⟩ (.slice Ao93 t216.length co93)) w.heap.size (fun _=>True) (.slice Ao87 t206.length co87) t206):=⟨ru_ (jc (je (p:=⟨gb205,2,none⟩) (je (p:=⟨gb205,1,none⟩) (je (p:=⟨gb205,0,none⟩) (js HO209.out BK205.out T3_) (fun _ hk=>hk.2) (.slice Ao90 t210.length co90)) (fun _ hk=>hk.2) (.slice Ao92 t213.length co92)) (fun _ hk=>hk.2) (.slice Ao93 t216.length co93)) (fun _ hk=>trivial))⟩
  have n1_:Aside0 (ju (jb .u8) 5 (((w89.setCell ⟨gb205,0,none⟩ (.slice Ao90 t210.length co90)).setCell ⟨gb205,1,none⟩ (.slice Ao92 t213.length co92)).setCell ⟨gb205,2,none⟩ (.slice Ao93 t216.length co93)) w.heap.size (fun k_=>ne_ k_ (.slice Ao92 t213.length co92)) (.slice Ao90 t210.length co90) t210):=⟨ru_ (jc (je (p:=⟨gb205,2,none⟩) (je (p:=⟨gb205,1,none⟩) (je (p:=⟨gb205,0,none⟩) (js HO212.out BK205.out T3_) (fun _ hk=>hk.2) (.slice Ao90 t210.length co90)) (fun _ hk=>hk.2) (.slice Ao92 t213.length co92)) (fun _ hk=>hk.2) (.slice Ao93 t216.length co93)) (fun _ hk=>hk.1))⟩
  have n2_:Aside0 (ju (jb .u8) 5 (((w89.setCell ⟨gb205,0,none⟩ (.slice Ao90 t210.length co90)).setCell ⟨gb205,1,none⟩ (.slice Ao92 t213.length co92)).setCell ⟨gb205,2,none⟩ (.slice Ao93 t216.length co93)) w.heap.size (fun k_=>ne_ k_ (.slice Ao90 t210.length co90)) (.slice Ao92 t213.length co92) t213):=⟨ru_ (jc (je (p:=⟨gb205,2,none⟩) (je (p:=⟨gb205,1,none⟩) (je (p:=⟨gb205,0,none⟩) (js HO215.out BK205.out T3_) (fun _ hk=>hk.2) (.slice Ao90 t210.length co90)) (fun _ hk=>hk.2) (.slice Ao92 t213.length co92)) (fun _ hk=>hk.2) (.slice Ao93 t216.length co93)) (fun _ hk=>hk.1))⟩
  have n3_:Aside0 (Kd.S (jy 5 (jb .u8)) 23 (((w89.setCell ⟨gb205,0,none⟩ (.slice Ao90 t210.length co90)).setCell ⟨gb205,1,none⟩ (.slice Ao92 t213.length co92)).setCell ⟨gb205,2,none⟩ (.slice Ao93 t216.length co93)) w.heap.size (fun k_=>ne_ k_ (.slice Ao90 t210.length co90)∧ne_ k_ (.slice Ao92 t213.length co92)) (.slice Ao93 t216.length co93) t216):=⟨su_ (jB (jC (p:=⟨gb205,2,none⟩) (jC (p:=⟨gb205,1,none⟩) (jC (p:=⟨gb205,0,none⟩) (Kd.S_types HO218.out BK205.out T3_) (fun _ hk=>hk.2) (.slice Ao90 t210.length co90)) (fun _ hk=>hk.2) (.slice Ao92 t213.length co92)) (fun _ hk=>hk.2) (.slice Ao93 t216.length co93)) (fun _ hk=>⟨hk.1.1,hk.1.2⟩))⟩
  have n4_:Aside0 ((((w89.setCell ⟨gb205,0,none⟩ (.slice Ao90 t210.length co90)).setCell ⟨gb205,1,none⟩ (.slice Ao92 t213.length co92)).setCell ⟨gb205,2,none⟩ (.slice Ao93 t216.length co93)).heap[gb205]? = some (.cells #[.slice Ao90 t210.length co90,.slice Ao92 t213.length co92,.slice Ao93 t216.length co93,.slice Ao87 t206.length co87,.slice none 0 0] 57 (0,0))):=⟨(by(with_reducible repeat(first|refine jp ?_ _|refine jl ?_|refine jn ?_ _));refine jt (cs:=#[.slice Ao90 t210.length co90,.slice Ao92 t213.length co92,.slice none 0 0,.slice Ao87 t206.length co87,.slice none 0 0]) ?_ 2 _ rfl;(with_reducible repeat(first|refine jp ?_ _|refine jl ?_|refine jn ?_ _));refine jt (cs:=#[.slice Ao90 t210.length co90,.slice none 0 0,.slice none 0 0,.slice Ao87 t206.length co87,.slice none 0 0]) ?_ 1 _ rfl;(with_reducible repeat(first|refine jp ?_ _|refine jl ?_|refine jn ?_ _));refine jt (cs:=#[.slice none 0 0,.slice none 0 0,.slice none 0 0,.slice Ao87 t206.length co87,.slice none 0 0]) ?_ 0 _ rfl;exact bu_ BK205.out)⟩
  have n5_:Aside0 (Below w.heap.size w (((w89.setCell ⟨gb205,0,none⟩ (.slice Ao90 t210.length co90)).setCell ⟨gb205,1,none⟩ (.slice Ao92 t213.length co92)).setCell ⟨gb205,2,none⟩ (.slice Ao93 t216.length co93))):=⟨T23_⟩
  (try clear HO209);(try clear HO212);(try clear HO215);(try clear HO218);(try clear BK205);(try clear HB)
  generalize (((w89.setCell ⟨gb205,0,none⟩ (.slice Ao90 t210.length co90)).setCell ⟨gb205,1,none⟩ (.slice Ao92 t213.length co92)).setCell ⟨gb205,2,none⟩ (.slice Ao93 t216.length co93))=w94 at n0_ n1_ n2_ n3_ n4_ n5_ ⊢
  have HO209:=n0_
  have HO212:=n1_
  have HO215:=n2_
  have HO218:=n3_
  have BK205:=n4_
  have HB:=n5_
  clear n0_ n1_ n2_ n3_ n4_ n5_
  have n_:=P6_ (jq HO209.out) (jq HO212.out) (jq HO215.out) (Kd.S_drew HO218.out) (jl BK205.out) (jG HB.out)
  clear HO209 HO212 HO215 HO218 BK205 HB
  obtain⟨HO209,HO212,HO215,HO218,BK205,HB⟩:=n_
  refine start_ (n:=13) (S:=fun w'=>w'.cell? ⟨gb205,0,none⟩=some (.slice Ao90 t210.length co90)∧w'.cell? ⟨gb205,1,none⟩=some (.slice Ao92 t213.length co92)∧w'.cell? ⟨gb205,2,none⟩=some (.slice Ao93 t216.length co93)∧w'.cell? ⟨gb205,3,none⟩=some (.slice Ao87 t206.length co87)∧w'.cell? ⟨gb205,4,none⟩=some (.slice none 0 0)) (ds:=[]) #[false,false,false,false,false,false,false,false,false,false,false,false,false] T4_ rfl rfl ⟨bc_ BK205.out 0,bc_ BK205.out 1,bc_ BK205.out 2,bc_ BK205.out 3,bc_ BK205.out 4⟩ (fun hHeld=>?_);refine with_tabW riffle_read.tab7 riffle_read.bits7 (fun HT_ HW_=>?_)
  generalize w94.drew=w95 at HO209 HO212 HO215 HO218 BK205 HB hHeld ⊢
  refine pz_ 0 (some 43) ?_
  refine pz_ 1 (some 44) ?_
  refine pz_ 3 (some 46) ?_
  refine tz5_ 2 (some 45) hHeld ?_
  refine oz_ 4 (some 47) (fun K hK=>?_)
  refine goes_ Try.func36 T4_ rfl #[.int .i64 a1] T0_ rfl rfl T17_ ?_
  with_reducible refine(braid_Bounds.calls k a1 t220 _ A8.out).mono ?_
  rintro e w96 ⟨v221,rfl,ho0,hb⟩
  refine⟨_,rfl,?_⟩
  have n_:=P7_ (jg (ru_ HO209.out) (jf ho0) hb) (jd (ru_ HO212.out) hb) (jd (ru_ HO215.out) hb) (jA (su_ HO218.out) hb) (jm (jk ho0 (jj (ru_ HO209.out))) (ja T23_)) (jr (bu_ BK205.out) hb) (ji T23_ hb)
  clear HO209 HO212 HO215 HO218 BK205 HB
  obtain⟨HO209,HO212,HO215,HO218,HO222,BK205,HB⟩:=n_
  (try clear hb);(try clear hk);(try clear ho0)
  obtain⟨Ao97,co97,eo97⟩:=jo HO222.out
  (first|subst eo97|(injection eo97 with f1_ f2_ f3_;have f4_:=f1_.symm;have f5_:=f3_.symm;clear f1_ f2_ f3_;subst f4_;subst f5_))
  refine hK.out _ _ ⟨bc_ BK205.out 0,bc_ BK205.out 1,bc_ BK205.out 2,bc_ BK205.out 3,bc_ BK205.out 4⟩ (fun hHeld=>?_)
  clear hK K
  refine norm_ (a':=?_) ?_ ?_
  rotate_left
  ·show Act.put _ (some 47) _=_
   simp only[Act.put,List.setIfInBounds_toArray,List.set_cons_zero,List.set_cons_succ,jD,jE]
   rfl
  refine oz_ 5 (some 48) (fun K hK=>?_)
  refine goes_ Try.func41 T4_ rfl #[.slice Ao92 t213.length co92,.slice Ao97 t220.length co97] T0_ rfl rfl T17_ ?_
  with_reducible refine(draw_All.calls _ _ t213 _ _ t220 t223 t224 t225 _ ?side1 ?side2 ?side3 ?side4 A9.out).mono ?_
  (case side1=>exact cu_ ((jh HO215.out).2.2))
  (case side2=>exact(jh HO215.out).2.1)
  (case side3=>exact cu_ ((jh HO222.out).2.2))
  (case side4=>exact(jh HO222.out).2.1)
  rintro e w98 ⟨v226,rfl,ho0,hb⟩
  refine⟨_,rfl,?_⟩
  have n_:=P8_ (jg (ru_ HO209.out) (jf ho0) hb) (jd (ru_ HO212.out) hb) (jd (ru_ HO215.out) hb) (jA (su_ HO218.out) hb) (jg (ru_ HO222.out) (jf ho0) hb) (jm (jk (jk ho0 (jj (ru_ HO209.out))) (jj (ru_ HO222.out))) (ja T23_)) (jr (bu_ BK205.out) hb) (ji T23_ hb)
  clear HO209 HO212 HO215 HO218 HO222 BK205 HB
  obtain⟨HO209,HO212,HO215,HO218,HO222,HO227,BK205,HB⟩:=n_
  (try clear hb);(try clear hk);(try clear ho0)
  refine hK.out _ _ ⟨bc_ BK205.out 0,bc_ BK205.out 1,bc_ BK205.out 2,bc_ BK205.out 3,bc_ BK205.out 4⟩ (fun hHeld=>?_)
  clear hK K
  refine norm_ (a':=?_) ?_ ?_
  rotate_left
  ·show Act.put _ (some 48) _=_
   simp only[Act.put,List.setIfInBounds_toArray,List.set_cons_zero,List.set_cons_succ,jD,jE]
   rfl
  refine pz_ 6 (some 42) ?_
  refine pz_ 7 (some 49) ?_
  refine pz_ 8 (some 50) ?_
  refine pz_ 9 (some 51) ?_
  refine pz_ 10 (some 11) ?_
  refine pz_ 11 (some 12) ?_
  refine pz_ 12 (some 10) ?_
  refine done_ (done_of HT_.out T4_) ?_
  obtain⟨hcz99_0,hcz99_1,hcz99_2,hcz99_3,hcz99_4,hfz99_0,hfz99_1,hfz99_2,hfz99_3,hfz99_4⟩:=cz5_ BK205.out
  try go_wp2
  refine bodyPost_ret (results_list (rs:=[.cell 6 57,.tmp 7,.tmp 8,.tmp 9,.tmp 10]) rfl T1_ (.cell gb205 57 #[.slice none 0 0,.slice none 0 0,.slice none 0 0,.slice none 0 0,.slice none 0 0] (0,0) _ rfl (by(with_reducible repeat(first|refine jp ?_ _|refine jl ?_|refine jn ?_ _));refine jt (cs:=#[.slice none 0 0,.slice none 0 0,.slice none 0 0,.slice none 0 0,.slice none 0 0]) ?_ 4 _ rfl;(with_reducible repeat(first|refine jp ?_ _|refine jl ?_|refine jn ?_ _));refine jt (cs:=#[.slice none 0 0,.slice none 0 0,.slice none 0 0,.slice Ao87 t206.length co87,.slice none 0 0]) ?_ 3 _ rfl;(with_reducible repeat(first|refine jp ?_ _|refine jl ?_|refine jn ?_ _));refine jt (cs:=#[.slice none 0 0,.slice none 0 0,.slice Ao93 t216.length co93,.slice Ao87 t206.length co87,.slice none 0 0]) ?_ 2 _ rfl;(with_reducible repeat(first|refine jp ?_ _|refine jl ?_|refine jn ?_ _));refine jt (cs:=#[.slice none 0 0,.slice Ao92 t213.length co92,.slice Ao93 t216.length co93,.slice Ao87 t206.length co87,.slice none 0 0]) ?_ 1 _ rfl;(with_reducible repeat(first|refine jp ?_ _|refine jl ?_|refine jn ?_ _));refine jt (cs:=#[.slice Ao90 t210.length co90,.slice Ao92 t213.length co92,.slice Ao93 t216.length co93,.slice Ao87 t206.length co87,.slice none 0 0]) ?_ 0 _ rfl;exact bu_ BK205.out) Try.underlying57 rfl T4_ (.tmp (.tmp (.tmp (.tmp .nil)))))) rfl ?_
  exact⟨_,_,_,_,_,_,_,_,T14_,T18_,T18_,T19_,T18_,T18_,T18_,T18_,T19_,T23_⟩
 rw[if_pos c10] at H
 obtain⟨c10b0,c10b1⟩:=ep_ c10
 clear c10
 have H':=am_ H
 clear H
 go_enter Try.func20,Try.ntmps20
 try go_wp2_with(first|(refine gd_ 6 ?_;refine bx_ 6 #[.slice none 0 0,.slice none 0 0,.slice none 0 0,.slice none 0 0,.slice none 0 0] 57 ?_;intro gb205 hg w11 hbox hb;have n_:=P4_ (ji T16_ hb) (hbox) ((by rw[hg];exact(ja T16_):w.heap.size≤gb205)) ((by rw[hg];exact(ja T16_):w.heap.size≤gb205));clear HB;obtain⟨HB,BK205,GW205,GE205⟩:=n_;clear hb hbox hg)|(refine gc_ 32 ?_;refine gl_ (some 23) Try.func32 #[.int .i64 a1,.int .i64 a2] ?_;(with_reducible refine(braid_Sizes.calls k a1 a2 t206 t207 _ A4.out).mono ?_);rintro e w12 ⟨v208,rfl,ho0,hb⟩;refine⟨_,rfl,?_⟩;have n_:=P3_ (jm ho0 (ja T23_)) (jr (bu_ BK205.out) hb) (ji T23_ hb);clear BK205 HB;obtain⟨HO209,BK205,HB⟩:=n_;clear hb ho0;obtain⟨Ao13,co13,eo13⟩:=jo HO209.out;subst eo13;obtain⟨hcz14_0,hcz14_1,hcz14_2,hcz14_3,hcz14_4,hfz14_0,hfz14_1,hfz14_2,hfz14_3,hfz14_4⟩:=cz5_ BK205.out)|(refine gc_ 40 ?_;refine gl_ (some 34) Try.func40 #[.slice A0 l0.length c0,.int .i64 a2] ?_;(with_reducible refine(tape_Split.calls k _ _ l0 a2 t210 t213 t216 t219 _ ?side1 ?side2 A6.out).mono ?_);(case side1=>exact jv HR0.out T23_);(case side2=>exact HC0.out);rintro e w15 ⟨v211,v214,v217,rfl,ho0,ho1,ho2,hb⟩;refine⟨_,rfl,?_⟩;have n_:=P6_ (jd (ru_ ((jc (je (p:=⟨gb205,3,none⟩) (js HO209.out BK205.out T3_) (fun _ hk=>hk.2) (.slice Ao13 t206.length co13)) (fun _ h_=>h_.1)))) hb) (jm ho0 (ja T23_)) (jm ho1 (ja T23_)) (Kd.S_lower ho2 (ja T23_)) (jr (g:=gb205) (o:=.cells #[.slice none 0 0,.slice none 0 0,.slice none 0 0,.slice Ao13 t206.length co13,.slice none 0 0] 57 (0,0)) (by(with_reducible repeat(first|refine jp ?_ _|refine jl ?_|refine jn ?_ _));refine jt (cs:=#[.slice none 0 0,.slice none 0 0,.slice none 0 0,.slice none 0 0,.slice none 0 0]) ?_ 3 _ rfl;exact bu_ BK205.out) hb) (ji T23_ hb);clear HO209 BK205 HB;obtain⟨HO209,HO212,HO215,HO218,BK205,HB⟩:=n_;clear hb ho0 ho1 ho2;obtain⟨Ao16,co16,eo16⟩:=jo HO212.out;subst eo16;obtain⟨hcz17_0,hcz17_1,hcz17_2,hcz17_3,hcz17_4,hfz17_0,hfz17_1,hfz17_2,hfz17_3,hfz17_4⟩:=cz5_ BK205.out;obtain⟨Ao18,co18,eo18⟩:=jo HO215.out;subst eo18;obtain⟨Ao19,co19,eo19⟩:=Kd.S_slice HO218.out;subst eo19))
 have n0_:Aside0 (ju (jb .i64) 3 (((w15.setCell ⟨gb205,0,none⟩ (.slice Ao16 t210.length co16)).setCell ⟨gb205,1,none⟩ (.slice Ao18 t213.length co18)).setCell ⟨gb205,2,none⟩ (.slice Ao19 t216.length co19)) w.heap.size (fun _=>True) (.slice Ao13 t206.length co13) t206):=⟨ru_ (jc (je (p:=⟨gb205,2,none⟩) (je (p:=⟨gb205,1,none⟩) (je (p:=⟨gb205,0,none⟩) (js HO209.out BK205.out T3_) (fun _ hk=>hk.2) (.slice Ao16 t210.length co16)) (fun _ hk=>hk.2) (.slice Ao18 t213.length co18)) (fun _ hk=>hk.2) (.slice Ao19 t216.length co19)) (fun _ hk=>trivial))⟩
 have n1_:Aside0 (ju (jb .u8) 5 (((w15.setCell ⟨gb205,0,none⟩ (.slice Ao16 t210.length co16)).setCell ⟨gb205,1,none⟩ (.slice Ao18 t213.length co18)).setCell ⟨gb205,2,none⟩ (.slice Ao19 t216.length co19)) w.heap.size (fun k_=>ne_ k_ (.slice Ao18 t213.length co18)) (.slice Ao16 t210.length co16) t210):=⟨ru_ (jc (je (p:=⟨gb205,2,none⟩) (je (p:=⟨gb205,1,none⟩) (je (p:=⟨gb205,0,none⟩) (js HO212.out BK205.out T3_) (fun _ hk=>hk.2) (.slice Ao16 t210.length co16)) (fun _ hk=>hk.2) (.slice Ao18 t213.length co18)) (fun _ hk=>hk.2) (.slice Ao19 t216.length co19)) (fun _ hk=>hk.1))⟩
 have n2_:Aside0 (ju (jb .u8) 5 (((w15.setCell ⟨gb205,0,none⟩ (.slice Ao16 t210.length co16)).setCell ⟨gb205,1,none⟩ (.slice Ao18 t213.length co18)).setCell ⟨gb205,2,none⟩ (.slice Ao19 t216.length co19)) w.heap.size (fun k_=>ne_ k_ (.slice Ao16 t210.length co16)) (.slice Ao18 t213.length co18) t213):=⟨ru_ (jc (je (p:=⟨gb205,2,none⟩) (je (p:=⟨gb205,1,none⟩) (je (p:=⟨gb205,0,none⟩) (js HO215.out BK205.out T3_) (fun _ hk=>hk.2) (.slice Ao16 t210.length co16)) (fun _ hk=>hk.2) (.slice Ao18 t213.length co18)) (fun _ hk=>hk.2) (.slice Ao19 t216.length co19)) (fun _ hk=>hk.1))⟩
 have n3_:Aside0 (Kd.S (jy 5 (jb .u8)) 23 (((w15.setCell ⟨gb205,0,none⟩ (.slice Ao16 t210.length co16)).setCell ⟨gb205,1,none⟩ (.slice Ao18 t213.length co18)).setCell ⟨gb205,2,none⟩ (.slice Ao19 t216.length co19)) w.heap.size (fun k_=>ne_ k_ (.slice Ao16 t210.length co16)∧ne_ k_ (.slice Ao18 t213.length co18)) (.slice Ao19 t216.length co19) t216):=⟨su_ (jB (jC (p:=⟨gb205,2,none⟩) (jC (p:=⟨gb205,1,none⟩) (jC (p:=⟨gb205,0,none⟩) (Kd.S_types HO218.out BK205.out T3_) (fun _ hk=>hk.2) (.slice Ao16 t210.length co16)) (fun _ hk=>hk.2) (.slice Ao18 t213.length co18)) (fun _ hk=>hk.2) (.slice Ao19 t216.length co19)) (fun _ hk=>⟨hk.1.1,hk.1.2⟩))⟩
 have n4_:Aside0 ((((w15.setCell ⟨gb205,0,none⟩ (.slice Ao16 t210.length co16)).setCell ⟨gb205,1,none⟩ (.slice Ao18 t213.length co18)).setCell ⟨gb205,2,none⟩ (.slice Ao19 t216.length co19)).heap[gb205]? = some (.cells #[.slice Ao16 t210.length co16,.slice Ao18 t213.length co18,.slice Ao19 t216.length co19,.slice Ao13 t206.length co13,.slice none 0 0] 57 (0,0))):=⟨(by(with_reducible repeat(first|refine jp ?_ _|refine jl ?_|refine jn ?_ _));refine jt (cs:=#[.slice Ao16 t210.length co16,.slice Ao18 t213.length co18,.slice none 0 0,.slice Ao13 t206.length co13,.slice none 0 0]) ?_ 2 _ rfl;(with_reducible repeat(first|refine jp ?_ _|refine jl ?_|refine jn ?_ _));refine jt (cs:=#[.slice Ao16 t210.length co16,.slice none 0 0,.slice none 0 0,.slice Ao13 t206.length co13,.slice none 0 0]) ?_ 1 _ rfl;(with_reducible repeat(first|refine jp ?_ _|refine jl ?_|refine jn ?_ _));refine jt (cs:=#[.slice none 0 0,.slice none 0 0,.slice none 0 0,.slice Ao13 t206.length co13,.slice none 0 0]) ?_ 0 _ rfl;exact bu_ BK205.out)⟩
 have n5_:Aside0 (Below w.heap.size w (((w15.setCell ⟨gb205,0,none⟩ (.slice Ao16 t210.length co16)).setCell ⟨gb205,1,none⟩ (.slice Ao18 t213.length co18)).setCell ⟨gb205,2,none⟩ (.slice Ao19 t216.length co19))):=⟨T23_⟩
 (try clear HO209);(try clear HO212);(try clear HO215);(try clear HO218);(try clear BK205);(try clear HB)
 generalize (((w15.setCell ⟨gb205,0,none⟩ (.slice Ao16 t210.length co16)).setCell ⟨gb205,1,none⟩ (.slice Ao18 t213.length co18)).setCell ⟨gb205,2,none⟩ (.slice Ao19 t216.length co19))=w20 at n0_ n1_ n2_ n3_ n4_ n5_ ⊢
 have HO209:=n0_
 have HO212:=n1_
 have HO215:=n2_
 have HO218:=n3_
 have BK205:=n4_
 have HB:=n5_
 clear n0_ n1_ n2_ n3_ n4_ n5_
 have n_:=P6_ (jq HO209.out) (jq HO212.out) (jq HO215.out) (Kd.S_drew HO218.out) (jl BK205.out) (jG HB.out)
 clear HO209 HO212 HO215 HO218 BK205 HB
 obtain⟨HO209,HO212,HO215,HO218,BK205,HB⟩:=n_
 refine start_ (n:=13) (S:=fun w'=>w'.cell? ⟨gb205,0,none⟩=some (.slice Ao16 t210.length co16)∧w'.cell? ⟨gb205,1,none⟩=some (.slice Ao18 t213.length co18)∧w'.cell? ⟨gb205,2,none⟩=some (.slice Ao19 t216.length co19)∧w'.cell? ⟨gb205,3,none⟩=some (.slice Ao13 t206.length co13)∧w'.cell? ⟨gb205,4,none⟩=some (.slice none 0 0)) (ds:=[]) #[false,false,false,false,false,false,false,false,false,false,false,false,false] T4_ rfl rfl ⟨bc_ BK205.out 0,bc_ BK205.out 1,bc_ BK205.out 2,bc_ BK205.out 3,bc_ BK205.out 4⟩ (fun hHeld=>?_);refine with_tabW riffle_read.tab7 riffle_read.bits7 (fun HT_ HW_=>?_)
 generalize w20.drew=w21 at HO209 HO212 HO215 HO218 BK205 HB hHeld ⊢
 refine pz_ 0 (some 43) ?_
 refine pz_ 1 (some 44) ?_
 refine pz_ 3 (some 46) ?_
 refine tz5_ 2 (some 45) hHeld ?_
 refine oz_ 4 (some 47) (fun K hK=>?_)
 refine goes_ Try.func36 T4_ rfl #[.int .i64 a1] T0_ rfl rfl T17_ ?_
 with_reducible refine(braid_Bounds.calls k a1 t220 _ A8.out).mono ?_
 rintro e w22 ⟨v221,rfl,ho0,hb⟩
 refine⟨_,rfl,?_⟩
 have n_:=P7_ (jg (ru_ HO209.out) (jf ho0) hb) (jd (ru_ HO212.out) hb) (jd (ru_ HO215.out) hb) (jA (su_ HO218.out) hb) (jm (jk ho0 (jj (ru_ HO209.out))) (ja T23_)) (jr (bu_ BK205.out) hb) (ji T23_ hb)
 clear HO209 HO212 HO215 HO218 BK205 HB
 obtain⟨HO209,HO212,HO215,HO218,HO222,BK205,HB⟩:=n_
 (try clear hb);(try clear hk);(try clear ho0)
 obtain⟨Ao23,co23,eo23⟩:=jo HO222.out
 (first|subst eo23|(injection eo23 with f1_ f2_ f3_;have f4_:=f1_.symm;have f5_:=f3_.symm;clear f1_ f2_ f3_;subst f4_;subst f5_))
 refine hK.out _ _ ⟨bc_ BK205.out 0,bc_ BK205.out 1,bc_ BK205.out 2,bc_ BK205.out 3,bc_ BK205.out 4⟩ (fun hHeld=>?_)
 clear hK K
 refine norm_ (a':=?_) ?_ ?_
 rotate_left
 ·show Act.put _ (some 47) _=_
  simp only[Act.put,List.setIfInBounds_toArray,List.set_cons_zero,List.set_cons_succ,jD,jE]
  rfl
 refine oz_ 5 (some 48) (fun K hK=>?_)
 refine goes_ Try.func41 T4_ rfl #[.slice Ao18 t213.length co18,.slice Ao23 t220.length co23] T0_ rfl rfl T17_ ?_
 with_reducible refine(draw_All.calls _ _ t213 _ _ t220 t223 t224 t225 _ ?side1 ?side2 ?side3 ?side4 A9.out).mono ?_
 (case side1=>exact cu_ ((jh HO215.out).2.2))
 (case side2=>exact(jh HO215.out).2.1)
 (case side3=>exact cu_ ((jh HO222.out).2.2))
 (case side4=>exact(jh HO222.out).2.1)
 rintro e w24 ⟨v226,rfl,ho0,hb⟩
 refine⟨_,rfl,?_⟩
 have n_:=P8_ (jg (ru_ HO209.out) (jf ho0) hb) (jd (ru_ HO212.out) hb) (jd (ru_ HO215.out) hb) (jA (su_ HO218.out) hb) (jg (ru_ HO222.out) (jf ho0) hb) (jm (jk (jk ho0 (jj (ru_ HO209.out))) (jj (ru_ HO222.out))) (ja T23_)) (jr (bu_ BK205.out) hb) (ji T23_ hb)
 clear HO209 HO212 HO215 HO218 HO222 BK205 HB
 obtain⟨HO209,HO212,HO215,HO218,HO222,HO227,BK205,HB⟩:=n_
 (try clear hb);(try clear hk);(try clear ho0)
 refine hK.out _ _ ⟨bc_ BK205.out 0,bc_ BK205.out 1,bc_ BK205.out 2,bc_ BK205.out 3,bc_ BK205.out 4⟩ (fun hHeld=>?_)
 clear hK K
 refine norm_ (a':=?_) ?_ ?_
 rotate_left
 ·show Act.put _ (some 48) _=_
  simp only[Act.put,List.setIfInBounds_toArray,List.set_cons_zero,List.set_cons_succ,jD,jE]
  rfl
 refine pz_ 6 (some 42) ?_
 refine pz_ 7 (some 49) ?_
 refine pz_ 8 (some 50) ?_
 refine pz_ 9 (some 51) ?_
 refine pz_ 10 (some 11) ?_
 refine pz_ 11 (some 12) ?_
 refine pz_ 12 (some 10) ?_
 refine done_ (done_of HT_.out T4_) ?_
 obtain⟨hcz25_0,hcz25_1,hcz25_2,hcz25_3,hcz25_4,hfz25_0,hfz25_1,hfz25_2,hfz25_3,hfz25_4⟩:=cz5_ BK205.out
 try go_wp2
 go_loopg [9,13,59] k (fun kq v9 v13 v59 w'=>∃ (x9_1:List (List Int)) (x13_1:Int) (x59_1:Int) (x206000_1:List Int) (x206001_1:List Int) (x206002_1:List (List Int)) (x206003_1:List Int) (x206004_1:List Int) (u206000:Value) (u206001:Value) (u206002:Value) (u206003:Value) (u206004:Value),v13 = .int .i64 x13_1∧v59 = .int .i64 x59_1∧Aside0 (riffle_read.l0 kq x9_1 t223 x13_1 t206 (t206.length:Int) x59_1 x206000_1 x206001_1 x206002_1 x206003_1 x206004_1=some (r1,r2,r3,r4,r5,r6,r7,r8,r9))∧Aside0 (kq≤k)∧Aside0 (Kd.S (jy 3 (jb .i64)) 24 w' w.heap.size (fun k_=>ne_ k_ v226∧ne_ k_ (.slice Ao13 t206.length co13)∧ne_ k_ u206003∧ne_ k_ u206004) v9 x9_1)∧Aside0 (ju (jb .i64) 3 w' w.heap.size (fun k_=>ne_ k_ (.slice Ao13 t206.length co13)∧ne_ k_ u206003∧ne_ k_ u206004) v226 t223)∧Aside0 (ju (jb .i64) 3 w' w.heap.size (fun k_=>ne_ k_ v226∧ne_ k_ u206004) (.slice Ao13 t206.length co13) t206)∧Aside0 (ju (jb .u8) 5 w' w.heap.size (fun k_=>ne_ k_ u206001) u206000 x206000_1)∧Aside0 (ju (jb .u8) 5 w' w.heap.size (fun k_=>ne_ k_ u206000) u206001 x206001_1)∧Aside0 (Kd.S (jy 5 (jb .u8)) 23 w' w.heap.size (fun k_=>ne_ k_ u206000∧ne_ k_ u206001) u206002 x206002_1)∧Aside0 (ju (jb .i64) 3 w' w.heap.size (fun k_=>ne_ k_ v226∧ne_ k_ u206004) u206003 x206003_1)∧Aside0 (ju (jb .i64) 3 w' w.heap.size (fun k_=>ne_ k_ v226∧ne_ k_ (.slice Ao13 t206.length co13)∧ne_ k_ u206003) u206004 x206004_1)∧Aside0 (w'.heap[gb205]? = some (.cells #[u206000,u206001,u206002,u206003,u206004] 57 (0,0)))∧Aside0 (Below w.heap.size w w'))
 case atStart=>exact⟨(([]:List (List Int))),(0),(0),(t210),(t213),(t216),(t206),(([]:List Int)),(.slice Ao16 t210.length co16),(.slice Ao18 t213.length co18),(.slice Ao19 t216.length co19),(.slice Ao13 t206.length co13),(.slice none 0 0),T9_,T9_,H',⟨Nat.le_refl _⟩,⟨T19_⟩,⟨ru_ (jc HO227.out (fun _ hk=>⟨hk.1.2,⟨hk.1.2,T6_⟩⟩))⟩,⟨ru_ (jc HO209.out (fun _ hk=>⟨hk.2,T6_⟩))⟩,⟨ru_ HO212.out⟩,⟨ru_ HO215.out⟩,⟨su_ HO218.out⟩,⟨ru_ (jc HO209.out (fun _ hk=>⟨hk.2,T6_⟩))⟩,⟨T18_⟩,⟨bu_ BK205.out⟩,⟨T23_⟩⟩
 clear H'
 (try clear c5);(try clear c5b0 c5b1);(try clear c7);(try clear c7b0 c7b1);(try clear c10);(try clear c10b0 c10b1);(try clear hcz14_0 hcz14_1 hcz14_2 hcz14_3 hcz14_4 hfz14_0 hfz14_1 hfz14_2 hfz14_3 hfz14_4);(try clear hcz17_0 hcz17_1 hcz17_2 hcz17_3 hcz17_4 hfz17_0 hfz17_1 hfz17_2 hfz17_3 hfz17_4);(try clear hcz25_0 hcz25_1 hcz25_2 hcz25_3 hcz25_4 hfz25_0 hfz25_1 hfz25_2 hfz25_3 hfz25_4);(try clear BK205)
 obtain⟨x9_1,x13_1,x59_1,x206000_1,x206001_1,x206002_1,x206003_1,x206004_1,u206000,u206001,u206002,u206003,u206004,rfl,rfl,HA,HK1,HO_9,HO_11,HO_57,HO_206000,HO_206001,HO_206002,HO_206003,HO_206004,BK205,HB⟩:=hrel
 cases gk with
 | zero=>exact absurd HA.out (by simp[riffle_read.l0])
 | succ k1 =>
  have H:=HA.out
  clear HA
  simp only[riffle_read.l0] at H
  by_cases c26:x59_1<(t206.length:Int)
  rotate_left
  ·rw[if_neg c26] at H
   have c26b0:=decide_eq_false c26
   clear c26
   replace H:=Option.bind_eq_some_iff.mp H
   obtain⟨⟨t228,t229,t230⟩,A750,H⟩:=H
   try dsimp only at H
   have A75:=am_ A750
   clear A750
   obtain⟨rfl,rfl,rfl,rfl,rfl,rfl,rfl,rfl,rfl⟩:=sj9_ H
   obtain⟨hcz76_0,hcz76_1,hcz76_2,hcz76_3,hcz76_4,hfz76_0,hfz76_1,hfz76_2,hfz76_3,hfz76_4⟩:=cz5_ BK205.out
   obtain⟨Ao77,co77,eo77⟩:=jo HO_206003.out
   subst eo77
   obtain⟨Ao78,co78,eo78⟩:=jo HO_11.out
   subst eo78
   go_wp2_with(first|(refine gc_ 43 ?_;refine gl_ (some 109) Try.func43 #[.slice Ao77 x206003_1.length co77,.slice Ao78 t223.length co78] ?_;(with_reducible refine(braid_Pattern.calls k1 _ _ x206003_1 _ _ t223 t228 t229 t230 _ ?side1 ?side2 ?side3 ?side4 A75.out).mono ?_);(case side1=>exact cu_ ((jh HO_206003.out).2.2));(case side2=>exact(jh HO_206003.out).2.1);(case side3=>exact cu_ ((jh HO_11.out).2.2));(case side4=>exact(jh HO_11.out).2.1);rintro e w79 ⟨v231,v233,rfl,ho0,ho1,hb⟩;refine⟨_,rfl,?_⟩;have n_:=P12_ (jB (Kd.S_told (Kd.S_told (Kd.S_old (su_ HO_9.out) hb) (jf ho0)) (jf ho1)) (fun _ h_=>h_.1)) (jc (Kd.R_told (Kd.R_told (Kd.R_old (ru_ HO_11.out) hb) (jf ho0)) (jf ho1)) (fun _ h_=>h_.1)) (jc (Kd.R_told (Kd.R_told (Kd.R_old (ru_ HO_57.out) hb) (jf ho0)) (jf ho1)) (fun _ h_=>h_.1)) (jd (ru_ HO_206000.out) hb) (jd (ru_ HO_206001.out) hb) (jA (su_ HO_206002.out) hb) (jc (Kd.R_told (Kd.R_told (Kd.R_old (ru_ HO_206003.out) hb) (jf ho0)) (jf ho1)) (fun _ h_=>h_.1)) (jc (Kd.R_told (Kd.R_told (Kd.R_old (ru_ HO_206004.out) hb) (jf ho0)) (jf ho1)) (fun _ h_=>h_.1)) (jm (jk (jk (jk (jk ho0 (jj (ru_ HO_11.out))) (jj (ru_ HO_57.out))) (jj (ru_ HO_206003.out))) (jj (ru_ HO_206004.out))) (ja T23_)) (jm (jk (jk (jk (jk ho1 (jj (ru_ HO_11.out))) (jj (ru_ HO_57.out))) (jj (ru_ HO_206003.out))) (jj (ru_ HO_206004.out))) (ja T23_)) (jr (bu_ BK205.out) hb) (ji T23_ hb);clear HO_9 HO_11 HO_57 HO_206000 HO_206001 HO_206002 HO_206003 HO_206004 BK205 HB;obtain⟨HO_9,HO_11,HO_57,HO_206000,HO_206001,HO_206002,HO_206003,HO_206004,HO232,HO234,BK205,HB⟩:=n_;clear hb ho0 ho1;obtain⟨hcz80_0,hcz80_1,hcz80_2,hcz80_3,hcz80_4,hfz80_0,hfz80_1,hfz80_2,hfz80_3,hfz80_4⟩:=cz5_ BK205.out;obtain⟨Ao81,co81,eo81⟩:=jo HO_206000.out;subst eo81;obtain⟨Ao82,co82,eo82⟩:=jo HO_206001.out;subst eo82;obtain⟨Ao83,co83,eo83⟩:=Kd.S_slice HO_206002.out;subst eo83;obtain⟨Ao84,co84,eo84⟩:=jo HO_206004.out;subst eo84))
   refine bodyPost_ret (results_list (rs:=[.cell 6 57,.tmp 7,.tmp 8,.tmp 9,.tmp 10]) rfl T1_ (.cell gb205 57 #[.slice Ao81 x206000_1.length co81,.slice Ao82 x206001_1.length co82,.slice Ao83 x206002_1.length co83,.slice Ao77 x206003_1.length co77,.slice Ao84 x206004_1.length co84] (0,0) _ rfl (by(with_reducible repeat(first|refine jp ?_ _|refine jl ?_|refine jn ?_ _));refine jt (cs:=#[.slice Ao81 x206000_1.length co81,.slice Ao82 x206001_1.length co82,.slice Ao83 x206002_1.length co83,.slice Ao77 x206003_1.length co77,.slice Ao84 x206004_1.length co84]) ?_ 4 _ rfl;(with_reducible repeat(first|refine jp ?_ _|refine jl ?_|refine jn ?_ _));refine jt (cs:=#[.slice Ao81 x206000_1.length co81,.slice Ao82 x206001_1.length co82,.slice Ao83 x206002_1.length co83,.slice Ao77 x206003_1.length co77,.slice Ao84 x206004_1.length co84]) ?_ 3 _ rfl;(with_reducible repeat(first|refine jp ?_ _|refine jl ?_|refine jn ?_ _));refine jt (cs:=#[.slice Ao81 x206000_1.length co81,.slice Ao82 x206001_1.length co82,.slice Ao83 x206002_1.length co83,.slice Ao77 x206003_1.length co77,.slice Ao84 x206004_1.length co84]) ?_ 2 _ rfl;(with_reducible repeat(first|refine jp ?_ _|refine jl ?_|refine jn ?_ _));refine jt (cs:=#[.slice Ao81 x206000_1.length co81,.slice Ao82 x206001_1.length co82,.slice Ao83 x206002_1.length co83,.slice Ao77 x206003_1.length co77,.slice Ao84 x206004_1.length co84]) ?_ 1 _ rfl;(with_reducible repeat(first|refine jp ?_ _|refine jl ?_|refine jn ?_ _));refine jt (cs:=#[.slice Ao81 x206000_1.length co81,.slice Ao82 x206001_1.length co82,.slice Ao83 x206002_1.length co83,.slice Ao77 x206003_1.length co77,.slice Ao84 x206004_1.length co84]) ?_ 0 _ rfl;exact bu_ BK205.out) Try.underlying57 rfl T4_ (.tmp (.tmp (.tmp (.tmp .nil)))))) rfl ?_
   exact⟨_,_,_,_,_,_,_,_,T14_,ru_ (jc (je (p:=⟨gb205,4,none⟩) (je (p:=⟨gb205,3,none⟩) (je (p:=⟨gb205,2,none⟩) (je (p:=⟨gb205,1,none⟩) (je (p:=⟨gb205,0,none⟩) (js HO_206000.out BK205.out T3_) (fun _ hk=>hk.2) (.slice Ao81 x206000_1.length co81)) (fun _ hk=>hk.2) (.slice Ao82 x206001_1.length co82)) (fun _ hk=>hk.2) (.slice Ao83 x206002_1.length co83)) (fun _ hk=>hk.2) (.slice Ao77 x206003_1.length co77)) (fun _ hk=>hk.2) (.slice Ao84 x206004_1.length co84)) (fun _ hk=>hk.1)),ru_ (jc (je (p:=⟨gb205,4,none⟩) (je (p:=⟨gb205,3,none⟩) (je (p:=⟨gb205,2,none⟩) (je (p:=⟨gb205,1,none⟩) (je (p:=⟨gb205,0,none⟩) (js HO_206001.out BK205.out T3_) (fun _ hk=>hk.2) (.slice Ao81 x206000_1.length co81)) (fun _ hk=>hk.2) (.slice Ao82 x206001_1.length co82)) (fun _ hk=>hk.2) (.slice Ao83 x206002_1.length co83)) (fun _ hk=>hk.2) (.slice Ao77 x206003_1.length co77)) (fun _ hk=>hk.2) (.slice Ao84 x206004_1.length co84)) (fun _ hk=>hk.1)),su_ (jB (jC (p:=⟨gb205,4,none⟩) (jC (p:=⟨gb205,3,none⟩) (jC (p:=⟨gb205,2,none⟩) (jC (p:=⟨gb205,1,none⟩) (jC (p:=⟨gb205,0,none⟩) (Kd.S_types HO_206002.out BK205.out T3_) (fun _ hk=>hk.2) (.slice Ao81 x206000_1.length co81)) (fun _ hk=>hk.2) (.slice Ao82 x206001_1.length co82)) (fun _ hk=>hk.2) (.slice Ao83 x206002_1.length co83)) (fun _ hk=>hk.2) (.slice Ao77 x206003_1.length co77)) (fun _ hk=>hk.2) (.slice Ao84 x206004_1.length co84)) (fun _ hk=>⟨hk.1.1,hk.1.2⟩)),ru_ (jc (je (p:=⟨gb205,4,none⟩) (je (p:=⟨gb205,3,none⟩) (je (p:=⟨gb205,2,none⟩) (je (p:=⟨gb205,1,none⟩) (je (p:=⟨gb205,0,none⟩) (js HO_206003.out BK205.out T3_) (fun _ hk=>hk.2) (.slice Ao81 x206000_1.length co81)) (fun _ hk=>hk.2) (.slice Ao82 x206001_1.length co82)) (fun _ hk=>hk.2) (.slice Ao83 x206002_1.length co83)) (fun _ hk=>hk.2) (.slice Ao77 x206003_1.length co77)) (fun _ hk=>hk.2) (.slice Ao84 x206004_1.length co84)) (fun _ hk=>⟨hk.1.1.1.2,⟨hk.1.1.2,hk.1.2⟩⟩)),ru_ (jc (je (p:=⟨gb205,4,none⟩) (je (p:=⟨gb205,3,none⟩) (je (p:=⟨gb205,2,none⟩) (je (p:=⟨gb205,1,none⟩) (je (p:=⟨gb205,0,none⟩) (js HO_206004.out BK205.out T3_) (fun _ hk=>hk.2) (.slice Ao81 x206000_1.length co81)) (fun _ hk=>hk.2) (.slice Ao82 x206001_1.length co82)) (fun _ hk=>hk.2) (.slice Ao83 x206002_1.length co83)) (fun _ hk=>hk.2) (.slice Ao77 x206003_1.length co77)) (fun _ hk=>hk.2) (.slice Ao84 x206004_1.length co84)) (fun _ hk=>⟨hk.1.1.1.2.2,⟨hk.1.1.2,hk.1.2⟩⟩)),ru_ (jc (je (p:=⟨gb205,4,none⟩) (je (p:=⟨gb205,3,none⟩) (je (p:=⟨gb205,2,none⟩) (je (p:=⟨gb205,1,none⟩) (je (p:=⟨gb205,0,none⟩) (js HO232.out BK205.out T3_) (fun _ hk=>hk.2) (.slice Ao81 x206000_1.length co81)) (fun _ hk=>hk.2) (.slice Ao82 x206001_1.length co82)) (fun _ hk=>hk.2) (.slice Ao83 x206002_1.length co83)) (fun _ hk=>hk.2) (.slice Ao77 x206003_1.length co77)) (fun _ hk=>hk.2) (.slice Ao84 x206004_1.length co84)) (fun _ hk=>⟨hk.1.1.2,⟨hk.1.2,hk.1.1.1.1.1⟩⟩)),ru_ (jc (je (p:=⟨gb205,4,none⟩) (je (p:=⟨gb205,3,none⟩) (je (p:=⟨gb205,2,none⟩) (je (p:=⟨gb205,1,none⟩) (je (p:=⟨gb205,0,none⟩) (js HO234.out BK205.out T3_) (fun _ hk=>hk.2) (.slice Ao81 x206000_1.length co81)) (fun _ hk=>hk.2) (.slice Ao82 x206001_1.length co82)) (fun _ hk=>hk.2) (.slice Ao83 x206002_1.length co83)) (fun _ hk=>hk.2) (.slice Ao77 x206003_1.length co77)) (fun _ hk=>hk.2) (.slice Ao84 x206004_1.length co84)) (fun _ hk=>⟨hk.1.1.2,⟨hk.1.2,hk.1.1.1.1.1⟩⟩)),su_ (jB (jC (p:=⟨gb205,4,none⟩) (jC (p:=⟨gb205,3,none⟩) (jC (p:=⟨gb205,2,none⟩) (jC (p:=⟨gb205,1,none⟩) (jC (p:=⟨gb205,0,none⟩) (Kd.S_types HO_9.out BK205.out T3_) (fun _ hk=>hk.2) (.slice Ao81 x206000_1.length co81)) (fun _ hk=>hk.2) (.slice Ao82 x206001_1.length co82)) (fun _ hk=>hk.2) (.slice Ao83 x206002_1.length co83)) (fun _ hk=>hk.2) (.slice Ao77 x206003_1.length co77)) (fun _ hk=>hk.2) (.slice Ao84 x206004_1.length co84)) (fun _ hk=>⟨hk.1.1.1.2.2.1,⟨hk.1.1.1.2.2.2,⟨hk.1.1.2,hk.1.2⟩⟩⟩)),T23_⟩
  rw[if_pos c26] at H
  have c26b0:=decide_eq_true c26
  clear c26
  replace H:=ifn_ H;obtain⟨c27,H⟩:=H
  have c27b0:=decide_eq_true c27
  clear c27
  replace H:=ifn_ H;obtain⟨c28,H⟩:=H
  have c28b0:=decide_eq_true c28
  clear c28
  replace H:=ifa_ H;obtain⟨LMc29,H⟩:=H
  obtain⟨y236,hy_⟩:∃ y_:List Int,y_=(x206004_1 ++ [x13_1]):=⟨_,rfl⟩
  replace H:(if x59_1<(x206002_1.length:Int) then((perm_Bounds.f k1 (rd t206 x59_1)).bind fun t240=>((draw_All.f (rd_L2 x206002_1 x59_1) t240).bind fun bt243=>(if bt243.2.2=0 then((perm_From.f k1 (rd t206 x59_1) bt243.1).bind fun bt248=>(if bt248.2=0 then(if x9_1.length<5864062014805 then(riffle_read.l0 k1 (x9_1 ++ [bt248.1]) t223 (wrap64 (x13_1+(rd t206 x59_1))) t206 (t206.length:Int) (wrap64 (x59_1+1)) x206000_1 x206001_1 x206002_1 x206003_1 y236) else(none)) else(some (([]:List Int),([]:List Int),([]:List (List Int)),([]:List Int),([]:List Int),([]:List Int),([]:List Int),([]:List (List Int)),bt248.2)))) else(some (([]:List Int),([]:List Int),([]:List (List Int)),([]:List Int),([]:List Int),([]:List Int),([]:List Int),([]:List (List Int)),bt243.2.2))))) else(none))=some (r1,r2,r3,r4,r5,r6,r7,r8,r9):=hyw_
  have Ny236:=am_ hy_
  clear hy_
  replace H:=ifn_ H;obtain⟨c30,H⟩:=H
  have c30b0:=decide_eq_true c30
  clear c30
  replace H:=Option.bind_eq_some_iff.mp H
  obtain⟨t240,A310,H⟩:=H
  try dsimp only at H
  have A31:=am_ A310
  clear A310
  replace H:=Option.bind_eq_some_iff.mp H
  obtain⟨⟨t243,t244,t245⟩,A320,H⟩:=H
  try dsimp only at H
  have A32:=am_ A320
  clear A320
  by_cases c33:t245=0
  rotate_left
  ·rw[if_neg c33] at H
   obtain⟨c33b0,c33b1⟩:=en_ c33
   obtain⟨rfl,rfl,rfl,rfl,rfl,rfl,rfl,rfl,rfl⟩:=sj9_ H
   obtain⟨ad235,e235,hx235_0,p235,q235⟩:=ai_ (jh HO_57.out).2.2 x59_1
   cases e235
   obtain⟨hcz64_0,hcz64_1,hcz64_2,hcz64_3,hcz64_4,hfz64_0,hfz64_1,hfz64_2,hfz64_3,hfz64_4⟩:=cz5_ BK205.out
   try go_wp2_with(first|(refine gb_ .append #[.tmp 65,.tmp 67] ?_;at_builtin;refine Kd.R_append (jb .i64) (w0:=w) w.heap.size rfl (.tmp 65) (.tmp 67) 24 3 (.int .i64 0) 8 rfl Try.underlying24 info3 rfl T3_ T2_ u206004 x206004_1 x13_1 [.int .i64 x13_1] (fun k_=>ne_ k_ v226∧ne_ k_ (.slice (some ad235) t206.length co13)∧ne_ k_ u206003) (fun _=>False) rfl rfl ?aP (fun _ hk=>hk.elim) ?aF ?aO ?aB ?aS ?aL ?_;(case aP=>exact rfl);(case aB=>exact T23_);(case aF=>exact(fun k_ hk=>⟨jF (jj (ru_ HO_11.out)) k_ hk,jF (jj (ru_ HO_57.out)) k_ hk,jF (jj (ru_ HO_206003.out)) k_ hk⟩));(case aO=>exact(ru_ HO_206004.out));(case aS=>exact(ja T23_));(case aL=>have:=LMc29.out;omega);intro v237 w65 ho hb hg hat;rw[←Ny236.out] at ho;have n_:=P10_ (Kd.S_after (ok:=(fun k_=>ne_ k_ v226∧ne_ k_ (.slice (some ad235) t206.length co13)∧ne_ k_ u206003)) (su_ (jB HO_9.out (fun _ hk=>⟨⟨hk.1,⟨hk.2.1,hk.2.2.1⟩⟩,hk.2.2.2⟩))) hg hat) (jw (ok:=(fun k_=>ne_ k_ (.slice (some ad235) t206.length co13)∧ne_ k_ u206003)) (ru_ (jc HO_11.out (fun _ hk=>⟨⟨hk.1,hk.2.1⟩,hk.2.2⟩))) hg hat) (jw (ok:=(fun k_=>ne_ k_ v226)) (ru_ HO_57.out) hg hat) (jx (ru_ HO_206000.out) (jz (ru_ HO_206004.out)) T3_ hg) (jx (ru_ HO_206001.out) (jz (ru_ HO_206004.out)) T3_ hg) (Kd.S_over' (su_ HO_206002.out) (jz (ru_ HO_206004.out)) T3_ hg) (jw (ok:=(fun k_=>ne_ k_ v226)) (ru_ HO_206003.out) hg hat) (blk_grown (g:=gb205) (o:=.cells #[u206000,u206001,u206002,u206003,u206004] 57 (0,0)) (bu_ BK205.out) hg (Kd.R_ne HO_206004.out BK205.out T3_)) (hb) (ho);clear HO_9 HO_11 HO_57 HO_206000 HO_206001 HO_206002 HO_206003 BK205 HB HO_206004;obtain⟨HO_9,HO_11,HO_57,HO_206000,HO_206001,HO_206002,HO_206003,BK205,HB,HO238⟩:=n_;clear ho hb hg hat;obtain⟨Ao66,co66,eo66⟩:=jo HO238.out;subst eo66;obtain⟨hcz67_0,hcz67_1,hcz67_2,hcz67_3,hcz67_4,hfz67_0,hfz67_1,hfz67_2,hfz67_3,hfz67_4⟩:=cz5_ BK205.out))
   have n0_:Aside0 (Kd.S (jy 3 (jb .i64)) 24 (w65.setCell ⟨gb205,4,none⟩ (.slice Ao66 y236.length co66)) w.heap.size (fun k_=>ne_ k_ v226∧ne_ k_ (.slice (some ad235) t206.length co13)∧ne_ k_ u206003∧ne_ k_ (.slice Ao66 y236.length co66)) u9 x9_1):=⟨su_ (jB (jC (p:=⟨gb205,4,none⟩) (Kd.S_types HO_9.out BK205.out T3_) (fun _ hk=>hk.2) (.slice Ao66 y236.length co66)) (fun _ hk=>⟨hk.1.1.1,⟨hk.1.1.2.1,⟨hk.1.1.2.2,hk.1.2⟩⟩⟩))⟩
   have n1_:Aside0 (ju (jb .i64) 3 (w65.setCell ⟨gb205,4,none⟩ (.slice Ao66 y236.length co66)) w.heap.size (fun k_=>ne_ k_ (.slice (some ad235) t206.length co13)∧ne_ k_ u206003∧ne_ k_ (.slice Ao66 y236.length co66)) v226 t223):=⟨ru_ (jc (je (p:=⟨gb205,4,none⟩) (js HO_11.out BK205.out T3_) (fun _ hk=>hk.2) (.slice Ao66 y236.length co66)) (fun _ hk=>⟨hk.1.1.1,⟨hk.1.1.2,hk.1.2⟩⟩))⟩
   have n2_:Aside0 (ju (jb .i64) 3 (w65.setCell ⟨gb205,4,none⟩ (.slice Ao66 y236.length co66)) w.heap.size (fun k_=>ne_ k_ v226∧ne_ k_ (.slice Ao66 y236.length co66)) (.slice (some ad235) t206.length co13) t206):=⟨ru_ (jc (je (p:=⟨gb205,4,none⟩) (js HO_57.out BK205.out T3_) (fun _ hk=>hk.2) (.slice Ao66 y236.length co66)) (fun _ hk=>⟨hk.1.1,hk.1.2⟩))⟩
   have n3_:Aside0 (ju (jb .u8) 5 (w65.setCell ⟨gb205,4,none⟩ (.slice Ao66 y236.length co66)) w.heap.size (fun k_=>ne_ k_ u206001) u206000 x206000_1):=⟨ru_ (jc (je (p:=⟨gb205,4,none⟩) (js HO_206000.out BK205.out T3_) (fun _ hk=>hk.2) (.slice Ao66 y236.length co66)) (fun _ hk=>hk.1))⟩
   have n4_:Aside0 (ju (jb .u8) 5 (w65.setCell ⟨gb205,4,none⟩ (.slice Ao66 y236.length co66)) w.heap.size (fun k_=>ne_ k_ u206000) u206001 x206001_1):=⟨ru_ (jc (je (p:=⟨gb205,4,none⟩) (js HO_206001.out BK205.out T3_) (fun _ hk=>hk.2) (.slice Ao66 y236.length co66)) (fun _ hk=>hk.1))⟩
   have n5_:Aside0 (Kd.S (jy 5 (jb .u8)) 23 (w65.setCell ⟨gb205,4,none⟩ (.slice Ao66 y236.length co66)) w.heap.size (fun k_=>ne_ k_ u206000∧ne_ k_ u206001) u206002 x206002_1):=⟨su_ (jB (jC (p:=⟨gb205,4,none⟩) (Kd.S_types HO_206002.out BK205.out T3_) (fun _ hk=>hk.2) (.slice Ao66 y236.length co66)) (fun _ hk=>⟨hk.1.1,hk.1.2⟩))⟩
   have n6_:Aside0 (ju (jb .i64) 3 (w65.setCell ⟨gb205,4,none⟩ (.slice Ao66 y236.length co66)) w.heap.size (fun k_=>ne_ k_ v226∧ne_ k_ (.slice Ao66 y236.length co66)) u206003 x206003_1):=⟨ru_ (jc (je (p:=⟨gb205,4,none⟩) (js HO_206003.out BK205.out T3_) (fun _ hk=>hk.2) (.slice Ao66 y236.length co66)) (fun _ hk=>⟨hk.1.1,hk.1.2⟩))⟩
   have n7_:Aside0 (ju (jb .i64) 3 (w65.setCell ⟨gb205,4,none⟩ (.slice Ao66 y236.length co66)) w.heap.size (fun k_=>ne_ k_ v226∧ne_ k_ (.slice (some ad235) t206.length co13)∧ne_ k_ u206003) (.slice Ao66 y236.length co66) y236):=⟨ru_ (jc (je (p:=⟨gb205,4,none⟩) (js HO238.out BK205.out T3_) (fun _ hk=>hk.2) (.slice Ao66 y236.length co66)) (fun _ hk=>⟨hk.1.1,⟨hk.1.2.1,hk.1.2.2⟩⟩))⟩
   have n8_:Aside0 ((w65.setCell ⟨gb205,4,none⟩ (.slice Ao66 y236.length co66)).heap[gb205]? = some (.cells #[u206000,u206001,u206002,u206003,.slice Ao66 y236.length co66] 57 (0,0))):=⟨(by(with_reducible repeat(first|refine jp ?_ _|refine jl ?_|refine jn ?_ _));refine jt (cs:=#[u206000,u206001,u206002,u206003,u206004]) ?_ 4 _ rfl;exact bu_ BK205.out)⟩
   have n9_:Aside0 (Below w.heap.size w (w65.setCell ⟨gb205,4,none⟩ (.slice Ao66 y236.length co66))):=⟨T23_⟩
   (try clear HO_9);(try clear HO_11);(try clear HO_57);(try clear HO_206000);(try clear HO_206001);(try clear HO_206002);(try clear HO_206003);(try clear HO238);(try clear BK205);(try clear HB)
   generalize (w65.setCell ⟨gb205,4,none⟩ (.slice Ao66 y236.length co66))=w68 at n0_ n1_ n2_ n3_ n4_ n5_ n6_ n7_ n8_ n9_ ⊢
   have HO_9:=n0_
   have HO_11:=n1_
   have HO_57:=n2_
   have HO_206000:=n3_
   have HO_206001:=n4_
   have HO_206002:=n5_
   have HO_206003:=n6_
   have HO238:=n7_
   have BK205:=n8_
   have HB:=n9_
   clear n0_ n1_ n2_ n3_ n4_ n5_ n6_ n7_ n8_ n9_
   have n_:=P10_ (Kd.S_drew HO_9.out) (jq HO_11.out) (jq HO_57.out) (jq HO_206000.out) (jq HO_206001.out) (Kd.S_drew HO_206002.out) (jq HO_206003.out) (jq HO238.out) (jl BK205.out) (jG HB.out)
   clear HO_9 HO_11 HO_57 HO_206000 HO_206001 HO_206002 HO_206003 HO238 BK205 HB
   obtain⟨HO_9,HO_11,HO_57,HO_206000,HO_206001,HO_206002,HO_206003,HO238,BK205,HB⟩:=n_
   obtain⟨Ao70,co70,eo70⟩:=Kd.S_slice HO_206002.out
   (first|subst eo70|(injection eo70 with f1_ f2_ f3_;have f4_:=f1_.symm;have f5_:=f3_.symm;clear f1_ f2_ f3_;subst f4_;subst f5_))
   have p239:0≤(x59_1:Int):=od_
   have q239:x59_1<(x206002_1.length:Int):=od_
   obtain⟨ad239,A239_0,c239_0,e239,hx239_0,hl239_0,hi239_0⟩:=at_L2 (jM HO_206002.out).2.2 x59_1 p239 q239
   cases e239
   obtain⟨ce239,hce239,hMe239,hcc239⟩:=Kd.S_get HO_206002.out [] x59_1 p239 T12_
   obtain⟨ve239_0,rfl,ge239_0⟩:=hMe239
   have hv239_0:=hcc239 0 _ rfl
   rw[Nat.add_zero,show((jy 5 (jb .u8))).sz=1 from rfl,Nat.mul_one] at hv239_0
   replace hv239_0:=Option.some.inj (hv239_0.symm.trans hx239_0)
   rw[hv239_0] at ge239_0
   have HL239_0:=am_ (show ju (jb .u8) 5 _ _ _ _ (rd_L2 x206002_1 x59_1) from ge239_0)
   clear hv239_0 ge239_0 hcc239 hce239
   have HR239_0:=am_ hi239_0
   have HC239_0:=am_ hl239_0
   clear hi239_0 hl239_0
   replace p239:=eq_true p239
   replace q239:=eq_true q239
   refine start_ (n:=16) (S:=fun w'=>w'.cell? ⟨gb205,0,none⟩=some (u206000)∧w'.cell? ⟨gb205,1,none⟩=some (u206001)∧w'.cell? ⟨gb205,2,none⟩=some (.slice (some ad239) x206002_1.length co70)∧w'.cell? ⟨gb205,3,none⟩=some (u206003)∧w'.cell? ⟨gb205,4,none⟩=some (.slice Ao66 y236.length co66)∧w'.cell? (ad239.add (x59_1).toNat)=some (.slice A239_0 (rd_L2 x206002_1 x59_1).length c239_0)) (ds:=[]) #[false,false,false,false,false,false,false,false,false,false,false,false,false,false,false,false] T4_ rfl rfl ⟨bc_ BK205.out 0,bc_ BK205.out 1,bc_ BK205.out 2,bc_ BK205.out 3,bc_ BK205.out 4,hx239_0⟩ (fun hHeld=>?_);refine with_tabW riffle_read.tab16 riffle_read.bits16 (fun HT_ HW_=>?_)
   generalize w68.drew=w69 at HO_9 HO_11 HO_57 HO_206000 HO_206001 HO_206002 HO_206003 HO238 BK205 HB HL239_0 HR239_0 hx239_0 hHeld ⊢
   refine pz_ 0 (some 74) ?_
   refine pz_ 1 (some 75) ?_
   refine pz_ 3 (some 77) ?_
   refine pz_ 6 (some 80) ?_
   refine tz6_ 2 (some 76) hHeld ?_
   refine pz_ 4 (some 78) ?_
   refine tz6_ 5 (some 79) hHeld ?_
   refine oz_ 7 (some 81) (fun K hK=>?_)
   refine goes_ Try.func38 T4_ rfl #[.int .i64 (rd t206 x59_1)] T0_ rfl rfl T17_ ?_
   with_reducible refine(perm_Bounds.calls k1 (rd t206 x59_1) t240 _ A31.out).mono ?_
   rintro e w71 ⟨v241,rfl,ho0,hb⟩
   have HS5_:=(hb.cell (World.block_lt_of_cell? _ _ (hHeld.2.2.2.2.2))).trans (hHeld.2.2.2.2.2)
   refine⟨_,rfl,?_⟩
   have n_:=P13_ (jI (su_ HO_9.out) (jf ho0) hb) (jg (ru_ HO_11.out) (jf ho0) hb) (jg (ru_ HO_57.out) (jf ho0) hb) (jd (ru_ HO_206000.out) hb) (jd (ru_ HO_206001.out) hb) (jA (su_ HO_206002.out) hb) (jg (ru_ HO_206003.out) (jf ho0) hb) (jg (ru_ HO238.out) (jf ho0) hb) (jd (ru_ HL239_0.out) hb) (jm (jk (jk (jk (jk ho0 (jj (ru_ HO_11.out))) (jj (ru_ HO_57.out))) (jj (ru_ HO_206003.out))) (jj (ru_ HO238.out))) (ja T23_)) (jr (bu_ BK205.out) hb) (jv (cu_ HR239_0.out) hb) (ji T23_ hb)
   clear HO_9 HO_11 HO_57 HO_206000 HO_206001 HO_206002 HO_206003 HO238 HL239_0 BK205 HR239_0 HB
   obtain⟨HO_9,HO_11,HO_57,HO_206000,HO_206001,HO_206002,HO_206003,HO238,HL239_0,HO242,BK205,HR239_0,HB⟩:=n_
   (try clear hb);(try clear hk);(try clear ho0)
   obtain⟨Ao72,co72,eo72⟩:=jo HO242.out
   (first|subst eo72|(injection eo72 with f1_ f2_ f3_;have f4_:=f1_.symm;have f5_:=f3_.symm;clear f1_ f2_ f3_;subst f4_;subst f5_))
   refine hK.out _ _ ⟨bc_ BK205.out 0,bc_ BK205.out 1,bc_ BK205.out 2,bc_ BK205.out 3,bc_ BK205.out 4,HS5_⟩ (fun hHeld=>?_)
   clear hK K
   refine norm_ (a':=?_) ?_ ?_
   rotate_left
   ·show Act.put _ (some 81) _=_
    simp only[Act.put,List.setIfInBounds_toArray,List.set_cons_zero,List.set_cons_succ,jD,jE]
    rfl
   refine oz_ 8 (some 82) (fun K hK=>?_)
   refine goes_ Try.func41 T4_ rfl #[.slice A239_0 (rd_L2 x206002_1 x59_1).length c239_0,.slice Ao72 t240.length co72] T0_ rfl rfl T17_ ?_
   with_reducible refine(draw_All.calls _ _ (rd_L2 x206002_1 x59_1) _ _ t240 t243 t244 t245 _ ?side1 ?side2 ?side3 ?side4 A32.out).mono ?_
   (case side1=>exact cu_ HR239_0.out)
   (case side2=>exact HC239_0.out)
   (case side3=>exact cu_ ((jh HO242.out).2.2))
   (case side4=>exact(jh HO242.out).2.1)
   rintro e w73 ⟨v246,rfl,ho0,hb⟩
   have HS5_:=(hb.cell (World.block_lt_of_cell? _ _ (hHeld.2.2.2.2.2))).trans (hHeld.2.2.2.2.2)
   refine⟨_,rfl,?_⟩
   have n_:=P14_ (jI (su_ HO_9.out) (jf ho0) hb) (jg (ru_ HO_11.out) (jf ho0) hb) (jg (ru_ HO_57.out) (jf ho0) hb) (jd (ru_ HO_206000.out) hb) (jd (ru_ HO_206001.out) hb) (jA (su_ HO_206002.out) hb) (jg (ru_ HO_206003.out) (jf ho0) hb) (jg (ru_ HO238.out) (jf ho0) hb) (jd (ru_ HL239_0.out) hb) (jg (ru_ HO242.out) (jf ho0) hb) (jm (jk (jk (jk (jk (jk ho0 (jj (ru_ HO_11.out))) (jj (ru_ HO_57.out))) (jj (ru_ HO_206003.out))) (jj (ru_ HO238.out))) (jj (ru_ HO242.out))) (ja T23_)) (jr (bu_ BK205.out) hb) (jv (cu_ HR239_0.out) hb) (ji T23_ hb)
   clear HO_9 HO_11 HO_57 HO_206000 HO_206001 HO_206002 HO_206003 HO238 HL239_0 HO242 BK205 HR239_0 HB
   obtain⟨HO_9,HO_11,HO_57,HO_206000,HO_206001,HO_206002,HO_206003,HO238,HL239_0,HO242,HO247,BK205,HR239_0,HB⟩:=n_
   (try clear hb);(try clear hk);(try clear ho0)
   refine hK.out _ _ ⟨bc_ BK205.out 0,bc_ BK205.out 1,bc_ BK205.out 2,bc_ BK205.out 3,bc_ BK205.out 4,HS5_⟩ (fun hHeld=>?_)
   clear hK K
   refine norm_ (a':=?_) ?_ ?_
   rotate_left
   ·show Act.put _ (some 82) _=_
    simp only[Act.put,List.setIfInBounds_toArray,List.set_cons_zero,List.set_cons_succ,jD,jE]
    rfl
   refine pz_ 9 (some 73) ?_
   refine pz_ 10 (some 83) ?_
   refine pz_ 11 (some 84) ?_
   refine pz_ 12 (some 85) ?_
   refine pz_ 13 (some 16) ?_
   refine pz_ 14 (some 17) ?_
   refine pz_ 15 (some 18) ?_
   refine done_ (done_of HT_.out T4_) ?_
   obtain⟨hcz74_0,hcz74_1,hcz74_2,hcz74_3,hcz74_4,hfz74_0,hfz74_1,hfz74_2,hfz74_3,hfz74_4⟩:=cz5_ BK205.out
   try go_wp2
   refine bodyPost_ret (results_list (rs:=[.cell 6 57,.tmp 7,.tmp 8,.tmp 9,.tmp 10]) rfl T1_ (.cell gb205 57 #[.slice none 0 0,.slice none 0 0,.slice none 0 0,.slice none 0 0,.slice none 0 0] (0,0) _ rfl (by(with_reducible repeat(first|refine jp ?_ _|refine jl ?_|refine jn ?_ _));refine jt (cs:=#[.slice none 0 0,.slice none 0 0,.slice none 0 0,.slice none 0 0,.slice Ao66 y236.length co66]) ?_ 4 _ rfl;(with_reducible repeat(first|refine jp ?_ _|refine jl ?_|refine jn ?_ _));refine jt (cs:=#[.slice none 0 0,.slice none 0 0,.slice none 0 0,u206003,.slice Ao66 y236.length co66]) ?_ 3 _ rfl;(with_reducible repeat(first|refine jp ?_ _|refine jl ?_|refine jn ?_ _));refine jt (cs:=#[.slice none 0 0,.slice none 0 0,.slice (some ad239) x206002_1.length co70,u206003,.slice Ao66 y236.length co66]) ?_ 2 _ rfl;(with_reducible repeat(first|refine jp ?_ _|refine jl ?_|refine jn ?_ _));refine jt (cs:=#[.slice none 0 0,u206001,.slice (some ad239) x206002_1.length co70,u206003,.slice Ao66 y236.length co66]) ?_ 1 _ rfl;(with_reducible repeat(first|refine jp ?_ _|refine jl ?_|refine jn ?_ _));refine jt (cs:=#[u206000,u206001,.slice (some ad239) x206002_1.length co70,u206003,.slice Ao66 y236.length co66]) ?_ 0 _ rfl;exact bu_ BK205.out) Try.underlying57 rfl T4_ (.tmp (.tmp (.tmp (.tmp .nil)))))) rfl ?_
   exact⟨_,_,_,_,_,_,_,_,T14_,T18_,T18_,T19_,T18_,T18_,T18_,T18_,T19_,T23_⟩
  rw[if_pos c33] at H
  obtain⟨c33b0,c33b1⟩:=ep_ c33
  clear c33
  replace H:=Option.bind_eq_some_iff.mp H
  obtain⟨⟨t248,t249⟩,A340,H⟩:=H
  try dsimp only at H
  have A34:=am_ A340
  clear A340
  by_cases c35:t249=0
  rotate_left
  ·rw[if_neg c35] at H
   obtain⟨c35b0,c35b1⟩:=en_ c35
   obtain⟨rfl,rfl,rfl,rfl,rfl,rfl,rfl,rfl,rfl⟩:=sj9_ H
   obtain⟨ad235,e235,hx235_0,p235,q235⟩:=ai_ (jh HO_57.out).2.2 x59_1
   cases e235
   obtain⟨hcz51_0,hcz51_1,hcz51_2,hcz51_3,hcz51_4,hfz51_0,hfz51_1,hfz51_2,hfz51_3,hfz51_4⟩:=cz5_ BK205.out
   try go_wp2_with(first|(refine gb_ .append #[.tmp 65,.tmp 67] ?_;at_builtin;refine Kd.R_append (jb .i64) (w0:=w) w.heap.size rfl (.tmp 65) (.tmp 67) 24 3 (.int .i64 0) 8 rfl Try.underlying24 info3 rfl T3_ T2_ u206004 x206004_1 x13_1 [.int .i64 x13_1] (fun k_=>ne_ k_ v226∧ne_ k_ (.slice (some ad235) t206.length co13)∧ne_ k_ u206003) (fun _=>False) rfl rfl ?aP (fun _ hk=>hk.elim) ?aF ?aO ?aB ?aS ?aL ?_;(case aP=>exact rfl);(case aB=>exact T23_);(case aF=>exact(fun k_ hk=>⟨jF (jj (ru_ HO_11.out)) k_ hk,jF (jj (ru_ HO_57.out)) k_ hk,jF (jj (ru_ HO_206003.out)) k_ hk⟩));(case aO=>exact(ru_ HO_206004.out));(case aS=>exact(ja T23_));(case aL=>have:=LMc29.out;omega);intro v237 w52 ho hb hg hat;rw[←Ny236.out] at ho;have n_:=P10_ (Kd.S_after (ok:=(fun k_=>ne_ k_ v226∧ne_ k_ (.slice (some ad235) t206.length co13)∧ne_ k_ u206003)) (su_ (jB HO_9.out (fun _ hk=>⟨⟨hk.1,⟨hk.2.1,hk.2.2.1⟩⟩,hk.2.2.2⟩))) hg hat) (jw (ok:=(fun k_=>ne_ k_ (.slice (some ad235) t206.length co13)∧ne_ k_ u206003)) (ru_ (jc HO_11.out (fun _ hk=>⟨⟨hk.1,hk.2.1⟩,hk.2.2⟩))) hg hat) (jw (ok:=(fun k_=>ne_ k_ v226)) (ru_ HO_57.out) hg hat) (jx (ru_ HO_206000.out) (jz (ru_ HO_206004.out)) T3_ hg) (jx (ru_ HO_206001.out) (jz (ru_ HO_206004.out)) T3_ hg) (Kd.S_over' (su_ HO_206002.out) (jz (ru_ HO_206004.out)) T3_ hg) (jw (ok:=(fun k_=>ne_ k_ v226)) (ru_ HO_206003.out) hg hat) (blk_grown (g:=gb205) (o:=.cells #[u206000,u206001,u206002,u206003,u206004] 57 (0,0)) (bu_ BK205.out) hg (Kd.R_ne HO_206004.out BK205.out T3_)) (hb) (ho);clear HO_9 HO_11 HO_57 HO_206000 HO_206001 HO_206002 HO_206003 BK205 HB HO_206004;obtain⟨HO_9,HO_11,HO_57,HO_206000,HO_206001,HO_206002,HO_206003,BK205,HB,HO238⟩:=n_;clear ho hb hg hat;obtain⟨Ao53,co53,eo53⟩:=jo HO238.out;subst eo53;obtain⟨hcz54_0,hcz54_1,hcz54_2,hcz54_3,hcz54_4,hfz54_0,hfz54_1,hfz54_2,hfz54_3,hfz54_4⟩:=cz5_ BK205.out))
   have n0_:Aside0 (Kd.S (jy 3 (jb .i64)) 24 (w52.setCell ⟨gb205,4,none⟩ (.slice Ao53 y236.length co53)) w.heap.size (fun k_=>ne_ k_ v226∧ne_ k_ (.slice (some ad235) t206.length co13)∧ne_ k_ u206003∧ne_ k_ (.slice Ao53 y236.length co53)) u9 x9_1):=⟨su_ (jB (jC (p:=⟨gb205,4,none⟩) (Kd.S_types HO_9.out BK205.out T3_) (fun _ hk=>hk.2) (.slice Ao53 y236.length co53)) (fun _ hk=>⟨hk.1.1.1,⟨hk.1.1.2.1,⟨hk.1.1.2.2,hk.1.2⟩⟩⟩))⟩
   have n1_:Aside0 (ju (jb .i64) 3 (w52.setCell ⟨gb205,4,none⟩ (.slice Ao53 y236.length co53)) w.heap.size (fun k_=>ne_ k_ (.slice (some ad235) t206.length co13)∧ne_ k_ u206003∧ne_ k_ (.slice Ao53 y236.length co53)) v226 t223):=⟨ru_ (jc (je (p:=⟨gb205,4,none⟩) (js HO_11.out BK205.out T3_) (fun _ hk=>hk.2) (.slice Ao53 y236.length co53)) (fun _ hk=>⟨hk.1.1.1,⟨hk.1.1.2,hk.1.2⟩⟩))⟩
   have n2_:Aside0 (ju (jb .i64) 3 (w52.setCell ⟨gb205,4,none⟩ (.slice Ao53 y236.length co53)) w.heap.size (fun k_=>ne_ k_ v226∧ne_ k_ (.slice Ao53 y236.length co53)) (.slice (some ad235) t206.length co13) t206):=⟨ru_ (jc (je (p:=⟨gb205,4,none⟩) (js HO_57.out BK205.out T3_) (fun _ hk=>hk.2) (.slice Ao53 y236.length co53)) (fun _ hk=>⟨hk.1.1,hk.1.2⟩))⟩
   have n3_:Aside0 (ju (jb .u8) 5 (w52.setCell ⟨gb205,4,none⟩ (.slice Ao53 y236.length co53)) w.heap.size (fun k_=>ne_ k_ u206001) u206000 x206000_1):=⟨ru_ (jc (je (p:=⟨gb205,4,none⟩) (js HO_206000.out BK205.out T3_) (fun _ hk=>hk.2) (.slice Ao53 y236.length co53)) (fun _ hk=>hk.1))⟩
   have n4_:Aside0 (ju (jb .u8) 5 (w52.setCell ⟨gb205,4,none⟩ (.slice Ao53 y236.length co53)) w.heap.size (fun k_=>ne_ k_ u206000) u206001 x206001_1):=⟨ru_ (jc (je (p:=⟨gb205,4,none⟩) (js HO_206001.out BK205.out T3_) (fun _ hk=>hk.2) (.slice Ao53 y236.length co53)) (fun _ hk=>hk.1))⟩
   have n5_:Aside0 (Kd.S (jy 5 (jb .u8)) 23 (w52.setCell ⟨gb205,4,none⟩ (.slice Ao53 y236.length co53)) w.heap.size (fun k_=>ne_ k_ u206000∧ne_ k_ u206001) u206002 x206002_1):=⟨su_ (jB (jC (p:=⟨gb205,4,none⟩) (Kd.S_types HO_206002.out BK205.out T3_) (fun _ hk=>hk.2) (.slice Ao53 y236.length co53)) (fun _ hk=>⟨hk.1.1,hk.1.2⟩))⟩
   have n6_:Aside0 (ju (jb .i64) 3 (w52.setCell ⟨gb205,4,none⟩ (.slice Ao53 y236.length co53)) w.heap.size (fun k_=>ne_ k_ v226∧ne_ k_ (.slice Ao53 y236.length co53)) u206003 x206003_1):=⟨ru_ (jc (je (p:=⟨gb205,4,none⟩) (js HO_206003.out BK205.out T3_) (fun _ hk=>hk.2) (.slice Ao53 y236.length co53)) (fun _ hk=>⟨hk.1.1,hk.1.2⟩))⟩
   have n7_:Aside0 (ju (jb .i64) 3 (w52.setCell ⟨gb205,4,none⟩ (.slice Ao53 y236.length co53)) w.heap.size (fun k_=>ne_ k_ v226∧ne_ k_ (.slice (some ad235) t206.length co13)∧ne_ k_ u206003) (.slice Ao53 y236.length co53) y236):=⟨ru_ (jc (je (p:=⟨gb205,4,none⟩) (js HO238.out BK205.out T3_) (fun _ hk=>hk.2) (.slice Ao53 y236.length co53)) (fun _ hk=>⟨hk.1.1,⟨hk.1.2.1,hk.1.2.2⟩⟩))⟩
   have n8_:Aside0 ((w52.setCell ⟨gb205,4,none⟩ (.slice Ao53 y236.length co53)).heap[gb205]? = some (.cells #[u206000,u206001,u206002,u206003,.slice Ao53 y236.length co53] 57 (0,0))):=⟨(by(with_reducible repeat(first|refine jp ?_ _|refine jl ?_|refine jn ?_ _));refine jt (cs:=#[u206000,u206001,u206002,u206003,u206004]) ?_ 4 _ rfl;exact bu_ BK205.out)⟩
   have n9_:Aside0 (Below w.heap.size w (w52.setCell ⟨gb205,4,none⟩ (.slice Ao53 y236.length co53))):=⟨T23_⟩
   (try clear HO_9);(try clear HO_11);(try clear HO_57);(try clear HO_206000);(try clear HO_206001);(try clear HO_206002);(try clear HO_206003);(try clear HO238);(try clear BK205);(try clear HB)
   generalize (w52.setCell ⟨gb205,4,none⟩ (.slice Ao53 y236.length co53))=w55 at n0_ n1_ n2_ n3_ n4_ n5_ n6_ n7_ n8_ n9_ ⊢
   have HO_9:=n0_
   have HO_11:=n1_
   have HO_57:=n2_
   have HO_206000:=n3_
   have HO_206001:=n4_
   have HO_206002:=n5_
   have HO_206003:=n6_
   have HO238:=n7_
   have BK205:=n8_
   have HB:=n9_
   clear n0_ n1_ n2_ n3_ n4_ n5_ n6_ n7_ n8_ n9_
   have n_:=P10_ (Kd.S_drew HO_9.out) (jq HO_11.out) (jq HO_57.out) (jq HO_206000.out) (jq HO_206001.out) (Kd.S_drew HO_206002.out) (jq HO_206003.out) (jq HO238.out) (jl BK205.out) (jG HB.out)
   clear HO_9 HO_11 HO_57 HO_206000 HO_206001 HO_206002 HO_206003 HO238 BK205 HB
   obtain⟨HO_9,HO_11,HO_57,HO_206000,HO_206001,HO_206002,HO_206003,HO238,BK205,HB⟩:=n_
   obtain⟨Ao57,co57,eo57⟩:=Kd.S_slice HO_206002.out
   (first|subst eo57|(injection eo57 with f1_ f2_ f3_;have f4_:=f1_.symm;have f5_:=f3_.symm;clear f1_ f2_ f3_;subst f4_;subst f5_))
   have p239:0≤(x59_1:Int):=od_
   have q239:x59_1<(x206002_1.length:Int):=od_
   obtain⟨ad239,A239_0,c239_0,e239,hx239_0,hl239_0,hi239_0⟩:=at_L2 (jM HO_206002.out).2.2 x59_1 p239 q239
   cases e239
   obtain⟨ce239,hce239,hMe239,hcc239⟩:=Kd.S_get HO_206002.out [] x59_1 p239 T12_
   obtain⟨ve239_0,rfl,ge239_0⟩:=hMe239
   have hv239_0:=hcc239 0 _ rfl
   rw[Nat.add_zero,show((jy 5 (jb .u8))).sz=1 from rfl,Nat.mul_one] at hv239_0
   replace hv239_0:=Option.some.inj (hv239_0.symm.trans hx239_0)
   rw[hv239_0] at ge239_0
   have HL239_0:=am_ (show ju (jb .u8) 5 _ _ _ _ (rd_L2 x206002_1 x59_1) from ge239_0)
   clear hv239_0 ge239_0 hcc239 hce239
   have HR239_0:=am_ hi239_0
   have HC239_0:=am_ hl239_0
   clear hi239_0 hl239_0
   replace p239:=eq_true p239
   replace q239:=eq_true q239
   refine start_ (n:=16) (S:=fun w'=>w'.cell? ⟨gb205,0,none⟩=some (u206000)∧w'.cell? ⟨gb205,1,none⟩=some (u206001)∧w'.cell? ⟨gb205,2,none⟩=some (.slice (some ad239) x206002_1.length co57)∧w'.cell? ⟨gb205,3,none⟩=some (u206003)∧w'.cell? ⟨gb205,4,none⟩=some (.slice Ao53 y236.length co53)∧w'.cell? (ad239.add (x59_1).toNat)=some (.slice A239_0 (rd_L2 x206002_1 x59_1).length c239_0)) (ds:=[]) #[false,false,false,false,false,false,false,false,false,false,false,false,false,false,false,false] T4_ rfl rfl ⟨bc_ BK205.out 0,bc_ BK205.out 1,bc_ BK205.out 2,bc_ BK205.out 3,bc_ BK205.out 4,hx239_0⟩ (fun hHeld=>?_);refine with_tabW riffle_read.tab16 riffle_read.bits16 (fun HT_ HW_=>?_)
   generalize w55.drew=w56 at HO_9 HO_11 HO_57 HO_206000 HO_206001 HO_206002 HO_206003 HO238 BK205 HB HL239_0 HR239_0 hx239_0 hHeld ⊢
   refine pz_ 0 (some 74) ?_
   refine pz_ 1 (some 75) ?_
   refine pz_ 3 (some 77) ?_
   refine pz_ 6 (some 80) ?_
   refine tz6_ 2 (some 76) hHeld ?_
   refine pz_ 4 (some 78) ?_
   refine tz6_ 5 (some 79) hHeld ?_
   refine oz_ 7 (some 81) (fun K hK=>?_)
   refine goes_ Try.func38 T4_ rfl #[.int .i64 (rd t206 x59_1)] T0_ rfl rfl T17_ ?_
   with_reducible refine(perm_Bounds.calls k1 (rd t206 x59_1) t240 _ A31.out).mono ?_
   rintro e w58 ⟨v241,rfl,ho0,hb⟩
   have HS5_:=(hb.cell (World.block_lt_of_cell? _ _ (hHeld.2.2.2.2.2))).trans (hHeld.2.2.2.2.2)
   refine⟨_,rfl,?_⟩
   have n_:=P13_ (jI (su_ HO_9.out) (jf ho0) hb) (jg (ru_ HO_11.out) (jf ho0) hb) (jg (ru_ HO_57.out) (jf ho0) hb) (jd (ru_ HO_206000.out) hb) (jd (ru_ HO_206001.out) hb) (jA (su_ HO_206002.out) hb) (jg (ru_ HO_206003.out) (jf ho0) hb) (jg (ru_ HO238.out) (jf ho0) hb) (jd (ru_ HL239_0.out) hb) (jm (jk (jk (jk (jk ho0 (jj (ru_ HO_11.out))) (jj (ru_ HO_57.out))) (jj (ru_ HO_206003.out))) (jj (ru_ HO238.out))) (ja T23_)) (jr (bu_ BK205.out) hb) (jv (cu_ HR239_0.out) hb) (ji T23_ hb)
   clear HO_9 HO_11 HO_57 HO_206000 HO_206001 HO_206002 HO_206003 HO238 HL239_0 BK205 HR239_0 HB
   obtain⟨HO_9,HO_11,HO_57,HO_206000,HO_206001,HO_206002,HO_206003,HO238,HL239_0,HO242,BK205,HR239_0,HB⟩:=n_
   (try clear hb);(try clear hk);(try clear ho0)
   obtain⟨Ao59,co59,eo59⟩:=jo HO242.out
   (first|subst eo59|(injection eo59 with f1_ f2_ f3_;have f4_:=f1_.symm;have f5_:=f3_.symm;clear f1_ f2_ f3_;subst f4_;subst f5_))
   refine hK.out _ _ ⟨bc_ BK205.out 0,bc_ BK205.out 1,bc_ BK205.out 2,bc_ BK205.out 3,bc_ BK205.out 4,HS5_⟩ (fun hHeld=>?_)
   clear hK K
   refine norm_ (a':=?_) ?_ ?_
   rotate_left
   ·show Act.put _ (some 81) _=_
    simp only[Act.put,List.setIfInBounds_toArray,List.set_cons_zero,List.set_cons_succ,jD,jE]
    rfl
   refine oz_ 8 (some 82) (fun K hK=>?_)
   refine goes_ Try.func41 T4_ rfl #[.slice A239_0 (rd_L2 x206002_1 x59_1).length c239_0,.slice Ao59 t240.length co59] T0_ rfl rfl T17_ ?_
   with_reducible refine(draw_All.calls _ _ (rd_L2 x206002_1 x59_1) _ _ t240 t243 t244 t245 _ ?side1 ?side2 ?side3 ?side4 A32.out).mono ?_
   (case side1=>exact cu_ HR239_0.out)
   (case side2=>exact HC239_0.out)
   (case side3=>exact cu_ ((jh HO242.out).2.2))
   (case side4=>exact(jh HO242.out).2.1)
   rintro e w60 ⟨v246,rfl,ho0,hb⟩
   have HS5_:=(hb.cell (World.block_lt_of_cell? _ _ (hHeld.2.2.2.2.2))).trans (hHeld.2.2.2.2.2)
   refine⟨_,rfl,?_⟩
   have n_:=P14_ (jI (su_ HO_9.out) (jf ho0) hb) (jg (ru_ HO_11.out) (jf ho0) hb) (jg (ru_ HO_57.out) (jf ho0) hb) (jd (ru_ HO_206000.out) hb) (jd (ru_ HO_206001.out) hb) (jA (su_ HO_206002.out) hb) (jg (ru_ HO_206003.out) (jf ho0) hb) (jg (ru_ HO238.out) (jf ho0) hb) (jd (ru_ HL239_0.out) hb) (jg (ru_ HO242.out) (jf ho0) hb) (jm (jk (jk (jk (jk (jk ho0 (jj (ru_ HO_11.out))) (jj (ru_ HO_57.out))) (jj (ru_ HO_206003.out))) (jj (ru_ HO238.out))) (jj (ru_ HO242.out))) (ja T23_)) (jr (bu_ BK205.out) hb) (jv (cu_ HR239_0.out) hb) (ji T23_ hb)
   clear HO_9 HO_11 HO_57 HO_206000 HO_206001 HO_206002 HO_206003 HO238 HL239_0 HO242 BK205 HR239_0 HB
   obtain⟨HO_9,HO_11,HO_57,HO_206000,HO_206001,HO_206002,HO_206003,HO238,HL239_0,HO242,HO247,BK205,HR239_0,HB⟩:=n_
   (try clear hb);(try clear hk);(try clear ho0)
   refine hK.out _ _ ⟨bc_ BK205.out 0,bc_ BK205.out 1,bc_ BK205.out 2,bc_ BK205.out 3,bc_ BK205.out 4,HS5_⟩ (fun hHeld=>?_)
   clear hK K
   refine norm_ (a':=?_) ?_ ?_
   rotate_left
   ·show Act.put _ (some 82) _=_
    simp only[Act.put,List.setIfInBounds_toArray,List.set_cons_zero,List.set_cons_succ,jD,jE]
    rfl
   refine pz_ 9 (some 73) ?_
   refine pz_ 10 (some 83) ?_
   refine pz_ 11 (some 84) ?_
   refine pz_ 12 (some 85) ?_
   refine pz_ 13 (some 16) ?_
   refine pz_ 14 (some 17) ?_
   refine pz_ 15 (some 18) ?_
   refine done_ (done_of HT_.out T4_) ?_
   obtain⟨Ao61,co61,eo61⟩:=jo HO247.out
   subst eo61
   try go_wp2_with(first|(refine gc_ 42 ?_;refine gl_ (some 93) Try.func42 #[.int .i64 (rd t206 x59_1),.slice Ao61 t243.length co61] ?_;(with_reducible refine(perm_From.calls k1 (rd t206 x59_1) _ _ t243 t248 t249 _ ?side1 ?side2 A34.out).mono ?_);(case side1=>exact cu_ ((jh HO247.out).2.2));(case side2=>exact(jh HO247.out).2.1);rintro e w62 ⟨v250,rfl,ho0,hb⟩;refine⟨_,rfl,?_⟩;have n_:=P15_ (jI (su_ HO_9.out) (jf ho0) hb) (jg (ru_ HO_11.out) (jf ho0) hb) (jg (ru_ HO_57.out) (jf ho0) hb) (jd (ru_ HO_206000.out) hb) (jd (ru_ HO_206001.out) hb) (jA (su_ HO_206002.out) hb) (jg (ru_ HO_206003.out) (jf ho0) hb) (jg (ru_ HO238.out) (jf ho0) hb) (jd (ru_ HL239_0.out) hb) (jg (ru_ HO242.out) (jf ho0) hb) (jg (ru_ HO247.out) (jf ho0) hb) (jm (jk (jk (jk (jk (jk (jk ho0 (jj (ru_ HO_11.out))) (jj (ru_ HO_57.out))) (jj (ru_ HO_206003.out))) (jj (ru_ HO238.out))) (jj (ru_ HO242.out))) (jj (ru_ HO247.out))) (ja T23_)) (jr (bu_ BK205.out) hb) (jv (cu_ HR239_0.out) hb) (ji T23_ hb);clear HO_9 HO_11 HO_57 HO_206000 HO_206001 HO_206002 HO_206003 HO238 HL239_0 HO242 HO247 BK205 HR239_0 HB;obtain⟨HO_9,HO_11,HO_57,HO_206000,HO_206001,HO_206002,HO_206003,HO238,HL239_0,HO242,HO247,HO251,BK205,HR239_0,HB⟩:=n_;clear hb ho0;obtain⟨hcz63_0,hcz63_1,hcz63_2,hcz63_3,hcz63_4,hfz63_0,hfz63_1,hfz63_2,hfz63_3,hfz63_4⟩:=cz5_ BK205.out))
   refine bodyPost_ret (results_list (rs:=[.cell 6 57,.tmp 7,.tmp 8,.tmp 9,.tmp 10]) rfl T1_ (.cell gb205 57 #[.slice none 0 0,.slice none 0 0,.slice none 0 0,.slice none 0 0,.slice none 0 0] (0,0) _ rfl (by(with_reducible repeat(first|refine jp ?_ _|refine jl ?_|refine jn ?_ _));refine jt (cs:=#[.slice none 0 0,.slice none 0 0,.slice none 0 0,.slice none 0 0,.slice Ao53 y236.length co53]) ?_ 4 _ rfl;(with_reducible repeat(first|refine jp ?_ _|refine jl ?_|refine jn ?_ _));refine jt (cs:=#[.slice none 0 0,.slice none 0 0,.slice none 0 0,u206003,.slice Ao53 y236.length co53]) ?_ 3 _ rfl;(with_reducible repeat(first|refine jp ?_ _|refine jl ?_|refine jn ?_ _));refine jt (cs:=#[.slice none 0 0,.slice none 0 0,.slice (some ad239) x206002_1.length co57,u206003,.slice Ao53 y236.length co53]) ?_ 2 _ rfl;(with_reducible repeat(first|refine jp ?_ _|refine jl ?_|refine jn ?_ _));refine jt (cs:=#[.slice none 0 0,u206001,.slice (some ad239) x206002_1.length co57,u206003,.slice Ao53 y236.length co53]) ?_ 1 _ rfl;(with_reducible repeat(first|refine jp ?_ _|refine jl ?_|refine jn ?_ _));refine jt (cs:=#[u206000,u206001,.slice (some ad239) x206002_1.length co57,u206003,.slice Ao53 y236.length co53]) ?_ 0 _ rfl;exact bu_ BK205.out) Try.underlying57 rfl T4_ (.tmp (.tmp (.tmp (.tmp .nil)))))) rfl ?_
   exact⟨_,_,_,_,_,_,_,_,T14_,T18_,T18_,T19_,T18_,T18_,T18_,T18_,T19_,T23_⟩
  rw[if_pos c35] at H
  obtain⟨c35b0,c35b1⟩:=ep_ c35
  clear c35
  replace H:=ifa_ H;obtain⟨LMc36,H⟩:=H
  obtain⟨y252,hy_⟩:∃ y_:List (List Int),y_=(x9_1 ++ [t248]):=⟨_,rfl⟩
  replace H:(riffle_read.l0 k1 y252 t223 (wrap64 (x13_1+(rd t206 x59_1))) t206 (t206.length:Int) (wrap64 (x59_1+1)) x206000_1 x206001_1 x206002_1 x206003_1 y236)=some (r1,r2,r3,r4,r5,r6,r7,r8,r9):=hyw_
  have Ny252:=am_ hy_
  clear hy_
  have H':=am_ H
  clear H
  obtain⟨ad235,e235,hx235_0,p235,q235⟩:=ai_ (jh HO_57.out).2.2 x59_1
  cases e235
  obtain⟨hcz37_0,hcz37_1,hcz37_2,hcz37_3,hcz37_4,hfz37_0,hfz37_1,hfz37_2,hfz37_3,hfz37_4⟩:=cz5_ BK205.out
  try go_wp2_with(first|(refine gb_ .append #[.tmp 65,.tmp 67] ?_;at_builtin;refine Kd.R_append (jb .i64) (w0:=w) w.heap.size rfl (.tmp 65) (.tmp 67) 24 3 (.int .i64 0) 8 rfl Try.underlying24 info3 rfl T3_ T2_ u206004 x206004_1 x13_1 [.int .i64 x13_1] (fun k_=>ne_ k_ v226∧ne_ k_ (.slice (some ad235) t206.length co13)∧ne_ k_ u206003) (fun _=>False) rfl rfl ?aP (fun _ hk=>hk.elim) ?aF ?aO ?aB ?aS ?aL ?_;(case aP=>exact rfl);(case aB=>exact T23_);(case aF=>exact(fun k_ hk=>⟨jF (jj (ru_ HO_11.out)) k_ hk,jF (jj (ru_ HO_57.out)) k_ hk,jF (jj (ru_ HO_206003.out)) k_ hk⟩));(case aO=>exact(ru_ HO_206004.out));(case aS=>exact(ja T23_));(case aL=>have:=LMc29.out;omega);intro v237 w38 ho hb hg hat;rw[←Ny236.out] at ho;have n_:=P10_ (Kd.S_after (ok:=(fun k_=>ne_ k_ v226∧ne_ k_ (.slice (some ad235) t206.length co13)∧ne_ k_ u206003)) (su_ (jB HO_9.out (fun _ hk=>⟨⟨hk.1,⟨hk.2.1,hk.2.2.1⟩⟩,hk.2.2.2⟩))) hg hat) (jw (ok:=(fun k_=>ne_ k_ (.slice (some ad235) t206.length co13)∧ne_ k_ u206003)) (ru_ (jc HO_11.out (fun _ hk=>⟨⟨hk.1,hk.2.1⟩,hk.2.2⟩))) hg hat) (jw (ok:=(fun k_=>ne_ k_ v226)) (ru_ HO_57.out) hg hat) (jx (ru_ HO_206000.out) (jz (ru_ HO_206004.out)) T3_ hg) (jx (ru_ HO_206001.out) (jz (ru_ HO_206004.out)) T3_ hg) (Kd.S_over' (su_ HO_206002.out) (jz (ru_ HO_206004.out)) T3_ hg) (jw (ok:=(fun k_=>ne_ k_ v226)) (ru_ HO_206003.out) hg hat) (blk_grown (g:=gb205) (o:=.cells #[u206000,u206001,u206002,u206003,u206004] 57 (0,0)) (bu_ BK205.out) hg (Kd.R_ne HO_206004.out BK205.out T3_)) (hb) (ho);clear HO_9 HO_11 HO_57 HO_206000 HO_206001 HO_206002 HO_206003 BK205 HB HO_206004;obtain⟨HO_9,HO_11,HO_57,HO_206000,HO_206001,HO_206002,HO_206003,BK205,HB,HO238⟩:=n_;clear ho hb hg hat;obtain⟨Ao39,co39,eo39⟩:=jo HO238.out;subst eo39;obtain⟨hcz40_0,hcz40_1,hcz40_2,hcz40_3,hcz40_4,hfz40_0,hfz40_1,hfz40_2,hfz40_3,hfz40_4⟩:=cz5_ BK205.out))
  have n0_:Aside0 (Kd.S (jy 3 (jb .i64)) 24 (w38.setCell ⟨gb205,4,none⟩ (.slice Ao39 y236.length co39)) w.heap.size (fun k_=>ne_ k_ v226∧ne_ k_ (.slice (some ad235) t206.length co13)∧ne_ k_ u206003∧ne_ k_ (.slice Ao39 y236.length co39)) u9 x9_1):=⟨su_ (jB (jC (p:=⟨gb205,4,none⟩) (Kd.S_types HO_9.out BK205.out T3_) (fun _ hk=>hk.2) (.slice Ao39 y236.length co39)) (fun _ hk=>⟨hk.1.1.1,⟨hk.1.1.2.1,⟨hk.1.1.2.2,hk.1.2⟩⟩⟩))⟩
  have n1_:Aside0 (ju (jb .i64) 3 (w38.setCell ⟨gb205,4,none⟩ (.slice Ao39 y236.length co39)) w.heap.size (fun k_=>ne_ k_ (.slice (some ad235) t206.length co13)∧ne_ k_ u206003∧ne_ k_ (.slice Ao39 y236.length co39)) v226 t223):=⟨ru_ (jc (je (p:=⟨gb205,4,none⟩) (js HO_11.out BK205.out T3_) (fun _ hk=>hk.2) (.slice Ao39 y236.length co39)) (fun _ hk=>⟨hk.1.1.1,⟨hk.1.1.2,hk.1.2⟩⟩))⟩
  have n2_:Aside0 (ju (jb .i64) 3 (w38.setCell ⟨gb205,4,none⟩ (.slice Ao39 y236.length co39)) w.heap.size (fun k_=>ne_ k_ v226∧ne_ k_ (.slice Ao39 y236.length co39)) (.slice (some ad235) t206.length co13) t206):=⟨ru_ (jc (je (p:=⟨gb205,4,none⟩) (js HO_57.out BK205.out T3_) (fun _ hk=>hk.2) (.slice Ao39 y236.length co39)) (fun _ hk=>⟨hk.1.1,hk.1.2⟩))⟩
  have n3_:Aside0 (ju (jb .u8) 5 (w38.setCell ⟨gb205,4,none⟩ (.slice Ao39 y236.length co39)) w.heap.size (fun k_=>ne_ k_ u206001) u206000 x206000_1):=⟨ru_ (jc (je (p:=⟨gb205,4,none⟩) (js HO_206000.out BK205.out T3_) (fun _ hk=>hk.2) (.slice Ao39 y236.length co39)) (fun _ hk=>hk.1))⟩
  have n4_:Aside0 (ju (jb .u8) 5 (w38.setCell ⟨gb205,4,none⟩ (.slice Ao39 y236.length co39)) w.heap.size (fun k_=>ne_ k_ u206000) u206001 x206001_1):=⟨ru_ (jc (je (p:=⟨gb205,4,none⟩) (js HO_206001.out BK205.out T3_) (fun _ hk=>hk.2) (.slice Ao39 y236.length co39)) (fun _ hk=>hk.1))⟩
  have n5_:Aside0 (Kd.S (jy 5 (jb .u8)) 23 (w38.setCell ⟨gb205,4,none⟩ (.slice Ao39 y236.length co39)) w.heap.size (fun k_=>ne_ k_ u206000∧ne_ k_ u206001) u206002 x206002_1):=⟨su_ (jB (jC (p:=⟨gb205,4,none⟩) (Kd.S_types HO_206002.out BK205.out T3_) (fun _ hk=>hk.2) (.slice Ao39 y236.length co39)) (fun _ hk=>⟨hk.1.1,hk.1.2⟩))⟩
  have n6_:Aside0 (ju (jb .i64) 3 (w38.setCell ⟨gb205,4,none⟩ (.slice Ao39 y236.length co39)) w.heap.size (fun k_=>ne_ k_ v226∧ne_ k_ (.slice Ao39 y236.length co39)) u206003 x206003_1):=⟨ru_ (jc (je (p:=⟨gb205,4,none⟩) (js HO_206003.out BK205.out T3_) (fun _ hk=>hk.2) (.slice Ao39 y236.length co39)) (fun _ hk=>⟨hk.1.1,hk.1.2⟩))⟩
  have n7_:Aside0 (ju (jb .i64) 3 (w38.setCell ⟨gb205,4,none⟩ (.slice Ao39 y236.length co39)) w.heap.size (fun k_=>ne_ k_ v226∧ne_ k_ (.slice (some ad235) t206.length co13)∧ne_ k_ u206003) (.slice Ao39 y236.length co39) y236):=⟨ru_ (jc (je (p:=⟨gb205,4,none⟩) (js HO238.out BK205.out T3_) (fun _ hk=>hk.2) (.slice Ao39 y236.length co39)) (fun _ hk=>⟨hk.1.1,⟨hk.1.2.1,hk.1.2.2⟩⟩))⟩
  have n8_:Aside0 ((w38.setCell ⟨gb205,4,none⟩ (.slice Ao39 y236.length co39)).heap[gb205]? = some (.cells #[u206000,u206001,u206002,u206003,.slice Ao39 y236.length co39] 57 (0,0))):=⟨(by(with_reducible repeat(first|refine jp ?_ _|refine jl ?_|refine jn ?_ _));refine jt (cs:=#[u206000,u206001,u206002,u206003,u206004]) ?_ 4 _ rfl;exact bu_ BK205.out)⟩
  have n9_:Aside0 (Below w.heap.size w (w38.setCell ⟨gb205,4,none⟩ (.slice Ao39 y236.length co39))):=⟨T23_⟩
  (try clear HO_9);(try clear HO_11);(try clear HO_57);(try clear HO_206000);(try clear HO_206001);(try clear HO_206002);(try clear HO_206003);(try clear HO238);(try clear BK205);(try clear HB)
  generalize (w38.setCell ⟨gb205,4,none⟩ (.slice Ao39 y236.length co39))=w41 at n0_ n1_ n2_ n3_ n4_ n5_ n6_ n7_ n8_ n9_ ⊢
  have HO_9:=n0_
  have HO_11:=n1_
  have HO_57:=n2_
  have HO_206000:=n3_
  have HO_206001:=n4_
  have HO_206002:=n5_
  have HO_206003:=n6_
  have HO238:=n7_
  have BK205:=n8_
  have HB:=n9_
  clear n0_ n1_ n2_ n3_ n4_ n5_ n6_ n7_ n8_ n9_
  have n_:=P10_ (Kd.S_drew HO_9.out) (jq HO_11.out) (jq HO_57.out) (jq HO_206000.out) (jq HO_206001.out) (Kd.S_drew HO_206002.out) (jq HO_206003.out) (jq HO238.out) (jl BK205.out) (jG HB.out)
  clear HO_9 HO_11 HO_57 HO_206000 HO_206001 HO_206002 HO_206003 HO238 BK205 HB
  obtain⟨HO_9,HO_11,HO_57,HO_206000,HO_206001,HO_206002,HO_206003,HO238,BK205,HB⟩:=n_
  obtain⟨Ao43,co43,eo43⟩:=Kd.S_slice HO_206002.out
  (first|subst eo43|(injection eo43 with f1_ f2_ f3_;have f4_:=f1_.symm;have f5_:=f3_.symm;clear f1_ f2_ f3_;subst f4_;subst f5_))
  have p239:0≤(x59_1:Int):=od_
  have q239:x59_1<(x206002_1.length:Int):=od_
  obtain⟨ad239,A239_0,c239_0,e239,hx239_0,hl239_0,hi239_0⟩:=at_L2 (jM HO_206002.out).2.2 x59_1 p239 q239
  cases e239
  obtain⟨ce239,hce239,hMe239,hcc239⟩:=Kd.S_get HO_206002.out [] x59_1 p239 T12_
  obtain⟨ve239_0,rfl,ge239_0⟩:=hMe239
  have hv239_0:=hcc239 0 _ rfl
  rw[Nat.add_zero,show((jy 5 (jb .u8))).sz=1 from rfl,Nat.mul_one] at hv239_0
  replace hv239_0:=Option.some.inj (hv239_0.symm.trans hx239_0)
  rw[hv239_0] at ge239_0
  have HL239_0:=am_ (show ju (jb .u8) 5 _ _ _ _ (rd_L2 x206002_1 x59_1) from ge239_0)
  clear hv239_0 ge239_0 hcc239 hce239
  have HR239_0:=am_ hi239_0
  have HC239_0:=am_ hl239_0
  clear hi239_0 hl239_0
  replace p239:=eq_true p239
  replace q239:=eq_true q239
  refine start_ (n:=16) (S:=fun w'=>w'.cell? ⟨gb205,0,none⟩=some (u206000)∧w'.cell? ⟨gb205,1,none⟩=some (u206001)∧w'.cell? ⟨gb205,2,none⟩=some (.slice (some ad239) x206002_1.length co43)∧w'.cell? ⟨gb205,3,none⟩=some (u206003)∧w'.cell? ⟨gb205,4,none⟩=some (.slice Ao39 y236.length co39)∧w'.cell? (ad239.add (x59_1).toNat)=some (.slice A239_0 (rd_L2 x206002_1 x59_1).length c239_0)) (ds:=[]) #[false,false,false,false,false,false,false,false,false,false,false,false,false,false,false,false] T4_ rfl rfl ⟨bc_ BK205.out 0,bc_ BK205.out 1,bc_ BK205.out 2,bc_ BK205.out 3,bc_ BK205.out 4,hx239_0⟩ (fun hHeld=>?_);refine with_tabW riffle_read.tab16 riffle_read.bits16 (fun HT_ HW_=>?_)
  generalize w41.drew=w42 at HO_9 HO_11 HO_57 HO_206000 HO_206001 HO_206002 HO_206003 HO238 BK205 HB HL239_0 HR239_0 hx239_0 hHeld ⊢
  refine pz_ 0 (some 74) ?_
  refine pz_ 1 (some 75) ?_
  refine pz_ 3 (some 77) ?_
  refine pz_ 6 (some 80) ?_
  refine tz6_ 2 (some 76) hHeld ?_
  refine pz_ 4 (some 78) ?_
  refine tz6_ 5 (some 79) hHeld ?_
  refine oz_ 7 (some 81) (fun K hK=>?_)
  refine goes_ Try.func38 T4_ rfl #[.int .i64 (rd t206 x59_1)] T0_ rfl rfl T17_ ?_
  with_reducible refine(perm_Bounds.calls k1 (rd t206 x59_1) t240 _ A31.out).mono ?_
  rintro e w44 ⟨v241,rfl,ho0,hb⟩
  have HS5_:=(hb.cell (World.block_lt_of_cell? _ _ (hHeld.2.2.2.2.2))).trans (hHeld.2.2.2.2.2)
  refine⟨_,rfl,?_⟩
  have n_:=P13_ (jI (su_ HO_9.out) (jf ho0) hb) (jg (ru_ HO_11.out) (jf ho0) hb) (jg (ru_ HO_57.out) (jf ho0) hb) (jd (ru_ HO_206000.out) hb) (jd (ru_ HO_206001.out) hb) (jA (su_ HO_206002.out) hb) (jg (ru_ HO_206003.out) (jf ho0) hb) (jg (ru_ HO238.out) (jf ho0) hb) (jd (ru_ HL239_0.out) hb) (jm (jk (jk (jk (jk ho0 (jj (ru_ HO_11.out))) (jj (ru_ HO_57.out))) (jj (ru_ HO_206003.out))) (jj (ru_ HO238.out))) (ja T23_)) (jr (bu_ BK205.out) hb) (jv (cu_ HR239_0.out) hb) (ji T23_ hb)
  clear HO_9 HO_11 HO_57 HO_206000 HO_206001 HO_206002 HO_206003 HO238 HL239_0 BK205 HR239_0 HB
  obtain⟨HO_9,HO_11,HO_57,HO_206000,HO_206001,HO_206002,HO_206003,HO238,HL239_0,HO242,BK205,HR239_0,HB⟩:=n_
  (try clear hb);(try clear hk);(try clear ho0)
  obtain⟨Ao45,co45,eo45⟩:=jo HO242.out
  (first|subst eo45|(injection eo45 with f1_ f2_ f3_;have f4_:=f1_.symm;have f5_:=f3_.symm;clear f1_ f2_ f3_;subst f4_;subst f5_))
  refine hK.out _ _ ⟨bc_ BK205.out 0,bc_ BK205.out 1,bc_ BK205.out 2,bc_ BK205.out 3,bc_ BK205.out 4,HS5_⟩ (fun hHeld=>?_)
  clear hK K
  refine norm_ (a':=?_) ?_ ?_
  rotate_left
  ·show Act.put _ (some 81) _=_
   simp only[Act.put,List.setIfInBounds_toArray,List.set_cons_zero,List.set_cons_succ,jD,jE]
   rfl
  refine oz_ 8 (some 82) (fun K hK=>?_)
  refine goes_ Try.func41 T4_ rfl #[.slice A239_0 (rd_L2 x206002_1 x59_1).length c239_0,.slice Ao45 t240.length co45] T0_ rfl rfl T17_ ?_
  with_reducible refine(draw_All.calls _ _ (rd_L2 x206002_1 x59_1) _ _ t240 t243 t244 t245 _ ?side1 ?side2 ?side3 ?side4 A32.out).mono ?_
  (case side1=>exact cu_ HR239_0.out)
  (case side2=>exact HC239_0.out)
  (case side3=>exact cu_ ((jh HO242.out).2.2))
  (case side4=>exact(jh HO242.out).2.1)
  rintro e w46 ⟨v246,rfl,ho0,hb⟩
  have HS5_:=(hb.cell (World.block_lt_of_cell? _ _ (hHeld.2.2.2.2.2))).trans (hHeld.2.2.2.2.2)
  refine⟨_,rfl,?_⟩
  have n_:=P14_ (jI (su_ HO_9.out) (jf ho0) hb) (jg (ru_ HO_11.out) (jf ho0) hb) (jg (ru_ HO_57.out) (jf ho0) hb) (jd (ru_ HO_206000.out) hb) (jd (ru_ HO_206001.out) hb) (jA (su_ HO_206002.out) hb) (jg (ru_ HO_206003.out) (jf ho0) hb) (jg (ru_ HO238.out) (jf ho0) hb) (jd (ru_ HL239_0.out) hb) (jg (ru_ HO242.out) (jf ho0) hb) (jm (jk (jk (jk (jk (jk ho0 (jj (ru_ HO_11.out))) (jj (ru_ HO_57.out))) (jj (ru_ HO_206003.out))) (jj (ru_ HO238.out))) (jj (ru_ HO242.out))) (ja T23_)) (jr (bu_ BK205.out) hb) (jv (cu_ HR239_0.out) hb) (ji T23_ hb)
  clear HO_9 HO_11 HO_57 HO_206000 HO_206001 HO_206002 HO_206003 HO238 HL239_0 HO242 BK205 HR239_0 HB
  obtain⟨HO_9,HO_11,HO_57,HO_206000,HO_206001,HO_206002,HO_206003,HO238,HL239_0,HO242,HO247,BK205,HR239_0,HB⟩:=n_
  (try clear hb);(try clear hk);(try clear ho0)
  refine hK.out _ _ ⟨bc_ BK205.out 0,bc_ BK205.out 1,bc_ BK205.out 2,bc_ BK205.out 3,bc_ BK205.out 4,HS5_⟩ (fun hHeld=>?_)
  clear hK K
  refine norm_ (a':=?_) ?_ ?_
  rotate_left
  ·show Act.put _ (some 82) _=_
   simp only[Act.put,List.setIfInBounds_toArray,List.set_cons_zero,List.set_cons_succ,jD,jE]
   rfl
  refine pz_ 9 (some 73) ?_
  refine pz_ 10 (some 83) ?_
  refine pz_ 11 (some 84) ?_
  refine pz_ 12 (some 85) ?_
  refine pz_ 13 (some 16) ?_
  refine pz_ 14 (some 17) ?_
  refine pz_ 15 (some 18) ?_
  refine done_ (done_of HT_.out T4_) ?_
  obtain⟨Ao47,co47,eo47⟩:=jo HO247.out
  subst eo47
  try go_wp2_with(first|(refine gc_ 42 ?_;refine gl_ (some 93) Try.func42 #[.int .i64 (rd t206 x59_1),.slice Ao47 t243.length co47] ?_;(with_reducible refine(perm_From.calls k1 (rd t206 x59_1) _ _ t243 t248 t249 _ ?side1 ?side2 A34.out).mono ?_);(case side1=>exact cu_ ((jh HO247.out).2.2));(case side2=>exact(jh HO247.out).2.1);rintro e w48 ⟨v250,rfl,ho0,hb⟩;refine⟨_,rfl,?_⟩;have n_:=P15_ (jI (su_ HO_9.out) (jf ho0) hb) (jg (ru_ HO_11.out) (jf ho0) hb) (jg (ru_ HO_57.out) (jf ho0) hb) (jd (ru_ HO_206000.out) hb) (jd (ru_ HO_206001.out) hb) (jA (su_ HO_206002.out) hb) (jg (ru_ HO_206003.out) (jf ho0) hb) (jg (ru_ HO238.out) (jf ho0) hb) (jd (ru_ HL239_0.out) hb) (jg (ru_ HO242.out) (jf ho0) hb) (jg (ru_ HO247.out) (jf ho0) hb) (jm (jk (jk (jk (jk (jk (jk ho0 (jj (ru_ HO_11.out))) (jj (ru_ HO_57.out))) (jj (ru_ HO_206003.out))) (jj (ru_ HO238.out))) (jj (ru_ HO242.out))) (jj (ru_ HO247.out))) (ja T23_)) (jr (bu_ BK205.out) hb) (jv (cu_ HR239_0.out) hb) (ji T23_ hb);clear HO_9 HO_11 HO_57 HO_206000 HO_206001 HO_206002 HO_206003 HO238 HL239_0 HO242 HO247 BK205 HR239_0 HB;obtain⟨HO_9,HO_11,HO_57,HO_206000,HO_206001,HO_206002,HO_206003,HO238,HL239_0,HO242,HO247,HO251,BK205,HR239_0,HB⟩:=n_;clear hb ho0;obtain⟨Ao50,co50,eo50⟩:=jo HO251.out;subst eo50)|(refine gb_ .append #[.tmp 100,.tmp 102] ?_;at_builtin;refine Kd.S_append (jy 3 (jb .i64)) (w0:=w) w.heap.size rfl (.tmp 100) (.tmp 102) 51 24 (.slice none 0 0) 24 rfl Try.underlying51 info24 rfl T3_ T2_ u9 x9_1 t248 [.slice Ao50 t248.length co50] (fun k_=>ne_ k_ v226∧ne_ k_ (.slice (some ad235) t206.length co13)∧ne_ k_ u206003∧ne_ k_ (.slice Ao39 y236.length co39)∧ne_ k_ (.slice Ao45 t240.length co45)∧ne_ k_ (.slice Ao47 t243.length co47)) (fun k_=>some k_=(.slice Ao50 t248.length co50:Value).ownBlock) rfl rfl ?aP (fun k_ hk_=>((jc (ok':=fun k_=>((fun k_=>ne_ k_ v226∧ne_ k_ (.slice (some ad235) t206.length co13)∧ne_ k_ u206003∧ne_ k_ (.slice Ao39 y236.length co39)∧ne_ k_ (.slice Ao45 t240.length co45)∧ne_ k_ (.slice Ao47 t243.length co47))) k_∧ne_ k_ u9) (Kd.R_apart' (HO251.out) (Kd.S_typed HO_9.out) T3_) (fun k_ hk=>⟨⟨hk.1.1.1.1.1.1.2,⟨hk.1.1.1.1.1.2,⟨hk.1.1.1.1.2,⟨hk.1.1.1.2,⟨hk.1.1.2,hk.1.2⟩⟩⟩⟩⟩,hk.2⟩))).1 k_ hk_.symm) ?aF ?aO ?aB ?aS ?aL ?_;(case aP=>exact Kd.M_row (jc (Kd.R_tight rfl (jc (ok':=fun k_=>((fun k_=>ne_ k_ v226∧ne_ k_ (.slice (some ad235) t206.length co13)∧ne_ k_ u206003∧ne_ k_ (.slice Ao39 y236.length co39)∧ne_ k_ (.slice Ao45 t240.length co45)∧ne_ k_ (.slice Ao47 t243.length co47))) k_∧ne_ k_ u9) (Kd.R_apart' (HO251.out) (Kd.S_typed HO_9.out) T3_) (fun k_ hk=>⟨⟨hk.1.1.1.1.1.1.2,⟨hk.1.1.1.1.1.2,⟨hk.1.1.1.1.2,⟨hk.1.1.1.2,⟨hk.1.1.2,hk.1.2⟩⟩⟩⟩⟩,hk.2⟩))) (fun _ h_=>h_)));(case aB=>exact T23_);(case aF=>exact(fun k_ hk=>⟨jF (jj (ru_ HO_11.out)) k_ hk,jF (jj (ru_ HO_57.out)) k_ hk,jF (jj (ru_ HO_206003.out)) k_ hk,jF (jj (ru_ HO238.out)) k_ hk,jF (jj (ru_ HO242.out)) k_ hk,jF (jj (ru_ HO247.out)) k_ hk⟩));(case aO=>exact(su_ (jB HO_9.out (fun k_ hk=>⟨⟨hk.1.1.1.1,⟨hk.1.1.1.2.1,⟨hk.1.1.1.2.2.1,⟨hk.1.1.1.2.2.2,⟨hk.1.1.2,hk.1.2⟩⟩⟩⟩⟩,fun e_=>hk.2 e_⟩))));(case aS=>exact(ja T23_));(case aL=>have:=LMc36.out;omega);intro v253 w49 ho hb hg hat;rw[←Ny252.out] at ho;have n_:=P13_ (jx (ru_ HO_11.out) (Kd.S_typed (su_ HO_9.out)) T3_ hg) (jx (ru_ HO_57.out) (Kd.S_typed (su_ HO_9.out)) T3_ hg) (jx (ru_ HO_206000.out) (Kd.S_typed (su_ HO_9.out)) T3_ hg) (jx (ru_ HO_206001.out) (Kd.S_typed (su_ HO_9.out)) T3_ hg) (Kd.S_over' (su_ HO_206002.out) (Kd.S_typed (su_ HO_9.out)) T3_ hg) (jx (ru_ HO_206003.out) (Kd.S_typed (su_ HO_9.out)) T3_ hg) (blk_grown (g:=gb205) (o:=.cells #[u206000,u206001,.slice (some ad239) x206002_1.length co43,u206003,.slice Ao39 y236.length co39] 57 (0,0)) (bu_ BK205.out) hg (Kd.S_ne HO_9.out BK205.out T3_)) (jx (ru_ HO238.out) (Kd.S_typed (su_ HO_9.out)) T3_ hg) (jx (ru_ HL239_0.out) (Kd.S_typed (su_ HO_9.out)) T3_ hg) (jx (ru_ HO242.out) (Kd.S_typed (su_ HO_9.out)) T3_ hg) (jx (ru_ HO247.out) (Kd.S_typed (su_ HO_9.out)) T3_ hg) (hb) (ho);clear HO_11 HO_57 HO_206000 HO_206001 HO_206002 HO_206003 BK205 HO238 HL239_0 HO242 HO247 HB HO_9 HO251;obtain⟨HO_11,HO_57,HO_206000,HO_206001,HO_206002,HO_206003,BK205,HO238,HL239_0,HO242,HO247,HB,HO254⟩:=n_;clear ho hb hg hat))
  go_roundg k1
  case measure=>have:=HK1.out;omega
  case rel=>exact⟨(y252),(wrap64 (x13_1+(rd t206 x59_1))),(wrap64 (x59_1+1)),(x206000_1),(x206001_1),(x206002_1),(x206003_1),(y236),(u206000),(u206001),(.slice (some ad239) x206002_1.length co43),(u206003),(.slice Ao39 y236.length co39),T9_,T9_,H',⟨T7_⟩,⟨su_ (jB HO254.out (fun _ hk=>⟨hk.1,⟨hk.2.1,⟨hk.2.2.1,hk.2.2.2.1⟩⟩⟩))⟩,⟨ru_ (jc HO_11.out (fun _ hk=>⟨hk.1.1.1.1,⟨hk.1.1.1.2.1,hk.1.1.1.2.2⟩⟩))⟩,⟨ru_ (jc HO_57.out (fun _ hk=>⟨hk.1.1.1.1,hk.1.1.1.2⟩))⟩,⟨ru_ HO_206000.out⟩,⟨ru_ HO_206001.out⟩,⟨su_ HO_206002.out⟩,⟨ru_ (jc HO_206003.out (fun _ hk=>⟨hk.1.1.1.1,hk.1.1.1.2⟩))⟩,⟨ru_ (jc HO238.out (fun _ hk=>⟨hk.1.1.1.1,⟨hk.1.1.1.2.1,hk.1.1.1.2.2⟩⟩))⟩,⟨bu_ BK205.out⟩,⟨T23_⟩⟩
def riffle_Order.l0:Nat→List (List Int)→List Int→List Int→List Int→Int→Int→List Int→List Int→List (List Int)→List Int→List Int→Option (List Int×Int)
 | 0,_,_,_,_,_,_,_,_,_,_,_=>none
 | k+1,x11,x13,x14,x36,x37,x38,x281000,x281001,x281002,x281003,x281004=>if x38<x37 then(if 0≤x38 then(if x38<(x36.length:Int) then(if 0≤(rd x36 x38) then(if(rd x36 x38)<(x281004.length:Int) then(if(rd x36 x38)<(x11.length:Int) then(if(rd x36 x38)<(x13.length:Int) then(if 0≤(rd x13 (rd x36 x38)) then(if(rd x13 (rd x36 x38))<((rd_L3 x11 (rd x36 x38)).length:Int) then(if x38<(x14.length:Int) then(riffle_Order.l0 k x11 (x13.set ((rd x36 x38):Int).toNat (wrap64 ((rd x13 (rd x36 x38))+1))) (x14.set (x38:Int).toNat (wrap64 ((rd x281004 (rd x36 x38))+(rd (rd_L3 x11 (rd x36 x38)) (rd x13 (rd x36 x38)))))) x36 x37 (wrap64 (x38+1)) x281000 x281001 x281002 x281003 x281004) else(none)) else(none)) else(none)) else(none)) else(none)) else(none)) else(none)) else(none)) else(none)) else(some (x14,0))
def riffle_Order.f (k:Nat) (l0:List Int) (a1:Int) (a2:Int):Option (List Int×Int):=(riffle_read.f k l0 a1 a2).bind fun bt255=>(if bt255.2.2.2.2.2.2.2.2=0 then(if 0≤(bt255.2.2.2.1.length:Int) then(if((bt255.2.2.2.1.length:Int):Int).toNat≤35184372088832 then(if 0≤a1 then(if(a1:Int).toNat≤35184372088832 then(riffle_Order.l0 k bt255.2.2.2.2.2.2.2.1 (List.replicate ((bt255.2.2.2.1.length:Int):Int).toNat 0) (List.replicate (a1:Int).toNat 0) bt255.2.2.2.2.2.1 (bt255.2.2.2.2.2.1.length:Int) 0 bt255.1 bt255.2.1 bt255.2.2.1 bt255.2.2.2.1 bt255.2.2.2.2.1) else(none)) else(none)) else(none)) else(none)) else(some (([]:List Int),bt255.2.2.2.2.2.2.2.2)))
theorem riffle_Order.mono_l:∀ k,(∀ y0 y1 y2 y3 y4 y5 y6 y7 y8 y9 y10,LeO (riffle_Order.l0 k y0 y1 y2 y3 y4 y5 y6 y7 y8 y9 y10) (riffle_Order.l0 (k+1) y0 y1 y2 y3 y4 y5 y6 y7 y8 y9 y10))
 | 0=>fun _ _ _ _ _ _ _ _ _ _ _ r h=>by simp[riffle_Order.l0] at h
 | k+1=>by
  have ih0:=riffle_Order.mono_l k
  intro y0 y1 y2 y3 y4 y5 y6 y7 y8 y9 y10
  unfold riffle_Order.l0
  with_reducible repeat' first|exact ih0 _ _ _ _ _ _ _ _ _ _ _|exact riffle_read.mono _ _ _ _|exact LeO.refl _|exact LeO.none _|refine LeO.ite ?_ ?_|refine LeO.bind ?_ (fun _=>?_)
theorem riffle_Order.mono:∀ a0 a1 a2 k,LeO (riffle_Order.f k a0 a1 a2) (riffle_Order.f (k+1) a0 a1 a2):=by
 intro a0 a1 a2 k
 have ih0:=riffle_Order.mono_l k
 unfold riffle_Order.f
 with_reducible repeat' first|exact ih0 _ _ _ _ _ _ _ _ _ _ _|exact riffle_read.mono _ _ _ _|exact LeO.refl _|exact LeO.none _|refine LeO.ite ?_ ?_|refine LeO.bind ?_ (fun _=>?_)
def riffle_Order.T9:Bool×List (List Nat×List Nat):=(true,[([],[]),([],[]),([],[]),([2],[2]),([],[]),([3,4],[3,4]),([5],[5]),([],[]),([],[]),([7,8],[7,8]),([9],[9]),([],[]),([],[]),([11,12],[11,12]),([13],[13]),([10,14],[10,14]),([15],[15]),([6,16],[6,16]),([0,1,0,1,2,3,4,5,6,7,8,9,10,11,12,13,14,15,16,17],[0,1]),([18,17,0,1,2,3,4,5,6,7,8,9,10,11,12,13,14,15,16,17],[17,18])])
def riffle_Order.B9:List Nat:=[0,0,0,4,0,28,60,0,0,384,896,0,0,6144,14336,32640,65408,131068,262143,524287]
theorem riffle_Order.tab9:rtab .any (opsOf Try.f11 9)=riffle_Order.T9:=by kernel_rfl
theorem riffle_Order.bits9:waitsOk riffle_Order.T9.2 riffle_Order.B9=true:=by kernel_rfl
set_option maxHeartbeats 8000000 in
set_option maxRecDepth 100000 in
theorem riffle_Order.calls (k:Nat) (A0:Option Addr) (c0:Nat) (l0:List Int) (a1:Int) (a2:Int) (r1:List Int) (r2:Int) (w:World) (hr0:Kd.C (jb .u8) w A0 l0.length l0) (hc0:l0.length≤c0) (h:riffle_Order.f k l0 a1 a2=some (r1,r2)) :
  Calls Try.prog 11 #[.slice A0 l0.length c0,.int .i64 a1,.int .i64 a2] w fun e w'=>∃ v0_:Value,e = .returned (.tuple #[v0_,.int .i64 r2])∧ju (jb .i64) 3 w' w.heap.size (fun _=>True) v0_ r1∧Below w.heap.size w w':=by
 have hu57:=Try.underlying57
 have HR0:=am_ hr0
 have HC0:=am_ hc0
 clear hr0 hc0
 have HB:=am_ (Below.refl w.heap.size w)
 have H:((riffle_read.f k l0 a1 a2).bind fun bt255=>(if bt255.2.2.2.2.2.2.2.2=0 then(if 0≤(bt255.2.2.2.1.length:Int) then(if((bt255.2.2.2.1.length:Int):Int).toNat≤35184372088832 then(if 0≤a1 then(if(a1:Int).toNat≤35184372088832 then(riffle_Order.l0 k bt255.2.2.2.2.2.2.2.1 (List.replicate ((bt255.2.2.2.1.length:Int):Int).toNat 0) (List.replicate (a1:Int).toNat 0) bt255.2.2.2.2.2.1 (bt255.2.2.2.2.2.1.length:Int) 0 bt255.1 bt255.2.1 bt255.2.2.1 bt255.2.2.2.1 bt255.2.2.2.2.1) else(none)) else(none)) else(none)) else(none)) else(some (([]:List Int),bt255.2.2.2.2.2.2.2.2))))=some (r1,r2):=h
 clear h
 replace H:=Option.bind_eq_some_iff.mp H
 obtain⟨⟨t255,t258,t261,t264,t267,t270,t273,t276,t279⟩,A40,H⟩:=H
 try dsimp only at H
 have A4:=am_ A40
 clear A40
 by_cases c5:t279=0
 rotate_left
 ·rw[if_neg c5] at H
  obtain⟨c5b0,c5b1⟩:=en_ c5
  obtain⟨rfl,rfl⟩:=sj2_ H
  go_enter Try.func11,Try.ntmps11
  go_wp2_with(first|(refine gc_ 20 ?_;refine gl_ (some 21) Try.func20 #[.slice A0 l0.length c0,.int .i64 a1,.int .i64 a2] ?_;(with_reducible refine(riffle_read.calls k _ _ l0 a1 a2 t255 t258 t261 t264 t267 t270 t273 t276 t279 _ ?side1 ?side2 A4.out).mono ?_);(case side1=>exact cu_ HR0.out);(case side2=>exact HC0.out);rintro e w42 ⟨v256,v259,v262,v265,v268,v271,v274,v277,rfl,ho0,ho1,ho2,ho3,ho4,ho5,ho6,ho7,hb⟩;refine⟨_,rfl,?_⟩;have n_:=P9_ (jm ho0 (ja T16_)) (jm ho1 (ja T16_)) (Kd.S_lower ho2 (ja T16_)) (jm ho3 (ja T16_)) (jm ho4 (ja T16_)) (jm ho5 (ja T16_)) (jm ho6 (ja T16_)) (Kd.S_lower ho7 (ja T16_)) (ji T16_ hb);clear HB;obtain⟨HO257,HO260,HO263,HO266,HO269,HO272,HO275,HO278,HB⟩:=n_;clear hb ho0 ho1 ho2 ho3 ho4 ho5 ho6 ho7)|(refine gd_ 8 ?_;refine bx_ 8 #[.slice none 0 0,.slice none 0 0,.slice none 0 0,.slice none 0 0,.slice none 0 0] 57 ?_;intro gb280 hg w43 hbox hb;have n_:=P12_ (jd (ru_ HO257.out) hb) (jd (ru_ HO260.out) hb) (jA (su_ HO263.out) hb) (jd (ru_ HO266.out) hb) (jd (ru_ HO269.out) hb) (jd (ru_ HO272.out) hb) (jd (ru_ HO275.out) hb) (jA (su_ HO278.out) hb) (ji T16_ hb) (hbox) ((by rw[hg];exact(ja T16_):w.heap.size≤gb280)) ((by rw[hg];exact(ja T16_):w.heap.size≤gb280));clear HO257 HO260 HO263 HO266 HO269 HO272 HO275 HO278 HB;obtain⟨HO257,HO260,HO263,HO266,HO269,HO272,HO275,HO278,HB,BK280,GW280,GE280⟩:=n_;clear hb hbox hg;obtain⟨Ao44,co44,eo44⟩:=jo HO257.out;subst eo44;obtain⟨hcz45_0,hcz45_1,hcz45_2,hcz45_3,hcz45_4,hfz45_0,hfz45_1,hfz45_2,hfz45_3,hfz45_4⟩:=cz5_ BK280.out;obtain⟨Ao46,co46,eo46⟩:=jo HO260.out;subst eo46;obtain⟨Ao47,co47,eo47⟩:=Kd.S_slice HO263.out;subst eo47;obtain⟨Ao48,co48,eo48⟩:=jo HO266.out;subst eo48;obtain⟨Ao49,co49,eo49⟩:=jo HO269.out;subst eo49))
  go_ret2
  exact⟨_,T14_,T18_,T24_⟩
 rw[if_pos c5] at H
 obtain⟨c5b0,c5b1⟩:=ep_ c5
 clear c5
 replace H:=ifn_ H;obtain⟨c6,H⟩:=H
 have c6b0:=eq_true c6
 have c6b1:decide (0≤(t264.length:Int))=true:=decide_eq_true c6
 clear c6
 replace H:=ifn_ H;obtain⟨c7,H⟩:=H
 have c7b0:=eq_true c7
 have c7b1:decide (((t264.length:Int):Int).toNat≤35184372088832)=true:=decide_eq_true c7
 clear c7
 obtain⟨y281,hy_⟩:∃ y_:List Int,y_=(List.replicate ((t264.length:Int):Int).toNat 0):=⟨_,rfl⟩
 replace H:(if 0≤a1 then(if(a1:Int).toNat≤35184372088832 then(riffle_Order.l0 k t276 y281 (List.replicate (a1:Int).toNat 0) t270 (t270.length:Int) 0 t255 t258 t261 t264 t267) else(none)) else(none))=some (r1,r2):=hyw_
 have Ny281:=am_ hy_
 clear hy_
 replace H:=ifn_ H;obtain⟨c8,H⟩:=H
 have c8b0:=eq_true c8
 have c8b1:decide (0≤a1)=true:=decide_eq_true c8
 clear c8
 replace H:=ifn_ H;obtain⟨c9,H⟩:=H
 have c9b0:=eq_true c9
 have c9b1:decide ((a1:Int).toNat≤35184372088832)=true:=decide_eq_true c9
 clear c9
 obtain⟨y284,hy_⟩:∃ y_:List Int,y_=(List.replicate (a1:Int).toNat 0):=⟨_,rfl⟩
 replace H:(riffle_Order.l0 k t276 y281 y284 t270 (t270.length:Int) 0 t255 t258 t261 t264 t267)=some (r1,r2):=hyw_
 have Ny284:=am_ hy_
 clear hy_
 have H':=am_ H
 clear H
 go_enter Try.func11,Try.ntmps11
 go_wp2_with(first|(refine gc_ 20 ?_;refine gl_ (some 21) Try.func20 #[.slice A0 l0.length c0,.int .i64 a1,.int .i64 a2] ?_;(with_reducible refine(riffle_read.calls k _ _ l0 a1 a2 t255 t258 t261 t264 t267 t270 t273 t276 t279 _ ?side1 ?side2 A4.out).mono ?_);(case side1=>exact cu_ HR0.out);(case side2=>exact HC0.out);rintro e w10 ⟨v256,v259,v262,v265,v268,v271,v274,v277,rfl,ho0,ho1,ho2,ho3,ho4,ho5,ho6,ho7,hb⟩;refine⟨_,rfl,?_⟩;have n_:=P9_ (jm ho0 (ja T16_)) (jm ho1 (ja T16_)) (Kd.S_lower ho2 (ja T16_)) (jm ho3 (ja T16_)) (jm ho4 (ja T16_)) (jm ho5 (ja T16_)) (jm ho6 (ja T16_)) (Kd.S_lower ho7 (ja T16_)) (ji T16_ hb);clear HB;obtain⟨HO257,HO260,HO263,HO266,HO269,HO272,HO275,HO278,HB⟩:=n_;clear hb ho0 ho1 ho2 ho3 ho4 ho5 ho6 ho7)|(refine gd_ 8 ?_;refine bx_ 8 #[.slice none 0 0,.slice none 0 0,.slice none 0 0,.slice none 0 0,.slice none 0 0] 57 ?_;intro gb280 hg w11 hbox hb;have n_:=P12_ (jd (ru_ HO257.out) hb) (jd (ru_ HO260.out) hb) (jA (su_ HO263.out) hb) (jd (ru_ HO266.out) hb) (jd (ru_ HO269.out) hb) (jd (ru_ HO272.out) hb) (jd (ru_ HO275.out) hb) (jA (su_ HO278.out) hb) (ji T16_ hb) (hbox) ((by rw[hg];exact(ja T16_):w.heap.size≤gb280)) ((by rw[hg];exact(ja T16_):w.heap.size≤gb280));clear HO257 HO260 HO263 HO266 HO269 HO272 HO275 HO278 HB;obtain⟨HO257,HO260,HO263,HO266,HO269,HO272,HO275,HO278,HB,BK280,GW280,GE280⟩:=n_;clear hb hbox hg;obtain⟨Ao12,co12,eo12⟩:=jo HO257.out;subst eo12;obtain⟨hcz13_0,hcz13_1,hcz13_2,hcz13_3,hcz13_4,hfz13_0,hfz13_1,hfz13_2,hfz13_3,hfz13_4⟩:=cz5_ BK280.out;obtain⟨Ao14,co14,eo14⟩:=jo HO260.out;subst eo14;obtain⟨Ao15,co15,eo15⟩:=Kd.S_slice HO263.out;subst eo15;obtain⟨Ao16,co16,eo16⟩:=jo HO266.out;subst eo16;obtain⟨Ao17,co17,eo17⟩:=jo HO269.out;subst eo17)|(refine gd_ 33 ?_;refine Kd.R_make (jb .i64) _ 3 rfl (N:=33) rfl 24 _ _ rfl (t264.length:Int) rfl rfl Try.underlying24 (.int .i64 0) 8 info3 rfl T3_ T2_ 0 (ok:=fun _=>True) (okp:=fun _=>True) rfl (fun _ hk=>hk) trivial (od_) (Nat.le_trans (Nat.mul_le_mul_right _ (od_:(t264.length:Int).toNat≤35184372088832)) T2_) (Below.refl _ _) (Nat.le_refl _) ?_;intro v282 w18 ho19 hb hg_ hnew_;clear hg_ hnew_;(first|rw[←Ny281.out] at ho19|(simp only[Int.reduceToNat] at ho19;rw[←Ny281.out] at ho19));have n_:=P11_ (jd (ru_ ((jc (je (p:=⟨gb280,4,none⟩) (je (p:=⟨gb280,3,none⟩) (je (p:=⟨gb280,2,none⟩) (je (p:=⟨gb280,1,none⟩) (je (p:=⟨gb280,0,none⟩) (js HO257.out BK280.out T3_) (fun _ hk=>hk.2) (.slice Ao12 t255.length co12)) (fun _ hk=>hk.2) (.slice Ao14 t258.length co14)) (fun _ hk=>hk.2) (.slice Ao15 t261.length co15)) (fun _ hk=>hk.2) (.slice Ao16 t264.length co16)) (fun _ hk=>hk.2) (.slice Ao17 t267.length co17)) (fun _ h_=>h_.1)))) hb) (jd (ru_ ((jc (je (p:=⟨gb280,4,none⟩) (je (p:=⟨gb280,3,none⟩) (je (p:=⟨gb280,2,none⟩) (je (p:=⟨gb280,1,none⟩) (je (p:=⟨gb280,0,none⟩) (js HO260.out BK280.out T3_) (fun _ hk=>hk.2) (.slice Ao12 t255.length co12)) (fun _ hk=>hk.2) (.slice Ao14 t258.length co14)) (fun _ hk=>hk.2) (.slice Ao15 t261.length co15)) (fun _ hk=>hk.2) (.slice Ao16 t264.length co16)) (fun _ hk=>hk.2) (.slice Ao17 t267.length co17)) (fun _ h_=>h_.1)))) hb) (jA (su_ ((jB (jC (p:=⟨gb280,4,none⟩) (jC (p:=⟨gb280,3,none⟩) (jC (p:=⟨gb280,2,none⟩) (jC (p:=⟨gb280,1,none⟩) (jC (p:=⟨gb280,0,none⟩) (Kd.S_types HO263.out BK280.out T3_) (fun _ hk=>hk.2) (.slice Ao12 t255.length co12)) (fun _ hk=>hk.2) (.slice Ao14 t258.length co14)) (fun _ hk=>hk.2) (.slice Ao15 t261.length co15)) (fun _ hk=>hk.2) (.slice Ao16 t264.length co16)) (fun _ hk=>hk.2) (.slice Ao17 t267.length co17)) (fun _ h_=>h_.1)))) hb) (jg (ru_ ((jc (je (p:=⟨gb280,4,none⟩) (je (p:=⟨gb280,3,none⟩) (je (p:=⟨gb280,2,none⟩) (je (p:=⟨gb280,1,none⟩) (je (p:=⟨gb280,0,none⟩) (js HO266.out BK280.out T3_) (fun _ hk=>hk.2) (.slice Ao12 t255.length co12)) (fun _ hk=>hk.2) (.slice Ao14 t258.length co14)) (fun _ hk=>hk.2) (.slice Ao15 t261.length co15)) (fun _ hk=>hk.2) (.slice Ao16 t264.length co16)) (fun _ hk=>hk.2) (.slice Ao17 t267.length co17)) (fun _ h_=>h_.1)))) (jf ho19) hb) (jg (ru_ ((jc (je (p:=⟨gb280,4,none⟩) (je (p:=⟨gb280,3,none⟩) (je (p:=⟨gb280,2,none⟩) (je (p:=⟨gb280,1,none⟩) (je (p:=⟨gb280,0,none⟩) (js HO269.out BK280.out T3_) (fun _ hk=>hk.2) (.slice Ao12 t255.length co12)) (fun _ hk=>hk.2) (.slice Ao14 t258.length co14)) (fun _ hk=>hk.2) (.slice Ao15 t261.length co15)) (fun _ hk=>hk.2) (.slice Ao16 t264.length co16)) (fun _ hk=>hk.2) (.slice Ao17 t267.length co17)) (fun _ h_=>h_.1)))) (jf ho19) hb) (jg (ru_ ((jc (je (p:=⟨gb280,4,none⟩) (je (p:=⟨gb280,3,none⟩) (je (p:=⟨gb280,2,none⟩) (je (p:=⟨gb280,1,none⟩) (je (p:=⟨gb280,0,none⟩) (js HO272.out BK280.out T3_) (fun _ hk=>hk.2) (.slice Ao12 t255.length co12)) (fun _ hk=>hk.2) (.slice Ao14 t258.length co14)) (fun _ hk=>hk.2) (.slice Ao15 t261.length co15)) (fun _ hk=>hk.2) (.slice Ao16 t264.length co16)) (fun _ hk=>hk.2) (.slice Ao17 t267.length co17)) (fun _ h_=>h_.1)))) (jf ho19) hb) (jg (ru_ ((jc (je (p:=⟨gb280,4,none⟩) (je (p:=⟨gb280,3,none⟩) (je (p:=⟨gb280,2,none⟩) (je (p:=⟨gb280,1,none⟩) (je (p:=⟨gb280,0,none⟩) (js HO275.out BK280.out T3_) (fun _ hk=>hk.2) (.slice Ao12 t255.length co12)) (fun _ hk=>hk.2) (.slice Ao14 t258.length co14)) (fun _ hk=>hk.2) (.slice Ao15 t261.length co15)) (fun _ hk=>hk.2) (.slice Ao16 t264.length co16)) (fun _ hk=>hk.2) (.slice Ao17 t267.length co17)) (fun _ h_=>h_.1)))) (jf ho19) hb) (jI (su_ ((jB (jC (p:=⟨gb280,4,none⟩) (jC (p:=⟨gb280,3,none⟩) (jC (p:=⟨gb280,2,none⟩) (jC (p:=⟨gb280,1,none⟩) (jC (p:=⟨gb280,0,none⟩) (Kd.S_types HO278.out BK280.out T3_) (fun _ hk=>hk.2) (.slice Ao12 t255.length co12)) (fun _ hk=>hk.2) (.slice Ao14 t258.length co14)) (fun _ hk=>hk.2) (.slice Ao15 t261.length co15)) (fun _ hk=>hk.2) (.slice Ao16 t264.length co16)) (fun _ hk=>hk.2) (.slice Ao17 t267.length co17)) (fun _ h_=>h_.1)))) (jf ho19) hb) (jm (jk (jk (jk (jk ho19 (jj (ru_ ((jc (je (p:=⟨gb280,4,none⟩) (je (p:=⟨gb280,3,none⟩) (je (p:=⟨gb280,2,none⟩) (je (p:=⟨gb280,1,none⟩) (je (p:=⟨gb280,0,none⟩) (js HO266.out BK280.out T3_) (fun _ hk=>hk.2) (.slice Ao12 t255.length co12)) (fun _ hk=>hk.2) (.slice Ao14 t258.length co14)) (fun _ hk=>hk.2) (.slice Ao15 t261.length co15)) (fun _ hk=>hk.2) (.slice Ao16 t264.length co16)) (fun _ hk=>hk.2) (.slice Ao17 t267.length co17)) (fun _ h_=>h_.1)))))) (jj (ru_ ((jc (je (p:=⟨gb280,4,none⟩) (je (p:=⟨gb280,3,none⟩) (je (p:=⟨gb280,2,none⟩) (je (p:=⟨gb280,1,none⟩) (je (p:=⟨gb280,0,none⟩) (js HO269.out BK280.out T3_) (fun _ hk=>hk.2) (.slice Ao12 t255.length co12)) (fun _ hk=>hk.2) (.slice Ao14 t258.length co14)) (fun _ hk=>hk.2) (.slice Ao15 t261.length co15)) (fun _ hk=>hk.2) (.slice Ao16 t264.length co16)) (fun _ hk=>hk.2) (.slice Ao17 t267.length co17)) (fun _ h_=>h_.1)))))) (jj (ru_ ((jc (je (p:=⟨gb280,4,none⟩) (je (p:=⟨gb280,3,none⟩) (je (p:=⟨gb280,2,none⟩) (je (p:=⟨gb280,1,none⟩) (je (p:=⟨gb280,0,none⟩) (js HO272.out BK280.out T3_) (fun _ hk=>hk.2) (.slice Ao12 t255.length co12)) (fun _ hk=>hk.2) (.slice Ao14 t258.length co14)) (fun _ hk=>hk.2) (.slice Ao15 t261.length co15)) (fun _ hk=>hk.2) (.slice Ao16 t264.length co16)) (fun _ hk=>hk.2) (.slice Ao17 t267.length co17)) (fun _ h_=>h_.1)))))) (jj (ru_ ((jc (je (p:=⟨gb280,4,none⟩) (je (p:=⟨gb280,3,none⟩) (je (p:=⟨gb280,2,none⟩) (je (p:=⟨gb280,1,none⟩) (je (p:=⟨gb280,0,none⟩) (js HO275.out BK280.out T3_) (fun _ hk=>hk.2) (.slice Ao12 t255.length co12)) (fun _ hk=>hk.2) (.slice Ao14 t258.length co14)) (fun _ hk=>hk.2) (.slice Ao15 t261.length co15)) (fun _ hk=>hk.2) (.slice Ao16 t264.length co16)) (fun _ hk=>hk.2) (.slice Ao17 t267.length co17)) (fun _ h_=>h_.1)))))) (ja T24_)) (jr (g:=gb280) (o:=.cells #[.slice Ao12 t255.length co12,.slice Ao14 t258.length co14,.slice Ao15 t261.length co15,.slice Ao16 t264.length co16,.slice Ao17 t267.length co17] 57 (0,0)) (by(with_reducible repeat(first|refine jp ?_ _|refine jl ?_|refine jn ?_ _));refine jt (cs:=#[.slice Ao12 t255.length co12,.slice Ao14 t258.length co14,.slice Ao15 t261.length co15,.slice Ao16 t264.length co16,.slice none 0 0]) ?_ 4 _ rfl;(with_reducible repeat(first|refine jp ?_ _|refine jl ?_|refine jn ?_ _));refine jt (cs:=#[.slice Ao12 t255.length co12,.slice Ao14 t258.length co14,.slice Ao15 t261.length co15,.slice none 0 0,.slice none 0 0]) ?_ 3 _ rfl;(with_reducible repeat(first|refine jp ?_ _|refine jl ?_|refine jn ?_ _));refine jt (cs:=#[.slice Ao12 t255.length co12,.slice Ao14 t258.length co14,.slice none 0 0,.slice none 0 0,.slice none 0 0]) ?_ 2 _ rfl;(with_reducible repeat(first|refine jp ?_ _|refine jl ?_|refine jn ?_ _));refine jt (cs:=#[.slice Ao12 t255.length co12,.slice none 0 0,.slice none 0 0,.slice none 0 0,.slice none 0 0]) ?_ 1 _ rfl;(with_reducible repeat(first|refine jp ?_ _|refine jl ?_|refine jn ?_ _));refine jt (cs:=#[.slice none 0 0,.slice none 0 0,.slice none 0 0,.slice none 0 0,.slice none 0 0]) ?_ 0 _ rfl;exact bu_ BK280.out) hb) (ji T24_ hb);clear HO257 HO260 HO263 HO266 HO269 HO272 HO275 HO278 BK280 HB;obtain⟨HO257,HO260,HO263,HO266,HO269,HO272,HO275,HO278,HO283,BK280,HB⟩:=n_;clear hb ho19)|(refine gd_ 35 ?_;refine Kd.R_make (jb .i64) _ 3 rfl (N:=35) rfl 24 _ _ rfl a1 rfl rfl Try.underlying24 (.int .i64 0) 8 info3 rfl T3_ T2_ 0 (ok:=fun _=>True) (okp:=fun _=>True) rfl (fun _ hk=>hk) trivial (od_) (Nat.le_trans (Nat.mul_le_mul_right _ (od_:a1.toNat≤35184372088832)) T2_) (Below.refl _ _) (Nat.le_refl _) ?_;intro v285 w20 ho21 hb hg_ hnew_;clear hg_ hnew_;(first|rw[←Ny284.out] at ho21|(simp only[Int.reduceToNat] at ho21;rw[←Ny284.out] at ho21));have n_:=P12_ (jd (ru_ HO257.out) hb) (jd (ru_ HO260.out) hb) (jA (su_ HO263.out) hb) (jg (ru_ HO266.out) (jf ho21) hb) (jg (ru_ HO269.out) (jf ho21) hb) (jg (ru_ HO272.out) (jf ho21) hb) (jg (ru_ HO275.out) (jf ho21) hb) (jI (su_ HO278.out) (jf ho21) hb) (jg (ru_ HO283.out) (jf ho21) hb) (jm (jk (jk (jk (jk (jk ho21 (jj (ru_ HO266.out))) (jj (ru_ HO269.out))) (jj (ru_ HO272.out))) (jj (ru_ HO275.out))) (jj (ru_ HO283.out))) (ja T24_)) (jr (bu_ BK280.out) hb) (ji T24_ hb);clear HO257 HO260 HO263 HO266 HO269 HO272 HO275 HO278 HO283 BK280 HB;obtain⟨HO257,HO260,HO263,HO266,HO269,HO272,HO275,HO278,HO283,HO286,BK280,HB⟩:=n_;clear hb ho21;obtain⟨Ao22,co22,eo22⟩:=jo HO272.out;subst eo22))
 go_loopg [38] k (fun kq v38 w'=>∃ (x13_1:List Int) (x14_1:List Int) (x38_1:Int),v38 = .int .i64 x38_1∧Aside0 (riffle_Order.l0 kq t276 x13_1 x14_1 t270 (t270.length:Int) x38_1 t255 t258 t261 t264 t267=some (r1,r2))∧Aside0 (kq≤k)∧Aside0 (Kd.S (jy 3 (jb .i64)) 24 w' w.heap.size (fun k_=>ne_ k_ v282∧ne_ k_ v285∧ne_ k_ (.slice Ao22 t270.length co22)∧ne_ k_ (.slice Ao16 t264.length co16)∧ne_ k_ (.slice Ao17 t267.length co17)) v277 t276)∧Aside0 (ju (jb .i64) 3 w' w.heap.size (fun k_=>ne_ k_ v285∧ne_ k_ (.slice Ao22 t270.length co22)∧ne_ k_ (.slice Ao16 t264.length co16)∧ne_ k_ (.slice Ao17 t267.length co17)) v282 x13_1)∧Aside0 (ju (jb .i64) 3 w' w.heap.size (fun k_=>ne_ k_ v282∧ne_ k_ (.slice Ao22 t270.length co22)∧ne_ k_ (.slice Ao16 t264.length co16)∧ne_ k_ (.slice Ao17 t267.length co17)) v285 x14_1)∧Aside0 (ju (jb .i64) 3 w' w.heap.size (fun k_=>ne_ k_ v282∧ne_ k_ v285∧ne_ k_ (.slice Ao16 t264.length co16)∧ne_ k_ (.slice Ao17 t267.length co17)) (.slice Ao22 t270.length co22) t270)∧Aside0 (ju (jb .u8) 5 w' w.heap.size (fun k_=>ne_ k_ (.slice Ao14 t258.length co14)) (.slice Ao12 t255.length co12) t255)∧Aside0 (ju (jb .u8) 5 w' w.heap.size (fun k_=>ne_ k_ (.slice Ao12 t255.length co12)) (.slice Ao14 t258.length co14) t258)∧Aside0 (Kd.S (jy 5 (jb .u8)) 23 w' w.heap.size (fun k_=>ne_ k_ (.slice Ao12 t255.length co12)∧ne_ k_ (.slice Ao14 t258.length co14)) (.slice Ao15 t261.length co15) t261)∧Aside0 (ju (jb .i64) 3 w' w.heap.size (fun k_=>ne_ k_ v282∧ne_ k_ v285∧ne_ k_ (.slice Ao22 t270.length co22)∧ne_ k_ (.slice Ao17 t267.length co17)) (.slice Ao16 t264.length co16) t264)∧Aside0 (ju (jb .i64) 3 w' w.heap.size (fun k_=>ne_ k_ v282∧ne_ k_ v285∧ne_ k_ (.slice Ao22 t270.length co22)∧ne_ k_ (.slice Ao16 t264.length co16)) (.slice Ao17 t267.length co17) t267)∧Aside0 (w'.heap[gb280]? = some (.cells #[(.slice Ao12 t255.length co12),(.slice Ao14 t258.length co14),(.slice Ao15 t261.length co15),(.slice Ao16 t264.length co16),(.slice Ao17 t267.length co17)] 57 (0,0)))∧Aside0 (Below w.heap.size w w'))
 case atStart=>exact⟨(y281),(y284),(0),T9_,H',⟨Nat.le_refl _⟩,⟨su_ (jB HO278.out (fun _ hk=>⟨hk.1.2,⟨hk.2,⟨hk.1.1.2.2.1,⟨hk.1.1.1,hk.1.1.2.1⟩⟩⟩⟩))⟩,⟨ru_ (jc HO283.out (fun _ hk=>⟨hk.2,⟨hk.1.1.2,⟨hk.1.1.1.1.2,hk.1.1.1.2⟩⟩⟩))⟩,⟨ru_ (jc HO286.out (fun _ hk=>⟨hk.2,⟨hk.1.1.2,⟨hk.1.1.1.1.2,hk.1.1.1.2⟩⟩⟩))⟩,⟨ru_ (jc HO272.out (fun _ hk=>⟨hk.1.2,⟨hk.2,⟨hk.1.1.1,hk.1.1.2.1⟩⟩⟩))⟩,⟨ru_ HO257.out⟩,⟨ru_ HO260.out⟩,⟨su_ HO263.out⟩,⟨ru_ (jc HO266.out (fun _ hk=>⟨hk.1.2,⟨hk.2,⟨hk.1.1.2.1,hk.1.1.1⟩⟩⟩))⟩,⟨ru_ (jc HO269.out (fun _ hk=>⟨hk.1.2,⟨hk.2,⟨hk.1.1.2.1,hk.1.1.1⟩⟩⟩))⟩,⟨bu_ BK280.out⟩,⟨T24_⟩⟩
 clear H'
 (try clear c5);(try clear c5b0 c5b1);(try clear c6);(try clear c6b0 c6b1);(try clear c7);(try clear c7b0 c7b1);(try clear c8);(try clear c8b0 c8b1);(try clear c9);(try clear c9b0 c9b1);(try clear hcz13_0 hcz13_1 hcz13_2 hcz13_3 hcz13_4 hfz13_0 hfz13_1 hfz13_2 hfz13_3 hfz13_4);(try clear BK280)
 obtain⟨x13_1,x14_1,x38_1,rfl,HA,HK1,HO_11,HO_13,HO_14,HO_36,HO_281000,HO_281001,HO_281002,HO_281003,HO_281004,BK280,HB⟩:=hrel
 cases gk with
 | zero=>exact absurd HA.out (by simp[riffle_Order.l0])
 | succ k1 =>
  have H:=HA.out
  clear HA
  simp only[riffle_Order.l0] at H
  by_cases c23:x38_1<(t270.length:Int)
  rotate_left
  ·rw[if_neg c23] at H
   have c23b0:=decide_eq_false c23
   clear c23
   obtain⟨rfl,rfl⟩:=sj2_ H
   go_wp2
   go_ret2
   exact⟨_,T14_,ru_ (jc HO_14.out (fun _ hk=>trivial)),T24_⟩
  rw[if_pos c23] at H
  have c23b0:=decide_eq_true c23
  clear c23
  replace H:=ifn_ H;obtain⟨c24,H⟩:=H
  have c24b0:=decide_eq_true c24
  clear c24
  replace H:=ifn_ H;obtain⟨c25,H⟩:=H
  have c25b0:=decide_eq_true c25
  clear c25
  replace H:=ifn_ H;obtain⟨c26,H⟩:=H
  have c26b0:=decide_eq_true c26
  clear c26
  replace H:=ifn_ H;obtain⟨c27,H⟩:=H
  have c27b0:=decide_eq_true c27
  clear c27
  replace H:=ifn_ H;obtain⟨c28,H⟩:=H
  have c28b0:=decide_eq_true c28
  clear c28
  replace H:=ifn_ H;obtain⟨c29,H⟩:=H
  have c29b0:=decide_eq_true c29
  clear c29
  replace H:=ifn_ H;obtain⟨c30,H⟩:=H
  have c30b0:=decide_eq_true c30
  clear c30
  replace H:=ifn_ H;obtain⟨c31,H⟩:=H
  have c31b0:=decide_eq_true c31
  clear c31
  replace H:=ifn_ H;obtain⟨c32,H⟩:=H
  have c32b0:=decide_eq_true c32
  clear c32
  obtain⟨y292,hy_⟩:∃ y_:List Int,y_=(x14_1.set (x38_1:Int).toNat (wrap64 ((rd t267 (rd t270 x38_1))+(rd (rd_L3 t276 (rd t270 x38_1)) (rd x13_1 (rd t270 x38_1)))))):=⟨_,rfl⟩
  replace H:(riffle_Order.l0 k1 t276 (x13_1.set ((rd t270 x38_1):Int).toNat (wrap64 ((rd x13_1 (rd t270 x38_1))+1))) y292 t270 (t270.length:Int) (wrap64 (x38_1+1)) t255 t258 t261 t264 t267)=some (r1,r2):=hyw_
  have Ny292:=am_ hy_
  clear hy_
  obtain⟨y294,hy_⟩:∃ y_:List Int,y_=(x13_1.set ((rd t270 x38_1):Int).toNat (wrap64 ((rd x13_1 (rd t270 x38_1))+1))):=⟨_,rfl⟩
  replace H:(riffle_Order.l0 k1 t276 y294 y292 t270 (t270.length:Int) (wrap64 (x38_1+1)) t255 t258 t261 t264 t267)=some (r1,r2):=hyw_
  have Ny294:=am_ hy_
  clear hy_
  have H':=am_ H
  clear H
  obtain⟨ad287,e287,hx287_0,p287,q287⟩:=ai_ (jh HO_36.out).2.2 x38_1
  cases e287
  try go_wp2
  have n_:=P11_ (Kd.S_drew HO_11.out) (jq HO_13.out) (jq HO_14.out) (jq HO_36.out) (jq HO_281000.out) (jq HO_281001.out) (Kd.S_drew HO_281002.out) (jq HO_281003.out) (jq HO_281004.out) (jl BK280.out) (jG HB.out)
  clear HO_11 HO_13 HO_14 HO_36 HO_281000 HO_281001 HO_281002 HO_281003 HO_281004 BK280 HB
  obtain⟨HO_11,HO_13,HO_14,HO_36,HO_281000,HO_281001,HO_281002,HO_281003,HO_281004,BK280,HB⟩:=n_
  obtain⟨ad288,e288,hx288_0,p288,q288⟩:=ai_ (jh HO_281004.out).2.2 (rd t270 x38_1)
  cases e288
  obtain⟨Ao36,co36,eo36⟩:=Kd.S_slice HO_11.out
  (first|subst eo36|(injection eo36 with f1_ f2_ f3_;have f4_:=f1_.symm;have f5_:=f3_.symm;clear f1_ f2_ f3_;subst f4_;subst f5_))
  have p289:0≤((rd t270 x38_1):Int):=od_
  have q289:(rd t270 x38_1)<(t276.length:Int):=od_
  obtain⟨ad289,A289_0,c289_0,e289,hx289_0,hl289_0,hi289_0⟩:=at_L3 (jM HO_11.out).2.2 (rd t270 x38_1) p289 q289
  cases e289
  obtain⟨ce289,hce289,hMe289,hcc289⟩:=Kd.S_get HO_11.out [] (rd t270 x38_1) p289 (by first|exact q289|exact od_|(have e_:=(jM HO_11.out).1;omega))
  obtain⟨ve289_0,rfl,ge289_0⟩:=hMe289
  have hv289_0:=hcc289 0 _ rfl
  rw[Nat.add_zero,show((jy 3 (jb .i64))).sz=1 from rfl,Nat.mul_one] at hv289_0
  replace hv289_0:=Option.some.inj (hv289_0.symm.trans hx289_0)
  rw[hv289_0] at ge289_0
  have HL289_0:=am_ (show ju (jb .i64) 3 _ _ _ _ (rd_L3 t276 (rd t270 x38_1)) from ge289_0)
  clear hv289_0 ge289_0 hcc289 hce289
  have HR289_0:=am_ hi289_0
  have HC289_0:=am_ hl289_0
  clear hi289_0 hl289_0
  replace p289:=eq_true p289
  replace q289:=eq_true q289
  obtain⟨Ao37,co37,eo37⟩:=jo HO_13.out
  (first|subst eo37|(injection eo37 with f1_ f2_ f3_;have f4_:=f1_.symm;have f5_:=f3_.symm;clear f1_ f2_ f3_;subst f4_;subst f5_))
  obtain⟨ad290,e290,hx290_0,p290,q290⟩:=ai_ (jh HO_13.out).2.2 (rd t270 x38_1)
  cases e290
  obtain⟨ad291,e291,hx291_0,p291,q291⟩:=ai_ HR289_0.out (rd x13_1 (rd t270 x38_1))
  cases e291
  have p33:0≤(x38_1:Int):=od_
  have q33:(x38_1:Int)<((x14_1.length:Int):Int):=od_
  obtain⟨go33,co33,eo33,gb33,gl33,cl33,HG33⟩:=Kd.R_form HO_14.out T2_
  (first|cases eo33|(injection eo33 with ea_ en_ ec_;(first|subst ea_|(injection ea_ with ea_;subst ea_));subst ec_;clear en_))
  have GB33:=am_ gb33
  have GG33:=am_ HG33
  clear gb33 gl33 HG33
  obtain⟨hx33_0,hf33_0⟩:=Kd.R_celln 0 HO_14.out (x38_1:Int) p33 q33
  replace p33:=eq_true p33
  replace q33:=eq_true q33
  have HP38:=Kd.R_putn HO_14.out (x38_1:Int) (wrap64 ((rd t267 (rd t270 x38_1))+(rd (rd_L3 t276 (rd t270 x38_1)) (rd x13_1 (rd t270 x38_1)))))
  rw[←Ny292.out] at HP38
  have HQ38:=am_ HP38
  clear HP38
  refine start_ (n:=20) (S:=fun w'=>w'.cell? ⟨gb280,0,none⟩=some (.slice Ao12 t255.length co12)∧w'.cell? ⟨gb280,1,none⟩=some (.slice Ao14 t258.length co14)∧w'.cell? ⟨gb280,2,none⟩=some (.slice Ao15 t261.length co15)∧w'.cell? ⟨gb280,3,none⟩=some (.slice Ao16 t264.length co16)∧w'.cell? ⟨gb280,4,none⟩=some (.slice (some ad288) t267.length co17)∧w'.cell? (ad288.add ((rd t270 x38_1)).toNat)=some (.int .i64 (rd t267 (rd t270 x38_1)))∧w'.cell? (ad289.add ((rd t270 x38_1)).toNat)=some (.slice (some ad291) (rd_L3 t276 (rd t270 x38_1)).length c289_0)∧w'.cell? (ad290.add ((rd t270 x38_1)).toNat)=some (.int .i64 (rd x13_1 (rd t270 x38_1)))∧w'.cell? (ad291.add ((rd x13_1 (rd t270 x38_1))).toNat)=some (.int .i64 (rd (rd_L3 t276 (rd t270 x38_1)) (rd x13_1 (rd t270 x38_1))))) (ds:=[19]) #[false,false,false,false,false,false,false,false,false,false,false,false,false,false,false,false,false,false,false,false] T4_ rfl rfl ⟨bc_ BK280.out 0,bc_ BK280.out 1,bc_ BK280.out 2,bc_ BK280.out 3,bc_ BK280.out 4,hx288_0,hx289_0,hx290_0,hx291_0⟩ (fun hHeld=>?_);refine with_tabW riffle_Order.tab9 riffle_Order.bits9 (fun HT_ HW_=>?_)
  generalize wr.drew=w35 at HO_11 HO_13 HO_14 HO_36 HO_281000 HO_281001 HO_281002 HO_281003 HO_281004 BK280 HB GG33 HL289_0 HQ38 HR289_0 hf33_0 hx288_0 hx289_0 hx290_0 hx291_0 hx33_0 hHeld ⊢
  refine pz_ 0 (some 43) ?_
  refine pz_ 1 (some 44) ?_
  refine pz_ 2 (some 45) ?_
  refine pz_ 4 (some 47) ?_
  refine pz_ 7 (some 50) ?_
  refine pz_ 8 (some 51) ?_
  refine pz_ 9 (some 52) ?_
  refine pz_ 11 (some 54) ?_
  refine pz_ 12 (some 55) ?_
  refine pz_ 13 (some 56) ?_
  refine tz9_ 3 (some 46) hHeld ?_
  refine pz_ 5 (some 48) ?_
  refine tz9_ 6 (some 49) hHeld ?_
  refine tz9_ 10 (some 53) hHeld ?_
  refine tz9_ 14 (some 57) hHeld ?_
  refine pz_ 15 (some 58) ?_
  refine tz9_ 16 (some 59) hHeld ?_
  refine pz_ 17 (some 60) ?_
  refine pz_ 18 (some 61) ?_
  refine last_ (i:=19) (N:=none) #[true,true,true,true,true,true,true,true,true,true,true,true,true,true,true,true,true,true,true,true] rfl rfl (one_of HT_.out T4_) T3_ (fun K hK=>?_)
  refine skip_ (w1:=?_) T0_ rfl ?_ ?_
  rotate_left
  ·go_simp
   rfl
  refine hK.out _ _ ?_
  clear hK K
  refine done_ (done_of HT_.out T4_) ?_
  have n0_:Aside0 (Kd.S (jy 3 (jb .i64)) 24 (w35.setCell ⟨go33,(x38_1:Int).toNat,none⟩ (.int .i64 (wrap64 ((rd t267 (rd t270 x38_1))+(rd (rd_L3 t276 (rd t270 x38_1)) (rd x13_1 (rd t270 x38_1))))))) w.heap.size (fun k_=>ne_ k_ (.slice (some ad290) x13_1.length co37)∧ne_ k_ (.slice (some ⟨go33,0,none⟩) x14_1.length co33)∧ne_ k_ (.slice (some ad287) t270.length co22)∧ne_ k_ (.slice Ao16 t264.length co16)∧ne_ k_ (.slice (some ad288) t267.length co17)) (.slice (some ad289) t276.length co36) t276):=⟨su_ (jB (jC (p:=⟨go33,(x38_1:Int).toNat,none⟩) (jB HO_11.out (fun k_ hk=>(⟨hk,fun e_=>hk.2.1 T5_⟩:_∧k_≠go33))) (fun _ hk=>hk.2) (.int .i64 (wrap64 ((rd t267 (rd t270 x38_1))+(rd (rd_L3 t276 (rd t270 x38_1)) (rd x13_1 (rd t270 x38_1))))))) (fun _ hk=>⟨hk.1.1,⟨hk.1.2.1,⟨hk.1.2.2.1,⟨hk.1.2.2.2.1,hk.1.2.2.2.2⟩⟩⟩⟩))⟩
  have n1_:Aside0 (ju (jb .i64) 3 (w35.setCell ⟨go33,(x38_1:Int).toNat,none⟩ (.int .i64 (wrap64 ((rd t267 (rd t270 x38_1))+(rd (rd_L3 t276 (rd t270 x38_1)) (rd x13_1 (rd t270 x38_1))))))) w.heap.size (fun k_=>ne_ k_ (.slice (some ⟨go33,0,none⟩) x14_1.length co33)∧ne_ k_ (.slice (some ad287) t270.length co22)∧ne_ k_ (.slice Ao16 t264.length co16)∧ne_ k_ (.slice (some ad288) t267.length co17)) (.slice (some ad290) x13_1.length co37) x13_1):=⟨ru_ (jc (je (p:=⟨go33,(x38_1:Int).toNat,none⟩) (jc HO_13.out (fun k_ hk=>(⟨hk,fun e_=>hk.1 T5_⟩:_∧k_≠go33))) (fun _ hk=>hk.2) (.int .i64 (wrap64 ((rd t267 (rd t270 x38_1))+(rd (rd_L3 t276 (rd t270 x38_1)) (rd x13_1 (rd t270 x38_1))))))) (fun _ hk=>⟨hk.1.1,⟨hk.1.2.1,⟨hk.1.2.2.1,hk.1.2.2.2⟩⟩⟩))⟩
  have n2_:Aside0 (ju (jb .i64) 3 (w35.setCell ⟨go33,(x38_1:Int).toNat,none⟩ (.int .i64 (wrap64 ((rd t267 (rd t270 x38_1))+(rd (rd_L3 t276 (rd t270 x38_1)) (rd x13_1 (rd t270 x38_1))))))) w.heap.size (fun k_=>ne_ k_ (.slice (some ad290) x13_1.length co37)∧ne_ k_ (.slice (some ad287) t270.length co22)∧ne_ k_ (.slice Ao16 t264.length co16)∧ne_ k_ (.slice (some ad288) t267.length co17)) (.slice (some ⟨go33,0,none⟩) x14_1.length co33) y292):=⟨(by(with_reducible repeat(first|apply Kd.R_alloc|apply Kd.R_drewN|apply jq));exact HQ38.out)⟩
  have n3_:Aside0 (ju (jb .i64) 3 (w35.setCell ⟨go33,(x38_1:Int).toNat,none⟩ (.int .i64 (wrap64 ((rd t267 (rd t270 x38_1))+(rd (rd_L3 t276 (rd t270 x38_1)) (rd x13_1 (rd t270 x38_1))))))) w.heap.size (fun k_=>ne_ k_ (.slice (some ad290) x13_1.length co37)∧ne_ k_ (.slice (some ⟨go33,0,none⟩) x14_1.length co33)∧ne_ k_ (.slice Ao16 t264.length co16)∧ne_ k_ (.slice (some ad288) t267.length co17)) (.slice (some ad287) t270.length co22) t270):=⟨ru_ (jc (je (p:=⟨go33,(x38_1:Int).toNat,none⟩) (jc HO_36.out (fun k_ hk=>(⟨hk,fun e_=>hk.2.1 T5_⟩:_∧k_≠go33))) (fun _ hk=>hk.2) (.int .i64 (wrap64 ((rd t267 (rd t270 x38_1))+(rd (rd_L3 t276 (rd t270 x38_1)) (rd x13_1 (rd t270 x38_1))))))) (fun _ hk=>⟨hk.1.1,⟨hk.1.2.1,⟨hk.1.2.2.1,hk.1.2.2.2⟩⟩⟩))⟩
  have n4_:Aside0 (ju (jb .u8) 5 (w35.setCell ⟨go33,(x38_1:Int).toNat,none⟩ (.int .i64 (wrap64 ((rd t267 (rd t270 x38_1))+(rd (rd_L3 t276 (rd t270 x38_1)) (rd x13_1 (rd t270 x38_1))))))) w.heap.size (fun k_=>ne_ k_ (.slice Ao14 t258.length co14)) (.slice Ao12 t255.length co12) t255):=⟨ru_ (jc (je (p:=⟨go33,(x38_1:Int).toNat,none⟩) (js HO_281000.out GG33.out T3_) (fun _ hk=>hk.2) (.int .i64 (wrap64 ((rd t267 (rd t270 x38_1))+(rd (rd_L3 t276 (rd t270 x38_1)) (rd x13_1 (rd t270 x38_1))))))) (fun _ hk=>hk.1))⟩
  have n5_:Aside0 (ju (jb .u8) 5 (w35.setCell ⟨go33,(x38_1:Int).toNat,none⟩ (.int .i64 (wrap64 ((rd t267 (rd t270 x38_1))+(rd (rd_L3 t276 (rd t270 x38_1)) (rd x13_1 (rd t270 x38_1))))))) w.heap.size (fun k_=>ne_ k_ (.slice Ao12 t255.length co12)) (.slice Ao14 t258.length co14) t258):=⟨ru_ (jc (je (p:=⟨go33,(x38_1:Int).toNat,none⟩) (js HO_281001.out GG33.out T3_) (fun _ hk=>hk.2) (.int .i64 (wrap64 ((rd t267 (rd t270 x38_1))+(rd (rd_L3 t276 (rd t270 x38_1)) (rd x13_1 (rd t270 x38_1))))))) (fun _ hk=>hk.1))⟩
  have n6_:Aside0 (Kd.S (jy 5 (jb .u8)) 23 (w35.setCell ⟨go33,(x38_1:Int).toNat,none⟩ (.int .i64 (wrap64 ((rd t267 (rd t270 x38_1))+(rd (rd_L3 t276 (rd t270 x38_1)) (rd x13_1 (rd t270 x38_1))))))) w.heap.size (fun k_=>ne_ k_ (.slice Ao12 t255.length co12)∧ne_ k_ (.slice Ao14 t258.length co14)) (.slice Ao15 t261.length co15) t261):=⟨su_ (jB (jC (p:=⟨go33,(x38_1:Int).toNat,none⟩) (Kd.S_types HO_281002.out GG33.out T3_) (fun _ hk=>hk.2) (.int .i64 (wrap64 ((rd t267 (rd t270 x38_1))+(rd (rd_L3 t276 (rd t270 x38_1)) (rd x13_1 (rd t270 x38_1))))))) (fun _ hk=>⟨hk.1.1,hk.1.2⟩))⟩
  have n7_:Aside0 (ju (jb .i64) 3 (w35.setCell ⟨go33,(x38_1:Int).toNat,none⟩ (.int .i64 (wrap64 ((rd t267 (rd t270 x38_1))+(rd (rd_L3 t276 (rd t270 x38_1)) (rd x13_1 (rd t270 x38_1))))))) w.heap.size (fun k_=>ne_ k_ (.slice (some ad290) x13_1.length co37)∧ne_ k_ (.slice (some ⟨go33,0,none⟩) x14_1.length co33)∧ne_ k_ (.slice (some ad287) t270.length co22)∧ne_ k_ (.slice (some ad288) t267.length co17)) (.slice Ao16 t264.length co16) t264):=⟨ru_ (jc (je (p:=⟨go33,(x38_1:Int).toNat,none⟩) (jc HO_281003.out (fun k_ hk=>(⟨hk,fun e_=>hk.2.1 T5_⟩:_∧k_≠go33))) (fun _ hk=>hk.2) (.int .i64 (wrap64 ((rd t267 (rd t270 x38_1))+(rd (rd_L3 t276 (rd t270 x38_1)) (rd x13_1 (rd t270 x38_1))))))) (fun _ hk=>⟨hk.1.1,⟨hk.1.2.1,⟨hk.1.2.2.1,hk.1.2.2.2⟩⟩⟩))⟩
  have n8_:Aside0 (ju (jb .i64) 3 (w35.setCell ⟨go33,(x38_1:Int).toNat,none⟩ (.int .i64 (wrap64 ((rd t267 (rd t270 x38_1))+(rd (rd_L3 t276 (rd t270 x38_1)) (rd x13_1 (rd t270 x38_1))))))) w.heap.size (fun k_=>ne_ k_ (.slice (some ad290) x13_1.length co37)∧ne_ k_ (.slice (some ⟨go33,0,none⟩) x14_1.length co33)∧ne_ k_ (.slice (some ad287) t270.length co22)∧ne_ k_ (.slice Ao16 t264.length co16)) (.slice (some ad288) t267.length co17) t267):=⟨ru_ (jc (je (p:=⟨go33,(x38_1:Int).toNat,none⟩) (jc HO_281004.out (fun k_ hk=>(⟨hk,fun e_=>hk.2.1 T5_⟩:_∧k_≠go33))) (fun _ hk=>hk.2) (.int .i64 (wrap64 ((rd t267 (rd t270 x38_1))+(rd (rd_L3 t276 (rd t270 x38_1)) (rd x13_1 (rd t270 x38_1))))))) (fun _ hk=>⟨hk.1.1,⟨hk.1.2.1,⟨hk.1.2.2.1,hk.1.2.2.2⟩⟩⟩))⟩
  have n9_:Aside0 (ju (jb .i64) 3 (w35.setCell ⟨go33,(x38_1:Int).toNat,none⟩ (.int .i64 (wrap64 ((rd t267 (rd t270 x38_1))+(rd (rd_L3 t276 (rd t270 x38_1)) (rd x13_1 (rd t270 x38_1))))))) w.heap.size (fun k_=>ne_ k_ (.slice (some ad289) t276.length co36)∧ne_ k_ (.slice (some ad290) x13_1.length co37)∧ne_ k_ (.slice (some ⟨go33,0,none⟩) x14_1.length co33)∧ne_ k_ (.slice (some ad287) t270.length co22)∧ne_ k_ (.slice Ao16 t264.length co16)∧ne_ k_ (.slice (some ad288) t267.length co17)) (.slice (some ad291) (rd_L3 t276 (rd t270 x38_1)).length c289_0) (rd_L3 t276 (rd t270 x38_1))):=⟨ru_ (jc (je (p:=⟨go33,(x38_1:Int).toNat,none⟩) (jc HL289_0.out (fun k_ hk=>(⟨hk,fun e_=>hk.1.2.1 T5_⟩:_∧k_≠go33))) (fun _ hk=>hk.2) (.int .i64 (wrap64 ((rd t267 (rd t270 x38_1))+(rd (rd_L3 t276 (rd t270 x38_1)) (rd x13_1 (rd t270 x38_1))))))) (fun _ hk=>⟨hk.1.2,⟨hk.1.1.1,⟨hk.1.1.2.1,⟨hk.1.1.2.2.1,⟨hk.1.1.2.2.2.1,hk.1.1.2.2.2.2⟩⟩⟩⟩⟩))⟩
  have n10_:Aside0 ((w35.setCell ⟨go33,(x38_1:Int).toNat,none⟩ (.int .i64 (wrap64 ((rd t267 (rd t270 x38_1))+(rd (rd_L3 t276 (rd t270 x38_1)) (rd x13_1 (rd t270 x38_1))))))).heap[gb280]? = some (.cells #[.slice Ao12 t255.length co12,.slice Ao14 t258.length co14,.slice Ao15 t261.length co15,.slice Ao16 t264.length co16,.slice (some ad288) t267.length co17] 57 (0,0))):=⟨(by(with_reducible repeat(first|refine jp ?_ _|refine jl ?_|refine jn ?_ _));refine blk_far ?_ (by have h_:=Kd.R_ne HO_14.out BK280.out T3_;intro e_;exact h_ T5_) _;exact bu_ BK280.out)⟩
  have n11_:Aside0 (Below w.heap.size w (w35.setCell ⟨go33,(x38_1:Int).toNat,none⟩ (.int .i64 (wrap64 ((rd t267 (rd t270 x38_1))+(rd (rd_L3 t276 (rd t270 x38_1)) (rd x13_1 (rd t270 x38_1)))))))):=⟨(by repeat(first|(with_reducible first|exact HB.out|apply below_alloc|apply pw_below_drewN|apply jG|refine jJ ?_ GB33.out|refine jJ ?_ GE280.out)|exact HB.out))⟩
  (try clear HO_11);(try clear HO_13);(try clear HO_14);(try clear HO_36);(try clear HO_281000);(try clear HO_281001);(try clear HO_281002);(try clear HO_281003);(try clear HO_281004);(try clear HL289_0);(try clear BK280);(try clear HB)
  generalize (w35.setCell ⟨go33,(x38_1:Int).toNat,none⟩ (.int .i64 (wrap64 ((rd t267 (rd t270 x38_1))+(rd (rd_L3 t276 (rd t270 x38_1)) (rd x13_1 (rd t270 x38_1)))))))=w39 at n0_ n1_ n2_ n3_ n4_ n5_ n6_ n7_ n8_ n9_ n10_ n11_ ⊢
  have HO_11:=n0_
  have HO_13:=n1_
  have HO_14:=n2_
  have HO_36:=n3_
  have HO_281000:=n4_
  have HO_281001:=n5_
  have HO_281002:=n6_
  have HO_281003:=n7_
  have HO_281004:=n8_
  have HL289_0:=n9_
  have BK280:=n10_
  have HB:=n11_
  clear n0_ n1_ n2_ n3_ n4_ n5_ n6_ n7_ n8_ n9_ n10_ n11_
  have p293:0≤((rd t270 x38_1):Int):=od_
  have q293:(rd t270 x38_1)<(x13_1.length:Int):=od_
  obtain⟨ad293,e293,hx293_0⟩:=jH (jh HO_13.out).2.2 (rd t270 x38_1) p293 q293
  obtain rfl:ad290=ad293:=(by injection e293)
  replace p293:=eq_true p293
  replace q293:=eq_true q293
  have p34:0≤((rd t270 x38_1):Int):=od_
  have q34:((rd t270 x38_1):Int)<((x13_1.length:Int):Int):=od_
  obtain⟨go34,co34,eo34,gb34,gl34,cl34,HG34⟩:=Kd.R_form HO_13.out T2_
  (first|cases eo34|(injection eo34 with ea_ en_ ec_;(first|subst ea_|(injection ea_ with ea_;subst ea_));subst ec_;clear en_))
  have GB34:=am_ gb34
  have GG34:=am_ HG34
  clear gb34 gl34 HG34
  (first|simp only[add_plain] at hx290_0|skip)
  (first|simp only[add_plain] at hx293_0|skip)
  obtain⟨hx34_0,hf34_0⟩:=Kd.R_celln 0 HO_13.out ((rd t270 x38_1):Int) p34 q34
  replace p34:=eq_true p34
  replace q34:=eq_true q34
  obtain⟨hy40_,hz40_⟩:=Kd.R_celln 0 HO_13.out ((rd t270 x38_1):Int) (od_) (od_)
  have HP40:=Kd.R_putg HO_13.out ((rd t270 x38_1):Int) (wrap64 ((rd x13_1 (rd t270 x38_1))+1))
  try go_wp2_with(first|(refine gs_ 3 67 ?_;refine store_event (t:=3) (p:=67) (v:=?vo_w41) (w1:=(w39.setCell ⟨go34,((rd t270 x38_1):Int).toNat,none⟩ (.int .i64 (wrap64 ((rd x13_1 (rd t270 x38_1))+1))))) ?hg ?ho ?hn ?hr ?_;(case ho=>rfl);(case hg=>rfl);(case hn=>rfl);(case hr=>first|(go_simp;done)|(go_simp;rfl));intro w41 hw;have hg:w39.grownBy w41 (some go34):=(by rw[hw];exact HP40.2);have hp_:ju (jb .i64) 3 w41 w.heap.size (fun k_=>ne_ k_ (.slice (some ⟨go33,0,none⟩) x14_1.length co33)∧ne_ k_ (.slice (some ad287) t270.length co22)∧ne_ k_ (.slice Ao16 t264.length co16)∧ne_ k_ (.slice (some ad288) t267.length co17)) (.slice (some ⟨go34,0,none⟩) x13_1.length co37) y294:=(by rw[hw,Ny294.out];exact HP40.1);clear HP40;have n_:=P12_ (Kd.S_after (v:=(.slice (some ⟨go34,0,none⟩) x13_1.length co37)) (v1:=(.slice (some ⟨go34,0,none⟩) x13_1.length co37)) (ok:=(fun k_=>ne_ k_ (.slice (some ⟨go33,0,none⟩) x14_1.length co33)∧ne_ k_ (.slice (some ad287) t270.length co22)∧ne_ k_ (.slice Ao16 t264.length co16)∧ne_ k_ (.slice (some ad288) t267.length co17))) (su_ (jB HO_11.out (fun _ hk=>⟨⟨hk.2.1,⟨hk.2.2.1,⟨hk.2.2.2.1,hk.2.2.2.2⟩⟩⟩,hk.1⟩))) hg (.inl rfl)) (hp_) (jw (v:=(.slice (some ⟨go34,0,none⟩) x13_1.length co37)) (v1:=(.slice (some ⟨go34,0,none⟩) x13_1.length co37)) (ok:=(fun k_=>ne_ k_ (.slice (some ad287) t270.length co22)∧ne_ k_ (.slice Ao16 t264.length co16)∧ne_ k_ (.slice (some ad288) t267.length co17))) (ru_ (jc HO_14.out (fun _ hk=>⟨⟨hk.2.1,⟨hk.2.2.1,hk.2.2.2⟩⟩,hk.1⟩))) hg (.inl rfl)) (jw (v:=(.slice (some ⟨go34,0,none⟩) x13_1.length co37)) (v1:=(.slice (some ⟨go34,0,none⟩) x13_1.length co37)) (ok:=(fun k_=>ne_ k_ (.slice (some ⟨go33,0,none⟩) x14_1.length co33)∧ne_ k_ (.slice Ao16 t264.length co16)∧ne_ k_ (.slice (some ad288) t267.length co17))) (ru_ (jc HO_36.out (fun _ hk=>⟨⟨hk.2.1,⟨hk.2.2.1,hk.2.2.2⟩⟩,hk.1⟩))) hg (.inl rfl)) (jx (v:=(.slice (some ⟨go34,0,none⟩) x13_1.length co37)) (ru_ HO_281000.out) (jz HO_13.out) T3_ hg) (jx (v:=(.slice (some ⟨go34,0,none⟩) x13_1.length co37)) (ru_ HO_281001.out) (jz HO_13.out) T3_ hg) (Kd.S_over' (v:=(.slice (some ⟨go34,0,none⟩) x13_1.length co37)) (su_ HO_281002.out) (jz HO_13.out) T3_ hg) (jw (v:=(.slice (some ⟨go34,0,none⟩) x13_1.length co37)) (v1:=(.slice (some ⟨go34,0,none⟩) x13_1.length co37)) (ok:=(fun k_=>ne_ k_ (.slice (some ⟨go33,0,none⟩) x14_1.length co33)∧ne_ k_ (.slice (some ad287) t270.length co22)∧ne_ k_ (.slice (some ad288) t267.length co17))) (ru_ (jc HO_281003.out (fun _ hk=>⟨⟨hk.2.1,⟨hk.2.2.1,hk.2.2.2⟩⟩,hk.1⟩))) hg (.inl rfl)) (jw (v:=(.slice (some ⟨go34,0,none⟩) x13_1.length co37)) (v1:=(.slice (some ⟨go34,0,none⟩) x13_1.length co37)) (ok:=(fun k_=>ne_ k_ (.slice (some ⟨go33,0,none⟩) x14_1.length co33)∧ne_ k_ (.slice (some ad287) t270.length co22)∧ne_ k_ (.slice Ao16 t264.length co16))) (ru_ (jc HO_281004.out (fun _ hk=>⟨⟨hk.2.1,⟨hk.2.2.1,hk.2.2.2⟩⟩,hk.1⟩))) hg (.inl rfl)) (blk_grown (g:=gb280) (o:=.cells #[.slice Ao12 t255.length co12,.slice Ao14 t258.length co14,.slice Ao15 t261.length co15,.slice Ao16 t264.length co16,.slice (some ad288) t267.length co17] 57 (0,0)) (bu_ BK280.out) hg (Kd.R_ne HO_13.out BK280.out T3_)) (jw (v:=(.slice (some ⟨go34,0,none⟩) x13_1.length co37)) (v1:=(.slice (some ⟨go34,0,none⟩) x13_1.length co37)) (ok:=(fun k_=>ne_ k_ (.slice (some ad289) t276.length co36)∧ne_ k_ (.slice (some ⟨go33,0,none⟩) x14_1.length co33)∧ne_ k_ (.slice (some ad287) t270.length co22)∧ne_ k_ (.slice Ao16 t264.length co16)∧ne_ k_ (.slice (some ad288) t267.length co17))) (ru_ (jc HL289_0.out (fun _ hk=>⟨⟨hk.1,⟨hk.2.2.1,⟨hk.2.2.2.1,⟨hk.2.2.2.2.1,hk.2.2.2.2.2⟩⟩⟩⟩,hk.2.1⟩))) hg (.inl rfl)) ((by rw[hw];exact jJ (HB.out) GB34.out:Below w.heap.size w w41));clear HO_11 HO_13 HO_14 HO_36 HO_281000 HO_281001 HO_281002 HO_281003 HO_281004 BK280 HL289_0 HB;obtain⟨HO_11,HO_13,HO_14,HO_36,HO_281000,HO_281001,HO_281002,HO_281003,HO_281004,BK280,HL289_0,HB⟩:=n_;clear hg hw hp_))
  go_roundg k1
  case measure=>have:=HK1.out;omega
  case rel=>exact⟨(y294),(y292),(wrap64 (x38_1+1)),T9_,H',⟨T7_⟩,⟨su_ (jB HO_11.out (fun _ hk=>⟨hk.2,⟨hk.1.1,⟨hk.1.2.1,⟨hk.1.2.2.1,hk.1.2.2.2⟩⟩⟩⟩))⟩,⟨ru_ HO_13.out⟩,⟨ru_ (jc HO_14.out (fun _ hk=>⟨hk.2,⟨hk.1.1,⟨hk.1.2.1,hk.1.2.2⟩⟩⟩))⟩,⟨ru_ (jc HO_36.out (fun _ hk=>⟨hk.2,⟨hk.1.1,⟨hk.1.2.1,hk.1.2.2⟩⟩⟩))⟩,⟨ru_ HO_281000.out⟩,⟨ru_ HO_281001.out⟩,⟨su_ HO_281002.out⟩,⟨ru_ (jc HO_281003.out (fun _ hk=>⟨hk.2,⟨hk.1.1,⟨hk.1.2.1,hk.1.2.2⟩⟩⟩))⟩,⟨ru_ (jc HO_281004.out (fun _ hk=>⟨hk.2,⟨hk.1.1,⟨hk.1.2.1,hk.1.2.2⟩⟩⟩))⟩,⟨bu_ BK280.out⟩,⟨T24_⟩⟩
def perm_fits.l0:Nat→List Int→List Bool→List Int→Int→Int→Option (Bool)
 | 0,_,_,_,_,_=>none
 | k+1,x0,x3,x9,x10,x11=>if x11<x10 then(if 0≤x11 then(if x11<(x9.length:Int) then(if(rd x9 x11)<0 then(some false) else(if(rd x9 x11) ≥ (x0.length:Int) then(some false) else(if 0≤(rd x9 x11) then(if(rd x9 x11)<(x3.length:Int) then(if rdOf false x3 (rd x9 x11)=true then(some false) else(perm_fits.l0 k x0 (x3.set ((rd x9 x11):Int).toNat true) x9 x10 (wrap64 (x11+1)))) else(none)) else(none)))) else(none)) else(none)) else(some true)
def perm_fits.f (k:Nat) (l0:List Int):Option (Bool):=if 0≤(l0.length:Int) then(if((l0.length:Int):Int).toNat≤281474976710656 then(perm_fits.l0 k l0 (List.replicate ((l0.length:Int):Int).toNat false) l0 (l0.length:Int) 0) else(none)) else(none)
theorem perm_fits.mono_l:∀ k,(∀ y0 y1 y2 y3 y4,LeO (perm_fits.l0 k y0 y1 y2 y3 y4) (perm_fits.l0 (k+1) y0 y1 y2 y3 y4))
 | 0=>fun _ _ _ _ _ r h=>by simp[perm_fits.l0] at h
 | k+1=>by
  have ih0:=perm_fits.mono_l k
  intro y0 y1 y2 y3 y4
  unfold perm_fits.l0
  with_reducible repeat' first|exact ih0 _ _ _ _ _|exact LeO.refl _|exact LeO.none _|refine LeO.ite ?_ ?_|refine LeO.bind ?_ (fun _=>?_)
theorem perm_fits.mono:∀ a0 k,LeO (perm_fits.f k a0) (perm_fits.f (k+1) a0):=by
 intro a0 k
 have ih0:=perm_fits.mono_l k
 unfold perm_fits.f
 with_reducible repeat' first|exact ih0 _ _ _ _ _|exact LeO.refl _|exact LeO.none _|refine LeO.ite ?_ ?_|refine LeO.bind ?_ (fun _=>?_)
set_option maxHeartbeats 8000000 in
set_option maxRecDepth 100000 in
theorem perm_fits.calls (k:Nat) (A0:Option Addr) (c0:Nat) (l0:List Int) (r:Bool) (w:World) (hr0:Kd.C (jb .i64) w A0 l0.length l0) (hc0:l0.length≤c0) (h:perm_fits.f k l0=some r) :
  Calls Try.prog 39 #[.slice A0 l0.length c0] w fun e w'=>e = .returned (.bool r)∧Below w.heap.size w w':=by
 have HR0:=am_ hr0
 have HC0:=am_ hc0
 clear hr0 hc0
 have HB:=am_ (Below.refl w.heap.size w)
 have H:(if 0≤(l0.length:Int) then(if((l0.length:Int):Int).toNat≤281474976710656 then(perm_fits.l0 k l0 (List.replicate ((l0.length:Int):Int).toNat false) l0 (l0.length:Int) 0) else(none)) else(none))=some r:=h
 clear h
 replace H:=ifn_ H;obtain⟨c2,H⟩:=H
 have c2b0:=eq_true c2
 have c2b1:decide (0≤(l0.length:Int))=true:=decide_eq_true c2
 clear c2
 replace H:=ifn_ H;obtain⟨c3,H⟩:=H
 have c3b0:=eq_true c3
 have c3b1:decide (((l0.length:Int):Int).toNat≤281474976710656)=true:=decide_eq_true c3
 clear c3
 obtain⟨y295,hy_⟩:∃ y_:List Bool,y_=(List.replicate ((l0.length:Int):Int).toNat false):=⟨_,rfl⟩
 replace H:(perm_fits.l0 k l0 y295 l0 (l0.length:Int) 0)=some r:=hyw_
 have Ny295:=am_ hy_
 clear hy_
 have H':=am_ H
 clear H
 go_enter Try.func39,Try.ntmps39
 go_wp2_with(first|(refine gd_ 8 ?_;(try(refine gate_guard T0_ ?_;dsimp only));refine Kd.R_make Kd.bool _ 4 rfl (N:=8) rfl 95 _ _ rfl (l0.length:Int) rfl rfl Try.underlying95 (.bool false) 1 info4 rfl T3_ T2_ false (ok:=fun _=>True) (okp:=fun _=>True) rfl (fun _ hk=>hk) trivial (od_) (Nat.le_trans (Nat.mul_le_mul_right _ (od_:(l0.length:Int).toNat≤281474976710656)) T2_) (Below.refl _ _) (Nat.le_refl _) ?_;intro v296 w4 ho5 hb hg_ hnew_;clear hg_ hnew_;(first|rw[←Ny295.out] at ho5|(simp only[Int.reduceToNat] at ho5;rw[←Ny295.out] at ho5));have n_:=P2_ (jm ho5 (ja T16_)) (ji T16_ hb);clear HB;obtain⟨HO297,HB⟩:=n_;clear hb ho5))
 go_loopg [11] k (fun kq v11 w'=>∃ (x3_1:List Bool) (x11_1:Int),v11 = .int .i64 x11_1∧Aside0 (perm_fits.l0 kq l0 x3_1 l0 (l0.length:Int) x11_1=some r)∧Aside0 (kq≤k)∧Aside0 (ju Kd.bool 4 w' w.heap.size (fun _=>True) v296 x3_1)∧Aside0 (Below w.heap.size w w'))
 case atStart=>exact⟨(y295),(0),T9_,H',⟨Nat.le_refl _⟩,⟨ru_ HO297.out⟩,⟨T16_⟩⟩
 clear H'
 (try clear c2);(try clear c2b0 c2b1);(try clear c3);(try clear c3b0 c3b1)
 obtain⟨x3_1,x11_1,rfl,HA,HK1,HO_3,HB⟩:=hrel
 cases gk with
 | zero=>exact absurd HA.out (by simp[perm_fits.l0])
 | succ k1 =>
  have H:=HA.out
  clear HA
  simp only[perm_fits.l0] at H
  by_cases c6:x11_1<(l0.length:Int)
  rotate_left
  ·rw[if_neg c6] at H
   have c6b0:=decide_eq_false c6
   clear c6
   obtain rfl:=Option.some.inj H
   obtain⟨rfl⟩:=sj1_ H
   go_wp2
   go_ret
   exact⟨T14_,T16_⟩
  rw[if_pos c6] at H
  have c6b0:=decide_eq_true c6
  clear c6
  replace H:=ifn_ H;obtain⟨c7,H⟩:=H
  have c7b0:=decide_eq_true c7
  clear c7
  replace H:=ifn_ H;obtain⟨c8,H⟩:=H
  have c8b0:=decide_eq_true c8
  clear c8
  by_cases c9:(rd l0 x11_1)<0
  ·rw[if_pos c9] at H
   have c9b0:=decide_eq_true c9
   clear c9
   obtain rfl:=Option.some.inj H
   obtain⟨rfl⟩:=sj1_ H
   have p298:0≤(x11_1:Int):=od_
   have q298:x11_1<(l0.length:Int):=od_
   obtain⟨ad298,e298,hx298_0⟩:=jH HR0.out x11_1 p298 q298
   cases e298
   (try(replace hx298_0:=(HB.out.cell (World.block_lt_of_cell? w _ hx298_0)).trans hx298_0))
   replace p298:=eq_true p298
   replace q298:=eq_true q298
   go_wp2
   go_ret
   exact⟨T14_,T16_⟩
  rw[if_neg c9] at H
  have c9b0:=decide_eq_false c9
  clear c9
  by_cases c10:(rd l0 x11_1) ≥ (l0.length:Int)
  ·rw[if_pos c10] at H
   have c10b0:=decide_eq_true c10
   clear c10
   obtain rfl:=Option.some.inj H
   obtain⟨rfl⟩:=sj1_ H
   have p298:0≤(x11_1:Int):=od_
   have q298:x11_1<(l0.length:Int):=od_
   obtain⟨ad298,e298,hx298_0⟩:=jH HR0.out x11_1 p298 q298
   cases e298
   (try(replace hx298_0:=(HB.out.cell (World.block_lt_of_cell? w _ hx298_0)).trans hx298_0))
   replace p298:=eq_true p298
   replace q298:=eq_true q298
   go_wp2
   go_ret
   exact⟨T14_,T16_⟩
  rw[if_neg c10] at H
  have c10b0:=decide_eq_false c10
  clear c10
  replace H:=ifn_ H;obtain⟨c11,H⟩:=H
  have c11b0:=decide_eq_true c11
  clear c11
  replace H:=ifn_ H;obtain⟨c12,H⟩:=H
  have c12b0:=decide_eq_true c12
  clear c12
  obtain⟨bq13,hbq13⟩:∃ b_:Bool,b_=(rdOf false x3_1 (rd l0 x11_1)):=⟨_,rfl⟩
  replace H:(if bq13=true then(some false) else(perm_fits.l0 k1 l0 (x3_1.set ((rd l0 x11_1):Int).toNat true) l0 (l0.length:Int) (wrap64 (x11_1+1))))=some r:=by rw[←hbq13] at H;exact H
  have Nbq13:=am_ hbq13
  clear hbq13
  by_cases c14:bq13=true
  ·subst c14
   have H1:(some false)=some r:=by rw[if_pos rfl] at H;exact H
   clear H
   have H:=H1
   clear H1
   obtain rfl:=Option.some.inj H
   obtain⟨rfl⟩:=sj1_ H
   have p298:0≤(x11_1:Int):=od_
   have q298:x11_1<(l0.length:Int):=od_
   obtain⟨ad298,e298,hx298_0⟩:=jH HR0.out x11_1 p298 q298
   cases e298
   (try(replace hx298_0:=(HB.out.cell (World.block_lt_of_cell? w _ hx298_0)).trans hx298_0))
   replace p298:=eq_true p298
   replace q298:=eq_true q298
   obtain⟨Ao15,co15,eo15⟩:=jo HO_3.out
   subst eo15
   have p299:0≤((rd l0 x11_1):Int):=od_
   have q299:(rd l0 x11_1)<(x3_1.length:Int):=od_
   obtain⟨ad299,e299,hx299_0⟩:=Kd.at_bool (jh HO_3.out).2.2 (rd l0 x11_1) p299 q299
   (try rw[←Nbq13.out] at hx299_0)
   cases e299
   replace p299:=eq_true p299
   replace q299:=eq_true q299
   go_wp2
   go_ret
   exact⟨T14_,T16_⟩
  replace c14:=Bool.eq_false_iff.mpr c14
  subst c14
  have H1:(perm_fits.l0 k1 l0 (x3_1.set ((rd l0 x11_1):Int).toNat true) l0 (l0.length:Int) (wrap64 (x11_1+1)))=some r:=by rw[if_neg (show ¬ (false=true) by decide)] at H;exact H
  clear H
  have H:=H1
  clear H1
  obtain⟨y300,hy_⟩:∃ y_:List Bool,y_=(x3_1.set ((rd l0 x11_1):Int).toNat true):=⟨_,rfl⟩
  replace H:(perm_fits.l0 k1 l0 y300 l0 (l0.length:Int) (wrap64 (x11_1+1)))=some r:=hyw_
  have Ny300:=am_ hy_
  clear hy_
  have H':=am_ H
  clear H
  have p298:0≤(x11_1:Int):=od_
  have q298:x11_1<(l0.length:Int):=od_
  obtain⟨ad298,e298,hx298_0⟩:=jH HR0.out x11_1 p298 q298
  cases e298
  (try(replace hx298_0:=(HB.out.cell (World.block_lt_of_cell? w _ hx298_0)).trans hx298_0))
  replace p298:=eq_true p298
  replace q298:=eq_true q298
  obtain⟨Ao17,co17,eo17⟩:=jo HO_3.out
  subst eo17
  have p299:0≤((rd l0 x11_1):Int):=od_
  have q299:(rd l0 x11_1)<(x3_1.length:Int):=od_
  obtain⟨ad299,e299,hx299_0⟩:=Kd.at_bool (jh HO_3.out).2.2 (rd l0 x11_1) p299 q299
  (try rw[←Nbq13.out] at hx299_0)
  cases e299
  replace p299:=eq_true p299
  replace q299:=eq_true q299
  have p16:0≤((rd l0 x11_1):Int):=od_
  have q16:((rd l0 x11_1):Int)<((x3_1.length:Int):Int):=od_
  obtain⟨go16,co16,eo16,gb16,gl16,cl16,HG16⟩:=Kd.R_form HO_3.out T2_
  (first|cases eo16|(injection eo16 with ea_ en_ ec_;(first|subst ea_|(injection ea_ with ea_;subst ea_));subst ec_;clear en_))
  have GB16:=am_ gb16
  have GG16:=am_ HG16
  clear gb16 gl16 HG16
  (first|simp only[add_plain] at hx299_0|skip)
  obtain⟨hx16_0,hf16_0⟩:=Kd.R_celln false HO_3.out ((rd l0 x11_1):Int) p16 q16
  replace p16:=eq_true p16
  replace q16:=eq_true q16
  have HP18:=Kd.R_putg HO_3.out ((rd l0 x11_1):Int) true
  go_wp2_with(first|(refine gs_ 4 31 ?_;refine sv_ 4 31 (wr.setCell ⟨go16,((rd l0 x11_1):Int).toNat,none⟩ (.bool true)) ?_;intro w19 hw;have hg:wr.grownBy w19 (some go16):=(by rw[hw];exact HP18.2);have hp_:ju Kd.bool 4 w19 w.heap.size (fun _=>True) (.slice (some ⟨go16,0,none⟩) x3_1.length co17) y300:=(by rw[hw,Ny300.out];exact HP18.1);clear HP18;have n_:=P2_ (hp_) ((by rw[hw];exact jJ (HB.out) GB16.out:Below w.heap.size w w19));clear HO_3 HB;obtain⟨HO_3,HB⟩:=n_;clear hg hw hp_))
  go_roundg k1
  case measure=>have:=HK1.out;omega
  case rel=>exact⟨(y300),(wrap64 (x11_1+1)),T9_,H',⟨T7_⟩,⟨ru_ HO_3.out⟩,⟨T16_⟩⟩
def perm_picked_int.l0:Nat→List Int→List Int→List Int→Int→Int→Option (List Int)
 | 0,_,_,_,_,_=>none
 | k+1,x1,x5,x11,x12,x13=>if x13<x12 then(if 0≤x13 then(if x13<(x11.length:Int) then(if 0≤(rd x11 x13) then(if(rd x11 x13)<(x1.length:Int) then(if x5.length<17592186044416 then(perm_picked_int.l0 k x1 (x5 ++ [rd x1 (rd x11 x13)]) x11 x12 (wrap64 (x13+1))) else(none)) else(none)) else(none)) else(none)) else(none)) else(some x5)
def perm_picked_int.f (k:Nat) (l0:List Int) (l1:List Int):Option (List Int):=if 0≤(l0.length:Int) then(if((l0.length:Int):Int).toNat≤35184372088832 then(perm_picked_int.l0 k l1 (([]:List Int)) l0 (l0.length:Int) 0) else(none)) else(none)
set_option maxHeartbeats 8000000 in
set_option maxRecDepth 100000 in
theorem perm_picked_int.calls (k:Nat) (A0:Option Addr) (c0:Nat) (l0:List Int) (A1:Option Addr) (c1:Nat) (l1:List Int) (r:List Int) (w:World) (hr0:Kd.C (jb .i64) w A0 l0.length l0) (hc0:l0.length≤c0) (hr1:Kd.C (jb .i64) w A1 l1.length l1) (hc1:l1.length≤c1) (h:perm_picked_int.f k l0 l1=some r) :
  Calls Try.prog 44 #[.slice A0 l0.length c0,.slice A1 l1.length c1] w fun e w'=>∃ v0_:Value,e = .returned (v0_)∧ju (jb .i64) 3 w' w.heap.size (fun _=>True) v0_ r∧Below w.heap.size w w':=by
 have HR0:=am_ hr0
 have HC0:=am_ hc0
 clear hr0 hc0
 have HR1:=am_ hr1
 have HC1:=am_ hc1
 clear hr1 hc1
 have HB:=am_ (Below.refl w.heap.size w)
 have H:(if 0≤(l0.length:Int) then(if((l0.length:Int):Int).toNat≤35184372088832 then(perm_picked_int.l0 k l1 (([]:List Int)) l0 (l0.length:Int) 0) else(none)) else(none))=some r:=h
 clear h
 replace H:=ifn_ H;obtain⟨c3,H⟩:=H
 have c3b0:=eq_true c3
 have c3b1:decide (0≤(l0.length:Int))=true:=decide_eq_true c3
 clear c3
 replace H:=ifn_ H;obtain⟨c4,H⟩:=H
 have c4b0:=eq_true c4
 have c4b1:decide (((l0.length:Int):Int).toNat≤35184372088832)=true:=decide_eq_true c4
 clear c4
 obtain⟨y508,hy_⟩:∃ y_:List Int,y_=(([]:List Int)):=⟨_,rfl⟩
 replace H:(perm_picked_int.l0 k l1 y508 l0 (l0.length:Int) 0)=some r:=hyw_
 have Ny508:=am_ hy_
 clear hy_
 have H':=am_ H
 clear H
 go_enter Try.func44,Try.ntmps44
 go_wp2_with(first|(refine gd_ 10 ?_;refine Kd.R_make0 (jb .i64) _ 3 rfl (N:=10) rfl 24 _ _ rfl (l0.length:Int) rfl rfl Try.underlying24 (.int .i64 0) 8 info3 rfl T3_ T2_ 0 (ok:=fun _=>True) (okp:=fun _=>True) rfl (fun _ hk=>hk) trivial (od_) (Nat.le_trans (Nat.mul_le_mul_right _ (od_:(l0.length:Int).toNat≤35184372088832)) T2_) (Below.refl _ _) (Nat.le_refl _) ?_;intro v509 w5 ho6 hb hg_ hnew_;clear hg_ hnew_;(first|rw[←Ny508.out] at ho6|(simp only[Int.reduceToNat] at ho6;rw[←Ny508.out] at ho6));have n_:=P2_ (jm ho6 (ja T16_)) (ji T16_ hb);clear HB;obtain⟨HO510,HB⟩:=n_;clear hb ho6))
 go_loopg [5,13] k (fun kq v5 v13 w'=>∃ (x5_1:List Int) (x13_1:Int),v13 = .int .i64 x13_1∧Aside0 (perm_picked_int.l0 kq l1 x5_1 l0 (l0.length:Int) x13_1=some r)∧Aside0 (kq≤k)∧Aside0 (ju (jb .i64) 3 w' w.heap.size (fun _=>True) v5 x5_1)∧Aside0 (Below w.heap.size w w'))
 case atStart=>exact⟨(y508),(0),T9_,H',⟨Nat.le_refl _⟩,⟨ru_ HO510.out⟩,⟨T16_⟩⟩
 clear H'
 (try clear c3);(try clear c3b0 c3b1);(try clear c4);(try clear c4b0 c4b1)
 obtain⟨x5_1,x13_1,rfl,HA,HK1,HO_5,HB⟩:=hrel
 cases gk with
 | zero=>exact absurd HA.out (by simp[perm_picked_int.l0])
 | succ k1 =>
  have H:=HA.out
  clear HA
  simp only[perm_picked_int.l0] at H
  by_cases c7:x13_1<(l0.length:Int)
  rotate_left
  ·rw[if_neg c7] at H
   have c7b0:=decide_eq_false c7
   clear c7
   obtain rfl:=Option.some.inj H
   obtain⟨rfl⟩:=sj1_ H
   go_wp2
   go_ret
   exact⟨_,T14_,ru_ HO_5.out,T16_⟩
  rw[if_pos c7] at H
  have c7b0:=decide_eq_true c7
  clear c7
  replace H:=ifn_ H;obtain⟨c8,H⟩:=H
  have c8b0:=decide_eq_true c8
  clear c8
  replace H:=ifn_ H;obtain⟨c9,H⟩:=H
  have c9b0:=decide_eq_true c9
  clear c9
  replace H:=ifn_ H;obtain⟨c10,H⟩:=H
  have c10b0:=decide_eq_true c10
  clear c10
  replace H:=ifn_ H;obtain⟨c11,H⟩:=H
  have c11b0:=decide_eq_true c11
  clear c11
  replace H:=ifa_ H;obtain⟨LMc12,H⟩:=H
  obtain⟨y513,hy_⟩:∃ y_:List Int,y_=(x5_1 ++ [rd l1 (rd l0 x13_1)]):=⟨_,rfl⟩
  replace H:(perm_picked_int.l0 k1 l1 y513 l0 (l0.length:Int) (wrap64 (x13_1+1)))=some r:=hyw_
  have Ny513:=am_ hy_
  clear hy_
  have H':=am_ H
  clear H
  have p511:0≤(x13_1:Int):=od_
  have q511:x13_1<(l0.length:Int):=od_
  obtain⟨ad511,e511,hx511_0⟩:=jH HR0.out x13_1 p511 q511
  cases e511
  (try(replace hx511_0:=(HB.out.cell (World.block_lt_of_cell? w _ hx511_0)).trans hx511_0))
  replace p511:=eq_true p511
  replace q511:=eq_true q511
  have p512:0≤((rd l0 x13_1):Int):=od_
  have q512:(rd l0 x13_1)<(l1.length:Int):=od_
  obtain⟨ad512,e512,hx512_0⟩:=jH HR1.out (rd l0 x13_1) p512 q512
  cases e512
  (try(replace hx512_0:=(HB.out.cell (World.block_lt_of_cell? w _ hx512_0)).trans hx512_0))
  replace p512:=eq_true p512
  replace q512:=eq_true q512
  go_wp2_with(first|(refine gb_ .append #[.tmp 17,.tmp 22] ?_;at_builtin;refine Kd.R_append (jb .i64) (w0:=w) w.heap.size rfl (.tmp 17) (.tmp 22) 24 3 (.int .i64 0) 8 rfl Try.underlying24 info3 rfl T3_ T2_ u5 x5_1 (rd l1 (rd l0 x13_1)) [.int .i64 (rd l1 (rd l0 x13_1))] (fun _=>True) (fun _=>False) rfl rfl ?aP (fun _ hk=>hk.elim) ?aF ?aO ?aB ?aS ?aL ?_;(case aP=>exact rfl);(case aB=>exact T16_);(case aF=>exact(fun _ _=>trivial));(case aO=>exact(ru_ HO_5.out));(case aS=>exact(ja T16_));(case aL=>have:=LMc12.out;omega);intro v514 w13 ho hb hg hat;rw[←Ny513.out] at ho;have n_:=P2_ (hb) (ho);clear HB HO_5;obtain⟨HB,HO515⟩:=n_;clear ho hb hg hat))
  go_roundg k1
  case measure=>have:=HK1.out;omega
  case rel=>exact⟨(y513),(wrap64 (x13_1+1)),T9_,H',⟨T7_⟩,⟨ru_ HO515.out⟩,⟨T16_⟩⟩
def perm_Apply_int.f (k:Nat) (l0:List Int) (l1:List Int):Option (List Int×Int):=if(l0.length:Int)=(l1.length:Int) then((perm_fits.f k l0).bind fun t516=>(if t516=true then((perm_picked_int.f k l0 l1).bind fun t517=>(some (t517,0))) else(some (([]:List Int),110)))) else(some (([]:List Int),110))
set_option maxHeartbeats 8000000 in
set_option maxRecDepth 100000 in
theorem perm_Apply_int.calls (k:Nat) (A0:Option Addr) (c0:Nat) (l0:List Int) (A1:Option Addr) (c1:Nat) (l1:List Int) (r1:List Int) (r2:Int) (w:World) (hr0:Kd.C (jb .i64) w A0 l0.length l0) (hc0:l0.length≤c0) (hr1:Kd.C (jb .i64) w A1 l1.length l1) (hc1:l1.length≤c1) (h:perm_Apply_int.f k l0 l1=some (r1,r2)) :
  Calls Try.prog 21 #[.slice A0 l0.length c0,.slice A1 l1.length c1] w fun e w'=>∃ v0_:Value,e = .returned (.tuple #[v0_,.int .i64 r2])∧ju (jb .i64) 3 w' w.heap.size (fun _=>True) v0_ r1∧Below w.heap.size w w':=by
 have HR0:=am_ hr0
 have HC0:=am_ hc0
 clear hr0 hc0
 have HR1:=am_ hr1
 have HC1:=am_ hc1
 clear hr1 hc1
 have HB:=am_ (Below.refl w.heap.size w)
 have H:(if(l0.length:Int)=(l1.length:Int) then((perm_fits.f k l0).bind fun t516=>(if t516=true then((perm_picked_int.f k l0 l1).bind fun t517=>(some (t517,0))) else(some (([]:List Int),110)))) else(some (([]:List Int),110)))=some (r1,r2):=h
 clear h
 by_cases c3:(l0.length:Int)=(l1.length:Int)
 rotate_left
 ·rw[if_neg c3] at H
  obtain⟨c3b0,c3b1⟩:=en_ c3
  have c3b2:(l0.length == l1.length)=false:=by first|simpa using c3|(simp at c3 ⊢;omega)
  obtain⟨rfl,rfl⟩:=sj2_ H
  go_enter Try.func21,Try.ntmps21
  go_wp2
  go_ret2
  exact⟨_,T14_,T18_,T16_⟩
 rw[if_pos c3] at H
 obtain⟨c3b0,c3b1⟩:=ep_ c3
 have c3b2:(l0.length == l1.length)=true:=by first|simpa using c3|(simp at c3 ⊢;omega)
 clear c3
 replace H:=Option.bind_eq_some_iff.mp H
 obtain⟨t516,A40,H⟩:=H
 try dsimp only at H
 have A4:=am_ A40
 clear A40
 by_cases c5:t516=true
 rotate_left
 ·replace c5:=Bool.eq_false_iff.mpr c5
  subst c5
  have H1:(some (([]:List Int),110))=some (r1,r2):=by rw[if_neg (show ¬ (false=true) by decide)] at H;exact H
  clear H
  have H:=H1
  clear H1
  obtain⟨rfl,rfl⟩:=sj2_ H
  go_enter Try.func21,Try.ntmps21
  go_wp2_with(first|(go_at_call 39;(with_reducible refine(perm_fits.calls k _ _ l0 false _ ?side1 ?side2 A4.out).mono ?_);(case side1=>exact cu_ HR0.out);(case side2=>exact HC0.out);rintro e w9 ⟨rfl,hb⟩;have n0_:=am_ (ji T16_ hb);clear HB;have HB:=n0_;clear n0_;clear hb))
  go_ret2
  exact⟨_,T14_,T18_,T16_⟩
 subst c5
 have H1:((perm_picked_int.f k l0 l1).bind fun t517=>(some (t517,0)))=some (r1,r2):=by rw[if_pos rfl] at H;exact H
 clear H
 have H:=H1
 clear H1
 replace H:=Option.bind_eq_some_iff.mp H
 obtain⟨t517,A60,H⟩:=H
 replace H:(some (t517,0))=some (r1,r2):=H
 have A6:=am_ A60
 clear A60
 obtain⟨rfl,rfl⟩:=sj2_ H
 go_enter Try.func21,Try.ntmps21
 go_wp2_with(first|(go_at_call 39;(with_reducible refine(perm_fits.calls k _ _ l0 true _ ?side1 ?side2 A4.out).mono ?_);(case side1=>exact cu_ HR0.out);(case side2=>exact HC0.out);rintro e w7 ⟨rfl,hb⟩;have n0_:=am_ (ji T16_ hb);clear HB;have HB:=n0_;clear n0_;clear hb)|(refine gc_ 44 ?_;refine gl_ (some 18) Try.func44 #[.slice A0 l0.length c0,.slice A1 l1.length c1] ?_;(with_reducible refine(perm_picked_int.calls k _ _ l0 _ _ l1 t517 _ ?side1 ?side2 ?side3 ?side4 A6.out).mono ?_);(case side1=>exact cu_ (jv HR0.out HB.out));(case side2=>exact HC0.out);(case side3=>exact cu_ (jv HR1.out HB.out));(case side4=>exact HC1.out);rintro e w8 ⟨v518,rfl,ho0,hb⟩;refine⟨_,rfl,?_⟩;have n_:=P2_ (jm ho0 (ja T16_)) (ji T16_ hb);clear HB;obtain⟨HO519,HB⟩:=n_;clear hb ho0))
 go_ret2
 exact⟨_,T14_,ru_ HO519.out,T16_⟩
def riffle_Shuffle_int.f (k:Nat) (l0:List Int) (a1:Int) (l2:List Int):Option (List Int×Int):=(riffle_Order.f k l0 (l2.length:Int) a1).bind fun bt520=>(if bt520.2=0 then((perm_Apply_int.f k bt520.1 l2).bind fun bt524=>(some (bt524.1,bt524.2))) else(some (([]:List Int),bt520.2)))
set_option maxHeartbeats 8000000 in
set_option maxRecDepth 100000 in
theorem riffle_Shuffle_int.calls (k:Nat) (A0:Option Addr) (c0:Nat) (l0:List Int) (a1:Int) (A2:Option Addr) (c2:Nat) (l2:List Int) (r1:List Int) (r2:Int) (w:World) (hr0:Kd.C (jb .u8) w A0 l0.length l0) (hc0:l0.length≤c0) (hr2:Kd.C (jb .i64) w A2 l2.length l2) (hc2:l2.length≤c2) (h:riffle_Shuffle_int.f k l0 a1 l2=some (r1,r2)) :
  Calls Try.prog 12 #[.slice A0 l0.length c0,.int .i64 a1,.slice A2 l2.length c2] w fun e w'=>∃ v0_:Value,e = .returned (.tuple #[v0_,.int .i64 r2])∧ju (jb .i64) 3 w' w.heap.size (fun _=>True) v0_ r1∧Below w.heap.size w w':=by
 have HR0:=am_ hr0
 have HC0:=am_ hc0
 clear hr0 hc0
 have HR2:=am_ hr2
 have HC2:=am_ hc2
 clear hr2 hc2
 have HB:=am_ (Below.refl w.heap.size w)
 have H:((riffle_Order.f k l0 (l2.length:Int) a1).bind fun bt520=>(if bt520.2=0 then((perm_Apply_int.f k bt520.1 l2).bind fun bt524=>(some (bt524.1,bt524.2))) else(some (([]:List Int),bt520.2))))=some (r1,r2):=h
 clear h
 replace H:=Option.bind_eq_some_iff.mp H
 obtain⟨⟨t520,t521⟩,A40,H⟩:=H
 try dsimp only at H
 have A4:=am_ A40
 clear A40
 by_cases c5:t521=0
 rotate_left
 ·rw[if_neg c5] at H
  obtain⟨c5b0,c5b1⟩:=en_ c5
  obtain⟨rfl,rfl⟩:=sj2_ H
  go_enter Try.func12,Try.ntmps12
  go_wp2_with(first|(refine gc_ 11 ?_;refine gl_ (some 15) Try.func11 #[.slice A0 l0.length c0,.int .i64 (l2.length:Int),.int .i64 a1] ?_;(with_reducible refine(riffle_Order.calls k _ _ l0 (l2.length:Int) a1 t520 t521 _ ?side1 ?side2 A4.out).mono ?_);(case side1=>exact cu_ HR0.out);(case side2=>exact HC0.out);rintro e w10 ⟨v522,rfl,ho0,hb⟩;refine⟨_,rfl,?_⟩;have n_:=P2_ (jm ho0 (ja T16_)) (ji T16_ hb);clear HB;obtain⟨HO523,HB⟩:=n_;clear hb ho0))
  go_ret2
  exact⟨_,T14_,T18_,T16_⟩
 rw[if_pos c5] at H
 obtain⟨c5b0,c5b1⟩:=ep_ c5
 clear c5
 replace H:=Option.bind_eq_some_iff.mp H
 obtain⟨⟨t524,t525⟩,A60,H⟩:=H
 replace H:(some (t524,t525))=some (r1,r2):=H
 have A6:=am_ A60
 clear A60
 obtain⟨rfl,rfl⟩:=sj2_ H
 go_enter Try.func12,Try.ntmps12
 go_wp2_with(first|(refine gc_ 11 ?_;refine gl_ (some 15) Try.func11 #[.slice A0 l0.length c0,.int .i64 (l2.length:Int),.int .i64 a1] ?_;(with_reducible refine(riffle_Order.calls k _ _ l0 (l2.length:Int) a1 t520 t521 _ ?side1 ?side2 A4.out).mono ?_);(case side1=>exact cu_ HR0.out);(case side2=>exact HC0.out);rintro e w7 ⟨v522,rfl,ho0,hb⟩;refine⟨_,rfl,?_⟩;have n_:=P2_ (jm ho0 (ja T16_)) (ji T16_ hb);clear HB;obtain⟨HO523,HB⟩:=n_;clear hb ho0;obtain⟨Ao8,co8,eo8⟩:=jo HO523.out;subst eo8)|(refine gc_ 21 ?_;refine gl_ (some 23) Try.func21 #[.slice Ao8 t520.length co8,.slice A2 l2.length c2] ?_;(with_reducible refine(perm_Apply_int.calls k _ _ t520 _ _ l2 t524 t525 _ ?side1 ?side2 ?side3 ?side4 A6.out).mono ?_);(case side1=>exact cu_ ((jh HO523.out).2.2));(case side2=>exact(jh HO523.out).2.1);(case side3=>exact cu_ (jv HR2.out HB.out));(case side4=>exact HC2.out);rintro e w9 ⟨v526,rfl,ho0,hb⟩;refine⟨_,rfl,?_⟩;have n_:=P3_ (jg (ru_ HO523.out) (jf ho0) hb) (jm (jk ho0 (jj (ru_ HO523.out))) (ja T16_)) (ji T16_ hb);clear HO523 HB;obtain⟨HO523,HO527,HB⟩:=n_;clear hb ho0))
 go_ret2
 exact⟨_,T14_,ru_ (jc HO527.out (fun _ hk=>trivial)),T16_⟩
def churnlaw13_same.l0:Nat→List Int→List Int→Int→Option (Bool)
 | 0,_,_,_=>none
 | k+1,x0,x1,x5=>if x5<(x0.length:Int) then(if 0≤x5 then(if x5<(x1.length:Int) then(if(rd x0 x5)=(rd x1 x5) then(churnlaw13_same.l0 k x0 x1 (wrap64 (x5+1))) else(some false)) else(none)) else(none)) else(some true)
def churnlaw13_same.f (k:Nat) (l0:List Int) (l1:List Int):Option (Bool):=if(l0.length:Int)=(l1.length:Int) then(churnlaw13_same.l0 k l0 l1 0) else(some false)
set_option maxHeartbeats 8000000 in
set_option maxRecDepth 100000 in
theorem churnlaw13_same.calls (k:Nat) (A0:Option Addr) (c0:Nat) (l0:List Int) (A1:Option Addr) (c1:Nat) (l1:List Int) (r:Bool) (w:World) (hr0:Kd.C (jb .i64) w A0 l0.length l0) (hc0:l0.length≤c0) (hr1:Kd.C (jb .i64) w A1 l1.length l1) (hc1:l1.length≤c1) (h:churnlaw13_same.f k l0 l1=some r) :
  Calls Try.prog 14 #[.slice A0 l0.length c0,.slice A1 l1.length c1] w fun e w'=>e = .returned (.bool r)∧Drawn0 w w':=by
 have HR0:=am_ hr0
 have HC0:=am_ hc0
 clear hr0 hc0
 have HR1:=am_ hr1
 have HC1:=am_ hc1
 clear hr1 hc1
 have H:(if(l0.length:Int)=(l1.length:Int) then(churnlaw13_same.l0 k l0 l1 0) else(some false))=some r:=h
 clear h
 by_cases c3:(l0.length:Int)=(l1.length:Int)
 rotate_left
 ·rw[if_neg c3] at H
  obtain⟨c3b0,c3b1⟩:=en_ c3
  have c3b2:(l0.length == l1.length)=false:=by first|simpa using c3|(simp at c3 ⊢;omega)
  obtain rfl:=Option.some.inj H
  obtain⟨rfl⟩:=sj1_ H
  go_enter Try.func14,Try.ntmps14
  go_wp2
  repeat(go_quiet(fail);try go_wp2)
  go_ret
  exact⟨T9_,T10_⟩
 rw[if_pos c3] at H
 obtain⟨c3b0,c3b1⟩:=ep_ c3
 have c3b2:(l0.length == l1.length)=true:=by first|simpa using c3|(simp at c3 ⊢;omega)
 clear c3
 have H':=am_ H
 clear H
 go_enter Try.func14,Try.ntmps14
 go_wp2
 repeat(go_quiet(fail);try go_wp2)
 go_loopg [5] k (fun kq v5 w'=>∃ (x5_1:Int),v5 = .int .i64 x5_1∧Aside0 (churnlaw13_same.l0 kq l0 l1 x5_1=some r)∧Aside0 (kq≤k)∧Drawn0 w w')
 case atStart=>exact⟨(0),T9_,H',⟨Nat.le_refl _⟩,T10_⟩
 clear H'
 (try clear c3);(try clear c3b0 c3b1 c3b2)
 obtain⟨x5_1,rfl,HA,HK1,⟨m1,rfl⟩⟩:=hrel
 cases gk with
 | zero=>exact absurd HA.out (by simp[churnlaw13_same.l0])
 | succ k1 =>
  have H:=HA.out
  clear HA
  simp only[churnlaw13_same.l0] at H
  by_cases c4:x5_1<(l0.length:Int)
  rotate_left
  ·rw[if_neg c4] at H
   have c4b0:=decide_eq_false c4
   clear c4
   obtain rfl:=Option.some.inj H
   obtain⟨rfl⟩:=sj1_ H
   go_wp2
   repeat(go_quiet(fail);try go_wp2)
   go_ret
   exact⟨T9_,T10_⟩
  rw[if_pos c4] at H
  have c4b0:=decide_eq_true c4
  clear c4
  replace H:=ifn_ H;obtain⟨c5,H⟩:=H
  have c5b0:=decide_eq_true c5
  clear c5
  replace H:=ifn_ H;obtain⟨c6,H⟩:=H
  have c6b0:=decide_eq_true c6
  clear c6
  by_cases c7:(rd l0 x5_1)=(rd l1 x5_1)
  rotate_left
  ·rw[if_neg c7] at H
   obtain⟨c7b0,c7b1⟩:=en_ c7
   obtain rfl:=Option.some.inj H
   obtain⟨rfl⟩:=sj1_ H
   obtain⟨ad766,e766,hx766_0,p766,q766⟩:=ai_ HR0.out x5_1
   cases e766
   obtain⟨ad767,e767,hx767_0,p767,q767⟩:=ai_ HR1.out x5_1
   cases e767
   go_wp2
   repeat(go_quiet(fail);try go_wp2)
   go_ret
   exact⟨T9_,T10_⟩
  rw[if_pos c7] at H
  obtain⟨c7b0,c7b1⟩:=ep_ c7
  clear c7
  have H':=am_ H
  clear H
  obtain⟨ad766,e766,hx766_0,p766,q766⟩:=ai_ HR0.out x5_1
  cases e766
  obtain⟨ad767,e767,hx767_0,p767,q767⟩:=ai_ HR1.out x5_1
  cases e767
  go_wp2
  repeat(go_quiet(fail);try go_wp2)
  go_roundg k1
  case measure=>have:=HK1.out;omega
  case rel=>exact⟨(wrap64 (x5_1+1)),T9_,H',⟨T7_⟩,T10_⟩
def perm_picked_string.l0:Nat→List ByteArray→List ByteArray→List Int→Int→Int→Option (List ByteArray)
 | 0,_,_,_,_,_=>none
 | k+1,x1,x5,x11,x12,x13=>if x13<x12 then(if 0≤x13 then(if x13<(x11.length:Int) then(if 0≤(rd x11 x13) then(if(rd x11 x13)<(x1.length:Int) then(if x5.length<8796093022208 then(perm_picked_string.l0 k x1 (x5 ++ [rdOf ByteArray.empty x1 (rd x11 x13)]) x11 x12 (wrap64 (x13+1))) else(none)) else(none)) else(none)) else(none)) else(none)) else(some x5)
def perm_picked_string.f (k:Nat) (l0:List Int) (l1:List ByteArray):Option (List ByteArray):=if 0≤(l0.length:Int) then(if((l0.length:Int):Int).toNat≤17592186044416 then(perm_picked_string.l0 k l1 (([]:List ByteArray)) l0 (l0.length:Int) 0) else(none)) else(none)
theorem perm_picked_string.mono_l:∀ k,(∀ y0 y1 y2 y3 y4,LeO (perm_picked_string.l0 k y0 y1 y2 y3 y4) (perm_picked_string.l0 (k+1) y0 y1 y2 y3 y4))
 | 0=>fun _ _ _ _ _ r h=>by simp[perm_picked_string.l0] at h
 | k+1=>by
  have ih0:=perm_picked_string.mono_l k
  intro y0 y1 y2 y3 y4
  unfold perm_picked_string.l0
  with_reducible repeat' first|exact ih0 _ _ _ _ _|exact LeO.refl _|exact LeO.none _|refine LeO.ite ?_ ?_|refine LeO.bind ?_ (fun _=>?_)
theorem perm_picked_string.mono:∀ a0 a1 k,LeO (perm_picked_string.f k a0 a1) (perm_picked_string.f (k+1) a0 a1):=by
 intro a0 a1 k
 have ih0:=perm_picked_string.mono_l k
 unfold perm_picked_string.f
 with_reducible repeat' first|exact ih0 _ _ _ _ _|exact LeO.refl _|exact LeO.none _|refine LeO.ite ?_ ?_|refine LeO.bind ?_ (fun _=>?_)
set_option maxHeartbeats 8000000 in
set_option maxRecDepth 100000 in
theorem perm_picked_string.calls (k:Nat) (A0:Option Addr) (c0:Nat) (l0:List Int) (A1:Option Addr) (c1:Nat) (l1:List ByteArray) (r:List ByteArray) (w:World) (hr0:Kd.C (jb .i64) w A0 l0.length l0) (hc0:l0.length≤c0) (hr1:Kd.C Kd.string w A1 l1.length l1) (hc1:l1.length≤c1) (h:perm_picked_string.f k l0 l1=some r) :
  Calls Try.prog 49 #[.slice A0 l0.length c0,.slice A1 l1.length c1] w fun e w'=>∃ v0_:Value,e = .returned (v0_)∧ju Kd.string 9 w' w.heap.size (fun _=>True) v0_ r∧Below w.heap.size w w':=by
 have HR0:=am_ hr0
 have HC0:=am_ hc0
 clear hr0 hc0
 have HR1:=am_ hr1
 have HC1:=am_ hc1
 clear hr1 hc1
 have HB:=am_ (Below.refl w.heap.size w)
 have H:(if 0≤(l0.length:Int) then(if((l0.length:Int):Int).toNat≤17592186044416 then(perm_picked_string.l0 k l1 (([]:List ByteArray)) l0 (l0.length:Int) 0) else(none)) else(none))=some r:=h
 clear h
 replace H:=ifn_ H;obtain⟨c3,H⟩:=H
 have c3b0:=eq_true c3
 have c3b1:decide (0≤(l0.length:Int))=true:=decide_eq_true c3
 clear c3
 replace H:=ifn_ H;obtain⟨c4,H⟩:=H
 have c4b0:=eq_true c4
 have c4b1:decide (((l0.length:Int):Int).toNat≤17592186044416)=true:=decide_eq_true c4
 clear c4
 obtain⟨y301,hy_⟩:∃ y_:List ByteArray,y_=(([]:List ByteArray)):=⟨_,rfl⟩
 replace H:(perm_picked_string.l0 k l1 y301 l0 (l0.length:Int) 0)=some r:=hyw_
 have Ny301:=am_ hy_
 clear hy_
 have H':=am_ H
 clear H
 go_enter Try.func49,Try.ntmps49
 go_wp2_with(first|(refine gd_ 10 ?_;refine Kd.R_make0 Kd.string _ 9 rfl (N:=10) rfl 32 _ _ rfl (l0.length:Int) rfl rfl Try.underlying32 (.string ⟨#[]⟩) 16 info9 rfl T3_ T2_ (⟨#[]⟩:ByteArray) (ok:=fun _=>True) (okp:=fun _=>True) rfl (fun _ hk=>hk) trivial (od_) (Nat.le_trans (Nat.mul_le_mul_right _ (od_:(l0.length:Int).toNat≤17592186044416)) T2_) (Below.refl _ _) (Nat.le_refl _) ?_;intro v302 w5 ho6 hb hg_ hnew_;clear hg_ hnew_;(first|rw[←Ny301.out] at ho6|(simp only[Int.reduceToNat] at ho6;rw[←Ny301.out] at ho6));have n_:=P2_ (jm ho6 (ja T16_)) (ji T16_ hb);clear HB;obtain⟨HO303,HB⟩:=n_;clear hb ho6))
 go_loopg [5,13] k (fun kq v5 v13 w'=>∃ (x5_1:List ByteArray) (x13_1:Int),v13 = .int .i64 x13_1∧Aside0 (perm_picked_string.l0 kq l1 x5_1 l0 (l0.length:Int) x13_1=some r)∧Aside0 (kq≤k)∧Aside0 (ju Kd.string 9 w' w.heap.size (fun _=>True) v5 x5_1)∧Aside0 (Below w.heap.size w w'))
 case atStart=>exact⟨(y301),(0),T9_,H',⟨Nat.le_refl _⟩,⟨ru_ HO303.out⟩,⟨T16_⟩⟩
 clear H'
 (try clear c3);(try clear c3b0 c3b1);(try clear c4);(try clear c4b0 c4b1)
 obtain⟨x5_1,x13_1,rfl,HA,HK1,HO_5,HB⟩:=hrel
 cases gk with
 | zero=>exact absurd HA.out (by simp[perm_picked_string.l0])
 | succ k1 =>
  have H:=HA.out
  clear HA
  simp only[perm_picked_string.l0] at H
  by_cases c7:x13_1<(l0.length:Int)
  rotate_left
  ·rw[if_neg c7] at H
   have c7b0:=decide_eq_false c7
   clear c7
   obtain rfl:=Option.some.inj H
   obtain⟨rfl⟩:=sj1_ H
   go_wp2
   go_ret
   exact⟨_,T14_,ru_ HO_5.out,T16_⟩
  rw[if_pos c7] at H
  have c7b0:=decide_eq_true c7
  clear c7
  replace H:=ifn_ H;obtain⟨c8,H⟩:=H
  have c8b0:=decide_eq_true c8
  clear c8
  replace H:=ifn_ H;obtain⟨c9,H⟩:=H
  have c9b0:=decide_eq_true c9
  clear c9
  replace H:=ifn_ H;obtain⟨c10,H⟩:=H
  have c10b0:=decide_eq_true c10
  clear c10
  replace H:=ifn_ H;obtain⟨c11,H⟩:=H
  have c11b0:=decide_eq_true c11
  clear c11
  replace H:=ifa_ H;obtain⟨LMc12,H⟩:=H
  obtain⟨y306,hy_⟩:∃ y_:List ByteArray,y_=(x5_1 ++ [rdOf ByteArray.empty l1 (rd l0 x13_1)]):=⟨_,rfl⟩
  replace H:(perm_picked_string.l0 k1 l1 y306 l0 (l0.length:Int) (wrap64 (x13_1+1)))=some r:=hyw_
  have Ny306:=am_ hy_
  clear hy_
  have H':=am_ H
  clear H
  have p304:0≤(x13_1:Int):=od_
  have q304:x13_1<(l0.length:Int):=od_
  obtain⟨ad304,e304,hx304_0⟩:=jH HR0.out x13_1 p304 q304
  cases e304
  (try(replace hx304_0:=(HB.out.cell (World.block_lt_of_cell? w _ hx304_0)).trans hx304_0))
  replace p304:=eq_true p304
  replace q304:=eq_true q304
  have p305:0≤((rd l0 x13_1):Int):=od_
  have q305:(rd l0 x13_1)<(l1.length:Int):=od_
  obtain⟨ad305,e305,hx305_0⟩:=Kd.at_string HR1.out (rd l0 x13_1) p305 q305
  cases e305
  (try(replace hx305_0:=(HB.out.cell (World.block_lt_of_cell? w _ hx305_0)).trans hx305_0))
  replace p305:=eq_true p305
  replace q305:=eq_true q305
  go_wp2_with(first|(refine gb_ .append #[.tmp 17,.tmp 22] ?_;at_builtin;refine Kd.R_append Kd.string (w0:=w) w.heap.size rfl (.tmp 17) (.tmp 22) 32 9 (.string ⟨#[]⟩) 16 rfl Try.underlying32 info9 rfl T3_ T2_ u5 x5_1 (rdOf ByteArray.empty l1 (rd l0 x13_1)) [.string (rdOf ByteArray.empty l1 (rd l0 x13_1))] (fun _=>True) (fun _=>False) rfl rfl ?aP (fun _ hk=>hk.elim) ?aF ?aO ?aB ?aS ?aL ?_;(case aP=>exact rfl);(case aB=>exact T16_);(case aF=>exact(fun _ _=>trivial));(case aO=>exact(ru_ HO_5.out));(case aS=>exact(ja T16_));(case aL=>have:=LMc12.out;omega);intro v307 w13 ho hb hg hat;rw[←Ny306.out] at ho;have n_:=P2_ (hb) (ho);clear HB HO_5;obtain⟨HB,HO308⟩:=n_;clear ho hb hg hat))
  go_roundg k1
  case measure=>have:=HK1.out;omega
  case rel=>exact⟨(y306),(wrap64 (x13_1+1)),T9_,H',⟨T7_⟩,⟨ru_ HO308.out⟩,⟨T16_⟩⟩
def perm_Apply_string.f (k:Nat) (l0:List Int) (l1:List ByteArray):Option (List ByteArray×Int):=if(l0.length:Int)=(l1.length:Int) then((perm_fits.f k l0).bind fun t309=>(if t309=true then((perm_picked_string.f k l0 l1).bind fun t310=>(some (t310,0))) else(some (([]:List ByteArray),110)))) else(some (([]:List ByteArray),110))
theorem perm_Apply_string.mono:∀ a0 a1 k,LeO (perm_Apply_string.f k a0 a1) (perm_Apply_string.f (k+1) a0 a1):=by
 intro a0 a1 k
 unfold perm_Apply_string.f
 with_reducible repeat' first|exact perm_fits.mono _ _|exact perm_picked_string.mono _ _ _|exact LeO.refl _|exact LeO.none _|refine LeO.ite ?_ ?_|refine LeO.bind ?_ (fun _=>?_)
set_option maxHeartbeats 8000000 in
set_option maxRecDepth 100000 in
theorem perm_Apply_string.calls (k:Nat) (A0:Option Addr) (c0:Nat) (l0:List Int) (A1:Option Addr) (c1:Nat) (l1:List ByteArray) (r1:List ByteArray) (r2:Int) (w:World) (hr0:Kd.C (jb .i64) w A0 l0.length l0) (hc0:l0.length≤c0) (hr1:Kd.C Kd.string w A1 l1.length l1) (hc1:l1.length≤c1) (h:perm_Apply_string.f k l0 l1=some (r1,r2)) :
  Calls Try.prog 24 #[.slice A0 l0.length c0,.slice A1 l1.length c1] w fun e w'=>∃ v0_:Value,e = .returned (.tuple #[v0_,.int .i64 r2])∧ju Kd.string 9 w' w.heap.size (fun _=>True) v0_ r1∧Below w.heap.size w w':=by
 have HR0:=am_ hr0
 have HC0:=am_ hc0
 clear hr0 hc0
 have HR1:=am_ hr1
 have HC1:=am_ hc1
 clear hr1 hc1
 have HB:=am_ (Below.refl w.heap.size w)
 have H:(if(l0.length:Int)=(l1.length:Int) then((perm_fits.f k l0).bind fun t309=>(if t309=true then((perm_picked_string.f k l0 l1).bind fun t310=>(some (t310,0))) else(some (([]:List ByteArray),110)))) else(some (([]:List ByteArray),110)))=some (r1,r2):=h
 clear h
 by_cases c3:(l0.length:Int)=(l1.length:Int)
 rotate_left
 ·rw[if_neg c3] at H
  obtain⟨c3b0,c3b1⟩:=en_ c3
  have c3b2:(l0.length == l1.length)=false:=by first|simpa using c3|(simp at c3 ⊢;omega)
  obtain⟨rfl,rfl⟩:=sj2_ H
  go_enter Try.func24,Try.ntmps24
  go_wp2
  go_ret2
  exact⟨_,T14_,T18_,T16_⟩
 rw[if_pos c3] at H
 obtain⟨c3b0,c3b1⟩:=ep_ c3
 have c3b2:(l0.length == l1.length)=true:=by first|simpa using c3|(simp at c3 ⊢;omega)
 clear c3
 replace H:=Option.bind_eq_some_iff.mp H
 obtain⟨t309,A40,H⟩:=H
 try dsimp only at H
 have A4:=am_ A40
 clear A40
 by_cases c5:t309=true
 rotate_left
 ·replace c5:=Bool.eq_false_iff.mpr c5
  subst c5
  have H1:(some (([]:List ByteArray),110))=some (r1,r2):=by rw[if_neg (show ¬ (false=true) by decide)] at H;exact H
  clear H
  have H:=H1
  clear H1
  obtain⟨rfl,rfl⟩:=sj2_ H
  go_enter Try.func24,Try.ntmps24
  go_wp2_with(first|(go_at_call 39;(with_reducible refine(perm_fits.calls k _ _ l0 false _ ?side1 ?side2 A4.out).mono ?_);(case side1=>exact cu_ HR0.out);(case side2=>exact HC0.out);rintro e w9 ⟨rfl,hb⟩;have n0_:=am_ (ji T16_ hb);clear HB;have HB:=n0_;clear n0_;clear hb))
  go_ret2
  exact⟨_,T14_,T18_,T16_⟩
 subst c5
 have H1:((perm_picked_string.f k l0 l1).bind fun t310=>(some (t310,0)))=some (r1,r2):=by rw[if_pos rfl] at H;exact H
 clear H
 have H:=H1
 clear H1
 replace H:=Option.bind_eq_some_iff.mp H
 obtain⟨t310,A60,H⟩:=H
 replace H:(some (t310,0))=some (r1,r2):=H
 have A6:=am_ A60
 clear A60
 obtain⟨rfl,rfl⟩:=sj2_ H
 go_enter Try.func24,Try.ntmps24
 go_wp2_with(first|(go_at_call 39;(with_reducible refine(perm_fits.calls k _ _ l0 true _ ?side1 ?side2 A4.out).mono ?_);(case side1=>exact cu_ HR0.out);(case side2=>exact HC0.out);rintro e w7 ⟨rfl,hb⟩;have n0_:=am_ (ji T16_ hb);clear HB;have HB:=n0_;clear n0_;clear hb)|(refine gc_ 49 ?_;refine gl_ (some 18) Try.func49 #[.slice A0 l0.length c0,.slice A1 l1.length c1] ?_;(with_reducible refine(perm_picked_string.calls k _ _ l0 _ _ l1 t310 _ ?side1 ?side2 ?side3 ?side4 A6.out).mono ?_);(case side1=>exact cu_ (jv HR0.out HB.out));(case side2=>exact HC0.out);(case side3=>exact cu_ (jv HR1.out HB.out));(case side4=>exact HC1.out);rintro e w8 ⟨v311,rfl,ho0,hb⟩;refine⟨_,rfl,?_⟩;have n_:=P2_ (jm ho0 (ja T16_)) (ji T16_ hb);clear HB;obtain⟨HO312,HB⟩:=n_;clear hb ho0))
 go_ret2
 exact⟨_,T14_,ru_ HO312.out,T16_⟩
def riffle_Shuffle_string.f (k:Nat) (l0:List Int) (a1:Int) (l2:List ByteArray):Option (List ByteArray×Int):=(riffle_Order.f k l0 (l2.length:Int) a1).bind fun bt313=>(if bt313.2=0 then((perm_Apply_string.f k bt313.1 l2).bind fun bt317=>(some (bt317.1,bt317.2))) else(some (([]:List ByteArray),bt313.2)))
theorem riffle_Shuffle_string.mono:∀ a0 a1 a2 k,LeO (riffle_Shuffle_string.f k a0 a1 a2) (riffle_Shuffle_string.f (k+1) a0 a1 a2):=by
 intro a0 a1 a2 k
 unfold riffle_Shuffle_string.f
 with_reducible repeat' first|exact perm_Apply_string.mono _ _ _|exact riffle_Order.mono _ _ _ _|exact LeO.refl _|exact LeO.none _|refine LeO.ite ?_ ?_|refine LeO.bind ?_ (fun _=>?_)
set_option maxHeartbeats 8000000 in
set_option maxRecDepth 100000 in
theorem riffle_Shuffle_string.calls (k:Nat) (A0:Option Addr) (c0:Nat) (l0:List Int) (a1:Int) (A2:Option Addr) (c2:Nat) (l2:List ByteArray) (r1:List ByteArray) (r2:Int) (w:World) (hr0:Kd.C (jb .u8) w A0 l0.length l0) (hc0:l0.length≤c0) (hr2:Kd.C Kd.string w A2 l2.length l2) (hc2:l2.length≤c2) (h:riffle_Shuffle_string.f k l0 a1 l2=some (r1,r2)) :
  Calls Try.prog 15 #[.slice A0 l0.length c0,.int .i64 a1,.slice A2 l2.length c2] w fun e w'=>∃ v0_:Value,e = .returned (.tuple #[v0_,.int .i64 r2])∧ju Kd.string 9 w' w.heap.size (fun _=>True) v0_ r1∧Below w.heap.size w w':=by
 have HR0:=am_ hr0
 have HC0:=am_ hc0
 clear hr0 hc0
 have HR2:=am_ hr2
 have HC2:=am_ hc2
 clear hr2 hc2
 have HB:=am_ (Below.refl w.heap.size w)
 have H:((riffle_Order.f k l0 (l2.length:Int) a1).bind fun bt313=>(if bt313.2=0 then((perm_Apply_string.f k bt313.1 l2).bind fun bt317=>(some (bt317.1,bt317.2))) else(some (([]:List ByteArray),bt313.2))))=some (r1,r2):=h
 clear h
 replace H:=Option.bind_eq_some_iff.mp H
 obtain⟨⟨t313,t314⟩,A40,H⟩:=H
 try dsimp only at H
 have A4:=am_ A40
 clear A40
 by_cases c5:t314=0
 rotate_left
 ·rw[if_neg c5] at H
  obtain⟨c5b0,c5b1⟩:=en_ c5
  obtain⟨rfl,rfl⟩:=sj2_ H
  go_enter Try.func15,Try.ntmps15
  go_wp2_with(first|(refine gc_ 11 ?_;refine gl_ (some 15) Try.func11 #[.slice A0 l0.length c0,.int .i64 (l2.length:Int),.int .i64 a1] ?_;(with_reducible refine(riffle_Order.calls k _ _ l0 (l2.length:Int) a1 t313 t314 _ ?side1 ?side2 A4.out).mono ?_);(case side1=>exact cu_ HR0.out);(case side2=>exact HC0.out);rintro e w10 ⟨v315,rfl,ho0,hb⟩;refine⟨_,rfl,?_⟩;have n_:=P2_ (jm ho0 (ja T16_)) (ji T16_ hb);clear HB;obtain⟨HO316,HB⟩:=n_;clear hb ho0))
  go_ret2
  exact⟨_,T14_,T18_,T16_⟩
 rw[if_pos c5] at H
 obtain⟨c5b0,c5b1⟩:=ep_ c5
 clear c5
 replace H:=Option.bind_eq_some_iff.mp H
 obtain⟨⟨t317,t318⟩,A60,H⟩:=H
 replace H:(some (t317,t318))=some (r1,r2):=H
 have A6:=am_ A60
 clear A60
 obtain⟨rfl,rfl⟩:=sj2_ H
 go_enter Try.func15,Try.ntmps15
 go_wp2_with(first|(refine gc_ 11 ?_;refine gl_ (some 15) Try.func11 #[.slice A0 l0.length c0,.int .i64 (l2.length:Int),.int .i64 a1] ?_;(with_reducible refine(riffle_Order.calls k _ _ l0 (l2.length:Int) a1 t313 t314 _ ?side1 ?side2 A4.out).mono ?_);(case side1=>exact cu_ HR0.out);(case side2=>exact HC0.out);rintro e w7 ⟨v315,rfl,ho0,hb⟩;refine⟨_,rfl,?_⟩;have n_:=P2_ (jm ho0 (ja T16_)) (ji T16_ hb);clear HB;obtain⟨HO316,HB⟩:=n_;clear hb ho0;obtain⟨Ao8,co8,eo8⟩:=jo HO316.out;subst eo8)|(refine gc_ 24 ?_;refine gl_ (some 23) Try.func24 #[.slice Ao8 t313.length co8,.slice A2 l2.length c2] ?_;(with_reducible refine(perm_Apply_string.calls k _ _ t313 _ _ l2 t317 t318 _ ?side1 ?side2 ?side3 ?side4 A6.out).mono ?_);(case side1=>exact cu_ ((jh HO316.out).2.2));(case side2=>exact(jh HO316.out).2.1);(case side3=>exact cu_ (jv HR2.out HB.out));(case side4=>exact HC2.out);rintro e w9 ⟨v319,rfl,ho0,hb⟩;refine⟨_,rfl,?_⟩;have n_:=P3_ (jd (ru_ HO316.out) hb) (jm ho0 (ja T16_)) (ji T16_ hb);clear HO316 HB;obtain⟨HO316,HO320,HB⟩:=n_;clear hb ho0))
 go_ret2
 exact⟨_,T14_,ru_ HO320.out,T16_⟩
def perm_Check.f (k:Nat) (l0:List Int):Option (Int):=(perm_fits.f k l0).bind fun t321=>(if t321=true then(some 0) else(some 110))
theorem perm_Check.mono:∀ a0 k,LeO (perm_Check.f k a0) (perm_Check.f (k+1) a0):=by
 intro a0 k
 unfold perm_Check.f
 with_reducible repeat' first|exact perm_fits.mono _ _|exact LeO.refl _|exact LeO.none _|refine LeO.ite ?_ ?_|refine LeO.bind ?_ (fun _=>?_)
set_option maxHeartbeats 8000000 in
set_option maxRecDepth 100000 in
theorem perm_Check.calls (k:Nat) (A0:Option Addr) (c0:Nat) (l0:List Int) (r:Int) (w:World) (hr0:Kd.C (jb .i64) w A0 l0.length l0) (hc0:l0.length≤c0) (h:perm_Check.f k l0=some r) :
  Calls Try.prog 18 #[.slice A0 l0.length c0] w fun e w'=>e = .returned (.int .i64 r)∧Below w.heap.size w w':=by
 have HR0:=am_ hr0
 have HC0:=am_ hc0
 clear hr0 hc0
 have HB:=am_ (Below.refl w.heap.size w)
 have H:((perm_fits.f k l0).bind fun t321=>(if t321=true then(some 0) else(some 110)))=some r:=h
 clear h
 replace H:=Option.bind_eq_some_iff.mp H
 obtain⟨t321,A20,H⟩:=H
 try dsimp only at H
 have A2:=am_ A20
 clear A20
 by_cases c3:t321=true
 ·subst c3
  have H1:(some 0)=some r:=by rw[if_pos rfl] at H;exact H
  clear H
  have H:=H1
  clear H1
  obtain rfl:=Option.some.inj H
  obtain⟨rfl⟩:=sj1_ H
  go_enter Try.func18,Try.ntmps18
  go_wp2_with(first|(refine gc_ 39 ?_;refine gl_ (some 4) Try.func39 #[.slice A0 l0.length c0] ?_;(with_reducible refine(perm_fits.calls k _ _ l0 true _ ?side1 ?side2 A2.out).mono ?_);(case side1=>exact cu_ HR0.out);(case side2=>exact HC0.out);rintro e w4 ⟨rfl,hb⟩;refine⟨_,rfl,?_⟩;have n0_:=am_ (ji T16_ hb);clear HB;have HB:=n0_;clear n0_;clear hb))
  go_ret
  exact⟨T14_,T16_⟩
 replace c3:=Bool.eq_false_iff.mpr c3
 subst c3
 have H1:(some 110)=some r:=by rw[if_neg (show ¬ (false=true) by decide)] at H;exact H
 clear H
 have H:=H1
 clear H1
 obtain rfl:=Option.some.inj H
 obtain⟨rfl⟩:=sj1_ H
 go_enter Try.func18,Try.ntmps18
 go_wp2_with(first|(refine gc_ 39 ?_;refine gl_ (some 4) Try.func39 #[.slice A0 l0.length c0] ?_;(with_reducible refine(perm_fits.calls k _ _ l0 false _ ?side1 ?side2 A2.out).mono ?_);(case side1=>exact cu_ HR0.out);(case side2=>exact HC0.out);rintro e w5 ⟨rfl,hb⟩;refine⟨_,rfl,?_⟩;have n0_:=am_ (ji T16_ hb);clear HB;have HB:=n0_;clear n0_;clear hb))
 go_ret
 exact⟨T14_,T16_⟩
def riffle_cut_of.l0:Nat→Int→Int→List Int→List Int→List (List Int)→List Int→List Int→Option (Int)
 | 0,_,_,_,_,_,_,_=>none
 | k+1,x1,x5,x323000,x323001,x323002,x323003,x323004=>if 0≤x5 then(if x5<(x323004.length:Int) then(if x5<(x323003.length:Int) then(if x1 ≥ (wrap64 ((rd x323004 x5)+(rd x323003 x5))) then(riffle_cut_of.l0 k x1 (wrap64 (x5+1)) x323000 x323001 x323002 x323003 x323004) else(some x5)) else(none)) else(none)) else(none)
def riffle_cut_of.f (k:Nat) (l0_0:List Int) (l0_1:List Int) (l0_2:List (List Int)) (l0_3:List Int) (l0_4:List Int) (a1:Int):Option (Int):=riffle_cut_of.l0 k a1 0 l0_0 l0_1 l0_2 l0_3 l0_4
theorem riffle_cut_of.mono_l:∀ k,(∀ y0 y1 y2 y3 y4 y5 y6,LeO (riffle_cut_of.l0 k y0 y1 y2 y3 y4 y5 y6) (riffle_cut_of.l0 (k+1) y0 y1 y2 y3 y4 y5 y6))
 | 0=>fun _ _ _ _ _ _ _ r h=>by simp[riffle_cut_of.l0] at h
 | k+1=>by
  have ih0:=riffle_cut_of.mono_l k
  intro y0 y1 y2 y3 y4 y5 y6
  unfold riffle_cut_of.l0
  with_reducible repeat' first|exact ih0 _ _ _ _ _ _ _|exact LeO.refl _|exact LeO.none _|refine LeO.ite ?_ ?_|refine LeO.bind ?_ (fun _=>?_)
theorem riffle_cut_of.mono:∀ a0 a1 a2 a3 a4 a5 k,LeO (riffle_cut_of.f k a0 a1 a2 a3 a4 a5) (riffle_cut_of.f (k+1) a0 a1 a2 a3 a4 a5):=by
 intro a0 a1 a2 a3 a4 a5 k
 have ih0:=riffle_cut_of.mono_l k
 unfold riffle_cut_of.f
 with_reducible repeat' first|exact ih0 _ _ _ _ _ _ _|exact LeO.refl _|exact LeO.none _|refine LeO.ite ?_ ?_|refine LeO.bind ?_ (fun _=>?_)
set_option maxHeartbeats 8000000 in
set_option maxRecDepth 100000 in
theorem riffle_cut_of.calls (k:Nat) (A0_0:Option Addr) (c0_0:Nat) (l0_0:List Int) (A0_1:Option Addr) (c0_1:Nat) (l0_1:List Int) (A0_2:Option Addr) (c0_2:Nat) (l0_2:List (List Int)) (A0_3:Option Addr) (c0_3:Nat) (l0_3:List Int) (A0_4:Option Addr) (c0_4:Nat) (l0_4:List Int) (a1:Int) (r:Int) (w:World) (hr0_0:Kd.C (jb .u8) w A0_0 l0_0.length l0_0) (hc0_0:l0_0.length≤c0_0) (hr0_1:Kd.C (jb .u8) w A0_1 l0_1.length l0_1) (hc0_1:l0_1.length≤c0_1) (hr0_2:Kd.C (jy 5 (jb .u8)) w A0_2 l0_2.length l0_2) (hc0_2:l0_2.length≤c0_2) (hr0_3:Kd.C (jb .i64) w A0_3 l0_3.length l0_3) (hc0_3:l0_3.length≤c0_3) (hr0_4:Kd.C (jb .i64) w A0_4 l0_4.length l0_4) (hc0_4:l0_4.length≤c0_4) (h:riffle_cut_of.f k l0_0 l0_1 l0_2 l0_3 l0_4 a1=some r) :
  Calls Try.prog 33 #[.agg #[.slice A0_0 l0_0.length c0_0,.slice A0_1 l0_1.length c0_1,.slice A0_2 l0_2.length c0_2,.slice A0_3 l0_3.length c0_3,.slice A0_4 l0_4.length c0_4],.int .i64 a1] w fun e w'=>e = .returned (.int .i64 r)∧Below w.heap.size w w':=by
 have hu57:=Try.underlying57
 have HR0_0:=am_ hr0_0
 have HC0_0:=am_ hc0_0
 clear hr0_0 hc0_0
 have HR0_1:=am_ hr0_1
 have HC0_1:=am_ hc0_1
 clear hr0_1 hc0_1
 have HR0_2:=am_ hr0_2
 have HC0_2:=am_ hc0_2
 clear hr0_2 hc0_2
 have HR0_3:=am_ hr0_3
 have HC0_3:=am_ hc0_3
 clear hr0_3 hc0_3
 have HR0_4:=am_ hr0_4
 have HC0_4:=am_ hc0_4
 clear hr0_4 hc0_4
 have HB:=am_ (Below.refl w.heap.size w)
 have H:(riffle_cut_of.l0 k a1 0 l0_0 l0_1 l0_2 l0_3 l0_4)=some r:=h
 clear h
 have H':=am_ H
 clear H
 go_enter Try.func33,Try.ntmps33
 iterate 4 ((try go_quiet(fail));go_wp2_with(first|(refine gd_ 2 ?_;refine bx_ 2 #[.slice A0_0 l0_0.length c0_0,.slice A0_1 l0_1.length c0_1,.slice A0_2 l0_2.length c0_2,.slice A0_3 l0_3.length c0_3,.slice A0_4 l0_4.length c0_4] 57 ?_;intro gb322 hg w3 hbox hb;have n_:=P4_ (ji T16_ hb) (hbox) ((by rw[hg];exact(ja T16_):w.heap.size≤gb322)) ((by rw[hg];exact(ja T16_):w.heap.size≤gb322));clear HB;obtain⟨HB,BK322,GW322,GE322⟩:=n_;clear hb hbox hg)))
 go_loopg [5] k (fun kq v5 w'=>∃ (x5_1:Int),v5 = .int .i64 x5_1∧Aside0 (riffle_cut_of.l0 kq a1 x5_1 l0_0 l0_1 l0_2 l0_3 l0_4=some r)∧Aside0 (kq≤k)∧Aside0 (w'.heap[gb322]? = some (.cells #[(.slice A0_0 l0_0.length c0_0),(.slice A0_1 l0_1.length c0_1),(.slice A0_2 l0_2.length c0_2),(.slice A0_3 l0_3.length c0_3),(.slice A0_4 l0_4.length c0_4)] 57 (0,0)))∧Aside0 (Below w.heap.size w w'))
 case atStart=>exact⟨(0),T9_,H',⟨Nat.le_refl _⟩,⟨bu_ BK322.out⟩,⟨T25_⟩⟩
 clear H'
 (try clear BK322)
 obtain⟨x5_1,rfl,HA,HK1,BK322,HB⟩:=hrel
 cases gk with
 | zero=>exact absurd HA.out (by simp[riffle_cut_of.l0])
 | succ k1 =>
  have H:=HA.out
  clear HA
  simp only[riffle_cut_of.l0] at H
  replace H:=ifn_ H;obtain⟨c4,H⟩:=H
  have c4b0:=decide_eq_true c4
  clear c4
  replace H:=ifn_ H;obtain⟨c5,H⟩:=H
  have c5b0:=decide_eq_true c5
  clear c5
  replace H:=ifn_ H;obtain⟨c6,H⟩:=H
  have c6b0:=decide_eq_true c6
  clear c6
  by_cases c7:a1 ≥ (wrap64 ((rd l0_4 x5_1)+(rd l0_3 x5_1)))
  rotate_left
  ·rw[if_neg c7] at H
   have c7b0:=decide_eq_false c7
   clear c7
   obtain rfl:=Option.some.inj H
   obtain⟨rfl⟩:=sj1_ H
   obtain⟨hcz9_0,hcz9_1,hcz9_2,hcz9_3,hcz9_4,hfz9_0,hfz9_1,hfz9_2,hfz9_3,hfz9_4⟩:=cz5_ BK322.out
   have p323:0≤(x5_1:Int):=od_
   have q323:x5_1<(l0_4.length:Int):=od_
   obtain⟨ad323,e323,hx323_0⟩:=jH HR0_4.out x5_1 p323 q323
   cases e323
   (try(replace hx323_0:=(HB.out.cell (World.block_lt_of_cell? w _ hx323_0)).trans hx323_0))
   replace p323:=eq_true p323
   replace q323:=eq_true q323
   have p324:0≤(x5_1:Int):=od_
   have q324:x5_1<(l0_3.length:Int):=od_
   obtain⟨ad324,e324,hx324_0⟩:=jH HR0_3.out x5_1 p324 q324
   cases e324
   (try(replace hx324_0:=(HB.out.cell (World.block_lt_of_cell? w _ hx324_0)).trans hx324_0))
   replace p324:=eq_true p324
   replace q324:=eq_true q324
   go_wp2
   repeat(go_quiet(fail);try go_wp2)
   go_ret
   exact⟨T14_,T25_⟩
  rw[if_pos c7] at H
  have c7b0:=decide_eq_true c7
  clear c7
  have H':=am_ H
  clear H
  obtain⟨hcz8_0,hcz8_1,hcz8_2,hcz8_3,hcz8_4,hfz8_0,hfz8_1,hfz8_2,hfz8_3,hfz8_4⟩:=cz5_ BK322.out
  have p323:0≤(x5_1:Int):=od_
  have q323:x5_1<(l0_4.length:Int):=od_
  obtain⟨ad323,e323,hx323_0⟩:=jH HR0_4.out x5_1 p323 q323
  cases e323
  (try(replace hx323_0:=(HB.out.cell (World.block_lt_of_cell? w _ hx323_0)).trans hx323_0))
  replace p323:=eq_true p323
  replace q323:=eq_true q323
  have p324:0≤(x5_1:Int):=od_
  have q324:x5_1<(l0_3.length:Int):=od_
  obtain⟨ad324,e324,hx324_0⟩:=jH HR0_3.out x5_1 p324 q324
  cases e324
  (try(replace hx324_0:=(HB.out.cell (World.block_lt_of_cell? w _ hx324_0)).trans hx324_0))
  replace p324:=eq_true p324
  replace q324:=eq_true q324
  go_wp2
  repeat(go_quiet(fail);try go_wp2)
  go_roundg k1
  case measure=>have:=HK1.out;omega
  case rel=>exact⟨(wrap64 (x5_1+1)),T9_,H',⟨T7_⟩,⟨bu_ BK322.out⟩,⟨T25_⟩⟩
mutual
def braid_Draws.j0:Nat→List Int→List Int→List Int→Int→Bool→Option (List Int×Int)
 | 0,_,_,_,_,_=>none
 | k+1,x0,x1,x2,x8,x37=>if x37=true then(some (([]:List Int),2)) else((some (([]:List Int):List Int)).bind fun y327=>(if y327.length+x0.length<17592186044416 then(if 0≤(x0.length:Int) then(if((x0.length:Int):Int).toNat≤35184372088832 then(braid_Draws.l0 k x0 x1 x2 x8 (y327 ++ x0) (List.replicate ((x0.length:Int):Int).toNat 0) 1) else(none)) else(none)) else(none)))
def braid_Draws.l0:Nat→List Int→List Int→List Int→Int→List Int→List Int→Int→Option (List Int×Int)
 | 0,_,_,_,_,_,_,_=>none
 | k+1,x0,x1,x2,x8,x10,x11,x12=>if x12<(x0.length:Int) then(if 0≤(wrap64 (x12-1)) then(if(wrap64 (x12-1))<(x11.length:Int) then(if(wrap64 (x12-1))<(x0.length:Int) then(if 0≤x12 then(if x12<(x11.length:Int) then(braid_Draws.l0 k x0 x1 x2 x8 x10 (x11.set (x12:Int).toNat (wrap64 ((rd x11 (wrap64 (x12-1)))+(rd x0 (wrap64 (x12-1)))))) (wrap64 (x12+1))) else(none)) else(none)) else(none)) else(none)) else(none)) else(if 0≤x8 then(if(x8:Int).toNat≤35184372088832 then(braid_Draws.l1 k x0 x2 x10 x11 (([]:List Int)) x1 (x1.length:Int) 0) else(none)) else(none))
def braid_Draws.l1:Nat→List Int→List Int→List Int→List Int→List Int→List Int→Int→Int→Option (List Int×Int)
 | 0,_,_,_,_,_,_,_,_=>none
 | k+1,x0,x2,x10,x11,x13,x66,x67,x68=>if x68<x67 then(if 0≤x68 then(if x68<(x66.length:Int) then(if(rd x66 x68)<0 then(braid_Draws.j3 k x0 x2 x10 x11 x13 (rd x66 x68) x66 x67 x68 true) else(if(rd x66 x68) ≥ (x0.length:Int) then(braid_Draws.j3 k x0 x2 x10 x11 x13 (rd x66 x68) x66 x67 x68 true) else(if 0≤(rd x66 x68) then(if(rd x66 x68)<(x10.length:Int) then(braid_Draws.j3 k x0 x2 x10 x11 x13 (rd x66 x68) x66 x67 x68 ((rd x10 (rd x66 x68)) == 0)) else(none)) else(none)))) else(none)) else(none)) else(some (x13,0))
def braid_Draws.j3:Nat→List Int→List Int→List Int→List Int→List Int→Int→List Int→Int→Int→Bool→Option (List Int×Int)
 | 0,_,_,_,_,_,_,_,_,_,_=>none
 | k+1,x0,x2,x10,x11,x13,x15,x66,x67,x68,x86=>if x86=true then(some (([]:List Int),2)) else(if 0≤x15 then(if x15<(x11.length:Int) then(if 0≤(rd x11 x15) then(if(rd x11 x15)<(x2.length:Int) then(if(rd x2 (rd x11 x15))<0 then(braid_Draws.j4 k x0 x2 x10 x11 x13 x15 (rd x2 (rd x11 x15)) x66 x67 x68 true) else(if x15<(x10.length:Int) then(braid_Draws.j4 k x0 x2 x10 x11 x13 x15 (rd x2 (rd x11 x15)) x66 x67 x68 (decide ((rd x2 (rd x11 x15)) ≥ (rd x10 x15)))) else(none))) else(none)) else(none)) else(none)) else(none))
def braid_Draws.j4:Nat→List Int→List Int→List Int→List Int→List Int→Int→Int→List Int→Int→Int→Bool→Option (List Int×Int)
 | 0,_,_,_,_,_,_,_,_,_,_,_=>none
 | k+1,x0,x2,x10,x11,x13,x15,x16,x66,x67,x68,x103=>if x103=true then(some (([]:List Int),2)) else(if 0≤x15 then(if x15≤(x10.length:Int) then((some (x10.take (x15:Int).toNat:List Int)).bind fun y347=>(braid_Draws.l2 k x0 x2 x10 x11 x13 x15 x16 x66 x67 x68 y347 (y347.length:Int) 0)) else(none)) else(none))
def braid_Draws.l2:Nat→List Int→List Int→List Int→List Int→List Int→Int→Int→List Int→Int→Int→List Int→Int→Int→Option (List Int×Int)
 | 0,_,_,_,_,_,_,_,_,_,_,_,_,_=>none
 | k+1,x0,x2,x10,x11,x13,x15,x16,x66,x67,x68,x106,x107,x108=>if x108<x107 then(if 0≤x108 then(if x108<(x106.length:Int) then(braid_Draws.l2 k x0 x2 x10 x11 x13 x15 (wrap64 (x16+(rd x106 x108))) x66 x67 x68 x106 x107 (wrap64 (x108+1))) else(none)) else(none)) else(if x13.length<17592186044416 then(if 0≤x15 then(if x15<(x10.length:Int) then(if x15<(x11.length:Int) then(braid_Draws.l1 k x0 x2 (x10.set (x15:Int).toNat (wrap64 ((rd x10 x15)-1))) (x11.set (x15:Int).toNat (wrap64 ((rd x11 x15)+1))) (x13 ++ [x16]) x66 x67 (wrap64 (x68+1))) else(none)) else(none)) else(none)) else(none))
end
def braid_Draws.f (k:Nat) (l0:List Int) (l1:List Int) (l2:List Int):Option (List Int×Int):=(braid_total.f k l0).bind fun bt325=>(if bt325.2=true then(if(l1.length:Int)=bt325.1 then(braid_Draws.j0 k l0 l1 l2 bt325.1 ((l2.length:Int) != bt325.1)) else(braid_Draws.j0 k l0 l1 l2 bt325.1 true)) else(braid_Draws.j0 k l0 l1 l2 bt325.1 true))
theorem braid_Draws.mono_l:∀ k,(∀ y0 y1 y2 y3 y4,LeO (braid_Draws.j0 k y0 y1 y2 y3 y4) (braid_Draws.j0 (k+1) y0 y1 y2 y3 y4))∧(∀ y0 y1 y2 y3 y4 y5 y6,LeO (braid_Draws.l0 k y0 y1 y2 y3 y4 y5 y6) (braid_Draws.l0 (k+1) y0 y1 y2 y3 y4 y5 y6))∧(∀ y0 y1 y2 y3 y4 y5 y6 y7,LeO (braid_Draws.l1 k y0 y1 y2 y3 y4 y5 y6 y7) (braid_Draws.l1 (k+1) y0 y1 y2 y3 y4 y5 y6 y7))∧(∀ y0 y1 y2 y3 y4 y5 y6 y7 y8 y9,LeO (braid_Draws.j3 k y0 y1 y2 y3 y4 y5 y6 y7 y8 y9) (braid_Draws.j3 (k+1) y0 y1 y2 y3 y4 y5 y6 y7 y8 y9))∧(∀ y0 y1 y2 y3 y4 y5 y6 y7 y8 y9 y10,LeO (braid_Draws.j4 k y0 y1 y2 y3 y4 y5 y6 y7 y8 y9 y10) (braid_Draws.j4 (k+1) y0 y1 y2 y3 y4 y5 y6 y7 y8 y9 y10))∧(∀ y0 y1 y2 y3 y4 y5 y6 y7 y8 y9 y10 y11 y12,LeO (braid_Draws.l2 k y0 y1 y2 y3 y4 y5 y6 y7 y8 y9 y10 y11 y12) (braid_Draws.l2 (k+1) y0 y1 y2 y3 y4 y5 y6 y7 y8 y9 y10 y11 y12))
 | 0=>⟨fun _ _ _ _ _ r h=>by simp[braid_Draws.j0] at h,fun _ _ _ _ _ _ _ r h=>by simp[braid_Draws.l0] at h,fun _ _ _ _ _ _ _ _ r h=>by simp[braid_Draws.l1] at h,fun _ _ _ _ _ _ _ _ _ _ r h=>by simp[braid_Draws.j3] at h,fun _ _ _ _ _ _ _ _ _ _ _ r h=>by simp[braid_Draws.j4] at h,fun _ _ _ _ _ _ _ _ _ _ _ _ _ r h=>by simp[braid_Draws.l2] at h⟩
 | k+1=>by
  obtain⟨ih0,ih1,ih2,ih3,ih4,ih5⟩:=braid_Draws.mono_l k
  refine⟨?_,?_,?_,?_,?_,?_⟩
  ·intro y0 y1 y2 y3 y4
   unfold braid_Draws.j0
   with_reducible repeat' first|exact ih0 _ _ _ _ _|exact ih1 _ _ _ _ _ _ _|exact ih2 _ _ _ _ _ _ _ _|exact ih3 _ _ _ _ _ _ _ _ _ _|exact ih4 _ _ _ _ _ _ _ _ _ _ _|exact ih5 _ _ _ _ _ _ _ _ _ _ _ _ _|exact braid_total.mono _ _|exact LeO.refl _|exact LeO.none _|refine LeO.ite ?_ ?_|refine LeO.bind ?_ (fun _=>?_)
  ·intro y0 y1 y2 y3 y4 y5 y6
   unfold braid_Draws.l0
   with_reducible repeat' first|exact ih0 _ _ _ _ _|exact ih1 _ _ _ _ _ _ _|exact ih2 _ _ _ _ _ _ _ _|exact ih3 _ _ _ _ _ _ _ _ _ _|exact ih4 _ _ _ _ _ _ _ _ _ _ _|exact ih5 _ _ _ _ _ _ _ _ _ _ _ _ _|exact braid_total.mono _ _|exact LeO.refl _|exact LeO.none _|refine LeO.ite ?_ ?_|refine LeO.bind ?_ (fun _=>?_)
  ·intro y0 y1 y2 y3 y4 y5 y6 y7
   unfold braid_Draws.l1
   with_reducible repeat' first|exact ih0 _ _ _ _ _|exact ih1 _ _ _ _ _ _ _|exact ih2 _ _ _ _ _ _ _ _|exact ih3 _ _ _ _ _ _ _ _ _ _|exact ih4 _ _ _ _ _ _ _ _ _ _ _|exact ih5 _ _ _ _ _ _ _ _ _ _ _ _ _|exact braid_total.mono _ _|exact LeO.refl _|exact LeO.none _|refine LeO.ite ?_ ?_|refine LeO.bind ?_ (fun _=>?_)
  ·intro y0 y1 y2 y3 y4 y5 y6 y7 y8 y9
   unfold braid_Draws.j3
   with_reducible repeat' first|exact ih0 _ _ _ _ _|exact ih1 _ _ _ _ _ _ _|exact ih2 _ _ _ _ _ _ _ _|exact ih3 _ _ _ _ _ _ _ _ _ _|exact ih4 _ _ _ _ _ _ _ _ _ _ _|exact ih5 _ _ _ _ _ _ _ _ _ _ _ _ _|exact braid_total.mono _ _|exact LeO.refl _|exact LeO.none _|refine LeO.ite ?_ ?_|refine LeO.bind ?_ (fun _=>?_)
  ·intro y0 y1 y2 y3 y4 y5 y6 y7 y8 y9 y10
   unfold braid_Draws.j4
   with_reducible repeat' first|exact ih0 _ _ _ _ _|exact ih1 _ _ _ _ _ _ _|exact ih2 _ _ _ _ _ _ _ _|exact ih3 _ _ _ _ _ _ _ _ _ _|exact ih4 _ _ _ _ _ _ _ _ _ _ _|exact ih5 _ _ _ _ _ _ _ _ _ _ _ _ _|exact braid_total.mono _ _|exact LeO.refl _|exact LeO.none _|refine LeO.ite ?_ ?_|refine LeO.bind ?_ (fun _=>?_)
  intro y0 y1 y2 y3 y4 y5 y6 y7 y8 y9 y10 y11 y12
  unfold braid_Draws.l2
  with_reducible repeat' first|exact ih0 _ _ _ _ _|exact ih1 _ _ _ _ _ _ _|exact ih2 _ _ _ _ _ _ _ _|exact ih3 _ _ _ _ _ _ _ _ _ _|exact ih4 _ _ _ _ _ _ _ _ _ _ _|exact ih5 _ _ _ _ _ _ _ _ _ _ _ _ _|exact braid_total.mono _ _|exact LeO.refl _|exact LeO.none _|refine LeO.ite ?_ ?_|refine LeO.bind ?_ (fun _=>?_)
theorem braid_Draws.mono:∀ a0 a1 a2 k,LeO (braid_Draws.f k a0 a1 a2) (braid_Draws.f (k+1) a0 a1 a2):=by
 intro a0 a1 a2 k
 obtain⟨ih0,ih1,ih2,ih3,ih4,ih5⟩:=braid_Draws.mono_l k
 unfold braid_Draws.f
 with_reducible repeat' first|exact ih0 _ _ _ _ _|exact ih1 _ _ _ _ _ _ _|exact ih2 _ _ _ _ _ _ _ _|exact ih3 _ _ _ _ _ _ _ _ _ _|exact ih4 _ _ _ _ _ _ _ _ _ _ _|exact ih5 _ _ _ _ _ _ _ _ _ _ _ _ _|exact braid_total.mono _ _|exact LeO.refl _|exact LeO.none _|refine LeO.ite ?_ ?_|refine LeO.bind ?_ (fun _=>?_)
def braid_Draws.T9:Bool×List (List Nat×List Nat):=(true,[([],[]),([],[]),([],[]),([],[]),([3],[3]),([2,4],[2,4]),([5],[5]),([],[]),([],[]),([8],[8]),([7,9],[7,9]),([10],[10]),([6,11],[6,11]),([0,1,0,1,2,3,4,5,6,7,8,9,10,11,12],[0,1]),([13,12,0,1,2,3,4,5,6,7,8,9,10,11,12],[12,13])])
def braid_Draws.B9:List Nat:=[0,0,0,0,8,28,60,0,0,256,896,1920,4092,8191,16383]
theorem braid_Draws.tab9:rtab .any (opsOf Try.f34 9)=braid_Draws.T9:=by kernel_rfl
theorem braid_Draws.bits9:waitsOk braid_Draws.T9.2 braid_Draws.B9=true:=by kernel_rfl
set_option maxHeartbeats 8000000 in
set_option maxRecDepth 100000 in
theorem braid_Draws.calls (k:Nat) (A0:Option Addr) (c0:Nat) (l0:List Int) (A1:Option Addr) (c1:Nat) (l1:List Int) (A2:Option Addr) (c2:Nat) (l2:List Int) (r1:List Int) (r2:Int) (w:World) (hr0:Kd.C (jb .i64) w A0 l0.length l0) (hc0:l0.length≤c0) (hr1:Kd.C (jb .i64) w A1 l1.length l1) (hc1:l1.length≤c1) (hr2:Kd.C (jb .i64) w A2 l2.length l2) (hc2:l2.length≤c2) (h:braid_Draws.f k l0 l1 l2=some (r1,r2)) :
  Calls Try.prog 34 #[.slice A0 l0.length c0,.slice A1 l1.length c1,.slice A2 l2.length c2] w fun e w'=>∃ v0_:Value,e = .returned (.tuple #[v0_,.int .i64 r2])∧ju (jb .i64) 3 w' w.heap.size (fun _=>True) v0_ r1∧Below w.heap.size w w':=by
 have HR0:=am_ hr0
 have HC0:=am_ hc0
 clear hr0 hc0
 have HR1:=am_ hr1
 have HC1:=am_ hc1
 clear hr1 hc1
 have HR2:=am_ hr2
 have HC2:=am_ hc2
 clear hr2 hc2
 have HB:=am_ (Below.refl w.heap.size w)
 have H:((braid_total.f k l0).bind fun bt325=>(if bt325.2=true then(if(l1.length:Int)=bt325.1 then(braid_Draws.j0 k l0 l1 l2 bt325.1 ((l2.length:Int) != bt325.1)) else(braid_Draws.j0 k l0 l1 l2 bt325.1 true)) else(braid_Draws.j0 k l0 l1 l2 bt325.1 true)))=some (r1,r2):=h
 clear h
 replace H:=Option.bind_eq_some_iff.mp H
 obtain⟨⟨t325,t326⟩,A40,H⟩:=H
 try dsimp only at H
 have A4:=am_ A40
 clear A40
 have HC5:=am_ H
 clear H
 go_enter Try.func34,Try.ntmps34
 go_upto_region 2 with(first|(refine gc_ 55 ?_;refine gl_ (some 21) Try.func55 #[.slice A0 l0.length c0] ?_;(with_reducible refine(braid_total.calls k _ _ l0 t325 t326 _ ?side1 ?side2 A4.out).mono ?_);(case side1=>exact cu_ HR0.out);(case side2=>exact HC0.out);rintro e w' ⟨rfl,⟨nd,rfl⟩⟩;refine⟨_,rfl,?_⟩))
 (try simp only[Act.put,List.setIfInBounds_toArray,List.set_cons_zero,List.set_cons_succ])
 go_cut [37] (fun v37 wc=>∃ (kq:Nat) (x37_4:Bool),v37 = .bool x37_4∧Aside0 (braid_Draws.j0 kq l0 l1 l2 t325 x37_4=some (r1,r2))∧Aside0 (kq≤k)∧Aside0 (Below w.heap.size w wc))
 case first =>
  have H:=HC5.out
  clear HC5
  by_cases c6:t326=true
  rotate_left
  ·replace c6:=Bool.eq_false_iff.mpr c6
   subst c6
   have H1:(braid_Draws.j0 k l0 l1 l2 t325 true)=some (r1,r2):=by rw[if_neg (show ¬ (false=true) by decide)] at H;exact H
   clear H
   have H:=H1
   clear H1
   have H':=am_ H
   clear H
   go_wp2
   go_meet
   case rel=>exact⟨_,(true),T9_,H',⟨T8_⟩,⟨T16_⟩⟩
  subst c6
  have H1:(if(l1.length:Int)=t325 then(braid_Draws.j0 k l0 l1 l2 t325 ((l2.length:Int) != t325)) else(braid_Draws.j0 k l0 l1 l2 t325 true))=some (r1,r2):=by rw[if_pos rfl] at H;exact H
  clear H
  have H:=H1
  clear H1
  by_cases c7:(l1.length:Int)=t325
  rotate_left
  ·rw[if_neg c7] at H
   obtain⟨c7b0,c7b1⟩:=en_ c7
   (first|rw[c7b0]|(simp only[jD,jE];rw[c7b0])|skip)
   have H':=am_ H
   clear H
   go_wp2
   go_meet
   case rel=>exact⟨_,(true),T9_,H',⟨T8_⟩,⟨T16_⟩⟩
  rw[if_pos c7] at H
  obtain⟨c7b0,c7b1⟩:=ep_ c7
  clear c7
  (first|rw[c7b0]|(simp only[jD,jE];rw[c7b0])|skip)
  have H':=am_ H
  clear H
  go_wp2
  go_meet
  case rel=>exact⟨_,(((l2.length:Int) != t325)),T9_,H',⟨T8_⟩,⟨T16_⟩⟩
 clear HC5
 obtain⟨kq,x37_4,rfl,HA,HJ4,HB⟩:=hcut
 cases kq with
 | zero=>exact absurd HA.out (by simp[braid_Draws.j0])
 | succ kj4 =>
  have H:=HA.out
  clear HA
  simp only[braid_Draws.j0] at H
  by_cases c8:x37_4=true
  ·subst c8
   have H1:(some (([]:List Int),2))=some (r1,r2):=by rw[if_pos rfl] at H;exact H
   clear H
   have H:=H1
   clear H1
   obtain⟨rfl,rfl⟩:=sj2_ H
   go_wp2
   go_ret2
   exact⟨_,T14_,T18_,T16_⟩
  replace c8:=Bool.eq_false_iff.mpr c8
  subst c8
  have H1:((some (([]:List Int):List Int)).bind fun y327=>(if y327.length+l0.length<17592186044416 then(if 0≤(l0.length:Int) then(if((l0.length:Int):Int).toNat≤35184372088832 then(braid_Draws.l0 kj4 l0 l1 l2 t325 (y327 ++ l0) (List.replicate ((l0.length:Int):Int).toNat 0) 1) else(none)) else(none)) else(none)))=some (r1,r2):=by rw[if_neg (show ¬ (false=true) by decide)] at H;exact H
  clear H
  have H:=H1
  clear H1
  obtain⟨y327,hy_⟩:∃ y_:List Int,y_=(([]:List Int)):=⟨_,rfl⟩
  replace H:(if y327.length+l0.length<17592186044416 then(if 0≤(l0.length:Int) then(if((l0.length:Int):Int).toNat≤35184372088832 then(braid_Draws.l0 kj4 l0 l1 l2 t325 (y327 ++ l0) (List.replicate ((l0.length:Int):Int).toNat 0) 1) else(none)) else(none)) else(none))=some (r1,r2):=hyw_
  have Ny327:=am_ hy_
  clear hy_
  replace H:=ifa_ H;obtain⟨LMc9,H⟩:=H
  obtain⟨y330,hy_⟩:∃ y_:List Int,y_=(y327 ++ l0):=⟨_,rfl⟩
  replace H:(if 0≤(l0.length:Int) then(if((l0.length:Int):Int).toNat≤35184372088832 then(braid_Draws.l0 kj4 l0 l1 l2 t325 y330 (List.replicate ((l0.length:Int):Int).toNat 0) 1) else(none)) else(none))=some (r1,r2):=hyw_
  have Ny330:=am_ hy_
  clear hy_
  replace H:=ifn_ H;obtain⟨c10,H⟩:=H
  have c10b0:=eq_true c10
  have c10b1:decide (0≤(l0.length:Int))=true:=decide_eq_true c10
  clear c10
  replace H:=ifn_ H;obtain⟨c11,H⟩:=H
  have c11b0:=eq_true c11
  have c11b1:decide (((l0.length:Int):Int).toNat≤35184372088832)=true:=decide_eq_true c11
  clear c11
  obtain⟨y333,hy_⟩:∃ y_:List Int,y_=(List.replicate ((l0.length:Int):Int).toNat 0):=⟨_,rfl⟩
  replace H:(braid_Draws.l0 kj4 l0 l1 l2 t325 y330 y333 1)=some (r1,r2):=hyw_
  have Ny333:=am_ hy_
  clear hy_
  have H':=am_ H
  clear H
  go_wp2_with(first|(refine gd_ 38 ?_;(try(refine gate_guard T0_ ?_;dsimp only));refine Kd.R_lit (jb .i64) _ 3 ?hg (N:=38) ?hd (xs:=([]:List Int)) (inner:=[]) (ok:=fun _=>True) (okp:=fun _=>True) ?hr ?hp (fun _ hk=>hk) trivial (Below.refl _ _) (Nat.le_refl _) T1_ ?_;(case hd=>rfl);(case hg=>rfl);(case hr=>first|(go_simp;done)|(go_simp;rfl));(case hp=>exact(Reps.none _ _));intro v328 w12 ho13 hb hg_ hnew_;clear hg_ hnew_;(first|rw[←Ny327.out] at ho13|(simp only[Int.reduceToNat] at ho13;rw[←Ny327.out] at ho13));have n_:=P2_ (jm ho13 (ja T16_)) (ji T16_ hb);clear HB;obtain⟨HO329,HB⟩:=n_;clear hb ho13)|(refine gb_ .append #[.tmp 38,.tmp 39] ?_;(try(refine gate_guard T0_ ?_;dsimp only));at_builtin;refine Kd.R_append_rows (jb .i64) (w0:=w) w.heap.size rfl (.tmp 38) (.tmp 39) 24 3 (.int .i64 0) 8 rfl Try.underlying24 info3 rfl T3_ T2_ v328 y327 l0 _ _ _ (fun _=>True) (fun _=>False) rfl rfl ?aO ?aR (fun _ _ h=>h) (fun _ h=>h.elim) ?aF ?aB ?aS ?aL ?_;(case aR=>exact cu_ (jv HR0.out HB.out));(case aB=>exact T16_);(case aF=>exact(fun _ _=>trivial));(case aO=>exact(ru_ HO329.out));(case aS=>exact(ja T16_));(case aL=>have:=LMc9.out;omega);intro v331 w14 ho hb hg hat;rw[←Ny330.out] at ho;have n_:=P2_ (hb) (ho);clear HB HO329;obtain⟨HB,HO332⟩:=n_;clear ho hb hg hat)|(refine gd_ 43 ?_;(try(refine gate_guard T0_ ?_;dsimp only));refine Kd.R_make (jb .i64) _ 3 rfl (N:=43) rfl 24 _ _ rfl (l0.length:Int) rfl rfl Try.underlying24 (.int .i64 0) 8 info3 rfl T3_ T2_ 0 (ok:=fun _=>True) (okp:=fun _=>True) rfl (fun _ hk=>hk) trivial (od_) (Nat.le_trans (Nat.mul_le_mul_right _ (od_:(l0.length:Int).toNat≤35184372088832)) T2_) (Below.refl _ _) (Nat.le_refl _) ?_;intro v334 w15 ho16 hb hg_ hnew_;clear hg_ hnew_;(first|rw[←Ny333.out] at ho16|(simp only[Int.reduceToNat] at ho16;rw[←Ny333.out] at ho16));have n_:=P3_ (jg (ru_ HO332.out) (jf ho16) hb) (jm (jk ho16 (jj (ru_ HO332.out))) (ja T16_)) (ji T16_ hb);clear HO332 HB;obtain⟨HO332,HO335,HB⟩:=n_;clear hb ho16))
  go_loopg [12] kj4 (fun kq v12 w'=>∃ (x11_2:List Int) (x12_2:Int),v12 = .int .i64 x12_2∧Aside0 (braid_Draws.l0 kq l0 l1 l2 t325 y330 x11_2 x12_2=some (r1,r2))∧Aside0 (kq≤kj4)∧Aside0 (ju (jb .i64) 3 w' w.heap.size (fun k_=>ne_ k_ v334) v331 y330)∧Aside0 (ju (jb .i64) 3 w' w.heap.size (fun k_=>ne_ k_ v331) v334 x11_2)∧Aside0 (Below w.heap.size w w'))
  case atStart=>exact⟨(y333),(1),T9_,H',⟨Nat.le_refl _⟩,⟨ru_ (jc HO332.out (fun _ hk=>hk.2))⟩,⟨ru_ (jc HO335.out (fun _ hk=>hk.2))⟩,⟨T16_⟩⟩
  clear H'
  (try clear c8);(try clear c10);(try clear c10b0 c10b1);(try clear c11);(try clear c11b0 c11b1)
  obtain⟨x11_2,x12_2,rfl,HA,HK2,HO_10,HO_11,HB⟩:=hrel
  cases gk with
  | zero=>exact absurd HA.out (by simp[braid_Draws.l0])
  | succ k2 =>
   have H:=HA.out
   clear HA
   simp only[braid_Draws.l0] at H
   by_cases c17:x12_2<(l0.length:Int)
   ·rw[if_pos c17] at H
    have c17b0:=decide_eq_true c17
    clear c17
    obtain⟨ji18,hji18⟩:∃ j_:Int,(wrap64 (x12_2-1))=j_:=⟨_,rfl⟩
    replace H:(if 0≤(ji18) then(if(ji18)<(x11_2.length:Int) then(if(ji18)<(l0.length:Int) then(if 0≤x12_2 then(if x12_2<(x11_2.length:Int) then(braid_Draws.l0 k2 l0 l1 l2 t325 y330 (x11_2.set (x12_2:Int).toNat (wrap64 ((rd x11_2 (ji18))+(rd l0 (ji18))))) (wrap64 (x12_2+1))) else(none)) else(none)) else(none)) else(none)) else(none))=some (r1,r2):=by first|(rw[hji18] at H;exact H)|(simp only[hji18] at H ⊢;exact H)
    have hji18w:(IntKind.i64.wrap (x12_2-1))=ji18:=(jD _).trans hji18
    replace H:=ifn_ H;obtain⟨c19,H⟩:=H
    have c19b0:=decide_eq_true c19
    clear c19
    replace H:=ifn_ H;obtain⟨c20,H⟩:=H
    have c20b0:=decide_eq_true c20
    clear c20
    replace H:=ifn_ H;obtain⟨c21,H⟩:=H
    have c21b0:=decide_eq_true c21
    clear c21
    replace H:=ifn_ H;obtain⟨c22,H⟩:=H
    have c22b0:=decide_eq_true c22
    clear c22
    replace H:=ifn_ H;obtain⟨c23,H⟩:=H
    have c23b0:=decide_eq_true c23
    clear c23
    obtain⟨y338,hy_⟩:∃ y_:List Int,y_=(x11_2.set (x12_2:Int).toNat (wrap64 ((rd x11_2 (ji18))+(rd l0 (ji18))))):=⟨_,rfl⟩
    replace H:(braid_Draws.l0 k2 l0 l1 l2 t325 y330 y338 (wrap64 (x12_2+1)))=some (r1,r2):=hyw_
    have Ny338:=am_ hy_
    clear hy_
    have H':=am_ H
    clear H
    try go_wp2
    have n_:=P3_ (jq HO_10.out) (jq HO_11.out) (jG HB.out)
    clear HO_10 HO_11 HB
    obtain⟨HO_10,HO_11,HB⟩:=n_
    obtain⟨Ao26,co26,eo26⟩:=jo HO_11.out
    (first|subst eo26|(injection eo26 with f1_ f2_ f3_;have f4_:=f1_.symm;have f5_:=f3_.symm;clear f1_ f2_ f3_;subst f4_;subst f5_))
    obtain⟨ad336,e336,hx336_0,p336,q336⟩:=ai_ (jh HO_11.out).2.2 (ji18)
    cases e336
    have p337:0≤((ji18):Int):=od_
    have q337:(ji18)<(l0.length:Int):=od_
    obtain⟨ad337,e337,hx337_0⟩:=jH HR0.out (ji18) p337 q337
    have hw337_0:=hx337_0
    cases e337
    (try(replace hx337_0:=(HB.out.cell (World.block_lt_of_cell? w _ hx337_0)).trans hx337_0))
    replace p337:=eq_true p337
    replace q337:=eq_true q337
    have p24:0≤(x12_2:Int):=od_
    have q24:(x12_2:Int)<((x11_2.length:Int):Int):=od_
    obtain⟨go24,co24,eo24,gb24,gl24,cl24,HG24⟩:=Kd.R_form HO_11.out T2_
    (first|cases eo24|(injection eo24 with ea_ en_ ec_;(first|subst ea_|(injection ea_ with ea_;subst ea_));subst ec_;clear en_))
    have GB24:=am_ gb24
    have GG24:=am_ HG24
    clear gb24 gl24 HG24
    (first|simp only[add_plain] at hx336_0|skip)
    obtain⟨hx24_0,hf24_0⟩:=Kd.R_celln 0 HO_11.out (x12_2:Int) p24 q24
    replace p24:=eq_true p24
    replace q24:=eq_true q24
    have HP27:=Kd.R_putn HO_11.out (x12_2:Int) (wrap64 ((rd x11_2 (ji18))+(rd l0 (ji18))))
    rw[←Ny338.out] at HP27
    have HQ27:=am_ HP27
    clear HP27
    refine start_ (n:=15) (S:=fun w'=>w'.cell? ⟨go24,((ji18)).toNat,none⟩=some (.int .i64 (rd x11_2 (ji18)))∧w'.cell? (ad337.add ((ji18)).toNat)=some (.int .i64 (rd l0 (ji18)))) (ds:=[14]) #[false,false,false,false,false,false,false,false,false,false,false,false,false,false,false] T4_ rfl rfl ⟨hx336_0,((HB.out.cell (World.block_lt_of_cell? w _ hw337_0)).trans hw337_0)⟩ (fun hHeld=>?_);refine with_tabW braid_Draws.tab9 braid_Draws.bits9 (fun HT_ HW_=>?_)
    generalize wr.drew=w25 at HO_10 HO_11 HB GG24 HQ27 hf24_0 hx24_0 hx336_0 hx337_0 hHeld ⊢
    refine pz_ 0 (some 50) ?_
    refine pz_ 1 (some 51) ?_
    refine pz_ 2 (some 52) ?_
    refine pz_ 3 (some 53) ?_
    refine pz_ 4 (some 54) ?_
    refine pz_ 5 (some 55) ?_
    refine pz_ 7 (some 57) ?_
    refine pz_ 8 (some 58) ?_
    refine pz_ 9 (some 59) ?_
    refine pz_ 10 (some 60) ?_
    refine tz2_ 6 (some 56) hHeld ?_
    refine tz2_ 11 (some 61) hHeld ?_
    refine pz_ 12 (some 62) ?_
    refine pz_ 13 (some 63) ?_
    refine last_ (i:=14) (N:=none) #[true,true,true,true,true,true,true,true,true,true,true,true,true,true,true] rfl rfl (one_of HT_.out T4_) T3_ (fun K hK=>?_)
    refine skip_ (w1:=?_) T0_ rfl ?_ ?_
    rotate_left
    ·go_simp
     rfl
    refine hK.out _ _ ?_
    clear hK K
    refine done_ (done_of HT_.out T4_) ?_
    try go_wp2
    go_roundg k2
    case measure=>have:=HJ4.out;have:=HK2.out;omega
    case rel=>exact⟨(y338),(wrap64 (x12_2+1)),T9_,H',⟨(by have:=HJ4.out;have:=HK2.out;omega)⟩,⟨ru_ (jc (je (p:=⟨go24,(x12_2:Int).toNat,none⟩) (jc HO_10.out (fun k_ hk=>(⟨hk,fun e_=>hk T5_⟩:_∧k_≠go24))) (fun _ hk=>hk.2) (.int .i64 (wrap64 ((rd x11_2 (ji18))+(rd l0 (ji18)))))) (fun _ hk=>hk.1))⟩,⟨(by(with_reducible repeat(first|apply Kd.R_alloc|apply Kd.R_drewN|apply jq));exact HQ27.out)⟩,⟨(by repeat(first|(with_reducible first|exact HB.out|apply below_alloc|apply pw_below_drewN|apply jG|refine jJ ?_ GB24.out)|exact HB.out))⟩⟩
   rw[if_neg c17] at H
   have c17b0:=decide_eq_false c17
   clear c17
   replace H:=ifn_ H;obtain⟨c28,H⟩:=H
   have c28b0:=eq_true c28
   have c28b1:decide (0≤t325)=true:=decide_eq_true c28
   clear c28
   replace H:=ifn_ H;obtain⟨c29,H⟩:=H
   have c29b0:=eq_true c29
   have c29b1:decide ((t325:Int).toNat≤35184372088832)=true:=decide_eq_true c29
   clear c29
   obtain⟨y339,hy_⟩:∃ y_:List Int,y_=(([]:List Int)):=⟨_,rfl⟩
   replace H:(braid_Draws.l1 k2 l0 l2 y330 x11_2 y339 l1 (l1.length:Int) 0)=some (r1,r2):=hyw_
   have Ny339:=am_ hy_
   clear hy_
   have H':=am_ H
   clear H
   go_wp2_with(first|(refine gd_ 65 ?_;(try(refine gate_guard T0_ ?_;dsimp only));refine Kd.R_make0 (jb .i64) _ 3 rfl (N:=65) rfl 24 _ _ rfl t325 rfl rfl Try.underlying24 (.int .i64 0) 8 info3 rfl T3_ T2_ 0 (ok:=fun _=>True) (okp:=fun _=>True) rfl (fun _ hk=>hk) trivial (od_) (Nat.le_trans (Nat.mul_le_mul_right _ (od_:t325.toNat≤35184372088832)) T2_) (Below.refl _ _) (Nat.le_refl _) ?_;intro v340 w30 ho31 hb hg_ hnew_;clear hg_ hnew_;(first|rw[←Ny339.out] at ho31|(simp only[Int.reduceToNat] at ho31;rw[←Ny339.out] at ho31));have n_:=P4_ (jg (ru_ HO_10.out) (jf ho31) hb) (jg (ru_ HO_11.out) (jf ho31) hb) (jm (jk (jk ho31 (jj (ru_ HO_10.out))) (jj (ru_ HO_11.out))) (ja T16_)) (ji T16_ hb);clear HO_10 HO_11 HB;obtain⟨HO_10,HO_11,HO341,HB⟩:=n_;clear hb ho31))
   go_loopg [13,68] k2 (fun kq v13 v68 w'=>∃ (x10_3:List Int) (x11_3:List Int) (x13_3:List Int) (x68_3:Int),v68 = .int .i64 x68_3∧Aside0 (braid_Draws.l1 kq l0 l2 x10_3 x11_3 x13_3 l1 (l1.length:Int) x68_3=some (r1,r2))∧Aside0 (kq≤k2)∧Aside0 (ju (jb .i64) 3 w' w.heap.size (fun k_=>ne_ k_ v334∧ne_ k_ v13) v331 x10_3)∧Aside0 (ju (jb .i64) 3 w' w.heap.size (fun k_=>ne_ k_ v331∧ne_ k_ v13) v334 x11_3)∧Aside0 (ju (jb .i64) 3 w' w.heap.size (fun k_=>ne_ k_ v331∧ne_ k_ v334) v13 x13_3)∧Aside0 (Below w.heap.size w w'))
   case atStart=>exact⟨(y330),(x11_2),(y339),(0),T9_,H',⟨Nat.le_refl _⟩,⟨ru_ HO_10.out⟩,⟨ru_ HO_11.out⟩,⟨ru_ (jc HO341.out (fun _ hk=>⟨hk.1.2,hk.2⟩))⟩,⟨T16_⟩⟩
   clear H'
   (try clear c8);(try clear c10);(try clear c10b0 c10b1);(try clear c11);(try clear c11b0 c11b1);(try clear c17);(try clear c17b0);(try clear c28);(try clear c28b0 c28b1);(try clear c29);(try clear c29b0 c29b1)
   obtain⟨x10_3,x11_3,x13_3,x68_3,rfl,HA,HK3,HO_10,HO_11,HO_13,HB⟩:=hrel
   cases gk with
   | zero=>exact absurd HA.out (by simp[braid_Draws.l1])
   | succ k3 =>
    have H:=HA.out
    clear HA
    simp only[braid_Draws.l1] at H
    by_cases c32:x68_3<(l1.length:Int)
    rotate_left
    ·rw[if_neg c32] at H
     have c32b0:=decide_eq_false c32
     clear c32
     obtain⟨rfl,rfl⟩:=sj2_ H
     go_wp2
     go_ret2
     exact⟨_,T14_,ru_ (jc HO_13.out (fun _ hk=>trivial)),T16_⟩
    rw[if_pos c32] at H
    have c32b0:=decide_eq_true c32
    clear c32
    replace H:=ifn_ H;obtain⟨c33,H⟩:=H
    have c33b0:=decide_eq_true c33
    clear c33
    replace H:=ifn_ H;obtain⟨c34,H⟩:=H
    have c34b0:=decide_eq_true c34
    clear c34
    have HC35:=am_ H
    clear H
    have p342:0≤(x68_3:Int):=od_
    have q342:x68_3<(l1.length:Int):=od_
    obtain⟨ad342,e342,hx342_0⟩:=jH HR1.out x68_3 p342 q342
    cases e342
    (try(replace hx342_0:=(HB.out.cell (World.block_lt_of_cell? w _ hx342_0)).trans hx342_0))
    replace p342:=eq_true p342
    replace q342:=eq_true q342
    go_upto_region 14 with(fail)
    go_cut [86] (fun v86 wc=>∃ (kq:Nat) (x86_34:Bool),v86 = .bool x86_34∧Aside0 (braid_Draws.j3 kq l0 l2 x10_3 x11_3 x13_3 (rd l1 x68_3) l1 (l1.length:Int) x68_3 x86_34=some (r1,r2))∧Aside0 (kq≤k3)∧Aside0 (ju (jb .i64) 3 wc w.heap.size (fun k_=>ne_ k_ v334∧ne_ k_ u13) v331 x10_3)∧Aside0 (ju (jb .i64) 3 wc w.heap.size (fun k_=>ne_ k_ v331∧ne_ k_ u13) v334 x11_3)∧Aside0 (ju (jb .i64) 3 wc w.heap.size (fun k_=>ne_ k_ v331∧ne_ k_ v334) u13 x13_3)∧Aside0 (Below w.heap.size w wc))
    case first =>
     have H:=HC35.out
     clear HC35
     by_cases c36:(rd l1 x68_3)<0
     ·rw[if_pos c36] at H
      have c36b0:=decide_eq_true c36
      clear c36
      (first|rw[c36b0]|(simp only[jD,jE];rw[c36b0])|skip)
      have H':=am_ H
      clear H
      go_wp2
      go_meet
      case rel=>exact⟨_,(true),T9_,H',⟨T13_⟩,⟨ru_ HO_10.out⟩,⟨ru_ HO_11.out⟩,⟨ru_ HO_13.out⟩,⟨T16_⟩⟩
     rw[if_neg c36] at H
     have c36b0:=decide_eq_false c36
     clear c36
     (first|rw[c36b0]|(simp only[jD,jE];rw[c36b0])|skip)
     by_cases c37:(rd l1 x68_3) ≥ (l0.length:Int)
     ·rw[if_pos c37] at H
      have c37b0:=decide_eq_true c37
      clear c37
      have H':=am_ H
      clear H
      go_wp2
      go_meet
      case rel=>exact⟨_,(true),T9_,H',⟨T13_⟩,⟨ru_ HO_10.out⟩,⟨ru_ HO_11.out⟩,⟨ru_ HO_13.out⟩,⟨T16_⟩⟩
     rw[if_neg c37] at H
     have c37b0:=decide_eq_false c37
     clear c37
     replace H:=ifn_ H;obtain⟨c38,H⟩:=H
     have c38b0:=decide_eq_true c38
     clear c38
     replace H:=ifn_ H;obtain⟨c39,H⟩:=H
     have c39b0:=decide_eq_true c39
     clear c39
     have H':=am_ H
     clear H
     obtain⟨Ao40,co40,eo40⟩:=jo HO_10.out
     subst eo40
     obtain⟨ad343,e343,hx343_0,p343,q343⟩:=ai_ (jh HO_10.out).2.2 (rd l1 x68_3)
     cases e343
     go_wp2
     go_meet
     case rel=>exact⟨_,(((rd x10_3 (rd l1 x68_3)) == 0)),T9_,H',⟨T13_⟩,⟨ru_ HO_10.out⟩,⟨ru_ HO_11.out⟩,⟨ru_ HO_13.out⟩,⟨T16_⟩⟩
    clear HC35
    (try clear c8);(try clear c10);(try clear c10b0 c10b1);(try clear c11);(try clear c11b0 c11b1);(try clear c17);(try clear c17b0);(try clear c28);(try clear c28b0 c28b1);(try clear c29);(try clear c29b0 c29b1);(try clear c32);(try clear c32b0);(try clear c33);(try clear c33b0);(try clear c34);(try clear c34b0);(try clear hx342_0);(try clear p342 q342)
    obtain⟨kq,x86_34,rfl,HA,HJ34,HO_10,HO_11,HO_13,HB⟩:=hcut
    cases kq with
    | zero=>exact absurd HA.out (by simp[braid_Draws.j3])
    | succ kj34 =>
     have H:=HA.out
     clear HA
     simp only[braid_Draws.j3] at H
     by_cases c41:x86_34=true
     ·subst c41
      have H1:(some (([]:List Int),2))=some (r1,r2):=by rw[if_pos rfl] at H;exact H
      clear H
      have H:=H1
      clear H1
      obtain⟨rfl,rfl⟩:=sj2_ H
      go_wp2
      go_ret2
      exact⟨_,T14_,T18_,T16_⟩
     replace c41:=Bool.eq_false_iff.mpr c41
     subst c41
     have H1:(if 0≤(rd l1 x68_3) then(if(rd l1 x68_3)<(x11_3.length:Int) then(if 0≤(rd x11_3 (rd l1 x68_3)) then(if(rd x11_3 (rd l1 x68_3))<(l2.length:Int) then(if(rd l2 (rd x11_3 (rd l1 x68_3)))<0 then(braid_Draws.j4 kj34 l0 l2 x10_3 x11_3 x13_3 (rd l1 x68_3) (rd l2 (rd x11_3 (rd l1 x68_3))) l1 (l1.length:Int) x68_3 true) else(if(rd l1 x68_3)<(x10_3.length:Int) then(braid_Draws.j4 kj34 l0 l2 x10_3 x11_3 x13_3 (rd l1 x68_3) (rd l2 (rd x11_3 (rd l1 x68_3))) l1 (l1.length:Int) x68_3 (decide ((rd l2 (rd x11_3 (rd l1 x68_3))) ≥ (rd x10_3 (rd l1 x68_3))))) else(none))) else(none)) else(none)) else(none)) else(none))=some (r1,r2):=by rw[if_neg (show ¬ (false=true) by decide)] at H;exact H
     clear H
     have H:=H1
     clear H1
     replace H:=ifn_ H;obtain⟨c42,H⟩:=H
     have c42b0:=decide_eq_true c42
     clear c42
     replace H:=ifn_ H;obtain⟨c43,H⟩:=H
     have c43b0:=decide_eq_true c43
     clear c43
     replace H:=ifn_ H;obtain⟨c44,H⟩:=H
     have c44b0:=decide_eq_true c44
     clear c44
     replace H:=ifn_ H;obtain⟨c45,H⟩:=H
     have c45b0:=decide_eq_true c45
     clear c45
     have HC46:=am_ H
     clear H
     obtain⟨Ao47,co47,eo47⟩:=jo HO_11.out
     subst eo47
     obtain⟨ad344,e344,hx344_0,p344,q344⟩:=ai_ (jh HO_11.out).2.2 (rd l1 x68_3)
     cases e344
     have p345:0≤((rd x11_3 (rd l1 x68_3)):Int):=od_
     have q345:(rd x11_3 (rd l1 x68_3))<(l2.length:Int):=od_
     obtain⟨ad345,e345,hx345_0⟩:=jH HR2.out (rd x11_3 (rd l1 x68_3)) p345 q345
     cases e345
     (try(replace hx345_0:=(HB.out.cell (World.block_lt_of_cell? w _ hx345_0)).trans hx345_0))
     replace p345:=eq_true p345
     replace q345:=eq_true q345
     go_upto_region 17 with(fail)
     go_cut [103] (fun v103 wc=>∃ (kq:Nat) (x103_45:Bool),v103 = .bool x103_45∧Aside0 (braid_Draws.j4 kq l0 l2 x10_3 x11_3 x13_3 (rd l1 x68_3) (rd l2 (rd x11_3 (rd l1 x68_3))) l1 (l1.length:Int) x68_3 x103_45=some (r1,r2))∧Aside0 (kq≤kj34)∧Aside0 (ju (jb .i64) 3 wc w.heap.size (fun k_=>ne_ k_ (.slice (some ad344) x11_3.length co47)∧ne_ k_ u13) v331 x10_3)∧Aside0 (ju (jb .i64) 3 wc w.heap.size (fun k_=>ne_ k_ v331∧ne_ k_ u13) (.slice (some ad344) x11_3.length co47) x11_3)∧Aside0 (ju (jb .i64) 3 wc w.heap.size (fun k_=>ne_ k_ v331∧ne_ k_ (.slice (some ad344) x11_3.length co47)) u13 x13_3)∧Aside0 (Below w.heap.size w wc))
     case first =>
      have H:=HC46.out
      clear HC46
      by_cases c48:(rd l2 (rd x11_3 (rd l1 x68_3)))<0
      ·rw[if_pos c48] at H
       have c48b0:=decide_eq_true c48
       clear c48
       (first|rw[c48b0]|(simp only[jD,jE];rw[c48b0])|skip)
       have H':=am_ H
       clear H
       go_wp2
       go_meet
       case rel=>exact⟨_,(true),T9_,H',⟨(by have:=HJ4.out;have:=HK2.out;have:=HK3.out;have:=HJ34.out;first|omega|exact Nat.le_refl _)⟩,⟨ru_ HO_10.out⟩,⟨ru_ HO_11.out⟩,⟨ru_ HO_13.out⟩,⟨T16_⟩⟩
      rw[if_neg c48] at H
      have c48b0:=decide_eq_false c48
      clear c48
      (first|rw[c48b0]|(simp only[jD,jE];rw[c48b0])|skip)
      replace H:=ifn_ H;obtain⟨c49,H⟩:=H
      have c49b0:=decide_eq_true c49
      clear c49
      have H':=am_ H
      clear H
      obtain⟨Ao50,co50,eo50⟩:=jo HO_10.out
      subst eo50
      obtain⟨ad346,e346,hx346_0,p346,q346⟩:=ai_ (jh HO_10.out).2.2 (rd l1 x68_3)
      cases e346
      go_wp2
      go_meet
      case rel=>exact⟨_,(decide ((rd l2 (rd x11_3 (rd l1 x68_3))) ≥ (rd x10_3 (rd l1 x68_3)))),T9_,H',⟨(by have:=HJ4.out;have:=HK2.out;have:=HK3.out;have:=HJ34.out;first|omega|exact Nat.le_refl _)⟩,⟨ru_ HO_10.out⟩,⟨ru_ HO_11.out⟩,⟨ru_ HO_13.out⟩,⟨T16_⟩⟩
     clear HC46
     (try clear c8);(try clear c10);(try clear c10b0 c10b1);(try clear c11);(try clear c11b0 c11b1);(try clear c17);(try clear c17b0);(try clear c28);(try clear c28b0 c28b1);(try clear c29);(try clear c29b0 c29b1);(try clear c32);(try clear c32b0);(try clear c33);(try clear c33b0);(try clear c34);(try clear c34b0);(try clear c41);(try clear c42);(try clear c42b0);(try clear c43);(try clear c43b0);(try clear c44);(try clear c44b0);(try clear c45);(try clear c45b0);(try clear hx342_0);(try clear hx344_0);(try clear hx345_0);(try clear p342 q342);(try clear p344 q344);(try clear p345 q345)
     obtain⟨kq,x103_45,rfl,HA,HJ45,HO_10,HO_11,HO_13,HB⟩:=hcut
     cases kq with
     | zero=>exact absurd HA.out (by simp[braid_Draws.j4])
     | succ kj45 =>
      have H:=HA.out
      clear HA
      simp only[braid_Draws.j4] at H
      by_cases c51:x103_45=true
      ·subst c51
       have H1:(some (([]:List Int),2))=some (r1,r2):=by rw[if_pos rfl] at H;exact H
       clear H
       have H:=H1
       clear H1
       obtain⟨rfl,rfl⟩:=sj2_ H
       go_wp2
       go_ret2
       exact⟨_,T14_,T18_,T16_⟩
      replace c51:=Bool.eq_false_iff.mpr c51
      subst c51
      have H1:(if 0≤(rd l1 x68_3) then(if(rd l1 x68_3)≤(x10_3.length:Int) then((some (x10_3.take ((rd l1 x68_3):Int).toNat:List Int)).bind fun y347=>(braid_Draws.l2 kj45 l0 l2 x10_3 x11_3 x13_3 (rd l1 x68_3) (rd l2 (rd x11_3 (rd l1 x68_3))) l1 (l1.length:Int) x68_3 y347 (y347.length:Int) 0)) else(none)) else(none))=some (r1,r2):=by rw[if_neg (show ¬ (false=true) by decide)] at H;exact H
      clear H
      have H:=H1
      clear H1
      replace H:=ifn_ H;obtain⟨c52,H⟩:=H
      have c52b0:=eq_true c52
      have c52b1:decide (0≤(rd l1 x68_3))=true:=decide_eq_true c52
      clear c52
      replace H:=ifn_ H;obtain⟨c53,H⟩:=H
      have c53b0:=eq_true c53
      have c53b1:decide ((rd l1 x68_3)≤(x10_3.length:Int))=true:=decide_eq_true c53
      clear c53
      obtain⟨y347,hy_⟩:∃ y_:List Int,y_=(x10_3.take ((rd l1 x68_3):Int).toNat):=⟨_,rfl⟩
      replace H:(braid_Draws.l2 kj45 l0 l2 x10_3 x11_3 x13_3 (rd l1 x68_3) (rd l2 (rd x11_3 (rd l1 x68_3))) l1 (l1.length:Int) x68_3 y347 (y347.length:Int) 0)=some (r1,r2):=hyw_
      have Ny347:=am_ hy_
      clear hy_
      have H':=am_ H
      clear H
      obtain⟨Ao55,co55,eo55⟩:=jo HO_10.out
      subst eo55
      have q54:((rd l1 x68_3):Int)≤((x10_3.length:Int):Int):=od_
      obtain⟨i054,hi054,_,hsz54,_⟩:=info_parts info3
      have hroom54:x10_3.length≤co55:=(jh HO_10.out).2.1
      have hC54:Kd.C (jb .i64) _ Ao55 x10_3.length x10_3:=(jh HO_10.out).2.2
      have hcut54:=cut_to (P:=Try.prog) 24 3 .i64 Try.underlying24 hi054 Ao55 x10_3.length co55 (rd l1 x68_3) (od_) q54 hroom54
      have hr54:=Kd.C_take (m:=((rd l1 x68_3):Int).toNat) hC54 T2_
      have hy54:y347.length=((rd l1 x68_3):Int).toNat:=(by rw[Ny347.out,List.length_take];omega)
      rw[←Ny347.out] at hr54
      rw[←hy54] at hcut54
      have HR350:=am_ hr54
      have HC350:=am_ (show y347.length≤co55 from by omega)
      clear hr54 hC54 hroom54 hi054 hsz54
      have KY54:=am_ hy54
      clear hy54
      have KL54:=am_ (show((rd l1 x68_3):Int).toNat≤x10_3.length from by omega)
      replace q54:=eq_true q54
      go_wp2
      go_loopg [16,108] kj45 (fun kq v16 v108 w'=>∃ (x16_6:Int) (x108_6:Int),v16 = .int .i64 x16_6∧v108 = .int .i64 x108_6∧Aside0 (braid_Draws.l2 kq l0 l2 x10_3 x11_3 x13_3 (rd l1 x68_3) x16_6 l1 (l1.length:Int) x68_3 y347 (y347.length:Int) x108_6=some (r1,r2))∧Aside0 (kq≤kj45)∧Aside0 (ju (jb .i64) 3 w' w.heap.size (fun k_=>ne_ k_ (.slice (some ad344) x11_3.length co47)∧ne_ k_ u13) (.slice Ao55 x10_3.length co55) x10_3)∧Aside0 (ju (jb .i64) 3 w' w.heap.size (fun k_=>ne_ k_ (.slice Ao55 x10_3.length co55)∧ne_ k_ u13) (.slice (some ad344) x11_3.length co47) x11_3)∧Aside0 (ju (jb .i64) 3 w' w.heap.size (fun k_=>ne_ k_ (.slice Ao55 x10_3.length co55)∧ne_ k_ (.slice (some ad344) x11_3.length co47)) u13 x13_3)∧Aside0 (Kd.C (jb .i64) w' Ao55 y347.length y347)∧Aside0 (Below w.heap.size w w'))
      case atStart=>exact⟨((rd l2 (rd x11_3 (rd l1 x68_3)))),(0),T9_,T9_,H',⟨Nat.le_refl _⟩,⟨ru_ HO_10.out⟩,⟨ru_ HO_11.out⟩,⟨ru_ HO_13.out⟩,⟨(by repeat(first|(with_reducible exact HR350.out)|(with_reducible refine Kd.C_alloc ?_ _)|(with_reducible refine Kd.C_drewN ?_ _)|(with_reducible refine Kd.C_drew ?_)|exact HR350.out))⟩,⟨T16_⟩⟩
      clear H'
      (try clear c8);(try clear c10);(try clear c10b0 c10b1);(try clear c11);(try clear c11b0 c11b1);(try clear c17);(try clear c17b0);(try clear c28);(try clear c28b0 c28b1);(try clear c29);(try clear c29b0 c29b1);(try clear c32);(try clear c32b0);(try clear c33);(try clear c33b0);(try clear c34);(try clear c34b0);(try clear c41);(try clear c42);(try clear c42b0);(try clear c43);(try clear c43b0);(try clear c44);(try clear c44b0);(try clear c45);(try clear c45b0);(try clear c51);(try clear c52);(try clear c52b0 c52b1);(try clear c53);(try clear c53b0 c53b1);(try clear q54);(try clear hx342_0);(try clear hx344_0);(try clear hx345_0);(try clear p342 q342);(try clear p344 q344);(try clear p345 q345)
      obtain⟨x16_6,x108_6,rfl,rfl,HA,HK6,HO_10,HO_11,HO_13,HR350,HB⟩:=hrel
      cases gk with
      | zero=>exact absurd HA.out (by simp[braid_Draws.l2])
      | succ k6 =>
       have H:=HA.out
       clear HA
       simp only[braid_Draws.l2] at H
       by_cases c56:x108_6<(y347.length:Int)
       ·rw[if_pos c56] at H
        have c56b0:=decide_eq_true c56
        clear c56
        replace H:=ifn_ H;obtain⟨c57,H⟩:=H
        have c57b0:=decide_eq_true c57
        clear c57
        replace H:=ifn_ H;obtain⟨c58,H⟩:=H
        have c58b0:=decide_eq_true c58
        clear c58
        have H':=am_ H
        clear H
        have p351:0≤(x108_6:Int):=od_
        have q351:x108_6<(y347.length:Int):=od_
        obtain⟨ad351,e351,hx351_0⟩:=jH HR350.out x108_6 p351 q351
        cases e351
        (try(replace hx351_0:=(HB.out.cell (World.block_lt_of_cell? w _ hx351_0)).trans hx351_0))
        replace p351:=eq_true p351
        replace q351:=eq_true q351
        go_wp2
        go_roundg k6
        case measure=>have:=HJ4.out;have:=HK2.out;have:=HK3.out;have:=HJ34.out;have:=HJ45.out;have:=HK6.out;omega
        case rel=>exact⟨(wrap64 (x16_6+(rd y347 x108_6))),(wrap64 (x108_6+1)),T9_,T9_,H',⟨(by have:=HJ4.out;have:=HK2.out;have:=HK3.out;have:=HJ34.out;have:=HJ45.out;have:=HK6.out;omega)⟩,⟨ru_ HO_10.out⟩,⟨ru_ HO_11.out⟩,⟨ru_ HO_13.out⟩,⟨(by repeat(first|(with_reducible exact HR350.out)|(with_reducible refine Kd.C_alloc ?_ _)|(with_reducible refine Kd.C_drewN ?_ _)|(with_reducible refine Kd.C_drew ?_)|exact HR350.out))⟩,⟨T16_⟩⟩
       rw[if_neg c56] at H
       have c56b0:=decide_eq_false c56
       clear c56
       replace H:=ifa_ H;obtain⟨LMc59,H⟩:=H
       obtain⟨y352,hy_⟩:∃ y_:List Int,y_=(x13_3 ++ [x16_6]):=⟨_,rfl⟩
       replace H:(if 0≤(rd l1 x68_3) then(if(rd l1 x68_3)<(x10_3.length:Int) then(if(rd l1 x68_3)<(x11_3.length:Int) then(braid_Draws.l1 k6 l0 l2 (x10_3.set ((rd l1 x68_3):Int).toNat (wrap64 ((rd x10_3 (rd l1 x68_3))-1))) (x11_3.set ((rd l1 x68_3):Int).toNat (wrap64 ((rd x11_3 (rd l1 x68_3))+1))) y352 l1 (l1.length:Int) (wrap64 (x68_3+1))) else(none)) else(none)) else(none))=some (r1,r2):=hyw_
       have Ny352:=am_ hy_
       clear hy_
       replace H:=ifn_ H;obtain⟨c60,H⟩:=H
       have c60b0:=decide_eq_true c60
       clear c60
       replace H:=ifn_ H;obtain⟨c61,H⟩:=H
       have c61b0:=decide_eq_true c61
       clear c61
       obtain⟨y356,hy_⟩:∃ y_:List Int,y_=(x10_3.set ((rd l1 x68_3):Int).toNat (wrap64 ((rd x10_3 (rd l1 x68_3))-1))):=⟨_,rfl⟩
       replace H:(if(rd l1 x68_3)<(x11_3.length:Int) then(braid_Draws.l1 k6 l0 l2 y356 (x11_3.set ((rd l1 x68_3):Int).toNat (wrap64 ((rd x11_3 (rd l1 x68_3))+1))) y352 l1 (l1.length:Int) (wrap64 (x68_3+1))) else(none))=some (r1,r2):=hyw_
       have Ny356:=am_ hy_
       clear hy_
       replace H:=ifn_ H;obtain⟨c63,H⟩:=H
       have c63b0:=decide_eq_true c63
       clear c63
       obtain⟨y358,hy_⟩:∃ y_:List Int,y_=(x11_3.set ((rd l1 x68_3):Int).toNat (wrap64 ((rd x11_3 (rd l1 x68_3))+1))):=⟨_,rfl⟩
       replace H:(braid_Draws.l1 k6 l0 l2 y356 y358 y352 l1 (l1.length:Int) (wrap64 (x68_3+1)))=some (r1,r2):=hyw_
       have Ny358:=am_ hy_
       clear hy_
       have H':=am_ H
       clear H
       go_wp2_with(first|(refine gb_ .append #[.tmp 116,.tmp 118] ?_;(try(refine gate_guard T0_ ?_;dsimp only));at_builtin;refine Kd.R_append (jb .i64) (w0:=w) w.heap.size rfl (.tmp 116) (.tmp 118) 24 3 (.int .i64 0) 8 rfl Try.underlying24 info3 rfl T3_ T2_ u13 x13_3 x16_6 [.int .i64 x16_6] (fun k_=>ne_ k_ (.slice Ao55 x10_3.length co55)∧ne_ k_ (.slice (some ad344) x11_3.length co47)) (fun _=>False) rfl rfl ?aP (fun _ hk=>hk.elim) ?aF ?aO ?aB ?aS ?aL ?_;(case aP=>exact rfl);(case aB=>exact T16_);(case aF=>exact(fun k_ hk=>⟨jF (jj (ru_ HO_10.out)) k_ hk,jF (jj (ru_ HO_11.out)) k_ hk⟩));(case aO=>exact(ru_ HO_13.out));(case aS=>exact(ja T16_));(case aL=>have:=LMc59.out;omega);intro v353 w65 ho hb hg hat;rw[←Ny352.out] at ho;have n_:=P5_ (jw (ok:=(fun k_=>ne_ k_ (.slice (some ad344) x11_3.length co47))) (ru_ HO_10.out) hg hat) (jw (ok:=(fun k_=>ne_ k_ (.slice Ao55 x10_3.length co55))) (ru_ HO_11.out) hg hat) (hb) ((show Kd.C (jb .i64) w65 Ao55 y347.length y347 from by rw[Ny347.out];exact Kd.C_take (m:=((rd l1 x68_3):Int).toNat) ((jh (jw (ok:=(fun k_=>ne_ k_ (.slice (some ad344) x11_3.length co47))) (ru_ HO_10.out) hg hat)).2.2) KL54.out)) (ho);clear HO_10 HO_11 HB HR350 HO_13;obtain⟨HO_10,HO_11,HB,HR350,HO354⟩:=n_;clear ho hb hg hat;have p355:0≤((rd l1 x68_3):Int):=od_;have q355:(rd l1 x68_3)<(x10_3.length:Int):=od_;obtain⟨ad355,e355,hx355_0⟩:=jH (jh HO_10.out).2.2 (rd l1 x68_3) p355 q355;cases e355;replace p355:=eq_true p355;replace q355:=eq_true q355;have p62:0≤((rd l1 x68_3):Int):=od_;have q62:((rd l1 x68_3):Int)<((x10_3.length:Int):Int):=od_;obtain⟨go62,co62,eo62,gb62,gl62,cl62,HG62⟩:=Kd.R_form HO_10.out T2_;(first|cases eo62|(injection eo62 with ea_ en_ ec_;(first|subst ea_|(injection ea_ with ea_;subst ea_));subst ec_;clear en_));have GB62:=am_ gb62;have GG62:=am_ HG62;clear gb62 gl62 HG62;(first|simp only[add_plain] at hx355_0|skip);obtain⟨hx62_0,hf62_0⟩:=Kd.R_celln 0 HO_10.out ((rd l1 x68_3):Int) p62 q62;replace p62:=eq_true p62;replace q62:=eq_true q62;obtain⟨hy66_,hz66_⟩:=Kd.R_celln 0 HO_10.out ((rd l1 x68_3):Int) (od_) (od_);have HP66:=Kd.R_putg HO_10.out ((rd l1 x68_3):Int) (wrap64 ((rd x10_3 (rd l1 x68_3))-1)))|(refine gs_ 3 125 ?_;refine store_event (t:=3) (p:=125) (v:=?vo_w67) (w1:=(w65.setCell ⟨go62,((rd l1 x68_3):Int).toNat,none⟩ (.int .i64 (wrap64 ((rd x10_3 (rd l1 x68_3))-1))))) ?hg ?ho ?hn ?hr ?_;(case ho=>rfl);(case hg=>rfl);(case hn=>rfl);(case hr=>first|(go_simp;done)|(go_simp;rfl));intro w67 hw;have hg:w65.grownBy w67 (some go62):=(by rw[hw];exact HP66.2);have hp_:ju (jb .i64) 3 w67 w.heap.size (fun k_=>ne_ k_ (.slice (some ad344) x11_3.length co47)∧ne_ k_ v353) (.slice (some ⟨go62,0,none⟩) x10_3.length co55) y356:=(by rw[hw,Ny356.out];exact HP66.1);clear HP66;have n_:=P4_ (hp_) (jw (v:=(.slice (some ⟨go62,0,none⟩) x10_3.length co55)) (v1:=(.slice (some ⟨go62,0,none⟩) x10_3.length co55)) (ok:=(fun k_=>ne_ k_ v353)) (ru_ (jc HO_11.out (fun _ hk=>⟨hk.2,hk.1⟩))) hg (.inl rfl)) (jw (v:=(.slice (some ⟨go62,0,none⟩) x10_3.length co55)) (v1:=(.slice (some ⟨go62,0,none⟩) x10_3.length co55)) (ok:=(fun k_=>ne_ k_ (.slice (some ad344) x11_3.length co47))) (ru_ (jc HO354.out (fun _ hk=>⟨hk.2,hk.1⟩))) hg (.inl rfl)) ((by rw[hw];exact jJ (HB.out) GB62.out:Below w.heap.size w w67));clear HO_10 HO_11 HO354 HB;obtain⟨HO_10,HO_11,HO354,HB⟩:=n_;clear hg hw hp_;have p357:0≤((rd l1 x68_3):Int):=od_;have q357:(rd l1 x68_3)<(x11_3.length:Int):=od_;obtain⟨ad357,e357,hx357_0⟩:=jH (jh HO_11.out).2.2 (rd l1 x68_3) p357 q357;obtain rfl:ad344=ad357:=(by injection e357);replace p357:=eq_true p357;replace q357:=eq_true q357;have p64:0≤((rd l1 x68_3):Int):=od_;have q64:((rd l1 x68_3):Int)<((x11_3.length:Int):Int):=od_;obtain⟨go64,co64,eo64,gb64,gl64,cl64,HG64⟩:=Kd.R_form HO_11.out T2_;(first|cases eo64|(injection eo64 with ea_ en_ ec_;(first|subst ea_|(injection ea_ with ea_;subst ea_));subst ec_;clear en_));have GB64:=am_ gb64;have GG64:=am_ HG64;clear gb64 gl64 HG64;(first|simp only[add_plain] at hx344_0|skip);(first|simp only[add_plain] at hx357_0|skip);obtain⟨hx64_0,hf64_0⟩:=Kd.R_celln 0 HO_11.out ((rd l1 x68_3):Int) p64 q64;replace p64:=eq_true p64;replace q64:=eq_true q64;obtain⟨hy68_,hz68_⟩:=Kd.R_celln 0 HO_11.out ((rd l1 x68_3):Int) (od_) (od_);have HP68:=Kd.R_putg HO_11.out ((rd l1 x68_3):Int) (wrap64 ((rd x11_3 (rd l1 x68_3))+1)))|(refine gs_ 3 131 ?_;refine store_event (t:=3) (p:=131) (v:=?vo_w69) (w1:=(w67.setCell ⟨go64,((rd l1 x68_3):Int).toNat,none⟩ (.int .i64 (wrap64 ((rd x11_3 (rd l1 x68_3))+1))))) ?hg ?ho ?hn ?hr ?_;(case ho=>rfl);(case hg=>rfl);(case hn=>rfl);(case hr=>first|(go_simp;done)|(go_simp;rfl));intro w69 hw;have hg:w67.grownBy w69 (some go64):=(by rw[hw];exact HP68.2);have hp_:ju (jb .i64) 3 w69 w.heap.size (fun k_=>ne_ k_ v353∧ne_ k_ (.slice (some ⟨go62,0,none⟩) x10_3.length co55)) (.slice (some ⟨go64,0,none⟩) x11_3.length co47) y358:=(by rw[hw,Ny358.out];exact HP68.1);clear HP68;have n_:=P4_ (jw (v:=(.slice (some ⟨go64,0,none⟩) x11_3.length co47)) (v1:=(.slice (some ⟨go64,0,none⟩) x11_3.length co47)) (ok:=(fun k_=>ne_ k_ v353)) (ru_ (jc HO_10.out (fun _ hk=>⟨hk.2,hk.1⟩))) hg (.inl rfl)) (hp_) (jw (v:=(.slice (some ⟨go64,0,none⟩) x11_3.length co47)) (v1:=(.slice (some ⟨go64,0,none⟩) x11_3.length co47)) (ok:=(fun k_=>ne_ k_ (.slice (some ⟨go62,0,none⟩) x10_3.length co55))) (ru_ (jc HO354.out (fun _ hk=>⟨hk.2,hk.1⟩))) hg (.inl rfl)) ((by rw[hw];exact jJ (HB.out) GB64.out:Below w.heap.size w w69));clear HO_10 HO_11 HO354 HB;obtain⟨HO_10,HO_11,HO354,HB⟩:=n_;clear hg hw hp_))
       go_roundg k6
       case measure=>have:=HJ4.out;have:=HK2.out;have:=HK3.out;have:=HJ34.out;have:=HJ45.out;have:=HK6.out;omega
       case rel=>exact⟨(y356),(y358),(y352),(wrap64 (x68_3+1)),T9_,H',⟨(by have:=HJ4.out;have:=HK2.out;have:=HK3.out;have:=HJ34.out;have:=HJ45.out;have:=HK6.out;omega)⟩,⟨ru_ (jc HO_10.out (fun _ hk=>⟨hk.2,hk.1⟩))⟩,⟨ru_ (jc HO_11.out (fun _ hk=>⟨hk.2,hk.1⟩))⟩,⟨ru_ HO354.out⟩,⟨T16_⟩⟩
def turnByte (x d w:Int):Int:=IntKind.u8.wrap (wrap64 (wrap64 (wrap64 x-d)+w))
def turnStep (p bs ws acc:List Int) (i:Nat) (d a:Int):List Int:=if 1<bs.getD i 0 then acc.set a.toNat (turnByte (p.getD a.toNat 0) d (ws.getD i 0)) else acc
def turned (p bs ws:List Int) (L:List (Int×Int)):List Int:=L.zipIdx.foldl (fun acc x=>turnStep p bs ws acc x.2 x.1.1 x.1.2) p
theorem turned_snoc (p bs ws:List Int) (L:List (Int×Int)) (d a:Int):turned p bs ws (L ++ [(d,a)])=turnStep p bs ws (turned p bs ws L) L.length d a:=by
 unfold turned
 rw[List.zipIdx_append,List.foldl_append]
 simp
theorem turned_len (p bs ws:List Int) (L:List (Int×Int)):(turned p bs ws L).length=p.length:=by
 unfold turned
 suffices h:∀ (M:List ((Int×Int)×Nat)) (acc:List Int),(M.foldl (fun acc x=>turnStep p bs ws acc x.2 x.1.1 x.1.2) acc).length=acc.length from h _ _
 intro M
 induction M with
 | nil=>intro acc;rfl
 | cons x M ih =>
  intro acc
  rw[List.foldl_cons,ih]
  unfold turnStep
  split
  ·simp
  rfl
def TurnG (p bs:List Int) (i:Nat) (a d:Int):Bool:=decide (1<bs.getD i 0→0≤a∧a<(p.length:Int))
def InvT (gp gb gw go B:Nat) (vp vb vw vo:Value) (p bs ws:List Int) (L:List (Int×Int)) (W:World):Prop :=
 W.heap[gp]? = some (.cells #[vp] 23 (0,0))∧W.heap[gb]? = some (.cells #[vb] 24 (0,0))∧W.heap[gw]? = some (.cells #[vw] 24 (0,0))∧W.heap[go]? = some (.cells #[vo] 23 (0,0)) ∧
 (jb .u8).R 5 W B (fun k=>k<go) vo (turned p bs ws L)
theorem invT_far {gp gb gw go B b:Nat} {vp vb vw vo:Value} {p bs ws:List Int} {L:List (Int×Int)} {W W':World} (h1:gp<b) (h2:gb<b) (h3:gw<b) (h4:go<b) (hI:InvT gp gb gw go B vp vb vw vo p bs ws L W) (hb:Below b W W'):InvT gp gb gw go B vp vb vw vo p bs ws L W' :=
 ⟨(hb.block _ h1).trans hI.1,(hb.block _ h2).trans hI.2.1,(hb.block _ h3).trans hI.2.2.1,(hb.block _ h4).trans hI.2.2.2.1,Kd.R_step hI.2.2.2.2 (fun k hk _=>hb.block k T2_)⟩
theorem cell_of {k:IntKind} {w:World} {A:Option Addr} {xs:List Int} (h:(jb k).C w A xs.length xs) (i:Nat) (hi:i<xs.length):∃ ad,A=some ad∧w.cell? (ad.add i)=some (.int k (xs.getD i 0)):=by
 obtain⟨ad,e,hc⟩:=(reads_C h).2.2 T2_
 exact⟨ad,e,hc i hi⟩
set_option maxRecDepth 100000 in
set_option maxHeartbeats 4000000 in
theorem turn_cb (gp gb gw go:Nat) (A0:Option Addr) (c0:Nat) (l0:List Int) (A1:Option Addr) (c1:Nat) (l1:List Int) (A2:Option Addr) (c2:Nat) (l2:List Int) (vo:Value) (w0 w:World) (L:List (Int×Int)) (d a:Int) (W:World)
  (hr0:(jb .u8).C w0 A0 l0.length l0) (hr1:(jb .i64).C w0 A1 l1.length l1) (hr2:(jb .i64).C w0 A2 l2.length l2) (hlen:l2.length=l1.length)
  (h4:go<w.heap.size) (hL:L.length<l1.length) (hG:TurnG l0 l1 L.length a d=true)
  (hI:InvT gp gb gw go w0.heap.size (.slice A0 l0.length c0) (.slice A1 l1.length c1) (.slice A2 l2.length c2) vo l0 l1 l2 L W) (hB:Below w0.heap.size w0 W) :
  Calls Try.prog 59 (#[.int .i64 (L.length:Int),.int .i64 a,.int .i64 d] ++ #[.pointer (some ⟨gb,0,none⟩),.pointer (some ⟨gp,0,none⟩),.pointer (some ⟨gw,0,none⟩),.pointer (some ⟨go,0,none⟩)]) W fun e W'=>e = .returned (.tuple #[]) ∧
   InvT gp gb gw go w0.heap.size (.slice A0 l0.length c0) (.slice A1 l1.length c1) (.slice A2 l2.length c2) vo l0 l1 l2 (L ++ [(d,a)]) W'∧Below w0.heap.size w0 W'∧Kept W W' (fun k=>k<w.heap.size):=by
 obtain⟨i1,i2,i3,i4,hR⟩:=hI
 obtain⟨ad1,rfl,hc1⟩:=cell_of hr1 L.length hL
 have hc1':W.cell? (ad1.add L.length)=some (.int .i64 (l1.getD L.length 0)):=(hB.cell (World.block_lt_of_cell? _ _ hc1)).trans hc1
 have hz1:W.cell? ⟨gb,0,none⟩=some (.slice (some ad1) l1.length c1):=(blk_cell i2 0).trans rfl
 have hz0:W.cell? ⟨gp,0,none⟩=some (.slice A0 l0.length c0):=(blk_cell i1 0).trans rfl
 have hz2:W.cell? ⟨gw,0,none⟩=some (.slice A2 l2.length c2):=(blk_cell i3 0).trans rfl
 have hz3:W.cell? ⟨go,0,none⟩=some vo:=(blk_cell i4 0).trans rfl
 have hltz:(L.length:Int)<(l1.length:Int):=by omega
 have hl0:0≤(L.length:Int):=by omega
 unfold TurnG at hG
 have hG':=of_decide_eq_true hG
 clear hG hc1
 obtain⟨b,hb⟩:∃ b,l1.getD L.length 0=b:=⟨_,rfl⟩
 rw[hb] at hc1' hG'
 by_cases hb1:1<b
 ·obtain⟨a0,a1⟩:=hG' hb1
  obtain⟨t,rfl⟩:=Int.eq_ofNat_of_zero_le a0
  have ht:t<l0.length:=by omega
  obtain⟨ad0,rfl,hc0⟩:=cell_of hr0 t ht
  have hc0':W.cell? (ad0.add t)=some (.int .u8 (l0.getD t 0)):=(hB.cell (World.block_lt_of_cell? _ _ hc0)).trans hc0
  obtain⟨ad2,rfl,hc2⟩:=cell_of hr2 L.length T2_
  have hc2':W.cell? (ad2.add L.length)=some (.int .i64 (l2.getD L.length 0)):=(hB.cell (World.block_lt_of_cell? _ _ hc2)).trans hc2
  have htl:=turned_len l0 l1 l2 L
  obtain⟨g,cap,hv,hbg,hgW,cells,hcl⟩:=Kd.R_form hR T2_
  rw[htl] at hv
  subst hv
  have hgo:g<go:=hR.1 g T6_
  have hgp:g≠gp:=by rintro rfl;rw[hcl] at i1;injection i1 with i1;injection i1 with _ i1;exact absurd i1 T3_
  have hgb:g≠gb:=by rintro rfl;rw[hcl] at i2;injection i2 with i2;injection i2 with _ i2;exact absurd i2 T3_
  have hgw:g≠gw:=by rintro rfl;rw[hcl] at i3;injection i3 with i3;injection i3 with _ i3;exact absurd i3 T3_
  obtain⟨c,hcs,_,hcc,hff⟩:=Kd.R_elem hR (0:Int) (t:Int) T2_ T2_
  have hcell:∃ u,W.cell? ⟨g,t,none⟩=some u:=by
   have h1:c.length=1:=hcs
   obtain⟨u,hu⟩:∃ u,c[0]? = some u:=⟨c[0],List.getElem?_eq_getElem T2_⟩
   have:=hcc 0 u hu
   rw[show(t:Int).toNat*(jb .u8).sz+0=t from by rw[Int.toNat_natCast];exact Nat.mul_one _] at this
   exact⟨u,this⟩
  obtain⟨u,hu⟩:=hcell
  have hfz:W.frozen? ⟨g,t,none⟩=false:=by
   have:=hff 0
   rwa [show(t:Int).toNat*(jb .u8).sz+0=t from by rw[Int.toNat_natCast];exact Nat.mul_one _] at this
  obtain⟨x,hx⟩:∃ x,l0.getD t 0=x:=⟨_,rfl⟩
  obtain⟨y,hy⟩:∃ y,l2.getD L.length 0=y:=⟨_,rfl⟩
  rw[hx] at hc0'
  rw[hy] at hc2'
  have hR':=Kd.R_putn hR (t:Int) (turnByte x d y)
  rw[Int.toNat_natCast] at hR'
  have est:(turned l0 l1 l2 L).set t (turnByte x d y)=turned l0 l1 l2 (L ++ [(d,(t:Int))]):=by
   rw[turned_snoc]
   unfold turnStep
   rw[hb,if_pos hb1,Int.toNat_natCast,hx,hy]
  rw[est] at hR'
  replace hR':=jq hR'
  have F:=am_ (show InvT gp gb gw go w0.heap.size (.slice (some ad0) l0.length c0) (.slice (some ad1) l1.length c1) (.slice (some ad2) l2.length c2) (.slice (some ⟨g,0,none⟩) l0.length cap) l0 l1 l2 (L ++ [(d,(t:Int))]) ((W.setCell ⟨g,t,none⟩ (.int .u8 (turnByte x d y))).drew)∧Below w0.heap.size w0 ((W.setCell ⟨g,t,none⟩ (.int .u8 (turnByte x d y))).drew)∧Kept W ((W.setCell ⟨g,t,none⟩ (.int .u8 (turnByte x d y))).drew) (fun k=>k<w.heap.size) from
   ⟨⟨jl (blk_far i1 (Ne.symm hgp) _),jl (blk_far i2 (Ne.symm hgb) _),jl (blk_far i3 (Ne.symm hgw) _),jl (blk_far i4 (by show go≠g;omega) _),hR'⟩,below_drew (jJ hB hbg),Kept.drew (Kept.setCell (Kept.refl _ _) (Or.inl (show g<w.heap.size by omega)) _)⟩)
  have hn0:(ad0.add t).block≠g:=by have:=World.block_lt_of_cell? _ _ hc0;omega
  have hn2:(ad2.add L.length).block≠g:=by have:=World.block_lt_of_cell? _ _ hc2;omega
  have hn3:go≠g:=by omega
  have HN:=am_ (And.intro hn0 (And.intro hn2 (And.intro hn3 (And.intro hgp (And.intro hgw hgb)))))
  clear hn0 hn2 hn3 hgp hgw hgb hc0 hc2
  have htz:(t:Int)<(l0.length:Int):=by omega
  have hlz2:(L.length:Int)<(l2.length:Int):=by omega
  have hdb:decide (b > 1)=true:=decide_eq_true hb1
  clear hR hR' est hcl hcs hcc hff htl hG' i1 i2 i3 i4 hB hr0 hr1 hr2 hb hx hy hlen
  show Calls Try.prog 59 #[.int .i64 (L.length:Int),.int .i64 (t:Int),.int .i64 d,.pointer (some ⟨gb,0,none⟩),.pointer (some ⟨gp,0,none⟩),.pointer (some ⟨gw,0,none⟩),.pointer (some ⟨go,0,none⟩)] W _
  go_enter Try.func59,Try.ntmps59
  go_wp2
  refine start_ (n:=17) (S:=fun w'=>w'.cell? ⟨gp,0,none⟩=some (.slice (some ad0) l0.length c0)∧w'.cell? ⟨gw,0,none⟩=some (.slice (some ad2) l2.length c2)∧w'.cell? ⟨go,0,none⟩=some (.slice (some ⟨g,0,none⟩) l0.length cap)∧w'.cell? (ad0.add t)=some (.int .u8 x)∧w'.cell? (ad2.add L.length)=some (.int .i64 y)) (ds:=[]) #[false,false,false,false,false,false,false,false,false,false,false,false,false,false,false,false,false] T4_ rfl rfl ⟨hz0,hz2,hz3,hc0',hc2'⟩ (fun hHeld=>?_)
  refine take_ (i:=0) (N:=some 15) (v:=?_) (a':=?_) #[true,false,false,false,false,false,false,false,false,false,false,false,false,false,false,false,false] rfl rfl T4_ (fun _ _ _ h=>h) (Or.inl ⟨T0_,?_⟩) hHeld ?_ ?_
  rotate_left
  ·rintro w' ⟨s0,s1,s2,s3,s4⟩
   go_simp
   with_reducible rfl
  rotate_left
  ·simp only[Act.put,List.setIfInBounds_toArray,List.set_cons_zero,List.set_cons_succ,jD,jE]
   rfl
  refine pure_ (i:=1) (N:=some 16) (v:=?_) (a':=?_) #[true,true,false,false,false,false,false,false,false,false,false,false,false,false,false,false,false] rfl rfl T4_ (fun _ _ _ h=>h) (Or.inl ⟨T0_,?_⟩) ?_ ?_
  rotate_left
  ·intro w'
   go_simp
   with_reducible rfl
  rotate_left
  ·simp only[Act.put,List.setIfInBounds_toArray,List.set_cons_zero,List.set_cons_succ,jD,jE]
   rfl
  refine take_ (i:=2) (N:=some 17) (v:=?_) (a':=?_) #[true,true,true,false,false,false,false,false,false,false,false,false,false,false,false,false,false] rfl rfl T4_ (fun _ _ _ h=>h) (Or.inl ⟨T0_,?_⟩) hHeld ?_ ?_
  rotate_left
  ·rintro w' ⟨s0,s1,s2,s3,s4⟩
   go_simp
   with_reducible rfl
  rotate_left
  ·simp only[Act.put,List.setIfInBounds_toArray,List.set_cons_zero,List.set_cons_succ,jD,jE]
   rfl
  refine pure_ (i:=3) (N:=some 18) (v:=?_) (a':=?_) #[true,true,true,true,false,false,false,false,false,false,false,false,false,false,false,false,false] rfl rfl T4_ (fun _ _ _ h=>h) (Or.inl ⟨T0_,?_⟩) ?_ ?_
  rotate_left
  ·intro w'
   go_simp
   with_reducible rfl
  rotate_left
  ·simp only[Act.put,List.setIfInBounds_toArray,List.set_cons_zero,List.set_cons_succ,jD,jE]
   rfl
  refine pure_ (i:=4) (N:=some 19) (v:=?_) (a':=?_) #[true,true,true,true,true,false,false,false,false,false,false,false,false,false,false,false,false] rfl rfl T4_ (fun _ _ _ h=>h) (Or.inl ⟨T0_,?_⟩) ?_ ?_
  rotate_left
  ·intro w'
   go_simp
   with_reducible rfl
  rotate_left
  ·simp only[Act.put,List.setIfInBounds_toArray,List.set_cons_zero,List.set_cons_succ,jD,jE]
   rfl
  refine take_ (i:=5) (N:=some 20) (v:=?_) (a':=?_) #[true,true,true,true,true,true,false,false,false,false,false,false,false,false,false,false,false] rfl rfl T4_ (fun _ _ _ h=>h) (Or.inl ⟨T0_,?_⟩) hHeld ?_ ?_
  rotate_left
  ·rintro w' ⟨s0,s1,s2,s3,s4⟩
   go_simp
   with_reducible rfl
  rotate_left
  ·simp only[Act.put,List.setIfInBounds_toArray,List.set_cons_zero,List.set_cons_succ,jD,jE]
   rfl
  refine pure_ (i:=6) (N:=some 21) (v:=?_) (a':=?_) #[true,true,true,true,true,true,true,false,false,false,false,false,false,false,false,false,false] rfl rfl T4_ (fun _ _ _ h=>h) (Or.inl ⟨T0_,?_⟩) ?_ ?_
  rotate_left
  ·intro w'
   go_simp
   with_reducible rfl
  rotate_left
  ·simp only[Act.put,List.setIfInBounds_toArray,List.set_cons_zero,List.set_cons_succ,jD,jE]
   rfl
  refine pure_ (i:=7) (N:=some 22) (v:=?_) (a':=?_) #[true,true,true,true,true,true,true,true,false,false,false,false,false,false,false,false,false] rfl rfl T4_ (fun _ _ _ h=>h) (Or.inl ⟨T0_,?_⟩) ?_ ?_
  rotate_left
  ·intro w'
   go_simp
   with_reducible rfl
  rotate_left
  ·simp only[Act.put,List.setIfInBounds_toArray,List.set_cons_zero,List.set_cons_succ,jD,jE]
   rfl
  refine pure_ (i:=8) (N:=some 23) (v:=?_) (a':=?_) #[true,true,true,true,true,true,true,true,true,false,false,false,false,false,false,false,false] rfl rfl T4_ (fun _ _ _ h=>h) (Or.inl ⟨T0_,?_⟩) ?_ ?_
  rotate_left
  ·intro w'
   go_simp
   with_reducible rfl
  rotate_left
  ·simp only[Act.put,List.setIfInBounds_toArray,List.set_cons_zero,List.set_cons_succ,jD,jE]
   rfl
  refine take_ (i:=9) (N:=some 24) (v:=?_) (a':=?_) #[true,true,true,true,true,true,true,true,true,true,false,false,false,false,false,false,false] rfl rfl T4_ (fun _ _ _ h=>h) (Or.inl ⟨T0_,?_⟩) hHeld ?_ ?_
  rotate_left
  ·rintro w' ⟨s0,s1,s2,s3,s4⟩
   go_simp
   with_reducible rfl
  rotate_left
  ·simp only[Act.put,List.setIfInBounds_toArray,List.set_cons_zero,List.set_cons_succ,jD,jE]
   rfl
  refine pure_ (i:=10) (N:=some 25) (v:=?_) (a':=?_) #[true,true,true,true,true,true,true,true,true,true,true,false,false,false,false,false,false] rfl rfl T4_ (fun _ _ _ h=>h) (Or.inl ⟨T0_,?_⟩) ?_ ?_
  rotate_left
  ·intro w'
   go_simp
   with_reducible rfl
  rotate_left
  ·simp only[Act.put,List.setIfInBounds_toArray,List.set_cons_zero,List.set_cons_succ,jD,jE]
   rfl
  refine pure_ (i:=11) (N:=some 26) (v:=?_) (a':=?_) #[true,true,true,true,true,true,true,true,true,true,true,true,false,false,false,false,false] rfl rfl T4_ (fun _ _ _ h=>h) (Or.inl ⟨T0_,?_⟩) ?_ ?_
  rotate_left
  ·intro w'
   go_simp
   with_reducible rfl
  rotate_left
  ·simp only[Act.put,List.setIfInBounds_toArray,List.set_cons_zero,List.set_cons_succ,jD,jE]
   rfl
  refine take_ (i:=12) (N:=some 27) (v:=?_) (a':=?_) #[true,true,true,true,true,true,true,true,true,true,true,true,true,false,false,false,false] rfl rfl T4_ (fun _ _ _ h=>h) (Or.inl ⟨T0_,?_⟩) hHeld ?_ ?_
  rotate_left
  ·rintro w' ⟨s0,s1,s2,s3,s4⟩
   go_simp
   with_reducible rfl
  rotate_left
  ·simp only[Act.put,List.setIfInBounds_toArray,List.set_cons_zero,List.set_cons_succ,jD,jE]
   rfl
  refine pure_ (i:=13) (N:=some 28) (v:=?_) (a':=?_) #[true,true,true,true,true,true,true,true,true,true,true,true,true,true,false,false,false] rfl rfl T4_ (fun _ _ _ h=>h) (Or.inl ⟨T0_,?_⟩) ?_ ?_
  rotate_left
  ·intro w'
   go_simp
   with_reducible rfl
  rotate_left
  ·simp only[Act.put,List.setIfInBounds_toArray,List.set_cons_zero,List.set_cons_succ,jD,jE]
   rfl
  refine pure_ (i:=14) (N:=some 29) (v:=?_) (a':=?_) #[true,true,true,true,true,true,true,true,true,true,true,true,true,true,true,false,false] rfl rfl T4_ (fun _ _ _ h=>h) (Or.inl ⟨T0_,?_⟩) ?_ ?_
  rotate_left
  ·intro w'
   go_simp
   with_reducible rfl
  rotate_left
  ·simp only[Act.put,List.setIfInBounds_toArray,List.set_cons_zero,List.set_cons_succ,jD,jE]
   rfl
  refine pure_ (i:=15) (N:=some 30) (v:=?_) (a':=?_) #[true,true,true,true,true,true,true,true,true,true,true,true,true,true,true,true,false] rfl rfl T4_ (fun _ _ _ h=>h) (Or.inl ⟨T0_,?_⟩) ?_ ?_
  rotate_left
  ·intro w'
   go_simp
   with_reducible rfl
  rotate_left
  ·simp only[Act.put,List.setIfInBounds_toArray,List.set_cons_zero,List.set_cons_succ,jD,jE]
   rfl
  refine one_ (i:=16) (N:=none) #[true,true,true,true,true,true,true,true,true,true,true,true,true,true,true,true,true] rfl rfl T4_ T3_ (fun K hK=>?_)
  refine skip_ (w1:=?_) T0_ rfl ?_ ?_
  rotate_left
  ·go_simp
   rfl
  obtain⟨n0,n2,n3,n4,n5,n6⟩:=HN.out
  obtain⟨s0,s1,s2,s3,s4⟩:=hHeld
  refine hK.out _ _ ⟨(cell_far (p:=⟨g,_,none⟩) (Ne.symm n4) _).trans s0,(cell_far (p:=⟨g,_,none⟩) (Ne.symm n5) _).trans s1,(cell_far (p:=⟨g,_,none⟩) n3 _).trans s2,(cell_far (p:=⟨g,_,none⟩) n0 _).trans s3,(cell_far (p:=⟨g,_,none⟩) n2 _).trans s4⟩ (fun hHeld2=>?_)
  refine done_ T4_ ?_
  go_end0
  exact⟨rfl,F.out⟩
 have F:=am_ (show InvT gp gb gw go w0.heap.size (.slice A0 l0.length c0) (.slice (some ad1) l1.length c1) (.slice A2 l2.length c2) vo l0 l1 l2 (L ++ [(d,a)]) W from⟨i1,i2,i3,i4,by
  rw[turned_snoc]
  unfold turnStep
  rw[hb,if_neg hb1]
  exact hR⟩)
 have HB:=am_ hB
 have hdb:decide (b > 1)=false:=decide_eq_false hb1
 clear hR i1 i2 i3 i4 hr0 hr1 hr2 hb hG' hB hlen
 show Calls Try.prog 59 #[.int .i64 (L.length:Int),.int .i64 a,.int .i64 d,.pointer (some ⟨gb,0,none⟩),.pointer (some ⟨gp,0,none⟩),.pointer (some ⟨gw,0,none⟩),.pointer (some ⟨go,0,none⟩)] W _
 go_enter Try.func59,Try.ntmps59
 go_wp2
 go_end0
 exact⟨rfl,F.out,HB.out,Kept.refl _ _⟩
def badAt (bs ws:List Int) (i:Nat):Bool := !okBound (bs.getD i 0) || decide (ws.getD i 0<0) || decide (ws.getD i 0 ≥ bs.getD i 0)
def badT (bs ws:List Int):Bool:=(List.range bs.length).any (badAt bs ws)
def draw_Turn.f (l0:List Int) (l1:List Int) (l2:List Int):Option (List Int×Int) :=
 if l2.length=l1.length then(if badT l1 l2=true then some ([],2) else(slices_Clone_byte_byte.f l0).bind fun _=>(eachf (TurnG l0 l1) (l0.length+l1.length+5) l0 l1).bind fun q=>(if q.2.2=0 then some (turned l0 l1 l2 q.1,0) else some ([],q.2.2))) else some ([],2)
set_option maxHeartbeats 8000000 in
set_option maxRecDepth 100000 in
theorem draw_Turn.calls (A0:Option Addr) (c0:Nat) (l0:List Int) (A1:Option Addr) (c1:Nat) (l1:List Int) (A2:Option Addr) (c2:Nat) (l2:List Int) (r1:List Int) (r2:Int) (w:World) (hr0:Kd.C (jb .u8) w A0 l0.length l0) (hc0:l0.length≤c0) (hr1:Kd.C (jb .i64) w A1 l1.length l1) (hc1:l1.length≤c1) (hr2:Kd.C (jb .i64) w A2 l2.length l2) (hc2:l2.length≤c2) (h:draw_Turn.f l0 l1 l2=some (r1,r2)) :
  Calls Try.prog 35 #[.slice A0 l0.length c0,.slice A1 l1.length c1,.slice A2 l2.length c2] w fun e w'=>∃ v0_:Value,e = .returned (.tuple #[v0_,.int .i64 r2])∧ju (jb .u8) 5 w' w.heap.size (fun _=>True) v0_ r1∧Below w.heap.size w w':=by
 have HR0:=am_ hr0
 have HR1:=am_ hr1
 have HR2:=am_ hr2
 have HC0:=am_ hc0
 have HC1:=am_ hc1
 have HC2:=am_ hc2
 have hmf:∀ (fn:Fn) (first cap:Array Value) (w:World),(Instr.makeFunc fn first cap).run Try.prog w = .ok (.func fn first cap) w:=fun _ _ _ _=>rfl
 have hlen1:=(reads_C hr1).2.1
 clear hr0 hr1 hr2 hc0 hc1 hc2
 unfold draw_Turn.f at h
 have HB0:=am_ (Below.refl w.heap.size w)
 by_cases hl:l2.length=l1.length
 ·rw[if_pos hl] at h
  have hlb:((l2.length:Int) != (l1.length:Int))=false:=bne_eq_false_iff_eq.mpr T2_
  have HL:=am_ hl
  have H:=am_ h
  have hlz:(l2.length:Int)=(l1.length:Int):=by omega
  clear hl h hlz
  go_enter Try.func35,Try.ntmps35
  go_wp2_with(first
   | (refine gd_ 3 ?_;refine bx_ 3 #[.slice A0 l0.length c0] 23 ?_;intro gp hg w1 hbox hb;have BP:=am_ hbox;have GP:=am_ (show w.heap.size≤gp by omega);have HB1:=am_ (show Below w.heap.size w w1 from hb);clear hbox hg hb HB0)
   | (refine gd_ 4 ?_;refine bx_ 4 #[.slice A1 l1.length c1] 24 ?_;intro gb hg w2 hbox hb;have BP2:=am_ (jr BP.out hb);have BB2:=am_ hbox;have GB:=am_ (show w1.heap.size≤gb by omega);have HB2:=am_ (show Below w.heap.size w w2 from ji HB1.out hb);clear hbox hg hb)
   | (refine gd_ 5 ?_;refine bx_ 5 #[.slice A2 l2.length c2] 24 ?_;intro gw hg w3 hbox hb;have BP3:=am_ (jr BP2.out hb);have BB3:=am_ (jr BB2.out hb);have BW3:=am_ hbox;have GW:=am_ (show w2.heap.size≤gw by omega);have HB3:=am_ (show Below w.heap.size w w3 from ji HB2.out hb);clear hbox hg hb BP BP2 BB2;have hz0:w3.cell? ⟨gp,0,none⟩=some (.slice A0 l0.length c0):=bc_ BP3.out 0;have hz1:w3.cell? ⟨gb,0,none⟩=some (.slice A1 l1.length c1):=bc_ BB3.out 0;have hz2:w3.cell? ⟨gw,0,none⟩=some (.slice A2 l2.length c2):=bc_ BW3.out 0))
  go_loopg [20] l1.length (fun gg v20 wr=>∃ kk q:Nat,kk≤l1.length∧l1.length-kk≤gg∧v20 = .int .i64 kk∧wr=w3.drewN q∧Aside0 (∀ j,j<kk→badAt l1 l2 j=false))
  case atStart=>exact⟨0,0,Nat.zero_le _,T2_,rfl,rfl,⟨fun j hj=>absurd hj (Nat.not_lt_zero _)⟩⟩
  obtain⟨kk,q,hkk,hg,rfl,rfl,A⟩:=hrel
  by_cases hlt:kk<l1.length
  ·have hltz:(kk:Int)<(l1.length:Int):=by omega
   have hltz2:(kk:Int)<(l2.length:Int):=by have:=HL.out;omega
   obtain⟨ad1,rfl,hx1⟩:=cell_of HR1.out kk hlt
   obtain⟨ad2,rfl,hx2⟩:=cell_of HR2.out kk T2_
   have hx1':w3.cell? (ad1.add kk)=some (.int .i64 (l1.getD kk 0)):=(HB3.out.cell (World.block_lt_of_cell? _ _ hx1)).trans hx1
   have hx2':w3.cell? (ad2.add kk)=some (.int .i64 (l2.getD kk 0)):=(HB3.out.cell (World.block_lt_of_cell? _ _ hx2)).trans hx2
   obtain⟨b,hb⟩:∃ b,l1.getD kk 0=b:=⟨_,rfl⟩
   obtain⟨y,hy⟩:∃ y,l2.getD kk 0=y:=⟨_,rfl⟩
   rw[hb] at hx1'
   rw[hy] at hx2'
   have hbad:badAt l1 l2 kk=(!okBound b || decide (y<0) || decide (y ≥ b)):=by unfold badAt;rw[hb,hy]
   have BAD:=am_ hbad
   clear hx1 hx2 hb hy hbad
   have hcall:=fun W=>draw_isBound.calls b (okBound b) W (isBound_f b)
   cases h1:okBound b with
   | false =>
    rw[h1] at hcall
    go_wp2_with(go_at_call 56;refine(hcall _).mono ?_;rintro e w' ⟨rfl,⟨q',rfl⟩⟩)
    have hbt:badT l1 l2=true:=List.any_eq_true.2 ⟨kk,List.mem_range.2 hlt,by rw[BAD.out];simp[h1]⟩
    have H':=H.out
    rw[if_pos hbt] at H'
    simp only[Option.some.injEq,Prod.mk.injEq] at H'
    obtain⟨rfl,rfl⟩:=H'
    try rw[Exit.noGoto_ret]
    go_ret2
    exact⟨_,rfl,Kd.R_nil _ _ _ _ _,pw_below_drewN HB3.out _⟩
   | true =>
    rw[h1] at hcall
    by_cases h2:y<0
    ·have h2d:decide (y<0)=true:=decide_eq_true h2
     go_wp2_with(go_at_call 56;refine(hcall _).mono ?_;rintro e w' ⟨rfl,⟨q',rfl⟩⟩)
     have hbt:badT l1 l2=true:=List.any_eq_true.2 ⟨kk,List.mem_range.2 hlt,by rw[BAD.out];simp[h1,h2]⟩
     have H':=H.out
     rw[if_pos hbt] at H'
     simp only[Option.some.injEq,Prod.mk.injEq] at H'
     obtain⟨rfl,rfl⟩:=H'
     try rw[Exit.noGoto_ret]
     go_ret2
     exact⟨_,rfl,Kd.R_nil _ _ _ _ _,pw_below_drewN HB3.out _⟩
    by_cases h3:y ≥ b
    ·have h2d:decide (y<0)=false:=decide_eq_false h2
     have h3d:decide (y ≥ b)=true:=decide_eq_true h3
     go_wp2_with(go_at_call 56;refine(hcall _).mono ?_;rintro e w' ⟨rfl,⟨q',rfl⟩⟩)
     have hbt:badT l1 l2=true:=List.any_eq_true.2 ⟨kk,List.mem_range.2 hlt,by rw[BAD.out];simp[h1,h2,h3]⟩
     have H':=H.out
     rw[if_pos hbt] at H'
     simp only[Option.some.injEq,Prod.mk.injEq] at H'
     obtain⟨rfl,rfl⟩:=H'
     try rw[Exit.noGoto_ret]
     go_ret2
     exact⟨_,rfl,Kd.R_nil _ _ _ _ _,pw_below_drewN HB3.out _⟩
    have h2d:decide (y<0)=false:=decide_eq_false h2
    have h3d:decide (y ≥ b)=false:=decide_eq_false h3
    go_wp2_with(go_at_call 56;refine(hcall _).mono ?_;rintro e w' ⟨rfl,⟨q',rfl⟩⟩)
    go_roundg (l1.length-(kk+1))
    case measure=>omega
    refine⟨kk+1,_,T2_,T2_,by go_num,rfl,⟨fun j hj=>?_⟩⟩
    by_cases e:j=kk
    ·subst e
     rw[BAD.out,h1,h2d,h3d];rfl
    exact A.out j T2_
  have hltz:¬ (kk:Int)<(l1.length:Int):=by omega
  have hbt:badT l1 l2=false:=by
   unfold badT
   rw[List.any_eq_false]
   intro j hj
   have:=A.out j (by have:=List.mem_range.1 hj;omega)
   simp[this]
  have H':=H.out
  rw[if_neg (by simp[hbt])] at H'
  obtain⟨o,ho,H'⟩:=Option.bind_eq_some_iff.1 H'
  obtain⟨⟨Lr,n,er⟩,he,H'⟩:=Option.bind_eq_some_iff.1 H'
  simp only at H'
  have ho2:o=l0:=by
   unfold slices_Clone_byte_byte.f at ho
   split at ho
   ·exact(Option.some.inj ho).symm
   exact absurd ho T1_
  subst ho2
  have CL:=am_ ho
  have E:=am_ he
  have HH:=am_ H'
  clear H ho he H' hbt hkk hg A
  go_wp2_with(first
   | (go_at_call 57;refine(slices_Clone_byte_byte.calls A0 c0 o o _ (jv HR0.out (pw_below_drewN HB3.out _)) HC0.out CL.out).mono ?_;rintro e w4 ⟨v0,rfl,hv0,hb4⟩;obtain⟨A9,c9,hv1⟩:=jo hv0;subst hv1;have HO:=am_ hv0;have HB4:=am_ (show Below w3.heap.size w3 w4 from ji (pw_below_drewN (Below.refl _ w3) _) hb4);clear hv0 hb4)
   | (refine gd_ 10 ?_;refine bx_ 10 #[.slice none 0 0] 23 ?_;intro go hg w5 hbox hb;have BO:=am_ hbox;have GO:=am_ (show w4.heap.size≤go by omega);have HB5:=am_ (show Below w4.heap.size w4 w5 from hb);have HB35:=am_ (show Below w3.heap.size w3 w5 from ji HB4.out hb);clear hbox hg hb;have hz3:w5.cell? ⟨go,0,none⟩=some (.slice none 0 0):=bc_ BO.out 0;have hf3:=blk_frozen BO.out 0;clear hz0 hz1 hz2;have hgp:=(show gp≠go by have:=blk_lt BP3.out;have:=HB4.out.size;have:=GO.out;omega);have hgb:=(show gb≠go by have:=blk_lt BB3.out;have:=HB4.out.size;have:=GO.out;omega);have hgw:=(show gw≠go by have:=blk_lt BW3.out;have:=HB4.out.size;have:=GO.out;omega);have hz0:w5.cell? ⟨gp,0,none⟩=some (.slice A0 o.length c0):=(blk_cell (jr BP3.out HB35.out) 0).trans rfl;have hz1:w5.cell? ⟨gb,0,none⟩=some (.slice A1 l1.length c1):=(blk_cell (jr BB3.out HB35.out) 0).trans rfl;have hz2:w5.cell? ⟨gw,0,none⟩=some (.slice A2 l2.length c2):=(blk_cell (jr BW3.out HB35.out) 0).trans rfl))
  have eF:∀ args w,(callFunc 59 args).run Try.prog w = .ok (.enter 59 args) w:=enters_of Try.func59 T4_ rfl
  have B45:=ji HB3.out HB35.out
  have BW:Below w.heap.size w (w5.setCell ⟨go,0,none⟩ (.slice A9 o.length c9)):=jJ B45 (Nat.le_trans (Nat.le_trans HB3.out.size HB4.out.size) GO.out)
  have HGW:go<(w5.setCell ⟨go,0,none⟩ (.slice A9 o.length c9)).heap.size:=by have:=blk_lt BO.out;simpa using this
  have lp:gp<w3.heap.size:=blk_lt BP3.out
  have lb:gb<w3.heap.size:=blk_lt BB3.out
  have lw:gw<w3.heap.size:=blk_lt BW3.out
  have lo:w3.heap.size≤go:=Nat.le_trans HB4.out.size GO.out
  have ST:InvT gp gb gw go w.heap.size (.slice A0 o.length c0) (.slice A1 l1.length c1) (.slice A2 l2.length c2) (.slice A9 o.length c9) o l1 l2 [] (w5.setCell ⟨go,0,none⟩ (.slice A9 o.length c9)):=by
   refine⟨blk_far (jr BP3.out HB35.out) hgp _,blk_far (jr BB3.out HB35.out) hgb _,blk_far (jr BW3.out HB35.out) hgw _,jt (cs:=#[.slice none 0 0]) BO.out 0 _ rfl,?_⟩
   have h1:(jb .u8).R 5 w4 w.heap.size (fun k=>k<go) (.slice A9 o.length c9) (turned o l1 l2 []) :=
    jm (jc (Kd.R_bound HO.out) (fun k hk=>by have:=hk.2.2.1;have:=GO.out;omega)) (by simpa using HB3.out.size)
   exact je (p:=⟨go,0,none⟩) (jd h1 HB5.out) (fun k hk=>by show k≠go;omega) _
  have HE:=each_calls (TurnG o l1) 59 #[.pointer (some ⟨gb,0,none⟩),.pointer (some ⟨gp,0,none⟩),.pointer (some ⟨gw,0,none⟩),.pointer (some ⟨go,0,none⟩)] eF (o.length+l1.length+5) A0 c0 o A1 c1 l1 w (w5.setCell ⟨go,0,none⟩ (.slice A9 o.length c9)) (jv HR0.out BW) HC0.out HR1.out HC1.out BW
   (InvT gp gb gw go w.heap.size (.slice A0 o.length c0) (.slice A1 l1.length c1) (.slice A2 l2.length c2) (.slice A9 o.length c9) o l1 l2) ST
   (fun L W W' hI hb=>invT_far T2_ T2_ T2_ HGW hI hb)
   (fun L d at_ W hL hG hI hB hS=>turn_cb gp gb gw go A0 c0 o A1 c1 l1 A2 c2 l2 _ w _ L d at_ W HR0.out HR1.out HR2.out HL.out HGW hL hG hI hB) Lr n er E.out
  generalize (w5.setCell ⟨go,0,none⟩ (.slice A9 o.length c9))=w6 at HE BW HGW ST ⊢
  clear hz0 hz1 hz2 hz3 hf3 BO HB5 HB4 HB35 B45 HO GO ST BW eF E BP3 BB3 BW3 CL HL hlb
  by_cases c4:er=0
  ·subst c4
   have H2:=HH.out
   rw[if_pos rfl] at H2
   simp only[Option.some.injEq,Prod.mk.injEq] at H2
   obtain⟨rfl,rfl⟩:=H2
   clear HH
   go_wp2_with(go_at_call 58;refine HE.mono ?_;rintro e w7 ⟨rfl,hI,hb7⟩;have HI7:=am_ hI;have HB7:=am_ hb7;have hz3:w7.cell? ⟨go,0,none⟩=some (.slice A9 o.length c9):=(blk_cell hI.2.2.2.1 0).trans rfl;clear HE hI hb7)
   go_ret2
   exact⟨_,rfl,jc HI7.out.2.2.2.2 (fun _ _=>trivial),HB7.out⟩
  have H2:=HH.out
  rw[if_neg c4] at H2
  simp only[Option.some.injEq,Prod.mk.injEq] at H2
  obtain⟨rfl,rfl⟩:=H2
  clear HH
  have c4b1:(er != 0)=true:=bne_iff_ne.mpr c4
  go_wp2_with(go_at_call 58;refine HE.mono ?_;rintro e w7 ⟨rfl,hI,hb7⟩;have HB7:=am_ hb7;clear HE hI hb7)
  go_ret2
  exact⟨_,rfl,Kd.R_nil _ _ _ _ _,HB7.out⟩
 rw[if_neg hl] at h
 have hlb:((l2.length:Int) != (l1.length:Int))=true:=bne_iff_ne.mpr T2_
 simp only[Option.some.injEq,Prod.mk.injEq] at h
 obtain⟨rfl,rfl⟩:=h
 clear hl
 go_enter Try.func35,Try.ntmps35
 go_wp2_with(first
  | (refine gd_ 3 ?_;refine bx_ 3 #[.slice A0 l0.length c0] 23 ?_;intro gp hg w1 hbox hb;have HB1:=am_ (show Below w.heap.size w w1 from hb);clear hbox hg hb HB0)
  | (refine gd_ 4 ?_;refine bx_ 4 #[.slice A1 l1.length c1] 24 ?_;intro gb hg w2 hbox hb;have BB2:=am_ hbox;have HB2:=am_ (show Below w.heap.size w w2 from ji HB1.out hb);clear hbox hg hb)
  | (refine gd_ 5 ?_;refine bx_ 5 #[.slice A2 l2.length c2] 24 ?_;intro gw hg w3 hbox hb;have BB3:=am_ (jr BB2.out hb);have BW3:=am_ hbox;have HB3:=am_ (show Below w.heap.size w w3 from ji HB2.out hb);clear hbox hg hb BB2;have hz1:w3.cell? ⟨gb,0,none⟩=some (.slice A1 l1.length c1):=bc_ BB3.out 0;have hz2:w3.cell? ⟨gw,0,none⟩=some (.slice A2 l2.length c2):=bc_ BW3.out 0))
 go_ret2
 exact⟨_,rfl,Kd.R_nil _ _ _ _ _,HB3.out⟩
end Go.Proofs.Ytbnifpfnjhdenaa.Q
end
