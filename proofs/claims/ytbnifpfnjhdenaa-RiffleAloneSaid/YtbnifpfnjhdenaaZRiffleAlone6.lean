/- Functions of the program as plain Lean functions, each with a proof that its call comes to just these answers, and the row that joins them to the given statement; no condition beside the statement's own. Written for this claim by this session's programs (pf.py, pack.py) over the kit's print. -/
import Derived.Test.YtbnifpfnjhdenaaZRiffleAlone0
import Derived.Test.YtbnifpfnjhdenaaZRiffleAlone1
import Derived.Test.YtbnifpfnjhdenaaZRiffleAlone2
import Derived.Test.YtbnifpfnjhdenaaZRiffleAlone3
import Derived.Test.YtbnifpfnjhdenaaZRiffleAlone4
import Derived.Test.YtbnifpfnjhdenaaZRiffleAlone5
section
namespace Go.Proofs.Ytbnifpfnjhdenaa.Q
open Go.RowKit Go.Proofs.YtbnifpfnjhdenaaW.PrintWords Go.Proofs.YtbnifpfnjhdenaaW.PrintLast Go.Proofs.YtbnifpfnjhdenaaW.PrintMore
open Go.Proofs.YtbnifpfnjhdenaaW.PrintLast renaming i64_w → jD, i32_w → jE
open Go.Proofs.YtbnifpfnjhdenaaW.PrintMore renaming max_three → jK, min_three → jL
open Go.Proofs.YtbnifpfnjhdenaaW.PrintWords renaming below_size → ja, below_step → ji, blk_drew → jl, blk_alloc → jn, blk_drewN → jp, blk_below → jr, blk_put → jt, below_drew1 → jG, below_set → jJ
open Go.Proofs.YtbnifpfnjhdenaaW.PrintWords.Kd renaming int → jb, R_mono → jc, R_below → jd, R_far → je, R_base → jf, R_elder' → jg, R_reads' → jh, R_lt → jj, R_new' → jk, R_lower → jm, R_slice → jo, R_drew → jq, R_types → js, R → ju, C_below → jv, R_after → jw, R_over' → jx, slice → jy, R_typed → jz, S_below → jA, S_mono → jB, S_far → jC, fresh' → jF, at_int → jH, S_elder' → jI, S_reads' → jM
attribute [local go_sem] max2_int min2_int max_two min_two jK jL max_four min_four
set_option linter.unusedVariables false
set_option linter.unusedSimpArgs false
def perm_Draws.l0:Nat→List Int→List Int→List Int→List Int→Int→Option (List Int×Int)
 | 0,_,_,_,_,_=>none
 | k+1,x0,x5,x6,x7,x8=>if x8 ≥ 1 then(if 0≤x8 then(if x8<(x0.length:Int) then(if 0≤(rd x0 x8) then(if(rd x0 x8)<(x6.length:Int) then(if x7.length<17592186044416 then(if 0≤(rd x6 (rd x0 x8)) then(if(rd x6 (rd x0 x8))<(x5.length:Int) then(if x8<(x5.length:Int) then((some ((x5.set (x8:Int).toNat (rd x5 (rd x6 (rd x0 x8)))).set ((rd x6 (rd x0 x8)):Int).toNat (rd x5 x8):List Int)).bind fun y374=>(if 0≤(rd y374 x8) then(if(rd y374 x8)<(x6.length:Int) then(if 0≤(rd y374 (rd x6 (rd x0 x8))) then(if(rd y374 (rd x6 (rd x0 x8)))<(x6.length:Int) then(perm_Draws.l0 k x0 y374 ((x6.set ((rd y374 x8):Int).toNat x8).set ((rd y374 (rd x6 (rd x0 x8))):Int).toNat (rd x6 (rd x0 x8))) (x7 ++ [rd x6 (rd x0 x8)]) (wrap64 (x8-1))) else(none)) else(none)) else(none)) else(none))) else(none)) else(none)) else(none)) else(none)) else(none)) else(none)) else(none)) else(none)) else(some (x7,0))
def perm_Draws.f (k:Nat) (l0:List Int):Option (List Int×Int):=(perm_fits.f k l0).bind fun t359=>(if t359=true then((perm_Identity.f k (l0.length:Int)).bind fun t360=>((perm_Identity.f k (l0.length:Int)).bind fun t363=>(perm_Draws.l0 k l0 t360 t363 ([]:List Int) (wrap64 ((l0.length:Int)-1))))) else(some (([]:List Int),110)))
theorem perm_Draws.mono_l:∀ k,(∀ y0 y1 y2 y3 y4,LeO (perm_Draws.l0 k y0 y1 y2 y3 y4) (perm_Draws.l0 (k+1) y0 y1 y2 y3 y4))
 | 0=>fun _ _ _ _ _ r h=>by simp[perm_Draws.l0] at h
 | k+1=>by
  have ih0:=perm_Draws.mono_l k
  intro y0 y1 y2 y3 y4
  unfold perm_Draws.l0
  with_reducible repeat' first|exact ih0 _ _ _ _ _|exact perm_Identity.mono _ _|exact perm_fits.mono _ _|exact LeO.refl _|exact LeO.none _|refine LeO.ite ?_ ?_|refine LeO.bind ?_ (fun _=>?_)
theorem perm_Draws.mono:∀ a0 k,LeO (perm_Draws.f k a0) (perm_Draws.f (k+1) a0):=by
 intro a0 k
 have ih0:=perm_Draws.mono_l k
 unfold perm_Draws.f
 with_reducible repeat' first|exact ih0 _ _ _ _ _|exact perm_Identity.mono _ _|exact perm_fits.mono _ _|exact LeO.refl _|exact LeO.none _|refine LeO.ite ?_ ?_|refine LeO.bind ?_ (fun _=>?_)
def perm_Draws.T11:Bool×List (List Nat×List Nat):=(true,[([],[]),([],[]),([],[]),([],[]),([],[]),([],[]),([4,5],[4,5]),([6],[6]),([],[]),([],[]),([8,9],[8,9]),([10],[10]),([0,1,0,1,4,5,6,7,11],[0,1]),([12,7,0,1,4,5,6,7,11],[7,12]),([2,3,0,1,2,3,4,5,6,7,8,9,10,11,12,13],[2,3]),([14,11,13,0,1,2,3,4,5,6,7,8,9,10,11,12,13],[11,14])])
def perm_Draws.B11:List Nat:=[0,0,0,0,0,0,48,112,0,0,768,1792,4083,8179,16383,32767]
theorem perm_Draws.tab11:rtab .any (opsOf Try.f37 11)=perm_Draws.T11:=by kernel_rfl
theorem perm_Draws.bits11:waitsOk perm_Draws.T11.2 perm_Draws.B11=true:=by kernel_rfl
def perm_Draws.T12:Bool×List (List Nat×List Nat):=(true,[([],[]),([],[]),([],[]),([1,2],[1,2]),([3],[3]),([],[]),([],[]),([],[]),([6,7],[6,7]),([8],[8]),([],[]),([],[]),([0,4,0,1,2,3,4,9,10],[0,4]),([12,10,0,1,2,3,4,9,10],[10,12]),([5,9,0,1,2,3,4,5,6,7,8,9,10,11,12,13],[5,9]),([14,11,13,0,1,2,3,4,5,6,7,8,9,10,11,12,13],[11,14])])
def perm_Draws.B12:List Nat:=[0,0,0,6,14,0,0,0,192,448,0,0,2015,6111,16383,32767]
theorem perm_Draws.tab12:rtab .any (opsOf Try.f37 12)=perm_Draws.T12:=by kernel_rfl
theorem perm_Draws.bits12:waitsOk perm_Draws.T12.2 perm_Draws.B12=true:=by kernel_rfl
set_option maxHeartbeats 8000000 in
set_option maxRecDepth 100000 in
theorem perm_Draws.calls (k:Nat) (A0:Option Addr) (c0:Nat) (l0:List Int) (r1:List Int) (r2:Int) (w:World) (hr0:Kd.C (jb .i64) w A0 l0.length l0) (hc0:l0.length≤c0) (h:perm_Draws.f k l0=some (r1,r2)) :
  Calls Try.prog 37 #[.slice A0 l0.length c0] w fun e w'=>∃ v0_:Value,e = .returned (.tuple #[v0_,.int .i64 r2])∧ju (jb .i64) 3 w' w.heap.size (fun _=>True) v0_ r1∧Below w.heap.size w w':=by
 have HR0:=am_ hr0
 have HC0:=am_ hc0
 clear hr0 hc0
 have HB:=am_ (Below.refl w.heap.size w)
 have H:((perm_fits.f k l0).bind fun t359=>(if t359=true then((perm_Identity.f k (l0.length:Int)).bind fun t360=>((perm_Identity.f k (l0.length:Int)).bind fun t363=>(perm_Draws.l0 k l0 t360 t363 ([]:List Int) (wrap64 ((l0.length:Int)-1))))) else(some (([]:List Int),110))))=some (r1,r2):=h
 clear h
 replace H:=Option.bind_eq_some_iff.mp H
 obtain⟨t359,A20,H⟩:=H
 try dsimp only at H
 have A2:=am_ A20
 clear A20
 by_cases c3:t359=true
 rotate_left
 ·replace c3:=Bool.eq_false_iff.mpr c3
  subst c3
  have H1:(some (([]:List Int),110))=some (r1,r2):=by rw[if_neg (show ¬ (false=true) by decide)] at H;exact H
  clear H
  have H:=H1
  clear H1
  obtain⟨rfl,rfl⟩:=sj2_ H
  go_enter Try.func37,Try.ntmps37
  go_wp2_with(first|(refine gc_ 39 ?_;refine gl_ (some 11) Try.func39 #[.slice A0 l0.length c0] ?_;(with_reducible refine(perm_fits.calls k _ _ l0 false _ ?side1 ?side2 A2.out).mono ?_);(case side1=>exact cu_ HR0.out);(case side2=>exact HC0.out);rintro e w36 ⟨rfl,hb⟩;refine⟨_,rfl,?_⟩;have n0_:=am_ (ji T16_ hb);clear HB;have HB:=n0_;clear n0_;clear hb))
  go_ret2
  exact⟨_,T14_,T18_,T16_⟩
 subst c3
 have H1:((perm_Identity.f k (l0.length:Int)).bind fun t360=>((perm_Identity.f k (l0.length:Int)).bind fun t363=>(perm_Draws.l0 k l0 t360 t363 ([]:List Int) (wrap64 ((l0.length:Int)-1)))))=some (r1,r2):=by rw[if_pos rfl] at H;exact H
 clear H
 have H:=H1
 clear H1
 replace H:=Option.bind_eq_some_iff.mp H
 obtain⟨t360,A40,H⟩:=H
 try dsimp only at H
 have A4:=am_ A40
 clear A40
 replace H:=Option.bind_eq_some_iff.mp H
 obtain⟨t363,A50,H⟩:=H
 try dsimp only at H
 have A5:=am_ A50
 clear A50
 have H':=am_ H
 clear H
 go_enter Try.func37,Try.ntmps37
 go_wp2_with(first|(refine gc_ 39 ?_;refine gl_ (some 11) Try.func39 #[.slice A0 l0.length c0] ?_;(with_reducible refine(perm_fits.calls k _ _ l0 true _ ?side1 ?side2 A2.out).mono ?_);(case side1=>exact cu_ HR0.out);(case side2=>exact HC0.out);rintro e w6 ⟨rfl,hb⟩;refine⟨_,rfl,?_⟩;have n0_:=am_ (ji T16_ hb);clear HB;have HB:=n0_;clear n0_;clear hb)|(refine gc_ 60 ?_;refine gl_ (some 16) Try.func60 #[.int .i64 (l0.length:Int)] ?_;(with_reducible refine(perm_Identity.calls k (l0.length:Int) t360 _ A4.out).mono ?_);rintro e w7 ⟨v361,rfl,ho0,hb⟩;refine⟨_,rfl,?_⟩;have n_:=P2_ (jm ho0 (ja T16_)) (ji T16_ hb);clear HB;obtain⟨HO362,HB⟩:=n_;clear hb ho0)|(refine gc_ 60 ?_;refine gl_ (some 18) Try.func60 #[.int .i64 (l0.length:Int)] ?_;(with_reducible refine(perm_Identity.calls k (l0.length:Int) t363 _ A5.out).mono ?_);rintro e w8 ⟨v364,rfl,ho0,hb⟩;refine⟨_,rfl,?_⟩;have n_:=P3_ (jg (ru_ HO362.out) (jf ho0) hb) (jm (jk ho0 (jj (ru_ HO362.out))) (ja T16_)) (ji T16_ hb);clear HO362 HB;obtain⟨HO362,HO365,HB⟩:=n_;clear hb ho0))
 go_loopg [7,8] k (fun kq v7 v8 w'=>∃ (x5_1:List Int) (x6_1:List Int) (x7_1:List Int) (x8_1:Int),v8 = .int .i64 x8_1∧Aside0 (perm_Draws.l0 kq l0 x5_1 x6_1 x7_1 x8_1=some (r1,r2))∧Aside0 (kq≤k)∧Aside0 (ju (jb .i64) 3 w' w.heap.size (fun k_=>ne_ k_ v364∧ne_ k_ v7) v361 x5_1)∧Aside0 (ju (jb .i64) 3 w' w.heap.size (fun k_=>ne_ k_ v361∧ne_ k_ v7) v364 x6_1)∧Aside0 (ju (jb .i64) 3 w' w.heap.size (fun k_=>ne_ k_ v361∧ne_ k_ v364) v7 x7_1)∧Aside0 (Below w.heap.size w w'))
 case atStart=>exact⟨(t360),(t363),(([]:List Int)),(wrap64 ((l0.length:Int)-1)),T9_,H',⟨Nat.le_refl _⟩,⟨ru_ (jc HO362.out (fun _ hk=>⟨hk.2,T6_⟩))⟩,⟨ru_ (jc HO365.out (fun _ hk=>⟨hk.2,T6_⟩))⟩,⟨T18_⟩,⟨T16_⟩⟩
 clear H'
 (try clear c3)
 obtain⟨x5_1,x6_1,x7_1,x8_1,rfl,HA,HK1,HO_5,HO_6,HO_7,HB⟩:=hrel
 cases gk with
 | zero=>exact absurd HA.out (by simp[perm_Draws.l0])
 | succ k1 =>
  have H:=HA.out
  clear HA
  simp only[perm_Draws.l0] at H
  by_cases c9:x8_1 ≥ 1
  rotate_left
  ·rw[if_neg c9] at H
   have c9b0:=decide_eq_false c9
   clear c9
   obtain⟨rfl,rfl⟩:=sj2_ H
   go_wp2
   go_ret2
   exact⟨_,T14_,ru_ (jc HO_7.out (fun _ hk=>trivial)),T16_⟩
  rw[if_pos c9] at H
  have c9b0:=decide_eq_true c9
  clear c9
  replace H:=ifn_ H;obtain⟨c10,H⟩:=H
  have c10b0:=decide_eq_true c10
  clear c10
  replace H:=ifn_ H;obtain⟨c11,H⟩:=H
  have c11b0:=decide_eq_true c11
  clear c11
  replace H:=ifn_ H;obtain⟨c12,H⟩:=H
  have c12b0:=decide_eq_true c12
  clear c12
  replace H:=ifn_ H;obtain⟨c13,H⟩:=H
  have c13b0:=decide_eq_true c13
  clear c13
  replace H:=ifa_ H;obtain⟨LMc14,H⟩:=H
  obtain⟨y368,hy_⟩:∃ y_:List Int,y_=(x7_1 ++ [rd x6_1 (rd l0 x8_1)]):=⟨_,rfl⟩
  replace H:(if 0≤(rd x6_1 (rd l0 x8_1)) then(if(rd x6_1 (rd l0 x8_1))<(x5_1.length:Int) then(if x8_1<(x5_1.length:Int) then((some ((x5_1.set (x8_1:Int).toNat (rd x5_1 (rd x6_1 (rd l0 x8_1)))).set ((rd x6_1 (rd l0 x8_1)):Int).toNat (rd x5_1 x8_1):List Int)).bind fun y374=>(if 0≤(rd y374 x8_1) then(if(rd y374 x8_1)<(x6_1.length:Int) then(if 0≤(rd y374 (rd x6_1 (rd l0 x8_1))) then(if(rd y374 (rd x6_1 (rd l0 x8_1)))<(x6_1.length:Int) then(perm_Draws.l0 k1 l0 y374 ((x6_1.set ((rd y374 x8_1):Int).toNat x8_1).set ((rd y374 (rd x6_1 (rd l0 x8_1))):Int).toNat (rd x6_1 (rd l0 x8_1))) y368 (wrap64 (x8_1-1))) else(none)) else(none)) else(none)) else(none))) else(none)) else(none)) else(none))=some (r1,r2):=hyw_
  have Ny368:=am_ hy_
  clear hy_
  replace H:=ifn_ H;obtain⟨c15,H⟩:=H
  have c15b0:=decide_eq_true c15
  clear c15
  replace H:=ifn_ H;obtain⟨c16,H⟩:=H
  have c16b0:=decide_eq_true c16
  clear c16
  replace H:=ifn_ H;obtain⟨c17,H⟩:=H
  have c17b0:=decide_eq_true c17
  clear c17
  obtain⟨y373,hy_⟩:∃ y_:List Int,y_=(x5_1.set (x8_1:Int).toNat (rd x5_1 (rd x6_1 (rd l0 x8_1)))):=⟨_,rfl⟩
  replace H:((some (y373.set ((rd x6_1 (rd l0 x8_1)):Int).toNat (rd x5_1 x8_1):List Int)).bind fun y374=>(if 0≤(rd y374 x8_1) then(if(rd y374 x8_1)<(x6_1.length:Int) then(if 0≤(rd y374 (rd x6_1 (rd l0 x8_1))) then(if(rd y374 (rd x6_1 (rd l0 x8_1)))<(x6_1.length:Int) then(perm_Draws.l0 k1 l0 y374 ((x6_1.set ((rd y374 x8_1):Int).toNat x8_1).set ((rd y374 (rd x6_1 (rd l0 x8_1))):Int).toNat (rd x6_1 (rd l0 x8_1))) y368 (wrap64 (x8_1-1))) else(none)) else(none)) else(none)) else(none)))=some (r1,r2):=hyw_
  have Ny373:=am_ hy_
  clear hy_
  obtain⟨y374,hy_⟩:∃ y_:List Int,y_=(y373.set ((rd x6_1 (rd l0 x8_1)):Int).toNat (rd x5_1 x8_1)):=⟨_,rfl⟩
  replace H:(if 0≤(rd y374 x8_1) then(if(rd y374 x8_1)<(x6_1.length:Int) then(if 0≤(rd y374 (rd x6_1 (rd l0 x8_1))) then(if(rd y374 (rd x6_1 (rd l0 x8_1)))<(x6_1.length:Int) then(perm_Draws.l0 k1 l0 y374 ((x6_1.set ((rd y374 x8_1):Int).toNat x8_1).set ((rd y374 (rd x6_1 (rd l0 x8_1))):Int).toNat (rd x6_1 (rd l0 x8_1))) y368 (wrap64 (x8_1-1))) else(none)) else(none)) else(none)) else(none))=some (r1,r2):=hyw_
  have Ny374:=am_ hy_
  clear hy_
  replace H:=ifn_ H;obtain⟨c20,H⟩:=H
  have c20b0:=decide_eq_true c20
  clear c20
  replace H:=ifn_ H;obtain⟨c21,H⟩:=H
  have c21b0:=decide_eq_true c21
  clear c21
  obtain⟨y377,hy_⟩:∃ y_:List Int,y_=(x6_1.set ((rd y374 x8_1):Int).toNat x8_1):=⟨_,rfl⟩
  replace H:(if 0≤(rd y374 (rd x6_1 (rd l0 x8_1))) then(if(rd y374 (rd x6_1 (rd l0 x8_1)))<(x6_1.length:Int) then(perm_Draws.l0 k1 l0 y374 (y377.set ((rd y374 (rd x6_1 (rd l0 x8_1))):Int).toNat (rd x6_1 (rd l0 x8_1))) y368 (wrap64 (x8_1-1))) else(none)) else(none))=some (r1,r2):=hyw_
  have Ny377:=am_ hy_
  clear hy_
  replace H:=ifn_ H;obtain⟨c23,H⟩:=H
  have c23b0:=decide_eq_true c23
  clear c23
  replace H:=ifn_ H;obtain⟨c24,H⟩:=H
  have c24b0:=decide_eq_true c24
  clear c24
  obtain⟨y378,hy_⟩:∃ y_:List Int,y_=(y377.set ((rd y374 (rd x6_1 (rd l0 x8_1))):Int).toNat (rd x6_1 (rd l0 x8_1))):=⟨_,rfl⟩
  replace H:(perm_Draws.l0 k1 l0 y374 y378 y368 (wrap64 (x8_1-1)))=some (r1,r2):=hyw_
  have Ny378:=am_ hy_
  clear hy_
  have H':=am_ H
  clear H
  have p366:0≤(x8_1:Int):=od_
  have q366:x8_1<(l0.length:Int):=od_
  obtain⟨ad366,e366,hx366_0⟩:=jH HR0.out x8_1 p366 q366
  cases e366
  (try(replace hx366_0:=(HB.out.cell (World.block_lt_of_cell? w _ hx366_0)).trans hx366_0))
  replace p366:=eq_true p366
  replace q366:=eq_true q366
  obtain⟨Ao26,co26,eo26⟩:=jo HO_6.out
  subst eo26
  obtain⟨ad367,e367,hx367_0,p367,q367⟩:=ai_ (jh HO_6.out).2.2 (rd l0 x8_1)
  cases e367
  try go_wp2_with(first|(refine gb_ .append #[.tmp 32,.tmp 34] ?_;at_builtin;refine Kd.R_append (jb .i64) (w0:=w) w.heap.size rfl (.tmp 32) (.tmp 34) 24 3 (.int .i64 0) 8 rfl Try.underlying24 info3 rfl T3_ T2_ u7 x7_1 (rd x6_1 (rd l0 x8_1)) [.int .i64 (rd x6_1 (rd l0 x8_1))] (fun k_=>ne_ k_ v361∧ne_ k_ (.slice (some ad367) x6_1.length co26)) (fun _=>False) rfl rfl ?aP (fun _ hk=>hk.elim) ?aF ?aO ?aB ?aS ?aL ?_;(case aP=>exact rfl);(case aB=>exact T16_);(case aF=>exact(fun k_ hk=>⟨jF (jj (ru_ HO_5.out)) k_ hk,jF (jj (ru_ HO_6.out)) k_ hk⟩));(case aO=>exact(ru_ HO_7.out));(case aS=>exact(ja T16_));(case aL=>have:=LMc14.out;omega);intro v369 w27 ho hb hg hat;rw[←Ny368.out] at ho;have n_:=P4_ (jw (ok:=(fun k_=>ne_ k_ (.slice (some ad367) x6_1.length co26))) (ru_ HO_5.out) hg hat) (jw (ok:=(fun k_=>ne_ k_ v361)) (ru_ HO_6.out) hg hat) (hb) (ho);clear HO_5 HO_6 HB HO_7;obtain⟨HO_5,HO_6,HB,HO370⟩:=n_;clear ho hb hg hat))
  have n_:=P4_ (jq HO_5.out) (jq HO_6.out) (jq HO370.out) (jG HB.out)
  clear HO_5 HO_6 HO370 HB
  obtain⟨HO_5,HO_6,HO370,HB⟩:=n_
  obtain⟨Ao29,co29,eo29⟩:=jo HO_5.out
  (first|subst eo29|(injection eo29 with f1_ f2_ f3_;have f4_:=f1_.symm;have f5_:=f3_.symm;clear f1_ f2_ f3_;subst f4_;subst f5_))
  obtain⟨ad371,e371,hx371_0,p371,q371⟩:=ai_ (jh HO_5.out).2.2 (rd x6_1 (rd l0 x8_1))
  cases e371
  have p372:0≤(x8_1:Int):=od_
  have q372:x8_1<(x5_1.length:Int):=od_
  obtain⟨ad372,e372,hx372_0⟩:=jH (jh HO_5.out).2.2 x8_1 p372 q372
  obtain rfl:ad371=ad372:=(by injection e372)
  replace p372:=eq_true p372
  replace q372:=eq_true q372
  have p18:0≤(x8_1:Int):=od_
  have q18:(x8_1:Int)<((x5_1.length:Int):Int):=od_
  obtain⟨go18,co18,eo18,gb18,gl18,cl18,HG18⟩:=Kd.R_form HO_5.out T2_
  (first|cases eo18|(injection eo18 with ea_ en_ ec_;(first|subst ea_|(injection ea_ with ea_;subst ea_));subst ec_;clear en_))
  have GB18:=am_ gb18
  have GG18:=am_ HG18
  clear gb18 gl18 HG18
  (first|simp only[add_plain] at hx371_0|skip)
  (first|simp only[add_plain] at hx372_0|skip)
  obtain⟨hx18_0,hf18_0⟩:=Kd.R_celln 0 HO_5.out (x8_1:Int) p18 q18
  replace p18:=eq_true p18
  replace q18:=eq_true q18
  have HP30:=Kd.R_putn HO_5.out (x8_1:Int) (rd x5_1 (rd x6_1 (rd l0 x8_1)))
  rw[←Ny373.out] at HP30
  have HQ30:=am_ HP30
  clear HP30
  have p19:0≤((rd x6_1 (rd l0 x8_1)):Int):=od_
  have q19:((rd x6_1 (rd l0 x8_1)):Int)<((x5_1.length:Int):Int):=od_
  obtain⟨hx19_0,hf19_0⟩:=Kd.R_celln 0 HQ30.out ((rd x6_1 (rd l0 x8_1)):Int) p19 q19
  replace p19:=eq_true p19
  replace q19:=eq_true q19
  have HP31:=Kd.R_putn HQ30.out ((rd x6_1 (rd l0 x8_1)):Int) (rd x5_1 x8_1)
  rw[←Ny374.out] at HP31
  have HQ31:=am_ HP31
  clear HP31
  refine start_ (n:=16) (S:=fun w'=>w'.cell? ⟨go18,((rd x6_1 (rd l0 x8_1))).toNat,none⟩=some (.int .i64 (rd x5_1 (rd x6_1 (rd l0 x8_1))))∧w'.cell? ⟨go18,(x8_1).toNat,none⟩=some (.int .i64 (rd x5_1 x8_1))) (ds:=[13,15]) #[false,false,false,false,false,false,false,false,false,false,false,false,false,false,false,false] T4_ rfl rfl ⟨hx371_0,hx372_0⟩ (fun hHeld=>?_);refine with_tabW perm_Draws.tab11 perm_Draws.bits11 (fun HT_ HW_=>?_)
  generalize w27.drew=w28 at HO_5 HO_6 HO370 HB GG18 HQ30 HQ31 hf18_0 hf19_0 hx18_0 hx19_0 hx371_0 hx372_0 hHeld ⊢
  refine pz_ 0 (some 36) ?_
  refine pz_ 1 (some 37) ?_
  refine pz_ 2 (some 38) ?_
  refine pz_ 3 (some 39) ?_
  refine pz_ 4 (some 40) ?_
  refine pz_ 5 (some 41) ?_
  refine pz_ 6 (some 42) ?_
  refine pz_ 8 (some 44) ?_
  refine pz_ 9 (some 45) ?_
  refine pz_ 10 (some 46) ?_
  refine tz2_ 7 (some 43) hHeld ?_
  refine tz2_ 11 (some 47) hHeld ?_
  refine pz_ 12 (some 48) ?_
  refine last_ (i:=13) (N:=none) #[true,true,true,true,true,true,true,true,true,true,true,true,true,true,false,false] rfl rfl (one_of HT_.out T4_) T3_ (fun K hK=>?_)
  refine skip_ (w1:=?_) T0_ rfl ?_ ?_
  rotate_left
  ·go_simp
   rfl
  refine hK.out _ _ ?_
  clear hK K
  refine pz_ 14 (some 49) ?_
  refine last_ (i:=15) (N:=none) #[true,true,true,true,true,true,true,true,true,true,true,true,true,true,true,true] rfl rfl (one_of HT_.out T4_) T3_ (fun K hK=>?_)
  refine skip_ (w1:=?_) T0_ rfl ?_ ?_
  rotate_left
  ·go_simp
   rfl
  refine hK.out _ _ ?_
  clear hK K
  refine done_ (done_of HT_.out T4_) ?_
  try go_wp2
  have n0_:Aside0 (ju (jb .i64) 3 ((w28.setCell ⟨go18,(x8_1:Int).toNat,none⟩ (.int .i64 (rd x5_1 (rd x6_1 (rd l0 x8_1))))).setCell ⟨go18,((rd x6_1 (rd l0 x8_1)):Int).toNat,none⟩ (.int .i64 (rd x5_1 x8_1))) w.heap.size (fun k_=>ne_ k_ (.slice (some ad367) x6_1.length co26)∧ne_ k_ v369) (.slice (some ⟨go18,0,none⟩) x5_1.length co29) y374):=⟨(by(with_reducible repeat(first|apply Kd.R_alloc|apply Kd.R_drewN|apply jq));exact HQ31.out)⟩
  have n1_:Aside0 (ju (jb .i64) 3 ((w28.setCell ⟨go18,(x8_1:Int).toNat,none⟩ (.int .i64 (rd x5_1 (rd x6_1 (rd l0 x8_1))))).setCell ⟨go18,((rd x6_1 (rd l0 x8_1)):Int).toNat,none⟩ (.int .i64 (rd x5_1 x8_1))) w.heap.size (fun k_=>ne_ k_ (.slice (some ⟨go18,0,none⟩) x5_1.length co29)∧ne_ k_ v369) (.slice (some ad367) x6_1.length co26) x6_1):=⟨ru_ (jc (je (p:=⟨go18,((rd x6_1 (rd l0 x8_1)):Int).toNat,none⟩) (je (p:=⟨go18,(x8_1:Int).toNat,none⟩) (jc HO_6.out (fun k_ hk=>(⟨hk,fun e_=>hk.1 T5_⟩:_∧k_≠go18))) (fun _ hk=>hk.2) (.int .i64 (rd x5_1 (rd x6_1 (rd l0 x8_1))))) (fun _ hk=>hk.2) (.int .i64 (rd x5_1 x8_1))) (fun _ hk=>⟨hk.1.1,hk.1.2⟩))⟩
  have n2_:Aside0 (ju (jb .i64) 3 ((w28.setCell ⟨go18,(x8_1:Int).toNat,none⟩ (.int .i64 (rd x5_1 (rd x6_1 (rd l0 x8_1))))).setCell ⟨go18,((rd x6_1 (rd l0 x8_1)):Int).toNat,none⟩ (.int .i64 (rd x5_1 x8_1))) w.heap.size (fun k_=>ne_ k_ (.slice (some ⟨go18,0,none⟩) x5_1.length co29)∧ne_ k_ (.slice (some ad367) x6_1.length co26)) v369 y368):=⟨ru_ (jc (je (p:=⟨go18,((rd x6_1 (rd l0 x8_1)):Int).toNat,none⟩) (je (p:=⟨go18,(x8_1:Int).toNat,none⟩) (jc HO370.out (fun k_ hk=>(⟨hk,fun e_=>hk.1 T5_⟩:_∧k_≠go18))) (fun _ hk=>hk.2) (.int .i64 (rd x5_1 (rd x6_1 (rd l0 x8_1))))) (fun _ hk=>hk.2) (.int .i64 (rd x5_1 x8_1))) (fun _ hk=>⟨hk.1.1,hk.1.2⟩))⟩
  have n3_:Aside0 (Below w.heap.size w ((w28.setCell ⟨go18,(x8_1:Int).toNat,none⟩ (.int .i64 (rd x5_1 (rd x6_1 (rd l0 x8_1))))).setCell ⟨go18,((rd x6_1 (rd l0 x8_1)):Int).toNat,none⟩ (.int .i64 (rd x5_1 x8_1)))):=⟨(by repeat(first|(with_reducible first|exact HB.out|apply below_alloc|apply pw_below_drewN|apply jG|refine jJ ?_ GB18.out|refine jJ ?_ GB18.out)|exact HB.out))⟩
  (try clear HO_5);(try clear HO_6);(try clear HO370);(try clear HB)
  generalize ((w28.setCell ⟨go18,(x8_1:Int).toNat,none⟩ (.int .i64 (rd x5_1 (rd x6_1 (rd l0 x8_1))))).setCell ⟨go18,((rd x6_1 (rd l0 x8_1)):Int).toNat,none⟩ (.int .i64 (rd x5_1 x8_1)))=w32 at n0_ n1_ n2_ n3_ ⊢
  have HO_5:=n0_
  have HO_6:=n1_
  have HO370:=n2_
  have HB:=n3_
  clear n0_ n1_ n2_ n3_
  have n_:=P4_ (jq HO_5.out) (jq HO_6.out) (jq HO370.out) (jG HB.out)
  clear HO_5 HO_6 HO370 HB
  obtain⟨HO_5,HO_6,HO370,HB⟩:=n_
  have p375:0≤(x8_1:Int):=od_
  have q375:x8_1<(y374.length:Int):=(by have h_:(x8_1:Int)<((x5_1.length:Int):Int):=od_;first|(have e_:=(jh HO_5.out).1;omega)|simpa only[Ny373.out,Ny374.out,List.length_set] using h_)
  have ql375:((x8_1:Int)<((x5_1.length:Int):Int))=True:=eq_true (od_)
  obtain⟨ad375,e375,hx375_0⟩:=jH (jh HO_5.out).2.2 x8_1 p375 q375
  obtain rfl:(⟨go18,0,none⟩:Addr)=ad375:=(by injection e375)
  (first|simp only[add_plain] at hx375_0|simp only[add_at] at hx375_0|simp only[Addr.add,Nat.zero_add] at hx375_0|skip)
  replace p375:=eq_true p375
  replace q375:=eq_true q375
  have p376:0≤((rd x6_1 (rd l0 x8_1)):Int):=od_
  have q376:(rd x6_1 (rd l0 x8_1))<(y374.length:Int):=(by have h_:((rd x6_1 (rd l0 x8_1)):Int)<((x5_1.length:Int):Int):=od_;first|(have e_:=(jh HO_5.out).1;omega)|simpa only[Ny373.out,Ny374.out,List.length_set] using h_)
  have ql376:(((rd x6_1 (rd l0 x8_1)):Int)<((x5_1.length:Int):Int))=True:=eq_true (od_)
  obtain⟨ad376,e376,hx376_0⟩:=jH (jh HO_5.out).2.2 (rd x6_1 (rd l0 x8_1)) p376 q376
  obtain rfl:(⟨go18,0,none⟩:Addr)=ad376:=(by injection e376)
  (first|simp only[add_plain] at hx376_0|simp only[add_at] at hx376_0|simp only[Addr.add,Nat.zero_add] at hx376_0|skip)
  replace p376:=eq_true p376
  replace q376:=eq_true q376
  have p22:0≤((rd y374 x8_1):Int):=od_
  have q22:((rd y374 x8_1):Int)<((x6_1.length:Int):Int):=od_
  obtain⟨go22,co22,eo22,gb22,gl22,cl22,HG22⟩:=Kd.R_form HO_6.out T2_
  (first|cases eo22|(injection eo22 with ea_ en_ ec_;(first|subst ea_|(injection ea_ with ea_;subst ea_));subst ec_;clear en_))
  have GB22:=am_ gb22
  have GG22:=am_ HG22
  clear gb22 gl22 HG22
  (first|simp only[add_plain] at hx367_0|skip)
  obtain⟨hx22_0,hf22_0⟩:=Kd.R_celln 0 HO_6.out ((rd y374 x8_1):Int) p22 q22
  replace p22:=eq_true p22
  replace q22:=eq_true q22
  have HP34:=Kd.R_putn HO_6.out ((rd y374 x8_1):Int) x8_1
  rw[←Ny377.out] at HP34
  have HQ34:=am_ HP34
  clear HP34
  have p25:0≤((rd y374 (rd x6_1 (rd l0 x8_1))):Int):=od_
  have q25:((rd y374 (rd x6_1 (rd l0 x8_1))):Int)<((x6_1.length:Int):Int):=od_
  obtain⟨hx25_0,hf25_0⟩:=Kd.R_celln 0 HQ34.out ((rd y374 (rd x6_1 (rd l0 x8_1))):Int) p25 q25
  replace p25:=eq_true p25
  replace q25:=eq_true q25
  have HP35:=Kd.R_putn HQ34.out ((rd y374 (rd x6_1 (rd l0 x8_1))):Int) (rd x6_1 (rd l0 x8_1))
  rw[←Ny378.out] at HP35
  have HQ35:=am_ HP35
  clear HP35
  refine start_ (n:=16) (S:=fun w'=>w'.cell? ⟨go18,(x8_1).toNat,none⟩=some (.int .i64 (rd y374 x8_1))∧w'.cell? ⟨go18,((rd x6_1 (rd l0 x8_1))).toNat,none⟩=some (.int .i64 (rd y374 (rd x6_1 (rd l0 x8_1))))) (ds:=[13,15]) #[false,false,false,false,false,false,false,false,false,false,false,false,false,false,false,false] T4_ rfl rfl ⟨hx375_0,hx376_0⟩ (fun hHeld=>?_);refine with_tabW perm_Draws.tab12 perm_Draws.bits12 (fun HT_ HW_=>?_)
  generalize w32.drew=w33 at HO_5 HO_6 HO370 HB GG22 HQ31 HQ34 HQ35 hf22_0 hf25_0 hx22_0 hx25_0 hx367_0 hx375_0 hx376_0 hHeld ⊢
  refine pz_ 0 (some 50) ?_
  refine pz_ 1 (some 51) ?_
  refine pz_ 2 (some 52) ?_
  refine pz_ 3 (some 53) ?_
  refine pz_ 5 (some 55) ?_
  refine pz_ 6 (some 56) ?_
  refine pz_ 7 (some 57) ?_
  refine pz_ 8 (some 58) ?_
  refine pz_ 10 (some 60) ?_
  refine pz_ 11 (some 61) ?_
  refine tz2_ 4 (some 54) hHeld ?_
  refine tz2_ 9 (some 59) hHeld ?_
  refine pz_ 12 (some 62) ?_
  refine last_ (i:=13) (N:=none) #[true,true,true,true,true,true,true,true,true,true,true,true,true,true,false,false] rfl rfl (one_of HT_.out T4_) T3_ (fun K hK=>?_)
  refine skip_ (w1:=?_) T0_ rfl ?_ ?_
  rotate_left
  ·go_simp
   rfl
  refine hK.out _ _ ?_
  clear hK K
  refine pz_ 14 (some 63) ?_
  refine last_ (i:=15) (N:=none) #[true,true,true,true,true,true,true,true,true,true,true,true,true,true,true,true] rfl rfl (one_of HT_.out T4_) T3_ (fun K hK=>?_)
  refine skip_ (w1:=?_) T0_ rfl ?_ ?_
  rotate_left
  ·go_simp
   rfl
  refine hK.out _ _ ?_
  clear hK K
  refine done_ (done_of HT_.out T4_) ?_
  try go_wp2
  go_roundg k1
  case measure=>have:=HK1.out;omega
  case rel=>exact⟨(y374),(y378),(y368),(wrap64 (x8_1-1)),T9_,H',⟨T7_⟩,⟨ru_ (jc (je (p:=⟨go22,((rd y374 (rd x6_1 (rd l0 x8_1))):Int).toNat,none⟩) (je (p:=⟨go22,((rd y374 x8_1):Int).toNat,none⟩) (jc HO_5.out (fun k_ hk=>(⟨hk,fun e_=>hk.1 T5_⟩:_∧k_≠go22))) (fun _ hk=>hk.2) (.int .i64 x8_1)) (fun _ hk=>hk.2) (.int .i64 (rd x6_1 (rd l0 x8_1)))) (fun _ hk=>⟨hk.1.1,hk.1.2⟩))⟩,⟨(by(with_reducible repeat(first|apply Kd.R_alloc|apply Kd.R_drewN|apply jq));exact HQ35.out)⟩,⟨ru_ (jc (je (p:=⟨go22,((rd y374 (rd x6_1 (rd l0 x8_1))):Int).toNat,none⟩) (je (p:=⟨go22,((rd y374 x8_1):Int).toNat,none⟩) (jc HO370.out (fun k_ hk=>(⟨hk,fun e_=>hk.2 T5_⟩:_∧k_≠go22))) (fun _ hk=>hk.2) (.int .i64 x8_1)) (fun _ hk=>hk.2) (.int .i64 (rd x6_1 (rd l0 x8_1)))) (fun _ hk=>⟨hk.1.1,hk.1.2⟩))⟩,⟨(by repeat(first|(with_reducible first|exact HB.out|apply below_alloc|apply pw_below_drewN|apply jG|refine jJ ?_ GB22.out|refine jJ ?_ GB22.out)|exact HB.out))⟩⟩
mutual
def riffle_Turn.j0:Nat→List Int→Int→Int→List Int→Bool→Option (List Int×Int)
 | 0,_,_,_,_,_=>none
 | k+1,x0,x1,x2,x3,x45=>if x45=true then(some (([]:List Int),2)) else((perm_Check.f k x3).bind fun t383=>(if t383=0 then((riffle_read.f k x0 x1 x2).bind fun bt384=>(if bt384.2.2.2.2.2.2.2.2=0 then(if 0≤x1 then(if(x1:Int).toNat≤35184372088832 then(if 0≤(bt384.2.2.2.1.length:Int) then(if((bt384.2.2.2.1.length:Int):Int).toNat≤11728124029610 then(riffle_Turn.l0 k x0 x1 bt384.2.2.2.2.2.2.1 (List.replicate (x1:Int).toNat 0) (List.replicate ((bt384.2.2.2.1.length:Int):Int).toNat []) x3 (x3.length:Int) 0 bt384.1 bt384.2.1 bt384.2.2.1 bt384.2.2.2.1 bt384.2.2.2.2.1) else(none)) else(none)) else(none)) else(none)) else(some (([]:List Int),bt384.2.2.2.2.2.2.2.2)))) else(some (([]:List Int),t383))))
def riffle_Turn.l0:Nat→List Int→Int→List Int→List Int→List (List Int)→List Int→Int→Int→List Int→List Int→List (List Int)→List Int→List Int→Option (List Int×Int)
 | 0,_,_,_,_,_,_,_,_,_,_,_,_,_=>none
 | k+1,x0,x1,x15,x18,x19,x70,x71,x72,x410000,x410001,x410002,x410003,x410004=>if x72<x71 then(if 0≤x72 then(if x72<(x70.length:Int) then((riffle_cut_of.f k x410000 x410001 x410002 x410003 x410004 (rd x70 x72)).bind fun t417=>(if x72<(x18.length:Int) then(if 0≤t417 then(if t417<(x19.length:Int) then(if t417<(x410004.length:Int) then(if(rd_L3 x19 t417).length<17592186044416 then(riffle_Turn.l0 k x0 x1 x15 (x18.set (x72:Int).toNat t417) (x19.set (t417:Int).toNat ((rd_L3 x19 t417) ++ [wrap64 ((rd x70 x72)-(rd x410004 t417))])) x70 x71 (wrap64 (x72+1)) x410000 x410001 x410002 x410003 x410004) else(none)) else(none)) else(none)) else(none)) else(none))) else(none)) else(none)) else((braid_Draws.f k x410003 x18 x15).bind fun bt425=>(if bt425.2=0 then((braid_Bounds.f k x1).bind fun t429=>((draw_Turn.f x410001 t429 bt425.1).bind fun bt432=>(if bt432.2=0 then((some (([]:List Int):List Int)).bind fun y436=>(if y436.length+x0.length<140737488355328 then((some (y436 ++ x0:List Int)).bind fun y439=>(if 0≤(x410000.length:Int) then(if(x410000.length:Int)≤(y439.length:Int) then(riffle_Turn.l1 k x19 (cpy y439 (((x410000.length:Int):Int).toNat) bt432.1) (wrap64 ((x410000.length:Int)+(cpn y439 (((x410000.length:Int):Int).toNat) bt432.1))) x410003 (x410003.length:Int) 0 x410000 x410001 x410002 x410003 x410004) else(none)) else(none))) else(none))) else(some (([]:List Int),bt432.2))))) else(some (([]:List Int),bt425.2))))
def riffle_Turn.l1:Nat→List (List Int)→List Int→Int→List Int→Int→Int→List Int→List Int→List (List Int)→List Int→List Int→Option (List Int×Int)
 | 0,_,_,_,_,_,_,_,_,_,_,_=>none
 | k+1,x19,x25,x26,x140,x141,x142,x410000,x410001,x410002,x410003,x410004=>if x142<x141 then(if 0≤x142 then(if x142<(x140.length:Int) then(if x142<(x19.length:Int) then((perm_Draws.f k (rd_L3 x19 x142)).bind fun bt451=>(if bt451.2=0 then(if x142<(x410002.length:Int) then((perm_Bounds.f k (rd x140 x142)).bind fun t456=>((draw_Turn.f (rd_L2 x410002 x142) t456 bt451.1).bind fun bt459=>(if bt459.2=0 then(if 0≤x26 then(if x26≤(x25.length:Int) then(riffle_Turn.l1 k x19 (cpy x25 ((x26:Int).toNat) bt459.1) (wrap64 (x26+(cpn x25 ((x26:Int).toNat) bt459.1))) x140 x141 (wrap64 (x142+1)) x410000 x410001 x410002 x410003 x410004) else(none)) else(none)) else(some (([]:List Int),bt459.2))))) else(none)) else(some (([]:List Int),bt451.2)))) else(none)) else(none)) else(none)) else(some (x25,0))
end
def riffle_Turn.f (k:Nat) (l0:List Int) (a1:Int) (a2:Int) (l3:List Int):Option (List Int×Int):=(braid_Sizes.f k a1 a2).bind fun bt379=>(if bt379.2=0 then(riffle_Turn.j0 k l0 a1 a2 l3 ((l3.length:Int) != a1)) else(riffle_Turn.j0 k l0 a1 a2 l3 true))
theorem riffle_Turn.mono_l:∀ k,(∀ y0 y1 y2 y3 y4,LeO (riffle_Turn.j0 k y0 y1 y2 y3 y4) (riffle_Turn.j0 (k+1) y0 y1 y2 y3 y4))∧(∀ y0 y1 y2 y3 y4 y5 y6 y7 y8 y9 y10 y11 y12,LeO (riffle_Turn.l0 k y0 y1 y2 y3 y4 y5 y6 y7 y8 y9 y10 y11 y12) (riffle_Turn.l0 (k+1) y0 y1 y2 y3 y4 y5 y6 y7 y8 y9 y10 y11 y12))∧(∀ y0 y1 y2 y3 y4 y5 y6 y7 y8 y9 y10,LeO (riffle_Turn.l1 k y0 y1 y2 y3 y4 y5 y6 y7 y8 y9 y10) (riffle_Turn.l1 (k+1) y0 y1 y2 y3 y4 y5 y6 y7 y8 y9 y10))
 | 0=>⟨fun _ _ _ _ _ r h=>by simp[riffle_Turn.j0] at h,fun _ _ _ _ _ _ _ _ _ _ _ _ _ r h=>by simp[riffle_Turn.l0] at h,fun _ _ _ _ _ _ _ _ _ _ _ r h=>by simp[riffle_Turn.l1] at h⟩
 | k+1=>by
  obtain⟨ih0,ih1,ih2⟩:=riffle_Turn.mono_l k
  refine⟨?_,?_,?_⟩
  ·intro y0 y1 y2 y3 y4
   unfold riffle_Turn.j0
   with_reducible repeat' first|exact ih0 _ _ _ _ _|exact ih1 _ _ _ _ _ _ _ _ _ _ _ _ _|exact ih2 _ _ _ _ _ _ _ _ _ _ _|exact braid_Bounds.mono _ _|exact braid_Draws.mono _ _ _ _|exact braid_Sizes.mono _ _ _|exact perm_Bounds.mono _ _|exact perm_Check.mono _ _|exact perm_Draws.mono _ _|exact riffle_cut_of.mono _ _ _ _ _ _ _|exact riffle_read.mono _ _ _ _|exact LeO.refl _|exact LeO.none _|refine LeO.ite ?_ ?_|refine LeO.bind ?_ (fun _=>?_)
  ·intro y0 y1 y2 y3 y4 y5 y6 y7 y8 y9 y10 y11 y12
   unfold riffle_Turn.l0
   with_reducible repeat' first|exact ih0 _ _ _ _ _|exact ih1 _ _ _ _ _ _ _ _ _ _ _ _ _|exact ih2 _ _ _ _ _ _ _ _ _ _ _|exact braid_Bounds.mono _ _|exact braid_Draws.mono _ _ _ _|exact braid_Sizes.mono _ _ _|exact perm_Bounds.mono _ _|exact perm_Check.mono _ _|exact perm_Draws.mono _ _|exact riffle_cut_of.mono _ _ _ _ _ _ _|exact riffle_read.mono _ _ _ _|exact LeO.refl _|exact LeO.none _|refine LeO.ite ?_ ?_|refine LeO.bind ?_ (fun _=>?_)
  intro y0 y1 y2 y3 y4 y5 y6 y7 y8 y9 y10
  unfold riffle_Turn.l1
  with_reducible repeat' first|exact ih0 _ _ _ _ _|exact ih1 _ _ _ _ _ _ _ _ _ _ _ _ _|exact ih2 _ _ _ _ _ _ _ _ _ _ _|exact braid_Bounds.mono _ _|exact braid_Draws.mono _ _ _ _|exact braid_Sizes.mono _ _ _|exact perm_Bounds.mono _ _|exact perm_Check.mono _ _|exact perm_Draws.mono _ _|exact riffle_cut_of.mono _ _ _ _ _ _ _|exact riffle_read.mono _ _ _ _|exact LeO.refl _|exact LeO.none _|refine LeO.ite ?_ ?_|refine LeO.bind ?_ (fun _=>?_)
theorem riffle_Turn.mono:∀ a0 a1 a2 a3 k,LeO (riffle_Turn.f k a0 a1 a2 a3) (riffle_Turn.f (k+1) a0 a1 a2 a3):=by
 intro a0 a1 a2 a3 k
 obtain⟨ih0,ih1,ih2⟩:=riffle_Turn.mono_l k
 unfold riffle_Turn.f
 with_reducible repeat' first|exact ih0 _ _ _ _ _|exact ih1 _ _ _ _ _ _ _ _ _ _ _ _ _|exact ih2 _ _ _ _ _ _ _ _ _ _ _|exact braid_Bounds.mono _ _|exact braid_Draws.mono _ _ _ _|exact braid_Sizes.mono _ _ _|exact perm_Bounds.mono _ _|exact perm_Check.mono _ _|exact perm_Draws.mono _ _|exact riffle_cut_of.mono _ _ _ _ _ _ _|exact riffle_read.mono _ _ _ _|exact LeO.refl _|exact LeO.none _|refine LeO.ite ?_ ?_|refine LeO.bind ?_ (fun _=>?_)
def riffle_Turn.T17:Bool×List (List Nat×List Nat):=(true,[([],[]),([],[]),([],[]),([],[]),([2,3],[2,3]),([4],[4]),([],[]),([],[]),([7],[7]),([],[]),([8,9],[8,9]),([10],[10]),([6,11],[6,11]),([12],[12]),([5,13],[5,13]),([0,1,0,1,2,3,4,5,6,7,8,9,10,11,12,13,14],[0,1]),([15,14,14,0,1,2,3,4,5,6,7,8,9,10,11,12,13,14],[14,15])])
def riffle_Turn.B17:List Nat:=[0,0,0,0,12,28,0,0,128,0,896,1920,4032,8128,16380,32767,65535]
theorem riffle_Turn.tab17:rtab .any (opsOf Try.f17 17)=riffle_Turn.T17:=by kernel_rfl
theorem riffle_Turn.bits17:waitsOk riffle_Turn.T17.2 riffle_Turn.B17=true:=by kernel_rfl
def riffle_Turn.T22:Bool×List (List Nat×List Nat):=(true,[([],[]),([0],[0]),([1],[1]),([],[]),([3],[3]),([],[]),([2,4,5,4],[2,4,5]),([6],[6]),([7],[7]),([7],[7]),([8,6,0,1,2,3,4,5,6,7,8],[8]),([9,10,0,1,2,3,4,5,6,7,8,9,10],[9])])
def riffle_Turn.B22:List Nat:=[0,1,3,0,8,0,63,127,255,255,511,2047]
theorem riffle_Turn.tab22:rtab .any (opsOf Try.f17 22)=riffle_Turn.T22:=by kernel_rfl
theorem riffle_Turn.bits22:waitsOk riffle_Turn.T22.2 riffle_Turn.B22=true:=by kernel_rfl
def riffle_Turn.T34:Bool×List (List Nat×List Nat):=(true,[([],[]),([0],[0]),([1],[1]),([],[]),([2,3],[2,3]),([4],[4]),([],[]),([6],[6]),([],[]),([5,7,8,7],[5,7,8]),([9],[9]),([10],[10]),([10],[10]),([11,9,0,1,2,3,4,5,6,7,8,9,10,11],[11]),([12,13,0,1,2,3,4,5,6,7,8,9,10,11,12,13],[12])])
def riffle_Turn.B34:List Nat:=[0,1,3,0,15,31,0,64,0,511,1023,2047,2047,4095,16383]
theorem riffle_Turn.tab34:rtab .any (opsOf Try.f17 34)=riffle_Turn.T34:=by kernel_rfl
theorem riffle_Turn.bits34:waitsOk riffle_Turn.T34.2 riffle_Turn.B34=true:=by kernel_rfl
set_option maxHeartbeats 8000000 in
set_option maxRecDepth 100000 in
theorem riffle_Turn.calls (k:Nat) (A0:Option Addr) (c0:Nat) (l0:List Int) (a1:Int) (a2:Int) (A3:Option Addr) (c3:Nat) (l3:List Int) (r1:List Int) (r2:Int) (w:World) (hr0:Kd.C (jb .u8) w A0 l0.length l0) (hc0:l0.length≤c0) (hr3:Kd.C (jb .i64) w A3 l3.length l3) (hc3:l3.length≤c3) (h:riffle_Turn.f k l0 a1 a2 l3=some (r1,r2)) :
  Calls Try.prog 17 #[.slice A0 l0.length c0,.int .i64 a1,.int .i64 a2,.slice A3 l3.length c3] w fun e w'=>∃ v0_:Value,e = .returned (.tuple #[v0_,.int .i64 r2])∧ju (jb .u8) 5 w' w.heap.size (fun _=>True) v0_ r1∧Below w.heap.size w w':=by
 have hu57:=Try.underlying57
 have HR0:=am_ hr0
 have HC0:=am_ hc0
 clear hr0 hc0
 have HR3:=am_ hr3
 have HC3:=am_ hc3
 clear hr3 hc3
 have HB:=am_ (Below.refl w.heap.size w)
 have H:((braid_Sizes.f k a1 a2).bind fun bt379=>(if bt379.2=0 then(riffle_Turn.j0 k l0 a1 a2 l3 ((l3.length:Int) != a1)) else(riffle_Turn.j0 k l0 a1 a2 l3 true)))=some (r1,r2):=h
 clear h
 replace H:=Option.bind_eq_some_iff.mp H
 obtain⟨⟨t379,t380⟩,A50,H⟩:=H
 try dsimp only at H
 have A5:=am_ A50
 clear A50
 have HC6:=am_ H
 clear H
 go_enter Try.func17,Try.ntmps17
 go_upto_region 2 with(first|(refine gc_ 32 ?_;refine gl_ (some 35) Try.func32 #[.int .i64 a1,.int .i64 a2] ?_;(with_reducible refine(braid_Sizes.calls k a1 a2 t379 t380 _ A5.out).mono ?_);rintro e w7 ⟨v381,rfl,ho0,hb⟩;refine⟨_,rfl,?_⟩;have n_:=P2_ (jm ho0 (ja T16_)) (ji T16_ hb);clear HB;obtain⟨HO382,HB⟩:=n_;clear hb ho0))
 (try simp only[Act.put,List.setIfInBounds_toArray,List.set_cons_zero,List.set_cons_succ])
 go_cut [45] (fun v45 wc=>∃ (kq:Nat) (x45_5:Bool),v45 = .bool x45_5∧Aside0 (riffle_Turn.j0 kq l0 a1 a2 l3 x45_5=some (r1,r2))∧Aside0 (kq≤k)∧Aside0 (Below w.heap.size w wc))
 case first =>
  have H:=HC6.out
  clear HC6
  by_cases c8:t380=0
  rotate_left
  ·rw[if_neg c8] at H
   obtain⟨c8b0,c8b1⟩:=en_ c8
   (first|rw[c8b0]|(simp only[jD,jE];rw[c8b0])|skip)
   have H':=am_ H
   clear H
   go_wp2
   go_meet
   case rel=>exact⟨_,(true),T9_,H',⟨T8_⟩,⟨T16_⟩⟩
  rw[if_pos c8] at H
  obtain⟨c8b0,c8b1⟩:=ep_ c8
  clear c8
  (first|rw[c8b0]|(simp only[jD,jE];rw[c8b0])|skip)
  have H':=am_ H
  clear H
  go_wp2
  go_meet
  case rel=>exact⟨_,(((l3.length:Int) != a1)),T9_,H',⟨T8_⟩,⟨T16_⟩⟩
 clear HC6
 obtain⟨kq,x45_5,rfl,HA,HJ5,HB⟩:=hcut
 cases kq with
 | zero=>exact absurd HA.out (by simp[riffle_Turn.j0])
 | succ kj5 =>
  have H:=HA.out
  clear HA
  simp only[riffle_Turn.j0] at H
  by_cases c9:x45_5=true
  ·subst c9
   have H1:(some (([]:List Int),2))=some (r1,r2):=by rw[if_pos rfl] at H;exact H
   clear H
   have H:=H1
   clear H1
   obtain⟨rfl,rfl⟩:=sj2_ H
   go_wp2
   go_ret2
   exact⟨_,T14_,T18_,T16_⟩
  replace c9:=Bool.eq_false_iff.mpr c9
  subst c9
  have H1:((perm_Check.f kj5 l3).bind fun t383=>(if t383=0 then((riffle_read.f kj5 l0 a1 a2).bind fun bt384=>(if bt384.2.2.2.2.2.2.2.2=0 then(if 0≤a1 then(if(a1:Int).toNat≤35184372088832 then(if 0≤(bt384.2.2.2.1.length:Int) then(if((bt384.2.2.2.1.length:Int):Int).toNat≤11728124029610 then(riffle_Turn.l0 kj5 l0 a1 bt384.2.2.2.2.2.2.1 (List.replicate (a1:Int).toNat 0) (List.replicate ((bt384.2.2.2.1.length:Int):Int).toNat []) l3 (l3.length:Int) 0 bt384.1 bt384.2.1 bt384.2.2.1 bt384.2.2.2.1 bt384.2.2.2.2.1) else(none)) else(none)) else(none)) else(none)) else(some (([]:List Int),bt384.2.2.2.2.2.2.2.2)))) else(some (([]:List Int),t383))))=some (r1,r2):=by rw[if_neg (show ¬ (false=true) by decide)] at H;exact H
  clear H
  have H:=H1
  clear H1
  replace H:=Option.bind_eq_some_iff.mp H
  obtain⟨t383,A100,H⟩:=H
  try dsimp only at H
  have A10:=am_ A100
  clear A100
  by_cases c11:t383=0
  rotate_left
  ·rw[if_neg c11] at H
   obtain⟨c11b0,c11b1⟩:=en_ c11
   obtain⟨rfl,rfl⟩:=sj2_ H
   go_wp2_with(first|(refine gc_ 18 ?_;refine gl_ (some 47) Try.func18 #[.slice A3 l3.length c3] ?_;(with_reducible refine(perm_Check.calls kj5 _ _ l3 t383 _ ?side1 ?side2 A10.out).mono ?_);(case side1=>exact cu_ (jv HR3.out HB.out));(case side2=>exact HC3.out);rintro e w133 ⟨rfl,hb⟩;refine⟨_,rfl,?_⟩;have n0_:=am_ (ji T16_ hb);clear HB;have HB:=n0_;clear n0_;clear hb))
   go_ret2
   exact⟨_,T14_,T18_,T16_⟩
  rw[if_pos c11] at H
  obtain⟨c11b0,c11b1⟩:=ep_ c11
  clear c11
  replace H:=Option.bind_eq_some_iff.mp H
  obtain⟨⟨t384,t387,t390,t393,t396,t399,t402,t405,t408⟩,A120,H⟩:=H
  try dsimp only at H
  have A12:=am_ A120
  clear A120
  by_cases c13:t408=0
  rotate_left
  ·rw[if_neg c13] at H
   obtain⟨c13b0,c13b1⟩:=en_ c13
   obtain⟨rfl,rfl⟩:=sj2_ H
   go_wp2_with(first|(refine gc_ 18 ?_;refine gl_ (some 47) Try.func18 #[.slice A3 l3.length c3] ?_;(with_reducible refine(perm_Check.calls kj5 _ _ l3 t383 _ ?side1 ?side2 A10.out).mono ?_);(case side1=>exact cu_ (jv HR3.out HB.out));(case side2=>exact HC3.out);rintro e w124 ⟨rfl,hb⟩;refine⟨_,rfl,?_⟩;have n0_:=am_ (ji T16_ hb);clear HB;have HB:=n0_;clear n0_;clear hb)|(refine gc_ 20 ?_;refine gl_ (some 55) Try.func20 #[.slice A0 l0.length c0,.int .i64 a1,.int .i64 a2] ?_;(with_reducible refine(riffle_read.calls kj5 _ _ l0 a1 a2 t384 t387 t390 t393 t396 t399 t402 t405 t408 _ ?side1 ?side2 A12.out).mono ?_);(case side1=>exact cu_ (jv HR0.out HB.out));(case side2=>exact HC0.out);rintro e w125 ⟨v385,v388,v391,v394,v397,v400,v403,v406,rfl,ho0,ho1,ho2,ho3,ho4,ho5,ho6,ho7,hb⟩;refine⟨_,rfl,?_⟩;have n_:=P9_ (jm ho0 (ja T16_)) (jm ho1 (ja T16_)) (Kd.S_lower ho2 (ja T16_)) (jm ho3 (ja T16_)) (jm ho4 (ja T16_)) (jm ho5 (ja T16_)) (jm ho6 (ja T16_)) (Kd.S_lower ho7 (ja T16_)) (ji T16_ hb);clear HB;obtain⟨HO386,HO389,HO392,HO395,HO398,HO401,HO404,HO407,HB⟩:=n_;clear hb ho0 ho1 ho2 ho3 ho4 ho5 ho6 ho7)|(refine gd_ 13 ?_;(try(refine gate_guard T0_ ?_;dsimp only));refine bx_ 13 #[.slice none 0 0,.slice none 0 0,.slice none 0 0,.slice none 0 0,.slice none 0 0] 57 ?_;intro gb409 hg w126 hbox hb;have n_:=P12_ (jd (ru_ HO386.out) hb) (jd (ru_ HO389.out) hb) (jA (su_ HO392.out) hb) (jd (ru_ HO395.out) hb) (jd (ru_ HO398.out) hb) (jd (ru_ HO401.out) hb) (jd (ru_ HO404.out) hb) (jA (su_ HO407.out) hb) (ji T16_ hb) (hbox) ((by rw[hg];exact(ja T16_):w.heap.size≤gb409)) ((by rw[hg];exact(ja T16_):w.heap.size≤gb409));clear HO386 HO389 HO392 HO395 HO398 HO401 HO404 HO407 HB;obtain⟨HO386,HO389,HO392,HO395,HO398,HO401,HO404,HO407,HB,BK409,GW409,GE409⟩:=n_;clear hb hbox hg;obtain⟨Ao127,co127,eo127⟩:=jo HO386.out;subst eo127;obtain⟨hcz128_0,hcz128_1,hcz128_2,hcz128_3,hcz128_4,hfz128_0,hfz128_1,hfz128_2,hfz128_3,hfz128_4⟩:=cz5_ BK409.out;obtain⟨Ao129,co129,eo129⟩:=jo HO389.out;subst eo129;obtain⟨Ao130,co130,eo130⟩:=Kd.S_slice HO392.out;subst eo130;obtain⟨Ao131,co131,eo131⟩:=jo HO395.out;subst eo131;obtain⟨Ao132,co132,eo132⟩:=jo HO398.out;subst eo132))
   go_ret2
   exact⟨_,T14_,T18_,T26_⟩
  rw[if_pos c13] at H
  obtain⟨c13b0,c13b1⟩:=ep_ c13
  clear c13
  replace H:=ifn_ H;obtain⟨c14,H⟩:=H
  have c14b0:=eq_true c14
  have c14b1:decide (0≤a1)=true:=decide_eq_true c14
  clear c14
  replace H:=ifn_ H;obtain⟨c15,H⟩:=H
  have c15b0:=eq_true c15
  have c15b1:decide ((a1:Int).toNat≤35184372088832)=true:=decide_eq_true c15
  clear c15
  obtain⟨y410,hy_⟩:∃ y_:List Int,y_=(List.replicate (a1:Int).toNat 0):=⟨_,rfl⟩
  replace H:(if 0≤(t393.length:Int) then(if((t393.length:Int):Int).toNat≤11728124029610 then(riffle_Turn.l0 kj5 l0 a1 t402 y410 (List.replicate ((t393.length:Int):Int).toNat []) l3 (l3.length:Int) 0 t384 t387 t390 t393 t396) else(none)) else(none))=some (r1,r2):=hyw_
  have Ny410:=am_ hy_
  clear hy_
  replace H:=ifn_ H;obtain⟨c16,H⟩:=H
  have c16b0:=eq_true c16
  have c16b1:decide (0≤(t393.length:Int))=true:=decide_eq_true c16
  clear c16
  replace H:=ifn_ H;obtain⟨c17,H⟩:=H
  have c17b0:=eq_true c17
  have c17b1:decide (((t393.length:Int):Int).toNat≤11728124029610)=true:=decide_eq_true c17
  clear c17
  obtain⟨y413,hy_⟩:∃ y_:List (List Int),y_=(List.replicate ((t393.length:Int):Int).toNat []):=⟨_,rfl⟩
  replace H:(riffle_Turn.l0 kj5 l0 a1 t402 y410 y413 l3 (l3.length:Int) 0 t384 t387 t390 t393 t396)=some (r1,r2):=hyw_
  have Ny413:=am_ hy_
  clear hy_
  have H':=am_ H
  clear H
  go_wp2_with(first|(refine gc_ 18 ?_;refine gl_ (some 47) Try.func18 #[.slice A3 l3.length c3] ?_;(with_reducible refine(perm_Check.calls kj5 _ _ l3 t383 _ ?side1 ?side2 A10.out).mono ?_);(case side1=>exact cu_ (jv HR3.out HB.out));(case side2=>exact HC3.out);rintro e w18 ⟨rfl,hb⟩;refine⟨_,rfl,?_⟩;have n0_:=am_ (ji T16_ hb);clear HB;have HB:=n0_;clear n0_;clear hb)|(refine gc_ 20 ?_;refine gl_ (some 55) Try.func20 #[.slice A0 l0.length c0,.int .i64 a1,.int .i64 a2] ?_;(with_reducible refine(riffle_read.calls kj5 _ _ l0 a1 a2 t384 t387 t390 t393 t396 t399 t402 t405 t408 _ ?side1 ?side2 A12.out).mono ?_);(case side1=>exact cu_ (jv HR0.out HB.out));(case side2=>exact HC0.out);rintro e w19 ⟨v385,v388,v391,v394,v397,v400,v403,v406,rfl,ho0,ho1,ho2,ho3,ho4,ho5,ho6,ho7,hb⟩;refine⟨_,rfl,?_⟩;have n_:=P9_ (jm ho0 (ja T16_)) (jm ho1 (ja T16_)) (Kd.S_lower ho2 (ja T16_)) (jm ho3 (ja T16_)) (jm ho4 (ja T16_)) (jm ho5 (ja T16_)) (jm ho6 (ja T16_)) (Kd.S_lower ho7 (ja T16_)) (ji T16_ hb);clear HB;obtain⟨HO386,HO389,HO392,HO395,HO398,HO401,HO404,HO407,HB⟩:=n_;clear hb ho0 ho1 ho2 ho3 ho4 ho5 ho6 ho7)|(refine gd_ 13 ?_;(try(refine gate_guard T0_ ?_;dsimp only));refine bx_ 13 #[.slice none 0 0,.slice none 0 0,.slice none 0 0,.slice none 0 0,.slice none 0 0] 57 ?_;intro gb409 hg w20 hbox hb;have n_:=P12_ (jd (ru_ HO386.out) hb) (jd (ru_ HO389.out) hb) (jA (su_ HO392.out) hb) (jd (ru_ HO395.out) hb) (jd (ru_ HO398.out) hb) (jd (ru_ HO401.out) hb) (jd (ru_ HO404.out) hb) (jA (su_ HO407.out) hb) (ji T16_ hb) (hbox) ((by rw[hg];exact(ja T16_):w.heap.size≤gb409)) ((by rw[hg];exact(ja T16_):w.heap.size≤gb409));clear HO386 HO389 HO392 HO395 HO398 HO401 HO404 HO407 HB;obtain⟨HO386,HO389,HO392,HO395,HO398,HO401,HO404,HO407,HB,BK409,GW409,GE409⟩:=n_;clear hb hbox hg;obtain⟨Ao21,co21,eo21⟩:=jo HO386.out;subst eo21;obtain⟨hcz22_0,hcz22_1,hcz22_2,hcz22_3,hcz22_4,hfz22_0,hfz22_1,hfz22_2,hfz22_3,hfz22_4⟩:=cz5_ BK409.out;obtain⟨Ao23,co23,eo23⟩:=jo HO389.out;subst eo23;obtain⟨Ao24,co24,eo24⟩:=Kd.S_slice HO392.out;subst eo24;obtain⟨Ao25,co25,eo25⟩:=jo HO395.out;subst eo25;obtain⟨Ao26,co26,eo26⟩:=jo HO398.out;subst eo26)|(refine gd_ 65 ?_;(try(refine gate_guard T0_ ?_;dsimp only));refine Kd.R_make (jb .i64) _ 3 rfl (N:=65) rfl 24 _ _ rfl a1 rfl rfl Try.underlying24 (.int .i64 0) 8 info3 rfl T3_ T2_ 0 (ok:=fun _=>True) (okp:=fun _=>True) rfl (fun _ hk=>hk) trivial (od_) (Nat.le_trans (Nat.mul_le_mul_right _ (od_:a1.toNat≤35184372088832)) T2_) (Below.refl _ _) (Nat.le_refl _) ?_;intro v411 w27 ho28 hb hg_ hnew_;clear hg_ hnew_;(first|rw[←Ny410.out] at ho28|(simp only[Int.reduceToNat] at ho28;rw[←Ny410.out] at ho28));have n_:=P11_ (jd (ru_ ((jc (je (p:=⟨gb409,4,none⟩) (je (p:=⟨gb409,3,none⟩) (je (p:=⟨gb409,2,none⟩) (je (p:=⟨gb409,1,none⟩) (je (p:=⟨gb409,0,none⟩) (js HO386.out BK409.out T3_) (fun _ hk=>hk.2) (.slice Ao21 t384.length co21)) (fun _ hk=>hk.2) (.slice Ao23 t387.length co23)) (fun _ hk=>hk.2) (.slice Ao24 t390.length co24)) (fun _ hk=>hk.2) (.slice Ao25 t393.length co25)) (fun _ hk=>hk.2) (.slice Ao26 t396.length co26)) (fun _ h_=>h_.1)))) hb) (jd (ru_ ((jc (je (p:=⟨gb409,4,none⟩) (je (p:=⟨gb409,3,none⟩) (je (p:=⟨gb409,2,none⟩) (je (p:=⟨gb409,1,none⟩) (je (p:=⟨gb409,0,none⟩) (js HO389.out BK409.out T3_) (fun _ hk=>hk.2) (.slice Ao21 t384.length co21)) (fun _ hk=>hk.2) (.slice Ao23 t387.length co23)) (fun _ hk=>hk.2) (.slice Ao24 t390.length co24)) (fun _ hk=>hk.2) (.slice Ao25 t393.length co25)) (fun _ hk=>hk.2) (.slice Ao26 t396.length co26)) (fun _ h_=>h_.1)))) hb) (jA (su_ ((jB (jC (p:=⟨gb409,4,none⟩) (jC (p:=⟨gb409,3,none⟩) (jC (p:=⟨gb409,2,none⟩) (jC (p:=⟨gb409,1,none⟩) (jC (p:=⟨gb409,0,none⟩) (Kd.S_types HO392.out BK409.out T3_) (fun _ hk=>hk.2) (.slice Ao21 t384.length co21)) (fun _ hk=>hk.2) (.slice Ao23 t387.length co23)) (fun _ hk=>hk.2) (.slice Ao24 t390.length co24)) (fun _ hk=>hk.2) (.slice Ao25 t393.length co25)) (fun _ hk=>hk.2) (.slice Ao26 t396.length co26)) (fun _ h_=>h_.1)))) hb) (jg (ru_ ((jc (je (p:=⟨gb409,4,none⟩) (je (p:=⟨gb409,3,none⟩) (je (p:=⟨gb409,2,none⟩) (je (p:=⟨gb409,1,none⟩) (je (p:=⟨gb409,0,none⟩) (js HO395.out BK409.out T3_) (fun _ hk=>hk.2) (.slice Ao21 t384.length co21)) (fun _ hk=>hk.2) (.slice Ao23 t387.length co23)) (fun _ hk=>hk.2) (.slice Ao24 t390.length co24)) (fun _ hk=>hk.2) (.slice Ao25 t393.length co25)) (fun _ hk=>hk.2) (.slice Ao26 t396.length co26)) (fun _ h_=>h_.1)))) (jf ho28) hb) (jg (ru_ ((jc (je (p:=⟨gb409,4,none⟩) (je (p:=⟨gb409,3,none⟩) (je (p:=⟨gb409,2,none⟩) (je (p:=⟨gb409,1,none⟩) (je (p:=⟨gb409,0,none⟩) (js HO398.out BK409.out T3_) (fun _ hk=>hk.2) (.slice Ao21 t384.length co21)) (fun _ hk=>hk.2) (.slice Ao23 t387.length co23)) (fun _ hk=>hk.2) (.slice Ao24 t390.length co24)) (fun _ hk=>hk.2) (.slice Ao25 t393.length co25)) (fun _ hk=>hk.2) (.slice Ao26 t396.length co26)) (fun _ h_=>h_.1)))) (jf ho28) hb) (jg (ru_ ((jc (je (p:=⟨gb409,4,none⟩) (je (p:=⟨gb409,3,none⟩) (je (p:=⟨gb409,2,none⟩) (je (p:=⟨gb409,1,none⟩) (je (p:=⟨gb409,0,none⟩) (js HO401.out BK409.out T3_) (fun _ hk=>hk.2) (.slice Ao21 t384.length co21)) (fun _ hk=>hk.2) (.slice Ao23 t387.length co23)) (fun _ hk=>hk.2) (.slice Ao24 t390.length co24)) (fun _ hk=>hk.2) (.slice Ao25 t393.length co25)) (fun _ hk=>hk.2) (.slice Ao26 t396.length co26)) (fun _ h_=>h_.1)))) (jf ho28) hb) (jg (ru_ ((jc (je (p:=⟨gb409,4,none⟩) (je (p:=⟨gb409,3,none⟩) (je (p:=⟨gb409,2,none⟩) (je (p:=⟨gb409,1,none⟩) (je (p:=⟨gb409,0,none⟩) (js HO404.out BK409.out T3_) (fun _ hk=>hk.2) (.slice Ao21 t384.length co21)) (fun _ hk=>hk.2) (.slice Ao23 t387.length co23)) (fun _ hk=>hk.2) (.slice Ao24 t390.length co24)) (fun _ hk=>hk.2) (.slice Ao25 t393.length co25)) (fun _ hk=>hk.2) (.slice Ao26 t396.length co26)) (fun _ h_=>h_.1)))) (jf ho28) hb) (jI (su_ ((jB (jC (p:=⟨gb409,4,none⟩) (jC (p:=⟨gb409,3,none⟩) (jC (p:=⟨gb409,2,none⟩) (jC (p:=⟨gb409,1,none⟩) (jC (p:=⟨gb409,0,none⟩) (Kd.S_types HO407.out BK409.out T3_) (fun _ hk=>hk.2) (.slice Ao21 t384.length co21)) (fun _ hk=>hk.2) (.slice Ao23 t387.length co23)) (fun _ hk=>hk.2) (.slice Ao24 t390.length co24)) (fun _ hk=>hk.2) (.slice Ao25 t393.length co25)) (fun _ hk=>hk.2) (.slice Ao26 t396.length co26)) (fun _ h_=>h_.1)))) (jf ho28) hb) (jm (jk (jk (jk (jk ho28 (jj (ru_ ((jc (je (p:=⟨gb409,4,none⟩) (je (p:=⟨gb409,3,none⟩) (je (p:=⟨gb409,2,none⟩) (je (p:=⟨gb409,1,none⟩) (je (p:=⟨gb409,0,none⟩) (js HO395.out BK409.out T3_) (fun _ hk=>hk.2) (.slice Ao21 t384.length co21)) (fun _ hk=>hk.2) (.slice Ao23 t387.length co23)) (fun _ hk=>hk.2) (.slice Ao24 t390.length co24)) (fun _ hk=>hk.2) (.slice Ao25 t393.length co25)) (fun _ hk=>hk.2) (.slice Ao26 t396.length co26)) (fun _ h_=>h_.1)))))) (jj (ru_ ((jc (je (p:=⟨gb409,4,none⟩) (je (p:=⟨gb409,3,none⟩) (je (p:=⟨gb409,2,none⟩) (je (p:=⟨gb409,1,none⟩) (je (p:=⟨gb409,0,none⟩) (js HO398.out BK409.out T3_) (fun _ hk=>hk.2) (.slice Ao21 t384.length co21)) (fun _ hk=>hk.2) (.slice Ao23 t387.length co23)) (fun _ hk=>hk.2) (.slice Ao24 t390.length co24)) (fun _ hk=>hk.2) (.slice Ao25 t393.length co25)) (fun _ hk=>hk.2) (.slice Ao26 t396.length co26)) (fun _ h_=>h_.1)))))) (jj (ru_ ((jc (je (p:=⟨gb409,4,none⟩) (je (p:=⟨gb409,3,none⟩) (je (p:=⟨gb409,2,none⟩) (je (p:=⟨gb409,1,none⟩) (je (p:=⟨gb409,0,none⟩) (js HO401.out BK409.out T3_) (fun _ hk=>hk.2) (.slice Ao21 t384.length co21)) (fun _ hk=>hk.2) (.slice Ao23 t387.length co23)) (fun _ hk=>hk.2) (.slice Ao24 t390.length co24)) (fun _ hk=>hk.2) (.slice Ao25 t393.length co25)) (fun _ hk=>hk.2) (.slice Ao26 t396.length co26)) (fun _ h_=>h_.1)))))) (jj (ru_ ((jc (je (p:=⟨gb409,4,none⟩) (je (p:=⟨gb409,3,none⟩) (je (p:=⟨gb409,2,none⟩) (je (p:=⟨gb409,1,none⟩) (je (p:=⟨gb409,0,none⟩) (js HO404.out BK409.out T3_) (fun _ hk=>hk.2) (.slice Ao21 t384.length co21)) (fun _ hk=>hk.2) (.slice Ao23 t387.length co23)) (fun _ hk=>hk.2) (.slice Ao24 t390.length co24)) (fun _ hk=>hk.2) (.slice Ao25 t393.length co25)) (fun _ hk=>hk.2) (.slice Ao26 t396.length co26)) (fun _ h_=>h_.1)))))) (ja T26_)) (jr (g:=gb409) (o:=.cells #[.slice Ao21 t384.length co21,.slice Ao23 t387.length co23,.slice Ao24 t390.length co24,.slice Ao25 t393.length co25,.slice Ao26 t396.length co26] 57 (0,0)) (by(with_reducible repeat(first|refine jp ?_ _|refine jl ?_|refine jn ?_ _));refine jt (cs:=#[.slice Ao21 t384.length co21,.slice Ao23 t387.length co23,.slice Ao24 t390.length co24,.slice Ao25 t393.length co25,.slice none 0 0]) ?_ 4 _ rfl;(with_reducible repeat(first|refine jp ?_ _|refine jl ?_|refine jn ?_ _));refine jt (cs:=#[.slice Ao21 t384.length co21,.slice Ao23 t387.length co23,.slice Ao24 t390.length co24,.slice none 0 0,.slice none 0 0]) ?_ 3 _ rfl;(with_reducible repeat(first|refine jp ?_ _|refine jl ?_|refine jn ?_ _));refine jt (cs:=#[.slice Ao21 t384.length co21,.slice Ao23 t387.length co23,.slice none 0 0,.slice none 0 0,.slice none 0 0]) ?_ 2 _ rfl;(with_reducible repeat(first|refine jp ?_ _|refine jl ?_|refine jn ?_ _));refine jt (cs:=#[.slice Ao21 t384.length co21,.slice none 0 0,.slice none 0 0,.slice none 0 0,.slice none 0 0]) ?_ 1 _ rfl;(with_reducible repeat(first|refine jp ?_ _|refine jl ?_|refine jn ?_ _));refine jt (cs:=#[.slice none 0 0,.slice none 0 0,.slice none 0 0,.slice none 0 0,.slice none 0 0]) ?_ 0 _ rfl;exact bu_ BK409.out) hb) (ji T26_ hb);clear HO386 HO389 HO392 HO395 HO398 HO401 HO404 HO407 BK409 HB;obtain⟨HO386,HO389,HO392,HO395,HO398,HO401,HO404,HO407,HO412,BK409,HB⟩:=n_;clear hb ho28;obtain⟨hcz29_0,hcz29_1,hcz29_2,hcz29_3,hcz29_4,hfz29_0,hfz29_1,hfz29_2,hfz29_3,hfz29_4⟩:=cz5_ BK409.out)|(refine gd_ 69 ?_;(try(refine gate_guard T0_ ?_;dsimp only));refine Kd.S_make (jy 3 (jb .i64)) _ 24 rfl (N:=69) rfl 51 _ _ rfl (t393.length:Int) rfl rfl Try.underlying51 (.slice none 0 0) 24 info24 rfl T3_ T2_ [] (ok:=fun _=>True) (okp:=fun _=>True) ⟨_,rfl,Kd.R_nil _ _ _ _ _⟩ (fun _ hk=>hk) trivial (od_) (Nat.le_trans (Nat.mul_le_mul_right _ (od_:(t393.length:Int).toNat≤11728124029610)) T2_) (Below.refl _ _) (Nat.le_refl _) ?_;intro v414 w30 ho31 hb hg_ hnew_;clear hg_ hnew_;(first|rw[←Ny413.out] at ho31|(simp only[Int.reduceToNat] at ho31;rw[←Ny413.out] at ho31));have n_:=P12_ (jd (ru_ HO386.out) hb) (jd (ru_ HO389.out) hb) (jA (su_ HO392.out) hb) (jd (ru_ HO395.out) hb) (jd (ru_ HO398.out) hb) (jd (ru_ HO401.out) hb) (jd (ru_ HO404.out) hb) (jI (su_ HO407.out) (Kd.S_base ho31) hb) (jd (ru_ HO412.out) hb) (Kd.S_lower (Kd.S_new' (Kd.S_new' (Kd.S_new' (Kd.S_new' (Kd.S_new' (Kd.S_new' ho31 (jj (ru_ HO395.out))) (jj (ru_ HO398.out))) (jj (ru_ HO401.out))) (jj (ru_ HO404.out))) (Kd.S_lt (su_ HO407.out))) (jj (ru_ HO412.out))) (ja T26_)) (jr (bu_ BK409.out) hb) (ji T26_ hb);clear HO386 HO389 HO392 HO395 HO398 HO401 HO404 HO407 HO412 BK409 HB;obtain⟨HO386,HO389,HO392,HO395,HO398,HO401,HO404,HO407,HO412,HO415,BK409,HB⟩:=n_;clear hb ho31))
  go_loopg [72] kj5 (fun kq v72 w'=>∃ (x18_2:List Int) (x19_2:List (List Int)) (x72_2:Int),v72 = .int .i64 x72_2∧Aside0 (riffle_Turn.l0 kq l0 a1 t402 x18_2 x19_2 l3 (l3.length:Int) x72_2 t384 t387 t390 t393 t396=some (r1,r2))∧Aside0 (kq≤kj5)∧Aside0 (ju (jb .i64) 3 w' w.heap.size (fun k_=>ne_ k_ v411∧ne_ k_ (.slice Ao25 t393.length co25)∧ne_ k_ (.slice Ao26 t396.length co26)) v403 t402)∧Aside0 (ju (jb .i64) 3 w' w.heap.size (fun k_=>ne_ k_ v403∧ne_ k_ (.slice Ao25 t393.length co25)∧ne_ k_ (.slice Ao26 t396.length co26)) v411 x18_2)∧Aside0 (Kd.S (jy 3 (jb .i64)) 24 w' w.heap.size (fun k_=>ne_ k_ v403∧ne_ k_ v411∧ne_ k_ (.slice Ao25 t393.length co25)∧ne_ k_ (.slice Ao26 t396.length co26)) v414 x19_2)∧Aside0 (ju (jb .u8) 5 w' w.heap.size (fun k_=>ne_ k_ (.slice Ao23 t387.length co23)) (.slice Ao21 t384.length co21) t384)∧Aside0 (ju (jb .u8) 5 w' w.heap.size (fun k_=>ne_ k_ (.slice Ao21 t384.length co21)) (.slice Ao23 t387.length co23) t387)∧Aside0 (Kd.S (jy 5 (jb .u8)) 23 w' w.heap.size (fun k_=>ne_ k_ (.slice Ao21 t384.length co21)∧ne_ k_ (.slice Ao23 t387.length co23)) (.slice Ao24 t390.length co24) t390)∧Aside0 (ju (jb .i64) 3 w' w.heap.size (fun k_=>ne_ k_ v403∧ne_ k_ v411∧ne_ k_ (.slice Ao26 t396.length co26)) (.slice Ao25 t393.length co25) t393)∧Aside0 (ju (jb .i64) 3 w' w.heap.size (fun k_=>ne_ k_ v403∧ne_ k_ v411∧ne_ k_ (.slice Ao25 t393.length co25)) (.slice Ao26 t396.length co26) t396)∧Aside0 (w'.heap[gb409]? = some (.cells #[(.slice Ao21 t384.length co21),(.slice Ao23 t387.length co23),(.slice Ao24 t390.length co24),(.slice Ao25 t393.length co25),(.slice Ao26 t396.length co26)] 57 (0,0)))∧Aside0 (Below w.heap.size w w'))
  case atStart=>exact⟨(y410),(y413),(0),T9_,H',⟨Nat.le_refl _⟩,⟨ru_ (jc HO404.out (fun _ hk=>⟨hk.2,⟨hk.1.1,hk.1.2.1⟩⟩))⟩,⟨ru_ (jc HO412.out (fun _ hk=>⟨hk.2,⟨hk.1.1.1.2,hk.1.1.2⟩⟩))⟩,⟨su_ (jB HO415.out (fun _ hk=>⟨hk.1.1.2,⟨hk.2,⟨hk.1.1.1.1.1.2,hk.1.1.1.1.2⟩⟩⟩))⟩,⟨ru_ HO386.out⟩,⟨ru_ HO389.out⟩,⟨su_ HO392.out⟩,⟨ru_ (jc HO395.out (fun _ hk=>⟨hk.1.2.2,⟨hk.2,hk.1.1⟩⟩))⟩,⟨ru_ (jc HO398.out (fun _ hk=>⟨hk.1.2.2,⟨hk.2,hk.1.1⟩⟩))⟩,⟨bu_ BK409.out⟩,⟨T26_⟩⟩
  clear H'
  (try clear c3);(try clear c9);(try clear c11);(try clear c11b0 c11b1);(try clear c13);(try clear c13b0 c13b1);(try clear c14);(try clear c14b0 c14b1);(try clear c15);(try clear c15b0 c15b1);(try clear c16);(try clear c16b0 c16b1);(try clear c17);(try clear c17b0 c17b1);(try clear hcz22_0 hcz22_1 hcz22_2 hcz22_3 hcz22_4 hfz22_0 hfz22_1 hfz22_2 hfz22_3 hfz22_4);(try clear hcz29_0 hcz29_1 hcz29_2 hcz29_3 hcz29_4 hfz29_0 hfz29_1 hfz29_2 hfz29_3 hfz29_4);(try clear BK409)
  obtain⟨x18_2,x19_2,x72_2,rfl,HA,HK2,HO_15,HO_18,HO_19,HO_410000,HO_410001,HO_410002,HO_410003,HO_410004,BK409,HB⟩:=hrel
  cases gk with
  | zero=>exact absurd HA.out (by simp[riffle_Turn.l0])
  | succ k2 =>
   have H:=HA.out
   clear HA
   simp only[riffle_Turn.l0] at H
   by_cases c32:x72_2<(l3.length:Int)
   ·rw[if_pos c32] at H
    have c32b0:=decide_eq_true c32
    clear c32
    replace H:=ifn_ H;obtain⟨c33,H⟩:=H
    have c33b0:=decide_eq_true c33
    clear c33
    replace H:=ifn_ H;obtain⟨c34,H⟩:=H
    have c34b0:=decide_eq_true c34
    clear c34
    replace H:=Option.bind_eq_some_iff.mp H
    obtain⟨t417,A350,H⟩:=H
    try dsimp only at H
    have A35:=am_ A350
    clear A350
    replace H:=ifn_ H;obtain⟨c36,H⟩:=H
    have c36b0:=decide_eq_true c36
    clear c36
    obtain⟨y418,hy_⟩:∃ y_:List Int,y_=(x18_2.set (x72_2:Int).toNat t417):=⟨_,rfl⟩
    replace H:(if 0≤t417 then(if t417<(x19_2.length:Int) then(if t417<(t396.length:Int) then(if(rd_L3 x19_2 t417).length<17592186044416 then(riffle_Turn.l0 k2 l0 a1 t402 y418 (x19_2.set (t417:Int).toNat ((rd_L3 x19_2 t417) ++ [wrap64 ((rd l3 x72_2)-(rd t396 t417))])) l3 (l3.length:Int) (wrap64 (x72_2+1)) t384 t387 t390 t393 t396) else(none)) else(none)) else(none)) else(none))=some (r1,r2):=hyw_
    have Ny418:=am_ hy_
    clear hy_
    replace H:=ifn_ H;obtain⟨c38,H⟩:=H
    have c38b0:=decide_eq_true c38
    clear c38
    replace H:=ifn_ H;obtain⟨c39,H⟩:=H
    have c39b0:=decide_eq_true c39
    clear c39
    replace H:=ifn_ H;obtain⟨c40,H⟩:=H
    have c40b0:=decide_eq_true c40
    clear c40
    replace H:=ifa_ H;obtain⟨LMc41,H⟩:=H
    obtain⟨y421,hy_⟩:∃ y_:List Int,y_=((rd_L3 x19_2 t417) ++ [wrap64 ((rd l3 x72_2)-(rd t396 t417))]):=⟨_,rfl⟩
    replace H:(riffle_Turn.l0 k2 l0 a1 t402 y418 (x19_2.set (t417:Int).toNat y421) l3 (l3.length:Int) (wrap64 (x72_2+1)) t384 t387 t390 t393 t396)=some (r1,r2):=hyw_
    have Ny421:=am_ hy_
    clear hy_
    obtain⟨y424,hy_⟩:∃ y_:List (List Int),y_=(x19_2.set (t417:Int).toNat y421):=⟨_,rfl⟩
    replace H:(riffle_Turn.l0 k2 l0 a1 t402 y418 y424 l3 (l3.length:Int) (wrap64 (x72_2+1)) t384 t387 t390 t393 t396)=some (r1,r2):=hyw_
    have Ny424:=am_ hy_
    clear hy_
    have H':=am_ H
    clear H
    have p416:0≤(x72_2:Int):=od_
    have q416:x72_2<(l3.length:Int):=od_
    obtain⟨ad416,e416,hx416_0⟩:=jH HR3.out x72_2 p416 q416
    cases e416
    (try(replace hx416_0:=(HB.out.cell (World.block_lt_of_cell? w _ hx416_0)).trans hx416_0))
    replace p416:=eq_true p416
    replace q416:=eq_true q416
    obtain⟨hcz43_0,hcz43_1,hcz43_2,hcz43_3,hcz43_4,hfz43_0,hfz43_1,hfz43_2,hfz43_3,hfz43_4⟩:=cz5_ BK409.out
    try go_wp2_with(first|(refine gc_ 33 ?_;refine gl_ (some 79) Try.func33 #[.agg #[.slice Ao21 t384.length co21,.slice Ao23 t387.length co23,.slice Ao24 t390.length co24,.slice Ao25 t393.length co25,.slice Ao26 t396.length co26],.int .i64 (rd l3 x72_2)] ?_;(with_reducible refine(riffle_cut_of.calls k2 _ _ t384 _ _ t387 _ _ t390 _ _ t393 _ _ t396 (rd l3 x72_2) t417 _ ?side1 ?side2 ?side3 ?side4 ?side5 ?side6 ?side7 ?side8 ?side9 ?side10 A35.out).mono ?_);(case side1=>exact cu_ ((jh HO_410000.out).2.2));(case side2=>exact(jh HO_410000.out).2.1);(case side3=>exact cu_ ((jh HO_410001.out).2.2));(case side4=>exact(jh HO_410001.out).2.1);(case side5=>exact cu_ ((jM HO_410002.out).2.2));(case side6=>exact(jM HO_410002.out).2.1);(case side7=>exact cu_ ((jh HO_410003.out).2.2));(case side8=>exact(jh HO_410003.out).2.1);(case side9=>exact cu_ ((jh HO_410004.out).2.2));(case side10=>exact(jh HO_410004.out).2.1);rintro e w44 ⟨rfl,hb⟩;refine⟨_,rfl,?_⟩;have n_:=P10_ (jd (ru_ HO_15.out) hb) (jd (ru_ HO_18.out) hb) (jA (su_ HO_19.out) hb) (jd (ru_ HO_410000.out) hb) (jd (ru_ HO_410001.out) hb) (jA (su_ HO_410002.out) hb) (jd (ru_ HO_410003.out) hb) (jd (ru_ HO_410004.out) hb) (jr (bu_ BK409.out) hb) (ji T26_ hb);clear HO_15 HO_18 HO_19 HO_410000 HO_410001 HO_410002 HO_410003 HO_410004 BK409 HB;obtain⟨HO_15,HO_18,HO_19,HO_410000,HO_410001,HO_410002,HO_410003,HO_410004,BK409,HB⟩:=n_;clear hb;have p37:0≤(x72_2:Int):=od_;have q37:(x72_2:Int)<((x18_2.length:Int):Int):=od_;obtain⟨go37,co37,eo37,gb37,gl37,cl37,HG37⟩:=Kd.R_form HO_18.out T2_;(first|cases eo37|(injection eo37 with ea_ en_ ec_;(first|subst ea_|(injection ea_ with ea_;subst ea_));subst ec_;clear en_));have GB37:=am_ gb37;have GG37:=am_ HG37;clear gb37 gl37 HG37;obtain⟨hx37_0,hf37_0⟩:=Kd.R_celln 0 HO_18.out (x72_2:Int) p37 q37;replace p37:=eq_true p37;replace q37:=eq_true q37;obtain⟨hy45_,hz45_⟩:=Kd.R_celln 0 HO_18.out (x72_2:Int) (od_) (od_);have HP45:=Kd.R_putg HO_18.out (x72_2:Int) t417)|(refine gs_ 3 83 ?_;refine sv_ 3 83 (w44.setCell ⟨go37,(x72_2:Int).toNat,none⟩ (.int .i64 t417)) ?_;intro w46 hw;have hg:w44.grownBy w46 (some go37):=(by rw[hw];exact HP45.2);have hp_:ju (jb .i64) 3 w46 w.heap.size (fun k_=>ne_ k_ v403∧ne_ k_ (.slice Ao25 t393.length co25)∧ne_ k_ (.slice Ao26 t396.length co26)) (.slice (some ⟨go37,0,none⟩) x18_2.length co37) y418:=(by rw[hw,Ny418.out];exact HP45.1);clear HP45;have n_:=P10_ (jw (v:=(.slice (some ⟨go37,0,none⟩) x18_2.length co37)) (v1:=(.slice (some ⟨go37,0,none⟩) x18_2.length co37)) (ok:=(fun k_=>ne_ k_ (.slice Ao25 t393.length co25)∧ne_ k_ (.slice Ao26 t396.length co26))) (ru_ (jc HO_15.out (fun _ hk=>⟨⟨hk.2.1,hk.2.2⟩,hk.1⟩))) hg (.inl rfl)) (hp_) (Kd.S_after (v:=(.slice (some ⟨go37,0,none⟩) x18_2.length co37)) (v1:=(.slice (some ⟨go37,0,none⟩) x18_2.length co37)) (ok:=(fun k_=>ne_ k_ v403∧ne_ k_ (.slice Ao25 t393.length co25)∧ne_ k_ (.slice Ao26 t396.length co26))) (su_ (jB HO_19.out (fun _ hk=>⟨⟨hk.1,⟨hk.2.2.1,hk.2.2.2⟩⟩,hk.2.1⟩))) hg (.inl rfl)) (jx (v:=(.slice (some ⟨go37,0,none⟩) x18_2.length co37)) (ru_ HO_410000.out) (jz HO_18.out) T3_ hg) (jx (v:=(.slice (some ⟨go37,0,none⟩) x18_2.length co37)) (ru_ HO_410001.out) (jz HO_18.out) T3_ hg) (Kd.S_over' (v:=(.slice (some ⟨go37,0,none⟩) x18_2.length co37)) (su_ HO_410002.out) (jz HO_18.out) T3_ hg) (jw (v:=(.slice (some ⟨go37,0,none⟩) x18_2.length co37)) (v1:=(.slice (some ⟨go37,0,none⟩) x18_2.length co37)) (ok:=(fun k_=>ne_ k_ v403∧ne_ k_ (.slice Ao26 t396.length co26))) (ru_ (jc HO_410003.out (fun _ hk=>⟨⟨hk.1,hk.2.2⟩,hk.2.1⟩))) hg (.inl rfl)) (jw (v:=(.slice (some ⟨go37,0,none⟩) x18_2.length co37)) (v1:=(.slice (some ⟨go37,0,none⟩) x18_2.length co37)) (ok:=(fun k_=>ne_ k_ v403∧ne_ k_ (.slice Ao25 t393.length co25))) (ru_ (jc HO_410004.out (fun _ hk=>⟨⟨hk.1,hk.2.2⟩,hk.2.1⟩))) hg (.inl rfl)) (blk_grown (g:=gb409) (o:=.cells #[.slice Ao21 t384.length co21,.slice Ao23 t387.length co23,.slice Ao24 t390.length co24,.slice Ao25 t393.length co25,.slice Ao26 t396.length co26] 57 (0,0)) (bu_ BK409.out) hg (Kd.R_ne HO_18.out BK409.out T3_)) ((by rw[hw];exact jJ (HB.out) GB37.out:Below w.heap.size w w46));clear HO_15 HO_18 HO_19 HO_410000 HO_410001 HO_410002 HO_410003 HO_410004 BK409 HB;obtain⟨HO_15,HO_18,HO_19,HO_410000,HO_410001,HO_410002,HO_410003,HO_410004,BK409,HB⟩:=n_;clear hg hw hp_))
    have n_:=P10_ (jq HO_15.out) (jq HO_18.out) (Kd.S_drew HO_19.out) (jq HO_410000.out) (jq HO_410001.out) (Kd.S_drew HO_410002.out) (jq HO_410003.out) (jq HO_410004.out) (jl BK409.out) (jG HB.out)
    clear HO_15 HO_18 HO_19 HO_410000 HO_410001 HO_410002 HO_410003 HO_410004 BK409 HB
    obtain⟨HO_15,HO_18,HO_19,HO_410000,HO_410001,HO_410002,HO_410003,HO_410004,BK409,HB⟩:=n_
    obtain⟨Ao48,co48,eo48⟩:=Kd.S_slice HO_19.out
    (first|subst eo48|(injection eo48 with f1_ f2_ f3_;have f4_:=f1_.symm;have f5_:=f3_.symm;clear f1_ f2_ f3_;subst f4_;subst f5_))
    have p419:0≤(t417:Int):=od_
    have q419:t417<(x19_2.length:Int):=od_
    obtain⟨ad419,A419_0,c419_0,e419,hx419_0,hl419_0,hi419_0⟩:=at_L3 (jM HO_19.out).2.2 t417 p419 q419
    cases e419
    obtain⟨ce419,hce419,hMe419,hcc419⟩:=Kd.S_get HO_19.out [] t417 p419 (by first|exact q419|exact od_|(have e_:=(jM HO_19.out).1;omega))
    obtain⟨ve419_0,rfl,ge419_0⟩:=hMe419
    have hv419_0:=hcc419 0 _ rfl
    rw[Nat.add_zero,show((jy 3 (jb .i64))).sz=1 from rfl,Nat.mul_one] at hv419_0
    replace hv419_0:=Option.some.inj (hv419_0.symm.trans hx419_0)
    rw[hv419_0] at ge419_0
    have HL419_0:=am_ (show ju (jb .i64) 3 _ _ _ _ (rd_L3 x19_2 t417) from ge419_0)
    clear hv419_0 ge419_0
    have HX419_0:=am_ hx419_0
    clear hcc419 hce419
    have HR419_0:=am_ hi419_0
    have HC419_0:=am_ hl419_0
    clear hi419_0 hl419_0
    replace p419:=eq_true p419
    replace q419:=eq_true q419
    obtain⟨ad420,e420,hx420_0,p420,q420⟩:=ai_ (jh HO_410004.out).2.2 t417
    cases e420
    have n_:=am_ (jB (ok':=(fun k_=>ne_ k_ v403∧ne_ k_ (.slice (some ⟨go37,0,none⟩) x18_2.length co37)∧ne_ k_ (.slice Ao25 t393.length co25)∧ne_ k_ (.slice (some ad420) t396.length co26))) HO_19.out (fun k_ hk=>⟨hk.1.1,⟨hk.2,⟨hk.1.2.1,hk.1.2.2⟩⟩⟩))
    clear HO_19
    have HO_19:=n_
    clear n_
    obtain⟨go49,co49,eo49,gb49,gl49,cl49,HG49⟩:=Kd.S_form HO_19.out (by have h_:(t417:Int)<((x19_2.length:Int):Int):=od_;have h2_:0≤(t417:Int):=(od_);omega)
    (first|cases eo49|(injection eo49 with ea_ en_ ec_;(first|subst ea_|(injection ea_ with ea_;subst ea_));subst ec_;clear en_))
    have GB49:=am_ gb49
    have GG49:=am_ HG49
    clear gb49 gl49 HG49
    (first|simp only[add_plain] at hx419_0|skip)
    obtain⟨oki49,ce49,hcl49,hM49,hcc49,_,_,hH49⟩:=Kd.S_elem HO_19.out [] (t417:Int) (od_) (by have h_:(t417:Int)<((x19_2.length:Int):Int):=od_;first|exact h_|(have e_:=(jM HO_19.out).1;omega)|simpa using h_)
    obtain⟨ve49_0,rfl,ge49_0⟩:=hM49
    have hv49:=hcc49 0 _ rfl
    have hX49:=HX419_0.out
    (try simp only[add_plain] at hX49)
    (try simp only[Nat.add_zero] at hv49)
    (try rw[show((jy 3 (jb .i64))).sz=1 from rfl,Nat.mul_one] at hv49)
    replace hv49:=Option.some.inj (hv49.symm.trans hX49)
    subst hv49
    clear hX49 hcc49 hcl49
    have UU49:=am_ (show ju (jb .i64) 3 _ w.heap.size oki49 (.slice A419_0 (rd_L3 x19_2 t417).length c419_0) (rd_L3 x19_2 t417) from ge49_0)
    have HH49:=am_ hH49
    have HN49:=am_ (jM HO_19.out).1
    clear hH49 ge49_0
    refine start_ (n:=17) (S:=fun w'=>w'.cell? ⟨gb409,0,none⟩=some (.slice Ao21 t384.length co21)∧w'.cell? ⟨gb409,1,none⟩=some (.slice Ao23 t387.length co23)∧w'.cell? ⟨gb409,2,none⟩=some (.slice Ao24 t390.length co24)∧w'.cell? ⟨gb409,3,none⟩=some (.slice Ao25 t393.length co25)∧w'.cell? ⟨gb409,4,none⟩=some (.slice (some ad420) t396.length co26)∧w'.cell? ⟨go49,(t417).toNat,none⟩=some (.slice A419_0 (rd_L3 x19_2 t417).length c419_0)∧w'.cell? (ad420.add (t417).toNat)=some (.int .i64 (rd t396 t417))) (ds:=[14,16]) #[false,false,false,false,false,false,false,false,false,false,false,false,false,false,false,false,false] T4_ rfl rfl ⟨bc_ BK409.out 0,bc_ BK409.out 1,bc_ BK409.out 2,bc_ BK409.out 3,bc_ BK409.out 4,hx419_0,hx420_0⟩ (fun hHeld=>?_);refine with_tabW riffle_Turn.tab17 riffle_Turn.bits17 (fun HT_ HW_=>?_)
    generalize w46.drew=w47 at HO_15 HO_18 HO_19 HO_410000 HO_410001 HO_410002 HO_410003 HO_410004 BK409 HB GG49 HH49 HL419_0 HR419_0 HX419_0 UU49 hx419_0 hx420_0 hHeld ⊢
    refine pz_ 0 (some 84) ?_
    refine pz_ 1 (some 85) ?_
    refine pz_ 2 (some 86) ?_
    refine pz_ 3 (some 87) ?_
    refine pz_ 4 (some 88) ?_
    refine pz_ 6 (some 90) ?_
    refine pz_ 7 (some 91) ?_
    refine pz_ 9 (some 93) ?_
    refine tz7_ 5 (some 89) hHeld ?_
    refine tz7_ 8 (some 92) hHeld ?_
    refine pz_ 10 (some 94) ?_
    refine tz7_ 11 (some 95) hHeld ?_
    refine pz_ 12 (some 96) ?_
    refine oz_ 13 (some 97) (fun K hK=>?_)
    refine value_ (w1:=?_) (v:=?_) T0_ rfl ?_ ?_
    rotate_left 2
    ·go_simp
     constructor
     ·rfl
     rfl
    refine hK.out _ _ ⟨(blk_cell (jn BK409.out _) 0).trans rfl,(blk_cell (jn BK409.out _) 1).trans rfl,(blk_cell (jn BK409.out _) 2).trans rfl,(blk_cell (jn BK409.out _) 3).trans rfl,(blk_cell (jn BK409.out _) 4).trans rfl,(World.cell?_alloc_lt _ _ _ (World.block_lt_of_cell? _ _ (hHeld.2.2.2.2.2.1))).trans (hHeld.2.2.2.2.2.1),(World.cell?_alloc_lt _ _ _ (World.block_lt_of_cell? _ _ (hHeld.2.2.2.2.2.2))).trans (hHeld.2.2.2.2.2.2)⟩ (fun hHeld=>?_)
    clear hK K
    refine norm_ (a':=?_) ?_ ?_
    rotate_left
    ·show Act.put _ (some 97) _=_
     simp only[Act.put,List.setIfInBounds_toArray,List.set_cons_zero,List.set_cons_succ,jD,jE]
     rfl
    refine last_ (i:=14) (N:=some 98) #[true,true,true,true,true,true,true,true,true,true,true,true,true,true,true,false,false] rfl rfl (one_of HT_.out T4_) T3_ (fun K hK=>?_)
    refine Kd.R_append_step (jb .i64) (w0:=w) w.heap.size T0_ (.tmp 89) (.tmp 97) 24 3 (.int .i64 0) 8 rfl Try.underlying24 info3 rfl T3_ T2_ (.slice A419_0 (rd_L3 x19_2 t417).length c419_0) (rd_L3 x19_2 t417) (wrap64 ((rd l3 x72_2)-(rd t396 t417))) [.int .i64 (wrap64 ((rd l3 x72_2)-(rd t396 t417)))] (fun k_=>oki49 k_∨((fun k_=>ne_ k_ v403∧ne_ k_ (.slice (some ⟨go37,0,none⟩) x18_2.length co37)∧ne_ k_ (.slice Ao25 t393.length co25)∧ne_ k_ (.slice (some ad420) t396.length co26))) k_∧w47.heap.size≤k_) (fun _=>False) rfl rfl ?aP (fun _ hk=>hk.elim) ?aF ?aO ?aB ?aS ?aL ?_
    (case aP=>exact rfl)
    (case aB=>exact T26_)
    (case aF=>exact(fun k_ hk=>.inr ⟨⟨jF (jj (ru_ HO_15.out)) k_ hk,jF (jj (ru_ HO_18.out)) k_ hk,jF (jj (ru_ HO_410003.out)) k_ hk,jF (jj (ru_ HO_410004.out)) k_ hk⟩,hk⟩))
    (case aO=>exact(ru_ (jc UU49.out (fun _ hk=>.inl hk))))
    (case aS=>exact(ja T26_))
    (case aL=>have:=LMc41.out;omega)
    intro v422 w50 ho hb hg hat
    rw[←Ny421.out] at ho
    have n_:=P11_ (Kd.R_grown2 (ru_ HO_15.out) rfl hg (fun k_ e_=>(HL419_0.out.1 k_ e_).1.1.1)) (Kd.R_grown2 (ru_ HO_18.out) rfl hg (fun k_ e_=>(HL419_0.out.1 k_ e_).1.2)) (jx (v:=(.slice A419_0 (rd_L3 x19_2 t417).length c419_0)) (ru_ HO_410000.out) (jz HL419_0.out) T3_ hg) (jx (v:=(.slice A419_0 (rd_L3 x19_2 t417).length c419_0)) (ru_ HO_410001.out) (jz HL419_0.out) T3_ hg) (Kd.S_over' (v:=(.slice A419_0 (rd_L3 x19_2 t417).length c419_0)) (su_ HO_410002.out) (jz HL419_0.out) T3_ hg) (Kd.R_grown2 (ru_ HO_410003.out) rfl hg (fun k_ e_=>(HL419_0.out.1 k_ e_).1.1.2.1)) (Kd.R_grown2 (ru_ HO_410004.out) rfl hg (fun k_ e_=>(HL419_0.out.1 k_ e_).1.1.2.2)) (blk_grown (g:=gb409) (o:=.cells #[.slice Ao21 t384.length co21,.slice Ao23 t387.length co23,.slice Ao24 t390.length co24,.slice Ao25 t393.length co25,.slice (some ad420) t396.length co26] 57 (0,0)) (bu_ BK409.out) hg (Kd.R_ne HL419_0.out BK409.out T3_)) (hb) (Kd.H_grown (Kd.H_widen (by repeat(first|exact HH49.out|refine Kd.H_alloc ?_ _|refine Kd.H_drewN ?_ _|refine Kd.H_drew ?_))) hg (fun k_ e_=>.inl (UU49.out.1 k_ e_))) (ho)
    clear HO_15 HO_18 HO_410000 HO_410001 HO_410002 HO_410003 HO_410004 BK409 HB HH49 HO_19 UU49 HL419_0
    obtain⟨HO_15,HO_18,HO_410000,HO_410001,HO_410002,HO_410003,HO_410004,BK409,HB,HH49,HO423⟩:=n_
    clear ho hb hg hat
    have p42:0≤(t417:Int):=od_
    have q42:(t417:Int)<((x19_2.length:Int):Int):=od_
    replace p42:=eq_true p42
    replace q42:=eq_true q42
    obtain⟨Ao53,co53,eo53⟩:=jo HO423.out
    (first|subst eo53|(injection eo53 with f1_ f2_ f3_;have f4_:=f1_.symm;have f5_:=f3_.symm;clear f1_ f2_ f3_;subst f4_;subst f5_))
    obtain⟨_,_,hraw51,_,_,hcc51,_⟩:=Kd.H_raw HH49.out (od_) (by have h_:(t417:Int)<((x19_2.length:Int):Int):=od_;first|exact h_|(have e_:=(HN49.out);omega)|simpa using h_)
    obtain⟨_,hfr51⟩:=Kd.H_at HH49.out (od_) (by have h_:(t417:Int)<((x19_2.length:Int):Int):=od_;first|exact h_|(have e_:=(HN49.out);omega)|simpa using h_)
    have hx51_0:=hcc51 0 _ rfl
    have hf51_0:=hfr51 0
    (try simp only[Nat.add_zero] at hx51_0 hf51_0)
    (try rw[show((jy 3 (jb .i64))).sz=1 from rfl,Nat.mul_one] at hx51_0)
    (try rw[show((jy 3 (jb .i64))).sz=1 from rfl,Nat.mul_one] at hf51_0)
    have HP51:=Kd.S_seg0 HH49.out (od_) (by have h_:(t417:Int)<((x19_2.length:Int):Int):=od_;first|exact h_|(have e_:=(HN49.out);omega)|simpa using h_) (seg:=[.slice Ao53 y421.length co53]) (j:=0) (show 1≤1 from by decide) (x':=y421) (Kd.M_row HO423.out) (fun _ hk=>hk)
    (try simp only[show((jy 3 (jb .i64))).sz=1 from rfl,Nat.mul_one,Nat.add_zero] at HP51)
    clear hcc51 hfr51
    have HNB409_go49:=am_ (show gb409≠go49 from by have h_:=Kd.R_ne hraw51 BK409.out T3_;intro e_;exact h_ T5_)
    have HS51:=HP51.1
    rw[←Ny424.out] at HS51
    have HQ51:=am_ HS51
    obtain⟨_,hgg51⟩:=jz hraw51 go49 rfl
    have GG51_:=am_ hgg51
    clear HP51 HS51 hgg51
    refine hK.out _ _ ?_
    clear hK K
    refine norm_ (a':=?_) ?_ ?_
    rotate_left
    ·show Act.put _ (some 98) _=_
     simp only[Act.put,List.setIfInBounds_toArray,List.set_cons_zero,List.set_cons_succ,jD,jE]
     rfl
    refine pz_ 15 (some 99) ?_
    refine last_ (i:=16) (N:=none) #[true,true,true,true,true,true,true,true,true,true,true,true,true,true,true,true,true] rfl rfl (one_of HT_.out T4_) T3_ (fun K hK=>?_)
    refine skip_ (w1:=?_) T0_ rfl ?_ ?_
    rotate_left
    ·go_simp
     rfl
    refine hK.out _ _ ?_
    clear hK K
    refine done_ (done_of HT_.out T4_) ?_
    try go_wp2
    go_roundg k2
    case measure=>have:=HJ5.out;have:=HK2.out;omega
    case rel=>exact⟨(y418),(y424),(wrap64 (x72_2+1)),T9_,H',⟨(by have:=HJ5.out;have:=HK2.out;omega)⟩,⟨ru_ (jc (je (p:=⟨go49,(t417:Int).toNat,none⟩) (js HO_15.out GG51_.out T3_) (fun _ hk=>hk.2) (.slice Ao53 y421.length co53)) (fun _ hk=>⟨hk.1.2,⟨hk.1.1.1,hk.1.1.2⟩⟩))⟩,⟨ru_ (jc (je (p:=⟨go49,(t417:Int).toNat,none⟩) (js HO_18.out GG51_.out T3_) (fun _ hk=>hk.2) (.slice Ao53 y421.length co53)) (fun _ hk=>⟨hk.1.1,⟨hk.1.2.1,hk.1.2.2⟩⟩))⟩,⟨(by(with_reducible repeat(first|apply Kd.S_alloc|apply Kd.S_drewN|apply Kd.S_drew));exact HQ51.out)⟩,⟨ru_ (jc (je (p:=⟨go49,(t417:Int).toNat,none⟩) (js HO_410000.out GG51_.out T3_) (fun _ hk=>hk.2) (.slice Ao53 y421.length co53)) (fun _ hk=>hk.1))⟩,⟨ru_ (jc (je (p:=⟨go49,(t417:Int).toNat,none⟩) (js HO_410001.out GG51_.out T3_) (fun _ hk=>hk.2) (.slice Ao53 y421.length co53)) (fun _ hk=>hk.1))⟩,⟨su_ (jB (jC (p:=⟨go49,(t417:Int).toNat,none⟩) (Kd.S_types HO_410002.out GG51_.out T3_) (fun _ hk=>hk.2) (.slice Ao53 y421.length co53)) (fun _ hk=>⟨hk.1.1,hk.1.2⟩))⟩,⟨ru_ (jc (je (p:=⟨go49,(t417:Int).toNat,none⟩) (js HO_410003.out GG51_.out T3_) (fun _ hk=>hk.2) (.slice Ao53 y421.length co53)) (fun _ hk=>⟨hk.1.1.1,⟨hk.1.2,hk.1.1.2⟩⟩))⟩,⟨ru_ (jc (je (p:=⟨go49,(t417:Int).toNat,none⟩) (js HO_410004.out GG51_.out T3_) (fun _ hk=>hk.2) (.slice Ao53 y421.length co53)) (fun _ hk=>⟨hk.1.1.1,⟨hk.1.2,hk.1.1.2⟩⟩))⟩,⟨(by(with_reducible repeat(first|refine jp ?_ _|refine jl ?_|refine jn ?_ _));refine blk_far ?_ HNB409_go49.out _;exact bu_ BK409.out)⟩,⟨(by repeat(first|(with_reducible first|exact HB.out|apply below_alloc|apply pw_below_drewN|apply jG|refine jJ ?_ GB49.out|refine jJ ?_ GE409.out)|exact HB.out))⟩⟩
   rw[if_neg c32] at H
   have c32b0:=decide_eq_false c32
   clear c32
   replace H:=Option.bind_eq_some_iff.mp H
   obtain⟨⟨t425,t426⟩,A540,H⟩:=H
   try dsimp only at H
   have A54:=am_ A540
   clear A540
   by_cases c55:t426=0
   rotate_left
   ·rw[if_neg c55] at H
    obtain⟨c55b0,c55b1⟩:=en_ c55
    obtain⟨rfl,rfl⟩:=sj2_ H
    obtain⟨hcz120_0,hcz120_1,hcz120_2,hcz120_3,hcz120_4,hfz120_0,hfz120_1,hfz120_2,hfz120_3,hfz120_4⟩:=cz5_ BK409.out
    obtain⟨Ao121,co121,eo121⟩:=jo HO_18.out
    subst eo121
    obtain⟨Ao122,co122,eo122⟩:=jo HO_15.out
    subst eo122
    go_wp2_with(first|(refine gc_ 34 ?_;refine gl_ (some 106) Try.func34 #[.slice Ao25 t393.length co25,.slice Ao121 x18_2.length co121,.slice Ao122 t402.length co122] ?_;(with_reducible refine(braid_Draws.calls k2 _ _ t393 _ _ x18_2 _ _ t402 t425 t426 _ ?side1 ?side2 ?side3 ?side4 ?side5 ?side6 A54.out).mono ?_);(case side1=>exact cu_ ((jh HO_410003.out).2.2));(case side2=>exact(jh HO_410003.out).2.1);(case side3=>exact cu_ ((jh HO_18.out).2.2));(case side4=>exact(jh HO_18.out).2.1);(case side5=>exact cu_ ((jh HO_15.out).2.2));(case side6=>exact(jh HO_15.out).2.1);rintro e w123 ⟨v427,rfl,ho0,hb⟩;refine⟨_,rfl,?_⟩;have n_:=P11_ (jg (ru_ HO_15.out) (jf ho0) hb) (jg (ru_ HO_18.out) (jf ho0) hb) (jI (su_ HO_19.out) (jf ho0) hb) (jd (ru_ HO_410000.out) hb) (jd (ru_ HO_410001.out) hb) (jA (su_ HO_410002.out) hb) (jg (ru_ HO_410003.out) (jf ho0) hb) (jg (ru_ HO_410004.out) (jf ho0) hb) (jm (jk (jk (jk (jk ho0 (jj (ru_ HO_15.out))) (jj (ru_ HO_18.out))) (jj (ru_ HO_410003.out))) (jj (ru_ HO_410004.out))) (ja T26_)) (jr (bu_ BK409.out) hb) (ji T26_ hb);clear HO_15 HO_18 HO_19 HO_410000 HO_410001 HO_410002 HO_410003 HO_410004 BK409 HB;obtain⟨HO_15,HO_18,HO_19,HO_410000,HO_410001,HO_410002,HO_410003,HO_410004,HO428,BK409,HB⟩:=n_;clear hb ho0))
    go_ret2
    exact⟨_,T14_,T18_,T26_⟩
   rw[if_pos c55] at H
   obtain⟨c55b0,c55b1⟩:=ep_ c55
   clear c55
   replace H:=Option.bind_eq_some_iff.mp H
   obtain⟨t429,A560,H⟩:=H
   try dsimp only at H
   have A56:=am_ A560
   clear A560
   replace H:=Option.bind_eq_some_iff.mp H
   obtain⟨⟨t432,t433⟩,A570,H⟩:=H
   try dsimp only at H
   have A57:=am_ A570
   clear A570
   by_cases c58:t433=0
   rotate_left
   ·rw[if_neg c58] at H
    obtain⟨c58b0,c58b1⟩:=en_ c58
    obtain⟨rfl,rfl⟩:=sj2_ H
    obtain⟨hcz111_0,hcz111_1,hcz111_2,hcz111_3,hcz111_4,hfz111_0,hfz111_1,hfz111_2,hfz111_3,hfz111_4⟩:=cz5_ BK409.out
    obtain⟨Ao112,co112,eo112⟩:=jo HO_18.out
    subst eo112
    obtain⟨Ao113,co113,eo113⟩:=jo HO_15.out
    subst eo113
    try go_wp2_with(first|(refine gc_ 34 ?_;refine gl_ (some 106) Try.func34 #[.slice Ao25 t393.length co25,.slice Ao112 x18_2.length co112,.slice Ao113 t402.length co113] ?_;(with_reducible refine(braid_Draws.calls k2 _ _ t393 _ _ x18_2 _ _ t402 t425 t426 _ ?side1 ?side2 ?side3 ?side4 ?side5 ?side6 A54.out).mono ?_);(case side1=>exact cu_ ((jh HO_410003.out).2.2));(case side2=>exact(jh HO_410003.out).2.1);(case side3=>exact cu_ ((jh HO_18.out).2.2));(case side4=>exact(jh HO_18.out).2.1);(case side5=>exact cu_ ((jh HO_15.out).2.2));(case side6=>exact(jh HO_15.out).2.1);rintro e w114 ⟨v427,rfl,ho0,hb⟩;refine⟨_,rfl,?_⟩;have n_:=P11_ (jg (ru_ HO_15.out) (jf ho0) hb) (jg (ru_ HO_18.out) (jf ho0) hb) (jI (su_ HO_19.out) (jf ho0) hb) (jd (ru_ HO_410000.out) hb) (jd (ru_ HO_410001.out) hb) (jA (su_ HO_410002.out) hb) (jg (ru_ HO_410003.out) (jf ho0) hb) (jg (ru_ HO_410004.out) (jf ho0) hb) (jm (jk (jk (jk (jk ho0 (jj (ru_ HO_15.out))) (jj (ru_ HO_18.out))) (jj (ru_ HO_410003.out))) (jj (ru_ HO_410004.out))) (ja T26_)) (jr (bu_ BK409.out) hb) (ji T26_ hb);clear HO_15 HO_18 HO_19 HO_410000 HO_410001 HO_410002 HO_410003 HO_410004 BK409 HB;obtain⟨HO_15,HO_18,HO_19,HO_410000,HO_410001,HO_410002,HO_410003,HO_410004,HO428,BK409,HB⟩:=n_;clear hb ho0))
    have n_:=P11_ (jq HO_15.out) (jq HO_18.out) (Kd.S_drew HO_19.out) (jq HO_410000.out) (jq HO_410001.out) (Kd.S_drew HO_410002.out) (jq HO_410003.out) (jq HO_410004.out) (jq HO428.out) (jl BK409.out) (jG HB.out)
    clear HO_15 HO_18 HO_19 HO_410000 HO_410001 HO_410002 HO_410003 HO_410004 HO428 BK409 HB
    obtain⟨HO_15,HO_18,HO_19,HO_410000,HO_410001,HO_410002,HO_410003,HO_410004,HO428,BK409,HB⟩:=n_
    refine start_ (n:=12) (S:=fun w'=>w'.cell? ⟨gb409,0,none⟩=some (.slice Ao21 t384.length co21)∧w'.cell? ⟨gb409,1,none⟩=some (.slice Ao23 t387.length co23)∧w'.cell? ⟨gb409,2,none⟩=some (.slice Ao24 t390.length co24)∧w'.cell? ⟨gb409,3,none⟩=some (.slice Ao25 t393.length co25)∧w'.cell? ⟨gb409,4,none⟩=some (.slice Ao26 t396.length co26)) (ds:=[]) #[false,false,false,false,false,false,false,false,false,false,false,false] T4_ rfl rfl ⟨bc_ BK409.out 0,bc_ BK409.out 1,bc_ BK409.out 2,bc_ BK409.out 3,bc_ BK409.out 4⟩ (fun hHeld=>?_);refine with_tabW riffle_Turn.tab22 riffle_Turn.bits22 (fun HT_ HW_=>?_)
    generalize w114.drew=w115 at HO_15 HO_18 HO_19 HO_410000 HO_410001 HO_410002 HO_410003 HO_410004 HO428 BK409 HB hHeld ⊢
    refine pz_ 0 (some 113) ?_
    refine pz_ 1 (some 114) ?_
    refine pz_ 3 (some 116) ?_
    refine pz_ 5 (some 118) ?_
    refine tz5_ 2 (some 115) hHeld ?_
    refine oz_ 4 (some 117) (fun K hK=>?_)
    refine goes_ Try.func36 T4_ rfl #[.int .i64 a1] T0_ rfl rfl T17_ ?_
    with_reducible refine(braid_Bounds.calls k2 a1 t429 _ A56.out).mono ?_
    rintro e w116 ⟨v430,rfl,ho0,hb⟩
    refine⟨_,rfl,?_⟩
    have n_:=P12_ (jg (ru_ HO_15.out) (jf ho0) hb) (jg (ru_ HO_18.out) (jf ho0) hb) (jI (su_ HO_19.out) (jf ho0) hb) (jd (ru_ HO_410000.out) hb) (jd (ru_ HO_410001.out) hb) (jA (su_ HO_410002.out) hb) (jg (ru_ HO_410003.out) (jf ho0) hb) (jg (ru_ HO_410004.out) (jf ho0) hb) (jg (ru_ HO428.out) (jf ho0) hb) (jm (jk (jk (jk (jk (jk ho0 (jj (ru_ HO_15.out))) (jj (ru_ HO_18.out))) (jj (ru_ HO_410003.out))) (jj (ru_ HO_410004.out))) (jj (ru_ HO428.out))) (ja T26_)) (jr (bu_ BK409.out) hb) (ji T26_ hb)
    clear HO_15 HO_18 HO_19 HO_410000 HO_410001 HO_410002 HO_410003 HO_410004 HO428 BK409 HB
    obtain⟨HO_15,HO_18,HO_19,HO_410000,HO_410001,HO_410002,HO_410003,HO_410004,HO428,HO431,BK409,HB⟩:=n_
    (try clear hb);(try clear hk);(try clear ho0)
    obtain⟨Ao117,co117,eo117⟩:=jo HO431.out
    (first|subst eo117|(injection eo117 with f1_ f2_ f3_;have f4_:=f1_.symm;have f5_:=f3_.symm;clear f1_ f2_ f3_;subst f4_;subst f5_))
    obtain⟨Ao118,co118,eo118⟩:=jo HO428.out
    (first|subst eo118|(injection eo118 with f1_ f2_ f3_;have f4_:=f1_.symm;have f5_:=f3_.symm;clear f1_ f2_ f3_;subst f4_;subst f5_))
    refine hK.out _ _ ⟨bc_ BK409.out 0,bc_ BK409.out 1,bc_ BK409.out 2,bc_ BK409.out 3,bc_ BK409.out 4⟩ (fun hHeld=>?_)
    clear hK K
    refine norm_ (a':=?_) ?_ ?_
    rotate_left
    ·show Act.put _ (some 117) _=_
     simp only[Act.put,List.setIfInBounds_toArray,List.set_cons_zero,List.set_cons_succ,jD,jE]
     rfl
    refine oz_ 6 (some 119) (fun K hK=>?_)
    refine goes_ Try.func35 T4_ rfl #[.slice Ao23 t387.length co23,.slice Ao117 t429.length co117,.slice Ao118 t425.length co118] T0_ rfl rfl T17_ ?_
    with_reducible refine(draw_Turn.calls _ _ t387 _ _ t429 _ _ t425 t432 t433 _ ?side1 ?side2 ?side3 ?side4 ?side5 ?side6 A57.out).mono ?_
    (case side1=>exact cu_ ((jh HO_410001.out).2.2))
    (case side2=>exact(jh HO_410001.out).2.1)
    (case side3=>exact cu_ ((jh HO431.out).2.2))
    (case side4=>exact(jh HO431.out).2.1)
    (case side5=>exact cu_ ((jh HO428.out).2.2))
    (case side6=>exact(jh HO428.out).2.1)
    rintro e w119 ⟨v434,rfl,ho0,hb⟩
    refine⟨_,rfl,?_⟩
    have n_:=P13_ (jd (ru_ HO_15.out) hb) (jd (ru_ HO_18.out) hb) (jA (su_ HO_19.out) hb) (jg (ru_ HO_410000.out) (jf ho0) hb) (jg (ru_ HO_410001.out) (jf ho0) hb) (jI (su_ HO_410002.out) (jf ho0) hb) (jd (ru_ HO_410003.out) hb) (jd (ru_ HO_410004.out) hb) (jd (ru_ HO428.out) hb) (jd (ru_ HO431.out) hb) (jm (jk (jk ho0 (jj (ru_ HO_410000.out))) (jj (ru_ HO_410001.out))) (ja T26_)) (jr (bu_ BK409.out) hb) (ji T26_ hb)
    clear HO_15 HO_18 HO_19 HO_410000 HO_410001 HO_410002 HO_410003 HO_410004 HO428 HO431 BK409 HB
    obtain⟨HO_15,HO_18,HO_19,HO_410000,HO_410001,HO_410002,HO_410003,HO_410004,HO428,HO431,HO435,BK409,HB⟩:=n_
    (try clear hb);(try clear hk);(try clear ho0)
    refine hK.out _ _ ⟨bc_ BK409.out 0,bc_ BK409.out 1,bc_ BK409.out 2,bc_ BK409.out 3,bc_ BK409.out 4⟩ (fun hHeld=>?_)
    clear hK K
    refine norm_ (a':=?_) ?_ ?_
    rotate_left
    ·show Act.put _ (some 119) _=_
     simp only[Act.put,List.setIfInBounds_toArray,List.set_cons_zero,List.set_cons_succ,jD,jE]
     rfl
    refine pz_ 7 (some 112) ?_
    refine pz_ 8 (some 120) ?_
    refine pz_ 9 (some 121) ?_
    refine pz_ 10 (some 24) ?_
    refine pz_ 11 (some 17) ?_
    refine done_ (done_of HT_.out T4_) ?_
    try go_wp2
    go_ret2
    exact⟨_,T14_,T18_,T26_⟩
   rw[if_pos c58] at H
   obtain⟨c58b0,c58b1⟩:=ep_ c58
   clear c58
   obtain⟨y436,hy_⟩:∃ y_:List Int,y_=(([]:List Int)):=⟨_,rfl⟩
   replace H:(if y436.length+l0.length<140737488355328 then((some (y436 ++ l0:List Int)).bind fun y439=>(if 0≤(t384.length:Int) then(if(t384.length:Int)≤(y439.length:Int) then(riffle_Turn.l1 k2 x19_2 (cpy y439 (((t384.length:Int):Int).toNat) t432) (wrap64 ((t384.length:Int)+(cpn y439 (((t384.length:Int):Int).toNat) t432))) t393 (t393.length:Int) 0 t384 t387 t390 t393 t396) else(none)) else(none))) else(none))=some (r1,r2):=hyw_
   have Ny436:=am_ hy_
   clear hy_
   replace H:=ifa_ H;obtain⟨LMc59,H⟩:=H
   obtain⟨y439,hy_⟩:∃ y_:List Int,y_=(y436 ++ l0):=⟨_,rfl⟩
   replace H:(if 0≤(t384.length:Int) then(if(t384.length:Int)≤(y439.length:Int) then(riffle_Turn.l1 k2 x19_2 (cpy y439 (((t384.length:Int):Int).toNat) t432) (wrap64 ((t384.length:Int)+(cpn y439 (((t384.length:Int):Int).toNat) t432))) t393 (t393.length:Int) 0 t384 t387 t390 t393 t396) else(none)) else(none))=some (r1,r2):=hyw_
   have Ny439:=am_ hy_
   clear hy_
   replace H:=ifn_ H;obtain⟨c60,H⟩:=H
   have c60b0:=eq_true c60
   have c60b1:decide (0≤(t384.length:Int))=true:=decide_eq_true c60
   clear c60
   replace H:=ifn_ H;obtain⟨c61,H⟩:=H
   have c61b0:=eq_true c61
   have c61b1:decide ((t384.length:Int)≤(y439.length:Int))=true:=decide_eq_true c61
   clear c61
   obtain⟨y442,hy_⟩:∃ y_:List Int,y_=(y439.drop ((t384.length:Int):Int).toNat):=⟨_,rfl⟩
   replace H:(riffle_Turn.l1 k2 x19_2 (cpy y439 (((t384.length:Int):Int).toNat) t432) (wrap64 ((t384.length:Int)+(cpn y439 (((t384.length:Int):Int).toNat) t432))) t393 (t393.length:Int) 0 t384 t387 t390 t393 t396)=some (r1,r2):=hyw_
   have Ny442:=am_ hy_
   clear hy_
   obtain⟨y446,hy_⟩:∃ y_:List Int,y_=(cpy y439 (((t384.length:Int):Int).toNat) t432):=⟨_,rfl⟩
   replace H:(riffle_Turn.l1 k2 x19_2 y446 (wrap64 ((t384.length:Int)+(cpn y439 (((t384.length:Int):Int).toNat) t432))) t393 (t393.length:Int) 0 t384 t387 t390 t393 t396)=some (r1,r2):=hyw_
   have Ny446:=am_ hy_
   clear hy_
   have H':=am_ H
   clear H
   obtain⟨hcz62_0,hcz62_1,hcz62_2,hcz62_3,hcz62_4,hfz62_0,hfz62_1,hfz62_2,hfz62_3,hfz62_4⟩:=cz5_ BK409.out
   obtain⟨Ao63,co63,eo63⟩:=jo HO_18.out
   subst eo63
   obtain⟨Ao64,co64,eo64⟩:=jo HO_15.out
   subst eo64
   try go_wp2_with(first|(refine gc_ 34 ?_;refine gl_ (some 106) Try.func34 #[.slice Ao25 t393.length co25,.slice Ao63 x18_2.length co63,.slice Ao64 t402.length co64] ?_;(with_reducible refine(braid_Draws.calls k2 _ _ t393 _ _ x18_2 _ _ t402 t425 t426 _ ?side1 ?side2 ?side3 ?side4 ?side5 ?side6 A54.out).mono ?_);(case side1=>exact cu_ ((jh HO_410003.out).2.2));(case side2=>exact(jh HO_410003.out).2.1);(case side3=>exact cu_ ((jh HO_18.out).2.2));(case side4=>exact(jh HO_18.out).2.1);(case side5=>exact cu_ ((jh HO_15.out).2.2));(case side6=>exact(jh HO_15.out).2.1);rintro e w65 ⟨v427,rfl,ho0,hb⟩;refine⟨_,rfl,?_⟩;have n_:=P11_ (jg (ru_ HO_15.out) (jf ho0) hb) (jg (ru_ HO_18.out) (jf ho0) hb) (jI (su_ HO_19.out) (jf ho0) hb) (jd (ru_ HO_410000.out) hb) (jd (ru_ HO_410001.out) hb) (jA (su_ HO_410002.out) hb) (jg (ru_ HO_410003.out) (jf ho0) hb) (jg (ru_ HO_410004.out) (jf ho0) hb) (jm (jk (jk (jk (jk ho0 (jj (ru_ HO_15.out))) (jj (ru_ HO_18.out))) (jj (ru_ HO_410003.out))) (jj (ru_ HO_410004.out))) (ja T26_)) (jr (bu_ BK409.out) hb) (ji T26_ hb);clear HO_15 HO_18 HO_19 HO_410000 HO_410001 HO_410002 HO_410003 HO_410004 BK409 HB;obtain⟨HO_15,HO_18,HO_19,HO_410000,HO_410001,HO_410002,HO_410003,HO_410004,HO428,BK409,HB⟩:=n_;clear hb ho0))
   have n_:=P11_ (jq HO_15.out) (jq HO_18.out) (Kd.S_drew HO_19.out) (jq HO_410000.out) (jq HO_410001.out) (Kd.S_drew HO_410002.out) (jq HO_410003.out) (jq HO_410004.out) (jq HO428.out) (jl BK409.out) (jG HB.out)
   clear HO_15 HO_18 HO_19 HO_410000 HO_410001 HO_410002 HO_410003 HO_410004 HO428 BK409 HB
   obtain⟨HO_15,HO_18,HO_19,HO_410000,HO_410001,HO_410002,HO_410003,HO_410004,HO428,BK409,HB⟩:=n_
   refine start_ (n:=12) (S:=fun w'=>w'.cell? ⟨gb409,0,none⟩=some (.slice Ao21 t384.length co21)∧w'.cell? ⟨gb409,1,none⟩=some (.slice Ao23 t387.length co23)∧w'.cell? ⟨gb409,2,none⟩=some (.slice Ao24 t390.length co24)∧w'.cell? ⟨gb409,3,none⟩=some (.slice Ao25 t393.length co25)∧w'.cell? ⟨gb409,4,none⟩=some (.slice Ao26 t396.length co26)) (ds:=[]) #[false,false,false,false,false,false,false,false,false,false,false,false] T4_ rfl rfl ⟨bc_ BK409.out 0,bc_ BK409.out 1,bc_ BK409.out 2,bc_ BK409.out 3,bc_ BK409.out 4⟩ (fun hHeld=>?_);refine with_tabW riffle_Turn.tab22 riffle_Turn.bits22 (fun HT_ HW_=>?_)
   generalize w65.drew=w66 at HO_15 HO_18 HO_19 HO_410000 HO_410001 HO_410002 HO_410003 HO_410004 HO428 BK409 HB hHeld ⊢
   refine pz_ 0 (some 113) ?_
   refine pz_ 1 (some 114) ?_
   refine pz_ 3 (some 116) ?_
   refine pz_ 5 (some 118) ?_
   refine tz5_ 2 (some 115) hHeld ?_
   refine oz_ 4 (some 117) (fun K hK=>?_)
   refine goes_ Try.func36 T4_ rfl #[.int .i64 a1] T0_ rfl rfl T17_ ?_
   with_reducible refine(braid_Bounds.calls k2 a1 t429 _ A56.out).mono ?_
   rintro e w67 ⟨v430,rfl,ho0,hb⟩
   refine⟨_,rfl,?_⟩
   have n_:=P12_ (jg (ru_ HO_15.out) (jf ho0) hb) (jg (ru_ HO_18.out) (jf ho0) hb) (jI (su_ HO_19.out) (jf ho0) hb) (jd (ru_ HO_410000.out) hb) (jd (ru_ HO_410001.out) hb) (jA (su_ HO_410002.out) hb) (jg (ru_ HO_410003.out) (jf ho0) hb) (jg (ru_ HO_410004.out) (jf ho0) hb) (jg (ru_ HO428.out) (jf ho0) hb) (jm (jk (jk (jk (jk (jk ho0 (jj (ru_ HO_15.out))) (jj (ru_ HO_18.out))) (jj (ru_ HO_410003.out))) (jj (ru_ HO_410004.out))) (jj (ru_ HO428.out))) (ja T26_)) (jr (bu_ BK409.out) hb) (ji T26_ hb)
   clear HO_15 HO_18 HO_19 HO_410000 HO_410001 HO_410002 HO_410003 HO_410004 HO428 BK409 HB
   obtain⟨HO_15,HO_18,HO_19,HO_410000,HO_410001,HO_410002,HO_410003,HO_410004,HO428,HO431,BK409,HB⟩:=n_
   (try clear hb);(try clear hk);(try clear ho0)
   obtain⟨Ao68,co68,eo68⟩:=jo HO431.out
   (first|subst eo68|(injection eo68 with f1_ f2_ f3_;have f4_:=f1_.symm;have f5_:=f3_.symm;clear f1_ f2_ f3_;subst f4_;subst f5_))
   obtain⟨Ao69,co69,eo69⟩:=jo HO428.out
   (first|subst eo69|(injection eo69 with f1_ f2_ f3_;have f4_:=f1_.symm;have f5_:=f3_.symm;clear f1_ f2_ f3_;subst f4_;subst f5_))
   refine hK.out _ _ ⟨bc_ BK409.out 0,bc_ BK409.out 1,bc_ BK409.out 2,bc_ BK409.out 3,bc_ BK409.out 4⟩ (fun hHeld=>?_)
   clear hK K
   refine norm_ (a':=?_) ?_ ?_
   rotate_left
   ·show Act.put _ (some 117) _=_
    simp only[Act.put,List.setIfInBounds_toArray,List.set_cons_zero,List.set_cons_succ,jD,jE]
    rfl
   refine oz_ 6 (some 119) (fun K hK=>?_)
   refine goes_ Try.func35 T4_ rfl #[.slice Ao23 t387.length co23,.slice Ao68 t429.length co68,.slice Ao69 t425.length co69] T0_ rfl rfl T17_ ?_
   with_reducible refine(draw_Turn.calls _ _ t387 _ _ t429 _ _ t425 t432 t433 _ ?side1 ?side2 ?side3 ?side4 ?side5 ?side6 A57.out).mono ?_
   (case side1=>exact cu_ ((jh HO_410001.out).2.2))
   (case side2=>exact(jh HO_410001.out).2.1)
   (case side3=>exact cu_ ((jh HO431.out).2.2))
   (case side4=>exact(jh HO431.out).2.1)
   (case side5=>exact cu_ ((jh HO428.out).2.2))
   (case side6=>exact(jh HO428.out).2.1)
   rintro e w70 ⟨v434,rfl,ho0,hb⟩
   refine⟨_,rfl,?_⟩
   have n_:=P13_ (jd (ru_ HO_15.out) hb) (jd (ru_ HO_18.out) hb) (jA (su_ HO_19.out) hb) (jg (ru_ HO_410000.out) (jf ho0) hb) (jg (ru_ HO_410001.out) (jf ho0) hb) (jI (su_ HO_410002.out) (jf ho0) hb) (jd (ru_ HO_410003.out) hb) (jd (ru_ HO_410004.out) hb) (jd (ru_ HO428.out) hb) (jd (ru_ HO431.out) hb) (jm (jk (jk ho0 (jj (ru_ HO_410000.out))) (jj (ru_ HO_410001.out))) (ja T26_)) (jr (bu_ BK409.out) hb) (ji T26_ hb)
   clear HO_15 HO_18 HO_19 HO_410000 HO_410001 HO_410002 HO_410003 HO_410004 HO428 HO431 BK409 HB
   obtain⟨HO_15,HO_18,HO_19,HO_410000,HO_410001,HO_410002,HO_410003,HO_410004,HO428,HO431,HO435,BK409,HB⟩:=n_
   (try clear hb);(try clear hk);(try clear ho0)
   refine hK.out _ _ ⟨bc_ BK409.out 0,bc_ BK409.out 1,bc_ BK409.out 2,bc_ BK409.out 3,bc_ BK409.out 4⟩ (fun hHeld=>?_)
   clear hK K
   refine norm_ (a':=?_) ?_ ?_
   rotate_left
   ·show Act.put _ (some 119) _=_
    simp only[Act.put,List.setIfInBounds_toArray,List.set_cons_zero,List.set_cons_succ,jD,jE]
    rfl
   refine pz_ 7 (some 112) ?_
   refine pz_ 8 (some 120) ?_
   refine pz_ 9 (some 121) ?_
   refine pz_ 10 (some 24) ?_
   refine pz_ 11 (some 17) ?_
   refine done_ (done_of HT_.out T4_) ?_
   try go_wp2_with(first|(refine gd_ 125 ?_;(try(refine gate_guard T0_ ?_;dsimp only));refine Kd.R_lit (jb .u8) _ 5 ?hg (N:=125) ?hd (xs:=([]:List Int)) (inner:=[]) (ok:=fun _=>True) (okp:=fun _=>True) ?hr ?hp (fun _ hk=>hk) trivial (Below.refl _ _) (Nat.le_refl _) T1_ ?_;(case hd=>rfl);(case hg=>rfl);(case hr=>first|(go_simp;done)|(go_simp;rfl));(case hp=>exact(Reps.none _ _));intro v437 w71 ho72 hb hg_ hnew_;clear hg_ hnew_;(first|rw[←Ny436.out] at ho72|(simp only[Int.reduceToNat] at ho72;rw[←Ny436.out] at ho72));have n_:=P14_ (jd (ru_ HO_15.out) hb) (jd (ru_ HO_18.out) hb) (jA (su_ HO_19.out) hb) (jg (ru_ HO_410000.out) (jf ho72) hb) (jg (ru_ HO_410001.out) (jf ho72) hb) (jI (su_ HO_410002.out) (jf ho72) hb) (jd (ru_ HO_410003.out) hb) (jd (ru_ HO_410004.out) hb) (jd (ru_ HO428.out) hb) (jd (ru_ HO431.out) hb) (jg (ru_ HO435.out) (jf ho72) hb) (jm (jk (jk (jk ho72 (jj (ru_ HO_410000.out))) (jj (ru_ HO_410001.out))) (jj (ru_ HO435.out))) (ja T26_)) (jr (bu_ BK409.out) hb) (ji T26_ hb);clear HO_15 HO_18 HO_19 HO_410000 HO_410001 HO_410002 HO_410003 HO_410004 HO428 HO431 HO435 BK409 HB;obtain⟨HO_15,HO_18,HO_19,HO_410000,HO_410001,HO_410002,HO_410003,HO_410004,HO428,HO431,HO435,HO438,BK409,HB⟩:=n_;clear hb ho72)|(refine gb_ .append #[.tmp 125,.tmp 126] ?_;(try(refine gate_guard T0_ ?_;dsimp only));at_builtin;refine Kd.R_append_rows (jb .u8) (w0:=w) w.heap.size rfl (.tmp 125) (.tmp 126) 23 5 (.int .u8 0) 1 rfl Try.underlying23 info5 rfl T3_ T2_ v437 y436 l0 _ _ _ (fun k_=>ne_ k_ (.slice Ao21 t384.length co21)∧ne_ k_ (.slice Ao23 t387.length co23)∧ne_ k_ v434) (fun _=>False) rfl rfl ?aO ?aR (fun _ _ h=>h) (fun _ h=>h.elim) ?aF ?aB ?aS ?aL ?_;(case aR=>exact cu_ (jv HR0.out HB.out));(case aB=>exact T26_);(case aF=>exact(fun k_ hk=>⟨jF (jj (ru_ HO_410000.out)) k_ hk,jF (jj (ru_ HO_410001.out)) k_ hk,jF (jj (ru_ HO435.out)) k_ hk⟩));(case aO=>exact(ru_ (jc HO438.out (fun _ hk=>⟨hk.1.1.2,⟨hk.1.2,hk.2⟩⟩))));(case aS=>exact(ja T26_));(case aL=>have:=LMc59.out;omega);intro v440 w73 ho hb hg hat;rw[←Ny439.out] at ho;have n_:=P14_ (jx (ru_ HO_15.out) (jz (ru_ HO438.out)) T3_ hg) (jx (ru_ HO_18.out) (jz (ru_ HO438.out)) T3_ hg) (Kd.S_over' (su_ HO_19.out) (jz (ru_ HO438.out)) T3_ hg) (jw (ok:=(fun k_=>ne_ k_ (.slice Ao23 t387.length co23)∧ne_ k_ v434)) (ru_ HO_410000.out) hg hat) (jw (ok:=(fun k_=>ne_ k_ (.slice Ao21 t384.length co21)∧ne_ k_ v434)) (ru_ HO_410001.out) hg hat) (Kd.S_after (ok:=(fun k_=>ne_ k_ (.slice Ao21 t384.length co21)∧ne_ k_ (.slice Ao23 t387.length co23)∧ne_ k_ v434)) (su_ (jB HO_410002.out (fun _ hk=>⟨⟨hk.1.1.1,⟨hk.1.1.2,hk.1.2⟩⟩,hk.2⟩))) hg hat) (jx (ru_ HO_410003.out) (jz (ru_ HO438.out)) T3_ hg) (jx (ru_ HO_410004.out) (jz (ru_ HO438.out)) T3_ hg) (blk_grown (g:=gb409) (o:=.cells #[.slice Ao21 t384.length co21,.slice Ao23 t387.length co23,.slice Ao24 t390.length co24,.slice Ao25 t393.length co25,.slice Ao26 t396.length co26] 57 (0,0)) (bu_ BK409.out) hg (Kd.R_ne HO438.out BK409.out T3_)) (jx (ru_ HO428.out) (jz (ru_ HO438.out)) T3_ hg) (jx (ru_ HO431.out) (jz (ru_ HO438.out)) T3_ hg) (jw (ok:=(fun k_=>ne_ k_ (.slice Ao21 t384.length co21)∧ne_ k_ (.slice Ao23 t387.length co23))) (ru_ (jc HO435.out (fun _ hk=>⟨⟨hk.1.1.2,hk.1.2⟩,hk.2⟩))) hg hat) (hb) (ho);clear HO_15 HO_18 HO_19 HO_410000 HO_410001 HO_410002 HO_410003 HO_410004 BK409 HO428 HO431 HO435 HB HO438;obtain⟨HO_15,HO_18,HO_19,HO_410000,HO_410001,HO_410002,HO_410003,HO_410004,BK409,HO428,HO431,HO435,HB,HO441⟩:=n_;clear ho hb hg hat;obtain⟨hcz74_0,hcz74_1,hcz74_2,hcz74_3,hcz74_4,hfz74_0,hfz74_1,hfz74_2,hfz74_3,hfz74_4⟩:=cz5_ BK409.out;obtain⟨Ao76,co76,eo76⟩:=jo HO441.out;subst eo76;have q75:((t384.length:Int):Int)≤((y439.length:Int):Int):=od_;obtain⟨i075,hi075,_,hsz75,_⟩:=info_parts info5;have hroom75:y439.length≤co76:=(jh HO441.out).2.1;have hC75:Kd.C (jb .u8) _ Ao76 y439.length y439:=(jh HO441.out).2.2;have q075:(0:Int)≤((t384.length:Int):Int):=od_;have hcut75:=cut_from (P:=Try.prog) 23 5 .i64 Try.underlying23 hi075 1 hsz75 Ao76 y439.length co76 (t384.length:Int) q075 q75;have hr75:=Kd.C_drop (m:=((t384.length:Int):Int).toNat) (c:=co76) hC75 T2_ hroom75;obtain⟨A75,hA75⟩:∃ A1,A1=(if co76=((t384.length:Int):Int).toNat then Ao76 else(Ao76:Option Addr).map (·.add (((t384.length:Int):Int).toNat*1))):=⟨_,rfl⟩;obtain⟨c75,hc75⟩:∃ c1,c1=co76-((t384.length:Int):Int).toNat:=⟨_,rfl⟩;have hy75:y442.length=y439.length-((t384.length:Int):Int).toNat:=(by rw[Ny442.out,List.length_drop] <;> omega);rw[show(y439).drop ((t384.length:Int):Int).toNat=y442 from Ny442.out.symm] at hr75;replace hr75:Kd.C (jb .u8) _ A75 y442.length y442:=(by rw[hA75];exact hr75);rw[←hy75,←hA75,←hc75] at hcut75;have HR445:=am_ hr75;have HC445:=am_ (show y442.length≤c75 from by rw[hy75,hc75];exact Nat.sub_le_sub_right hroom75 _);clear hr75 hC75 hroom75 hi075 hsz75 hc75;have KY75:=am_ hy75;have KA75:=am_ hA75;clear hy75 hA75;have KL75:=am_ (show((t384.length:Int):Int).toNat≤y439.length from by omega);replace q75:=eq_true q75;obtain⟨Ao77,co77,eo77⟩:=jo HO435.out;subst eo77)|(refine gb_ .copy #[.tmp 135,.tmp 136] ?_;(try(refine gate_guard T0_ ?_;dsimp only));have hyc_:=KY75.out;have hac_:=KA75.out;have hlc_:((t384.length:Int):Int)≤(y439.length:Int):=(od_);have h0c_:(0:Int)≤((t384.length:Int):Int):=(od_);refine Kd.R_copyin (w0:=w) w.heap.size rfl (.tmp 135) (.tmp 136) 23 5 rfl Try.underlying23 T4_ Ao76 y439.length co76 y439 t432 (((t384.length:Int):Int).toNat) _ _ _ _ _ _ rfl rfl hyc_ hac_ ?hoff (ru_ HO441.out) ?hR ?hB ?_;(case hoff=>omega);(case hR=>exact cu_ ((jh HO435.out).2.2));(case hB=>exact T26_);intro w78 ho hb hg;clear hyc_ hac_ hlc_ h0c_;rw[←Ny446.out] at ho;have n_:=P14_ (jx (v:=(.slice Ao76 y439.length co76)) (ru_ HO_15.out) (jz HO441.out) T3_ hg) (jx (v:=(.slice Ao76 y439.length co76)) (ru_ HO_18.out) (jz HO441.out) T3_ hg) (Kd.S_over' (v:=(.slice Ao76 y439.length co76)) (su_ HO_19.out) (jz HO441.out) T3_ hg) (jw (v:=(.slice Ao76 y439.length co76)) (v1:=(.slice Ao76 y439.length co76)) (ok:=(fun k_=>ne_ k_ (.slice Ao23 t387.length co23)∧ne_ k_ (.slice Ao77 t432.length co77))) (ru_ HO_410000.out) hg (.inl rfl)) (jw (v:=(.slice Ao76 y439.length co76)) (v1:=(.slice Ao76 y439.length co76)) (ok:=(fun k_=>ne_ k_ (.slice Ao21 t384.length co21)∧ne_ k_ (.slice Ao77 t432.length co77))) (ru_ HO_410001.out) hg (.inl rfl)) (Kd.S_after (v:=(.slice Ao76 y439.length co76)) (v1:=(.slice Ao76 y439.length co76)) (ok:=(fun k_=>ne_ k_ (.slice Ao21 t384.length co21)∧ne_ k_ (.slice Ao23 t387.length co23)∧ne_ k_ (.slice Ao77 t432.length co77))) (su_ HO_410002.out) hg (.inl rfl)) (jx (v:=(.slice Ao76 y439.length co76)) (ru_ HO_410003.out) (jz HO441.out) T3_ hg) (jx (v:=(.slice Ao76 y439.length co76)) (ru_ HO_410004.out) (jz HO441.out) T3_ hg) (blk_grown (g:=gb409) (o:=.cells #[.slice Ao21 t384.length co21,.slice Ao23 t387.length co23,.slice Ao24 t390.length co24,.slice Ao25 t393.length co25,.slice Ao26 t396.length co26] 57 (0,0)) (bu_ BK409.out) hg (Kd.R_ne HO441.out BK409.out T3_)) (jx (v:=(.slice Ao76 y439.length co76)) (ru_ HO428.out) (jz HO441.out) T3_ hg) (jx (v:=(.slice Ao76 y439.length co76)) (ru_ HO431.out) (jz HO441.out) T3_ hg) (jw (v:=(.slice Ao76 y439.length co76)) (v1:=(.slice Ao76 y439.length co76)) (ok:=(fun k_=>ne_ k_ (.slice Ao21 t384.length co21)∧ne_ k_ (.slice Ao23 t387.length co23))) (ru_ HO435.out) hg (.inl rfl)) (ho) (hb);clear HO_15 HO_18 HO_19 HO_410000 HO_410001 HO_410002 HO_410003 HO_410004 BK409 HO428 HO431 HO435 HO441 HB;obtain⟨HO_15,HO_18,HO_19,HO_410000,HO_410001,HO_410002,HO_410003,HO_410004,BK409,HO428,HO431,HO435,HO441,HB⟩:=n_;clear ho hb hg;obtain⟨hcz79_0,hcz79_1,hcz79_2,hcz79_3,hcz79_4,hfz79_0,hfz79_1,hfz79_2,hfz79_3,hfz79_4⟩:=cz5_ BK409.out))
   go_loopg [26,142] k2 (fun kq v26 v142 w'=>∃ (x25_3:List Int) (x26_3:Int) (x142_3:Int),v26 = .int .i64 x26_3∧v142 = .int .i64 x142_3∧Aside0 (riffle_Turn.l1 kq x19_2 x25_3 x26_3 t393 (t393.length:Int) x142_3 t384 t387 t390 t393 t396=some (r1,r2))∧Aside0 (kq≤k2)∧Aside0 (Kd.S (jy 3 (jb .i64)) 24 w' w.heap.size (fun k_=>ne_ k_ (.slice Ao25 t393.length co25)∧ne_ k_ (.slice Ao25 t393.length co25)∧ne_ k_ (.slice Ao26 t396.length co26)) v414 x19_2)∧Aside0 (ju (jb .u8) 5 w' w.heap.size (fun k_=>ne_ k_ (.slice Ao21 t384.length co21)∧ne_ k_ (.slice Ao23 t387.length co23)) (.slice Ao76 y439.length co76) x25_3)∧Aside0 (ju (jb .i64) 3 w' w.heap.size (fun k_=>ne_ k_ (.slice Ao26 t396.length co26)) (.slice Ao25 t393.length co25) t393)∧Aside0 (ju (jb .u8) 5 w' w.heap.size (fun k_=>ne_ k_ (.slice Ao76 y439.length co76)∧ne_ k_ (.slice Ao23 t387.length co23)) (.slice Ao21 t384.length co21) t384)∧Aside0 (ju (jb .u8) 5 w' w.heap.size (fun k_=>ne_ k_ (.slice Ao76 y439.length co76)∧ne_ k_ (.slice Ao21 t384.length co21)) (.slice Ao23 t387.length co23) t387)∧Aside0 (Kd.S (jy 5 (jb .u8)) 23 w' w.heap.size (fun k_=>ne_ k_ (.slice Ao76 y439.length co76)∧ne_ k_ (.slice Ao21 t384.length co21)∧ne_ k_ (.slice Ao23 t387.length co23)) (.slice Ao24 t390.length co24) t390)∧Aside0 (ju (jb .i64) 3 w' w.heap.size (fun k_=>ne_ k_ (.slice Ao26 t396.length co26)) (.slice Ao25 t393.length co25) t393)∧Aside0 (ju (jb .i64) 3 w' w.heap.size (fun k_=>ne_ k_ (.slice Ao25 t393.length co25)∧ne_ k_ (.slice Ao25 t393.length co25)) (.slice Ao26 t396.length co26) t396)∧Aside0 (w'.heap[gb409]? = some (.cells #[(.slice Ao21 t384.length co21),(.slice Ao23 t387.length co23),(.slice Ao24 t390.length co24),(.slice Ao25 t393.length co25),(.slice Ao26 t396.length co26)] 57 (0,0)))∧Aside0 (Below w.heap.size w w'))
   case atStart=>exact⟨(y446),(wrap64 ((t384.length:Int)+(cpn y439 (((t384.length:Int):Int).toNat) t432))),(0),T9_,T9_,H',⟨Nat.le_refl _⟩,⟨su_ (jB HO_19.out (fun _ hk=>⟨hk.1.1.2.2.1,⟨hk.1.1.2.2.1,hk.1.1.2.2.2⟩⟩))⟩,⟨ru_ (jc HO441.out (fun _ hk=>⟨hk.1,hk.2.1⟩))⟩,⟨ru_ (jc HO_410003.out (fun _ hk=>hk.1.1.2.2))⟩,⟨ru_ (jc HO_410000.out (fun _ hk=>⟨hk.2,hk.1.1⟩))⟩,⟨ru_ (jc HO_410001.out (fun _ hk=>⟨hk.2,hk.1.1⟩))⟩,⟨su_ (jB HO_410002.out (fun _ hk=>⟨hk.2,⟨hk.1.1,hk.1.2.1⟩⟩))⟩,⟨ru_ (jc HO_410003.out (fun _ hk=>hk.1.1.2.2))⟩,⟨ru_ (jc HO_410004.out (fun _ hk=>⟨hk.1.1.2.2,hk.1.1.2.2⟩))⟩,⟨bu_ BK409.out⟩,⟨T26_⟩⟩
   clear H'
   (try clear c1);(try clear c3);(try clear c32);(try clear c32b0);(try clear c55);(try clear c55b0 c55b1);(try clear c58);(try clear c58b0 c58b1);(try clear c60);(try clear c60b0 c60b1);(try clear c61);(try clear c61b0 c61b1);(try clear c75);(try clear q75);(try clear hcz62_0 hcz62_1 hcz62_2 hcz62_3 hcz62_4 hfz62_0 hfz62_1 hfz62_2 hfz62_3 hfz62_4);(try clear hcz74_0 hcz74_1 hcz74_2 hcz74_3 hcz74_4 hfz74_0 hfz74_1 hfz74_2 hfz74_3 hfz74_4);(try clear hcz79_0 hcz79_1 hcz79_2 hcz79_3 hcz79_4 hfz79_0 hfz79_1 hfz79_2 hfz79_3 hfz79_4);(try clear q075);(try clear BK409)
   obtain⟨x25_3,x26_3,x142_3,rfl,rfl,HA,HK3,HO_19,HO_25,HO_140,HO_410000,HO_410001,HO_410002,HO_410003,HO_410004,BK409,HB⟩:=hrel
   have hl25_3:=(jh HO_25.out).1
   rw[hl25_3] at HO_25
   (try simp only[hl25_3])
   (try simp only[hl25_3] at BK409)
   (try simp only[hl25_3] at HO_19)
   (try simp only[hl25_3] at HO_140)
   (try simp only[hl25_3] at HO_410000)
   (try simp only[hl25_3] at HO_410001)
   (try simp only[hl25_3] at HO_410002)
   (try simp only[hl25_3] at HO_410003)
   (try simp only[hl25_3] at HO_410004)
   cases gk with
   | zero=>exact absurd HA.out (by simp[riffle_Turn.l1])
   | succ k3 =>
    have H:=HA.out
    clear HA
    simp only[riffle_Turn.l1] at H
    by_cases c80:x142_3<(t393.length:Int)
    rotate_left
    ·rw[if_neg c80] at H
     have c80b0:=decide_eq_false c80
     (try(have c80b0_:=c80b0;simp only[hl25_3] at c80b0_))
     clear c80
     obtain⟨rfl,rfl⟩:=sj2_ H
     go_wp2
     go_ret2
     exact⟨_,T14_,ru_ (jc HO_25.out (fun _ hk=>trivial)),T26_⟩
    rw[if_pos c80] at H
    have c80b0:=decide_eq_true c80
    (try(have c80b0_:=c80b0;simp only[hl25_3] at c80b0_))
    clear c80
    replace H:=ifn_ H;obtain⟨c81,H⟩:=H
    have c81b0:=decide_eq_true c81
    (try(have c81b0_:=c81b0;simp only[hl25_3] at c81b0_))
    clear c81
    replace H:=ifn_ H;obtain⟨c82,H⟩:=H
    have c82b0:=decide_eq_true c82
    (try(have c82b0_:=c82b0;simp only[hl25_3] at c82b0_))
    clear c82
    replace H:=ifn_ H;obtain⟨c83,H⟩:=H
    have c83b0:=decide_eq_true c83
    (try(have c83b0_:=c83b0;simp only[hl25_3] at c83b0_))
    clear c83
    replace H:=Option.bind_eq_some_iff.mp H
    obtain⟨⟨t451,t452⟩,A840,H⟩:=H
    try dsimp only at H
    have A84:=am_ A840
    clear A840
    by_cases c85:t452=0
    rotate_left
    ·rw[if_neg c85] at H
     obtain⟨c85b0,c85b1⟩:=en_ c85
     obtain⟨rfl,rfl⟩:=sj2_ H
     obtain⟨ad449,e449,hx449_0,p449,q449⟩:=ai_ (jh HO_140.out).2.2 x142_3
     cases e449
     obtain⟨Ao109,co109,eo109⟩:=Kd.S_slice HO_19.out
     subst eo109
     have p450:0≤(x142_3:Int):=od_
     have q450:x142_3<(x19_2.length:Int):=od_
     obtain⟨ad450,A450_0,c450_0,e450,hx450_0,hl450_0,hi450_0⟩:=at_L3 (jM HO_19.out).2.2 x142_3 p450 q450
     cases e450
     obtain⟨ce450,hce450,hMe450,hcc450⟩:=Kd.S_get HO_19.out [] x142_3 p450 T11_
     obtain⟨ve450_0,rfl,ge450_0⟩:=hMe450
     have hv450_0:=hcc450 0 _ rfl
     rw[Nat.add_zero,show((jy 3 (jb .i64))).sz=1 from rfl,Nat.mul_one] at hv450_0
     replace hv450_0:=Option.some.inj (hv450_0.symm.trans hx450_0)
     rw[hv450_0] at ge450_0
     have HL450_0:=am_ (show ju (jb .i64) 3 _ _ _ _ (rd_L3 x19_2 x142_3) from ge450_0)
     clear hv450_0 ge450_0
     have HX450_0:=am_ hx450_0
     clear hcc450 hce450
     have HR450_0:=am_ hi450_0
     have HC450_0:=am_ hl450_0
     clear hi450_0 hl450_0
     replace p450:=eq_true p450
     replace q450:=eq_true q450
     go_wp2_with(first|(refine gc_ 37 ?_;refine gl_ (some 152) Try.func37 #[.slice A450_0 (rd_L3 x19_2 x142_3).length c450_0] ?_;(with_reducible refine(perm_Draws.calls k3 _ _ (rd_L3 x19_2 x142_3) t451 t452 _ ?side1 ?side2 A84.out).mono ?_);(case side1=>exact cu_ HR450_0.out);(case side2=>exact HC450_0.out);rintro e w110 ⟨v453,rfl,ho0,hb⟩;refine⟨_,rfl,?_⟩;have n_:=P14_ (jI (su_ HO_19.out) (jf ho0) hb) (jd (ru_ HO_25.out) hb) (jg (ru_ HO_140.out) (jf ho0) hb) (jd (ru_ HO_410000.out) hb) (jd (ru_ HO_410001.out) hb) (jA (su_ HO_410002.out) hb) (jg (ru_ HO_410003.out) (jf ho0) hb) (jg (ru_ HO_410004.out) (jf ho0) hb) (jg (ru_ HL450_0.out) (jf ho0) hb) (jm (jk (jk (jk (jk ho0 (jj (ru_ HO_140.out))) (jj (ru_ HO_410003.out))) (jj (ru_ HO_410004.out))) (jj (ru_ HL450_0.out))) (ja T26_)) (jr (bu_ BK409.out) hb) (jv (cu_ HR450_0.out) hb) (pw_cell_below hb HX450_0.out) (ji T26_ hb);clear HO_19 HO_25 HO_140 HO_410000 HO_410001 HO_410002 HO_410003 HO_410004 HL450_0 BK409 HR450_0 HX450_0 HB;obtain⟨HO_19,HO_25,HO_140,HO_410000,HO_410001,HO_410002,HO_410003,HO_410004,HL450_0,HO454,BK409,HR450_0,HX450_0,HB⟩:=n_;clear hb ho0))
     go_ret2
     exact⟨_,T14_,T18_,T26_⟩
    rw[if_pos c85] at H
    obtain⟨c85b0,c85b1⟩:=ep_ c85
    clear c85
    replace H:=ifn_ H;obtain⟨c86,H⟩:=H
    have c86b0:=decide_eq_true c86
    (try(have c86b0_:=c86b0;simp only[hl25_3] at c86b0_))
    clear c86
    replace H:=Option.bind_eq_some_iff.mp H
    obtain⟨t456,A870,H⟩:=H
    try dsimp only at H
    have A87:=am_ A870
    clear A870
    replace H:=Option.bind_eq_some_iff.mp H
    obtain⟨⟨t459,t460⟩,A880,H⟩:=H
    try dsimp only at H
    have A88:=am_ A880
    clear A880
    by_cases c89:t460=0
    rotate_left
    ·rw[if_neg c89] at H
     obtain⟨c89b0,c89b1⟩:=en_ c89
     obtain⟨rfl,rfl⟩:=sj2_ H
     obtain⟨ad449,e449,hx449_0,p449,q449⟩:=ai_ (jh HO_140.out).2.2 x142_3
     cases e449
     obtain⟨Ao102,co102,eo102⟩:=Kd.S_slice HO_19.out
     subst eo102
     have p450:0≤(x142_3:Int):=od_
     have q450:x142_3<(x19_2.length:Int):=od_
     obtain⟨ad450,A450_0,c450_0,e450,hx450_0,hl450_0,hi450_0⟩:=at_L3 (jM HO_19.out).2.2 x142_3 p450 q450
     cases e450
     obtain⟨ce450,hce450,hMe450,hcc450⟩:=Kd.S_get HO_19.out [] x142_3 p450 T11_
     obtain⟨ve450_0,rfl,ge450_0⟩:=hMe450
     have hv450_0:=hcc450 0 _ rfl
     rw[Nat.add_zero,show((jy 3 (jb .i64))).sz=1 from rfl,Nat.mul_one] at hv450_0
     replace hv450_0:=Option.some.inj (hv450_0.symm.trans hx450_0)
     rw[hv450_0] at ge450_0
     have HL450_0:=am_ (show ju (jb .i64) 3 _ _ _ _ (rd_L3 x19_2 x142_3) from ge450_0)
     clear hv450_0 ge450_0
     have HX450_0:=am_ hx450_0
     clear hcc450 hce450
     have HR450_0:=am_ hi450_0
     have HC450_0:=am_ hl450_0
     clear hi450_0 hl450_0
     replace p450:=eq_true p450
     replace q450:=eq_true q450
     try go_wp2_with(first|(refine gc_ 37 ?_;refine gl_ (some 152) Try.func37 #[.slice A450_0 (rd_L3 x19_2 x142_3).length c450_0] ?_;(with_reducible refine(perm_Draws.calls k3 _ _ (rd_L3 x19_2 x142_3) t451 t452 _ ?side1 ?side2 A84.out).mono ?_);(case side1=>exact cu_ HR450_0.out);(case side2=>exact HC450_0.out);rintro e w103 ⟨v453,rfl,ho0,hb⟩;refine⟨_,rfl,?_⟩;have n_:=P14_ (jI (su_ HO_19.out) (jf ho0) hb) (jd (ru_ HO_25.out) hb) (jg (ru_ HO_140.out) (jf ho0) hb) (jd (ru_ HO_410000.out) hb) (jd (ru_ HO_410001.out) hb) (jA (su_ HO_410002.out) hb) (jg (ru_ HO_410003.out) (jf ho0) hb) (jg (ru_ HO_410004.out) (jf ho0) hb) (jg (ru_ HL450_0.out) (jf ho0) hb) (jm (jk (jk (jk (jk ho0 (jj (ru_ HO_140.out))) (jj (ru_ HO_410003.out))) (jj (ru_ HO_410004.out))) (jj (ru_ HL450_0.out))) (ja T26_)) (jr (bu_ BK409.out) hb) (jv (cu_ HR450_0.out) hb) (pw_cell_below hb HX450_0.out) (ji T26_ hb);clear HO_19 HO_25 HO_140 HO_410000 HO_410001 HO_410002 HO_410003 HO_410004 HL450_0 BK409 HR450_0 HX450_0 HB;obtain⟨HO_19,HO_25,HO_140,HO_410000,HO_410001,HO_410002,HO_410003,HO_410004,HL450_0,HO454,BK409,HR450_0,HX450_0,HB⟩:=n_;clear hb ho0))
     have n_:=P13_ (Kd.S_drew HO_19.out) (jq HO_25.out) (jq HO_140.out) (jq HO_410000.out) (jq HO_410001.out) (Kd.S_drew HO_410002.out) (jq HO_410003.out) (jq HO_410004.out) (jq HL450_0.out) (jq HO454.out) (jl BK409.out) (Kd.C_drew HR450_0.out) (jG HB.out)
     clear HO_19 HO_25 HO_140 HO_410000 HO_410001 HO_410002 HO_410003 HO_410004 HL450_0 HO454 BK409 HR450_0 HB
     obtain⟨HO_19,HO_25,HO_140,HO_410000,HO_410001,HO_410002,HO_410003,HO_410004,HL450_0,HO454,BK409,HR450_0,HB⟩:=n_
     have p455:0≤(x142_3:Int):=od_
     have q455:x142_3<(t390.length:Int):=od_
     obtain⟨ad455,A455_0,c455_0,e455,hx455_0,hl455_0,hi455_0⟩:=at_L2 (jM HO_410002.out).2.2 x142_3 p455 q455
     cases e455
     obtain⟨ce455,hce455,hMe455,hcc455⟩:=Kd.S_get HO_410002.out [] x142_3 p455 (by first|exact q455|exact od_|(have e_:=(jM HO_410002.out).1;omega))
     obtain⟨ve455_0,rfl,ge455_0⟩:=hMe455
     have hv455_0:=hcc455 0 _ rfl
     rw[Nat.add_zero,show((jy 5 (jb .u8))).sz=1 from rfl,Nat.mul_one] at hv455_0
     replace hv455_0:=Option.some.inj (hv455_0.symm.trans hx455_0)
     rw[hv455_0] at ge455_0
     have HL455_0:=am_ (show ju (jb .u8) 5 _ _ _ _ (rd_L2 t390 x142_3) from ge455_0)
     clear hv455_0 ge455_0
     have HX455_0:=am_ hx455_0
     clear hcc455 hce455
     have HR455_0:=am_ hi455_0
     have HC455_0:=am_ hl455_0
     clear hi455_0 hl455_0
     replace p455:=eq_true p455
     replace q455:=eq_true q455
     refine start_ (n:=15) (S:=fun w'=>w'.cell? ⟨gb409,0,none⟩=some (.slice Ao21 t384.length co21)∧w'.cell? ⟨gb409,1,none⟩=some (.slice Ao23 t387.length co23)∧w'.cell? ⟨gb409,2,none⟩=some (.slice (some ad455) t390.length co24)∧w'.cell? ⟨gb409,3,none⟩=some (.slice (some ad449) t393.length co25)∧w'.cell? ⟨gb409,4,none⟩=some (.slice Ao26 t396.length co26)∧w'.cell? (ad455.add (x142_3).toNat)=some (.slice A455_0 (rd_L2 t390 x142_3).length c455_0)) (ds:=[]) #[false,false,false,false,false,false,false,false,false,false,false,false,false,false,false] T4_ rfl rfl ⟨bc_ BK409.out 0,bc_ BK409.out 1,bc_ BK409.out 2,bc_ BK409.out 3,bc_ BK409.out 4,hx455_0⟩ (fun hHeld=>?_);refine with_tabW riffle_Turn.tab34 riffle_Turn.bits34 (fun HT_ HW_=>?_)
     generalize w103.drew=w104 at HO_19 HO_25 HO_140 HO_410000 HO_410001 HO_410002 HO_410003 HO_410004 HL450_0 HO454 BK409 HR450_0 HB HL455_0 HR455_0 HX455_0 hx455_0 hHeld ⊢
     refine pz_ 0 (some 159) ?_
     refine pz_ 1 (some 160) ?_
     refine pz_ 3 (some 162) ?_
     refine pz_ 6 (some 165) ?_
     refine pz_ 8 (some 167) ?_
     refine tz6_ 2 (some 161) hHeld ?_
     refine pz_ 4 (some 163) ?_
     refine tz6_ 5 (some 164) hHeld ?_
     refine oz_ 7 (some 166) (fun K hK=>?_)
     refine goes_ Try.func38 T4_ rfl #[.int .i64 (rd t393 x142_3)] T0_ rfl rfl T17_ ?_
     with_reducible refine(perm_Bounds.calls k3 (rd t393 x142_3) t456 _ A87.out).mono ?_
     rintro e w105 ⟨v457,rfl,ho0,hb⟩
     have HS5_:=(hb.cell (World.block_lt_of_cell? _ _ (hHeld.2.2.2.2.2))).trans (hHeld.2.2.2.2.2)
     refine⟨_,rfl,?_⟩
     have n_:=P17_ (jI (su_ HO_19.out) (jf ho0) hb) (jd (ru_ HO_25.out) hb) (jg (ru_ HO_140.out) (jf ho0) hb) (jd (ru_ HO_410000.out) hb) (jd (ru_ HO_410001.out) hb) (jA (su_ HO_410002.out) hb) (jg (ru_ HO_410003.out) (jf ho0) hb) (jg (ru_ HO_410004.out) (jf ho0) hb) (jg (ru_ HL450_0.out) (jf ho0) hb) (jg (ru_ HO454.out) (jf ho0) hb) (jd (ru_ HL455_0.out) hb) (jm (jk (jk (jk (jk (jk ho0 (jj (ru_ HO_140.out))) (jj (ru_ HO_410003.out))) (jj (ru_ HO_410004.out))) (jj (ru_ HL450_0.out))) (jj (ru_ HO454.out))) (ja T26_)) (jr (bu_ BK409.out) hb) (jv (cu_ HR450_0.out) hb) (jv (cu_ HR455_0.out) hb) (pw_cell_below hb HX455_0.out) (ji T26_ hb)
     clear HO_19 HO_25 HO_140 HO_410000 HO_410001 HO_410002 HO_410003 HO_410004 HL450_0 HO454 HL455_0 BK409 HR450_0 HR455_0 HX455_0 HB
     obtain⟨HO_19,HO_25,HO_140,HO_410000,HO_410001,HO_410002,HO_410003,HO_410004,HL450_0,HO454,HL455_0,HO458,BK409,HR450_0,HR455_0,HX455_0,HB⟩:=n_
     (try clear hb);(try clear hk);(try clear ho0)
     obtain⟨Ao106,co106,eo106⟩:=jo HO458.out
     (first|subst eo106|(injection eo106 with f1_ f2_ f3_;have f4_:=f1_.symm;have f5_:=f3_.symm;clear f1_ f2_ f3_;subst f4_;subst f5_))
     obtain⟨Ao107,co107,eo107⟩:=jo HO454.out
     (first|subst eo107|(injection eo107 with f1_ f2_ f3_;have f4_:=f1_.symm;have f5_:=f3_.symm;clear f1_ f2_ f3_;subst f4_;subst f5_))
     refine hK.out _ _ ⟨bc_ BK409.out 0,bc_ BK409.out 1,bc_ BK409.out 2,bc_ BK409.out 3,bc_ BK409.out 4,HS5_⟩ (fun hHeld=>?_)
     clear hK K
     refine norm_ (a':=?_) ?_ ?_
     rotate_left
     ·show Act.put _ (some 166) _=_
      simp only[Act.put,List.setIfInBounds_toArray,List.set_cons_zero,List.set_cons_succ,jD,jE]
      rfl
     refine oz_ 9 (some 168) (fun K hK=>?_)
     refine goes_ Try.func35 T4_ rfl #[.slice A455_0 (rd_L2 t390 x142_3).length c455_0,.slice Ao106 t456.length co106,.slice Ao107 t451.length co107] T0_ rfl rfl T17_ ?_
     with_reducible refine(draw_Turn.calls _ _ (rd_L2 t390 x142_3) _ _ t456 _ _ t451 t459 t460 _ ?side1 ?side2 ?side3 ?side4 ?side5 ?side6 A88.out).mono ?_
     (case side1=>exact cu_ HR455_0.out)
     (case side2=>exact HC455_0.out)
     (case side3=>exact cu_ ((jh HO458.out).2.2))
     (case side4=>exact(jh HO458.out).2.1)
     (case side5=>exact cu_ ((jh HO454.out).2.2))
     (case side6=>exact(jh HO454.out).2.1)
     rintro e w108 ⟨v461,rfl,ho0,hb⟩
     have HS5_:=(hb.cell (World.block_lt_of_cell? _ _ (hHeld.2.2.2.2.2))).trans (hHeld.2.2.2.2.2)
     refine⟨_,rfl,?_⟩
     have n_:=P18_ (jA (su_ HO_19.out) hb) (jg (ru_ HO_25.out) (jf ho0) hb) (jd (ru_ HO_140.out) hb) (jg (ru_ HO_410000.out) (jf ho0) hb) (jg (ru_ HO_410001.out) (jf ho0) hb) (jI (su_ HO_410002.out) (jf ho0) hb) (jd (ru_ HO_410003.out) hb) (jd (ru_ HO_410004.out) hb) (jd (ru_ HL450_0.out) hb) (jd (ru_ HO454.out) hb) (jg (ru_ HL455_0.out) (jf ho0) hb) (jd (ru_ HO458.out) hb) (jm (jk (jk (jk (jk ho0 (jj (ru_ HO_25.out))) (jj (ru_ HO_410000.out))) (jj (ru_ HO_410001.out))) (jj (ru_ HL455_0.out))) (ja T26_)) (jr (bu_ BK409.out) hb) (jv (cu_ HR450_0.out) hb) (jv (cu_ HR455_0.out) hb) (pw_cell_below hb HX455_0.out) (ji T26_ hb)
     clear HO_19 HO_25 HO_140 HO_410000 HO_410001 HO_410002 HO_410003 HO_410004 HL450_0 HO454 HL455_0 HO458 BK409 HR450_0 HR455_0 HX455_0 HB
     obtain⟨HO_19,HO_25,HO_140,HO_410000,HO_410001,HO_410002,HO_410003,HO_410004,HL450_0,HO454,HL455_0,HO458,HO462,BK409,HR450_0,HR455_0,HX455_0,HB⟩:=n_
     (try clear hb);(try clear hk);(try clear ho0)
     refine hK.out _ _ ⟨bc_ BK409.out 0,bc_ BK409.out 1,bc_ BK409.out 2,bc_ BK409.out 3,bc_ BK409.out 4,HS5_⟩ (fun hHeld=>?_)
     clear hK K
     refine norm_ (a':=?_) ?_ ?_
     rotate_left
     ·show Act.put _ (some 168) _=_
      simp only[Act.put,List.setIfInBounds_toArray,List.set_cons_zero,List.set_cons_succ,jD,jE]
      rfl
     refine pz_ 10 (some 158) ?_
     refine pz_ 11 (some 169) ?_
     refine pz_ 12 (some 170) ?_
     refine pz_ 13 (some 31) ?_
     refine pz_ 14 (some 30) ?_
     refine done_ (done_of HT_.out T4_) ?_
     try go_wp2
     go_ret2
     exact⟨_,T14_,T18_,T26_⟩
    rw[if_pos c89] at H
    obtain⟨c89b0,c89b1⟩:=ep_ c89
    clear c89
    replace H:=ifn_ H;obtain⟨c90,H⟩:=H
    have c90b0:=eq_true c90
    have c90b1:decide (0≤x26_3)=true:=decide_eq_true c90
    (try(have c90b1_:=c90b1;simp only[hl25_3] at c90b1_))
    clear c90
    replace H:=ifn_ H;obtain⟨c91,H⟩:=H
    have c91b0:=eq_true c91
    have c91b1:decide (x26_3≤(x25_3.length:Int))=true:=decide_eq_true c91
    (try(have c91b1_:=c91b1;simp only[hl25_3] at c91b1_))
    clear c91
    obtain⟨y463,hy_⟩:∃ y_:List Int,y_=(x25_3.drop (x26_3:Int).toNat):=⟨_,rfl⟩
    replace H:(riffle_Turn.l1 k3 x19_2 (cpy x25_3 ((x26_3:Int).toNat) t459) (wrap64 (x26_3+(cpn x25_3 ((x26_3:Int).toNat) t459))) t393 (t393.length:Int) (wrap64 (x142_3+1)) t384 t387 t390 t393 t396)=some (r1,r2):=hyw_
    have Ny463:=am_ hy_
    clear hy_
    obtain⟨y467,hy_⟩:∃ y_:List Int,y_=(cpy x25_3 ((x26_3:Int).toNat) t459):=⟨_,rfl⟩
    replace H:(riffle_Turn.l1 k3 x19_2 y467 (wrap64 (x26_3+(cpn x25_3 ((x26_3:Int).toNat) t459))) t393 (t393.length:Int) (wrap64 (x142_3+1)) t384 t387 t390 t393 t396)=some (r1,r2):=hyw_
    have Ny467:=am_ hy_
    clear hy_
    have H':=am_ H
    clear H
    obtain⟨ad449,e449,hx449_0,p449,q449⟩:=ai_ (jh HO_140.out).2.2 x142_3
    cases e449
    obtain⟨Ao92,co92,eo92⟩:=Kd.S_slice HO_19.out
    subst eo92
    have p450:0≤(x142_3:Int):=od_
    have q450:x142_3<(x19_2.length:Int):=od_
    obtain⟨ad450,A450_0,c450_0,e450,hx450_0,hl450_0,hi450_0⟩:=at_L3 (jM HO_19.out).2.2 x142_3 p450 q450
    cases e450
    obtain⟨ce450,hce450,hMe450,hcc450⟩:=Kd.S_get HO_19.out [] x142_3 p450 T11_
    obtain⟨ve450_0,rfl,ge450_0⟩:=hMe450
    have hv450_0:=hcc450 0 _ rfl
    rw[Nat.add_zero,show((jy 3 (jb .i64))).sz=1 from rfl,Nat.mul_one] at hv450_0
    replace hv450_0:=Option.some.inj (hv450_0.symm.trans hx450_0)
    rw[hv450_0] at ge450_0
    have HL450_0:=am_ (show ju (jb .i64) 3 _ _ _ _ (rd_L3 x19_2 x142_3) from ge450_0)
    clear hv450_0 ge450_0
    have HX450_0:=am_ hx450_0
    clear hcc450 hce450
    have HR450_0:=am_ hi450_0
    have HC450_0:=am_ hl450_0
    clear hi450_0 hl450_0
    replace p450:=eq_true p450
    replace q450:=eq_true q450
    try go_wp2_with(first|(refine gc_ 37 ?_;refine gl_ (some 152) Try.func37 #[.slice A450_0 (rd_L3 x19_2 x142_3).length c450_0] ?_;(with_reducible refine(perm_Draws.calls k3 _ _ (rd_L3 x19_2 x142_3) t451 t452 _ ?side1 ?side2 A84.out).mono ?_);(case side1=>exact cu_ HR450_0.out);(case side2=>exact HC450_0.out);rintro e w93 ⟨v453,rfl,ho0,hb⟩;refine⟨_,rfl,?_⟩;have n_:=P14_ (jI (su_ HO_19.out) (jf ho0) hb) (jd (ru_ HO_25.out) hb) (jg (ru_ HO_140.out) (jf ho0) hb) (jd (ru_ HO_410000.out) hb) (jd (ru_ HO_410001.out) hb) (jA (su_ HO_410002.out) hb) (jg (ru_ HO_410003.out) (jf ho0) hb) (jg (ru_ HO_410004.out) (jf ho0) hb) (jg (ru_ HL450_0.out) (jf ho0) hb) (jm (jk (jk (jk (jk ho0 (jj (ru_ HO_140.out))) (jj (ru_ HO_410003.out))) (jj (ru_ HO_410004.out))) (jj (ru_ HL450_0.out))) (ja T26_)) (jr (bu_ BK409.out) hb) (jv (cu_ HR450_0.out) hb) (pw_cell_below hb HX450_0.out) (ji T26_ hb);clear HO_19 HO_25 HO_140 HO_410000 HO_410001 HO_410002 HO_410003 HO_410004 HL450_0 BK409 HR450_0 HX450_0 HB;obtain⟨HO_19,HO_25,HO_140,HO_410000,HO_410001,HO_410002,HO_410003,HO_410004,HL450_0,HO454,BK409,HR450_0,HX450_0,HB⟩:=n_;clear hb ho0))
    have n_:=P13_ (Kd.S_drew HO_19.out) (jq HO_25.out) (jq HO_140.out) (jq HO_410000.out) (jq HO_410001.out) (Kd.S_drew HO_410002.out) (jq HO_410003.out) (jq HO_410004.out) (jq HL450_0.out) (jq HO454.out) (jl BK409.out) (Kd.C_drew HR450_0.out) (jG HB.out)
    clear HO_19 HO_25 HO_140 HO_410000 HO_410001 HO_410002 HO_410003 HO_410004 HL450_0 HO454 BK409 HR450_0 HB
    obtain⟨HO_19,HO_25,HO_140,HO_410000,HO_410001,HO_410002,HO_410003,HO_410004,HL450_0,HO454,BK409,HR450_0,HB⟩:=n_
    have p455:0≤(x142_3:Int):=od_
    have q455:x142_3<(t390.length:Int):=od_
    obtain⟨ad455,A455_0,c455_0,e455,hx455_0,hl455_0,hi455_0⟩:=at_L2 (jM HO_410002.out).2.2 x142_3 p455 q455
    cases e455
    obtain⟨ce455,hce455,hMe455,hcc455⟩:=Kd.S_get HO_410002.out [] x142_3 p455 (by first|exact q455|exact od_|(have e_:=(jM HO_410002.out).1;omega))
    obtain⟨ve455_0,rfl,ge455_0⟩:=hMe455
    have hv455_0:=hcc455 0 _ rfl
    rw[Nat.add_zero,show((jy 5 (jb .u8))).sz=1 from rfl,Nat.mul_one] at hv455_0
    replace hv455_0:=Option.some.inj (hv455_0.symm.trans hx455_0)
    rw[hv455_0] at ge455_0
    have HL455_0:=am_ (show ju (jb .u8) 5 _ _ _ _ (rd_L2 t390 x142_3) from ge455_0)
    clear hv455_0 ge455_0
    have HX455_0:=am_ hx455_0
    clear hcc455 hce455
    have HR455_0:=am_ hi455_0
    have HC455_0:=am_ hl455_0
    clear hi455_0 hl455_0
    replace p455:=eq_true p455
    replace q455:=eq_true q455
    refine start_ (n:=15) (S:=fun w'=>w'.cell? ⟨gb409,0,none⟩=some (.slice Ao21 t384.length co21)∧w'.cell? ⟨gb409,1,none⟩=some (.slice Ao23 t387.length co23)∧w'.cell? ⟨gb409,2,none⟩=some (.slice (some ad455) t390.length co24)∧w'.cell? ⟨gb409,3,none⟩=some (.slice (some ad449) t393.length co25)∧w'.cell? ⟨gb409,4,none⟩=some (.slice Ao26 t396.length co26)∧w'.cell? (ad455.add (x142_3).toNat)=some (.slice A455_0 (rd_L2 t390 x142_3).length c455_0)) (ds:=[]) #[false,false,false,false,false,false,false,false,false,false,false,false,false,false,false] T4_ rfl rfl ⟨bc_ BK409.out 0,bc_ BK409.out 1,bc_ BK409.out 2,bc_ BK409.out 3,bc_ BK409.out 4,hx455_0⟩ (fun hHeld=>?_);refine with_tabW riffle_Turn.tab34 riffle_Turn.bits34 (fun HT_ HW_=>?_)
    generalize w93.drew=w94 at HO_19 HO_25 HO_140 HO_410000 HO_410001 HO_410002 HO_410003 HO_410004 HL450_0 HO454 BK409 HR450_0 HB HL455_0 HR455_0 HX455_0 hx455_0 hHeld ⊢
    refine pz_ 0 (some 159) ?_
    refine pz_ 1 (some 160) ?_
    refine pz_ 3 (some 162) ?_
    refine pz_ 6 (some 165) ?_
    refine pz_ 8 (some 167) ?_
    refine tz6_ 2 (some 161) hHeld ?_
    refine pz_ 4 (some 163) ?_
    refine tz6_ 5 (some 164) hHeld ?_
    refine oz_ 7 (some 166) (fun K hK=>?_)
    refine goes_ Try.func38 T4_ rfl #[.int .i64 (rd t393 x142_3)] T0_ rfl rfl T17_ ?_
    with_reducible refine(perm_Bounds.calls k3 (rd t393 x142_3) t456 _ A87.out).mono ?_
    rintro e w95 ⟨v457,rfl,ho0,hb⟩
    have HS5_:=(hb.cell (World.block_lt_of_cell? _ _ (hHeld.2.2.2.2.2))).trans (hHeld.2.2.2.2.2)
    refine⟨_,rfl,?_⟩
    have n_:=P17_ (jI (su_ HO_19.out) (jf ho0) hb) (jd (ru_ HO_25.out) hb) (jg (ru_ HO_140.out) (jf ho0) hb) (jd (ru_ HO_410000.out) hb) (jd (ru_ HO_410001.out) hb) (jA (su_ HO_410002.out) hb) (jg (ru_ HO_410003.out) (jf ho0) hb) (jg (ru_ HO_410004.out) (jf ho0) hb) (jg (ru_ HL450_0.out) (jf ho0) hb) (jg (ru_ HO454.out) (jf ho0) hb) (jd (ru_ HL455_0.out) hb) (jm (jk (jk (jk (jk (jk ho0 (jj (ru_ HO_140.out))) (jj (ru_ HO_410003.out))) (jj (ru_ HO_410004.out))) (jj (ru_ HL450_0.out))) (jj (ru_ HO454.out))) (ja T26_)) (jr (bu_ BK409.out) hb) (jv (cu_ HR450_0.out) hb) (jv (cu_ HR455_0.out) hb) (pw_cell_below hb HX455_0.out) (ji T26_ hb)
    clear HO_19 HO_25 HO_140 HO_410000 HO_410001 HO_410002 HO_410003 HO_410004 HL450_0 HO454 HL455_0 BK409 HR450_0 HR455_0 HX455_0 HB
    obtain⟨HO_19,HO_25,HO_140,HO_410000,HO_410001,HO_410002,HO_410003,HO_410004,HL450_0,HO454,HL455_0,HO458,BK409,HR450_0,HR455_0,HX455_0,HB⟩:=n_
    (try clear hb);(try clear hk);(try clear ho0)
    obtain⟨Ao96,co96,eo96⟩:=jo HO458.out
    (first|subst eo96|(injection eo96 with f1_ f2_ f3_;have f4_:=f1_.symm;have f5_:=f3_.symm;clear f1_ f2_ f3_;subst f4_;subst f5_))
    obtain⟨Ao97,co97,eo97⟩:=jo HO454.out
    (first|subst eo97|(injection eo97 with f1_ f2_ f3_;have f4_:=f1_.symm;have f5_:=f3_.symm;clear f1_ f2_ f3_;subst f4_;subst f5_))
    refine hK.out _ _ ⟨bc_ BK409.out 0,bc_ BK409.out 1,bc_ BK409.out 2,bc_ BK409.out 3,bc_ BK409.out 4,HS5_⟩ (fun hHeld=>?_)
    clear hK K
    refine norm_ (a':=?_) ?_ ?_
    rotate_left
    ·show Act.put _ (some 166) _=_
     simp only[Act.put,List.setIfInBounds_toArray,List.set_cons_zero,List.set_cons_succ,jD,jE]
     rfl
    refine oz_ 9 (some 168) (fun K hK=>?_)
    refine goes_ Try.func35 T4_ rfl #[.slice A455_0 (rd_L2 t390 x142_3).length c455_0,.slice Ao96 t456.length co96,.slice Ao97 t451.length co97] T0_ rfl rfl T17_ ?_
    with_reducible refine(draw_Turn.calls _ _ (rd_L2 t390 x142_3) _ _ t456 _ _ t451 t459 t460 _ ?side1 ?side2 ?side3 ?side4 ?side5 ?side6 A88.out).mono ?_
    (case side1=>exact cu_ HR455_0.out)
    (case side2=>exact HC455_0.out)
    (case side3=>exact cu_ ((jh HO458.out).2.2))
    (case side4=>exact(jh HO458.out).2.1)
    (case side5=>exact cu_ ((jh HO454.out).2.2))
    (case side6=>exact(jh HO454.out).2.1)
    rintro e w98 ⟨v461,rfl,ho0,hb⟩
    have HS5_:=(hb.cell (World.block_lt_of_cell? _ _ (hHeld.2.2.2.2.2))).trans (hHeld.2.2.2.2.2)
    refine⟨_,rfl,?_⟩
    have n_:=P18_ (jA (su_ HO_19.out) hb) (jg (ru_ HO_25.out) (jf ho0) hb) (jd (ru_ HO_140.out) hb) (jg (ru_ HO_410000.out) (jf ho0) hb) (jg (ru_ HO_410001.out) (jf ho0) hb) (jI (su_ HO_410002.out) (jf ho0) hb) (jd (ru_ HO_410003.out) hb) (jd (ru_ HO_410004.out) hb) (jd (ru_ HL450_0.out) hb) (jd (ru_ HO454.out) hb) (jg (ru_ HL455_0.out) (jf ho0) hb) (jd (ru_ HO458.out) hb) (jm (jk (jk (jk (jk ho0 (jj (ru_ HO_25.out))) (jj (ru_ HO_410000.out))) (jj (ru_ HO_410001.out))) (jj (ru_ HL455_0.out))) (ja T26_)) (jr (bu_ BK409.out) hb) (jv (cu_ HR450_0.out) hb) (jv (cu_ HR455_0.out) hb) (pw_cell_below hb HX455_0.out) (ji T26_ hb)
    clear HO_19 HO_25 HO_140 HO_410000 HO_410001 HO_410002 HO_410003 HO_410004 HL450_0 HO454 HL455_0 HO458 BK409 HR450_0 HR455_0 HX455_0 HB
    obtain⟨HO_19,HO_25,HO_140,HO_410000,HO_410001,HO_410002,HO_410003,HO_410004,HL450_0,HO454,HL455_0,HO458,HO462,BK409,HR450_0,HR455_0,HX455_0,HB⟩:=n_
    (try clear hb);(try clear hk);(try clear ho0)
    refine hK.out _ _ ⟨bc_ BK409.out 0,bc_ BK409.out 1,bc_ BK409.out 2,bc_ BK409.out 3,bc_ BK409.out 4,HS5_⟩ (fun hHeld=>?_)
    clear hK K
    refine norm_ (a':=?_) ?_ ?_
    rotate_left
    ·show Act.put _ (some 168) _=_
     simp only[Act.put,List.setIfInBounds_toArray,List.set_cons_zero,List.set_cons_succ,jD,jE]
     rfl
    refine pz_ 10 (some 158) ?_
    refine pz_ 11 (some 169) ?_
    refine pz_ 12 (some 170) ?_
    refine pz_ 13 (some 31) ?_
    refine pz_ 14 (some 30) ?_
    refine done_ (done_of HT_.out T4_) ?_
    have q99:(x26_3:Int)≤((x25_3.length:Int):Int):=od_
    obtain⟨i099,hi099,_,hsz99,_⟩:=info_parts info5
    have hroom99:x25_3.length≤co76:=(jh HO_25.out).2.1
    have hC99:Kd.C (jb .u8) _ Ao76 x25_3.length x25_3:=(jh HO_25.out).2.2
    have q099:(0:Int)≤(x26_3:Int):=od_
    have hcut99:=cut_from (P:=Try.prog) 23 5 .i64 Try.underlying23 hi099 1 hsz99 Ao76 x25_3.length co76 x26_3 q099 q99
    have hr99:=Kd.C_drop (m:=(x26_3:Int).toNat) (c:=co76) hC99 T2_ hroom99
    obtain⟨A99,hA99⟩:∃ A1,A1=(if co76=(x26_3:Int).toNat then Ao76 else(Ao76:Option Addr).map (·.add ((x26_3:Int).toNat*1))):=⟨_,rfl⟩
    obtain⟨c99,hc99⟩:∃ c1,c1=co76-(x26_3:Int).toNat:=⟨_,rfl⟩
    have hy99:y463.length=x25_3.length-(x26_3:Int).toNat:=(by rw[Ny463.out,List.length_drop] <;> omega)
    rw[show(x25_3).drop (x26_3:Int).toNat=y463 from Ny463.out.symm] at hr99
    replace hr99:Kd.C (jb .u8) _ A99 y463.length y463:=(by rw[hA99];exact hr99)
    rw[←hy99,←hA99,←hc99] at hcut99
    have HR466:=am_ hr99
    have HC466:=am_ (show y463.length≤c99 from by rw[hy99,hc99];exact Nat.sub_le_sub_right hroom99 _)
    clear hr99 hC99 hroom99 hi099 hsz99 hc99
    have KY99:=am_ hy99
    have KA99:=am_ hA99
    clear hy99 hA99
    have KL99:=am_ (show(x26_3:Int).toNat≤x25_3.length from by omega)
    replace q99:=eq_true q99
    obtain⟨Ao100,co100,eo100⟩:=jo HO462.out
    subst eo100
    have n_:=am_ (jc (ok':=(fun k_=>ne_ k_ (.slice Ao21 t384.length co21)∧ne_ k_ (.slice Ao23 t387.length co23)∧ne_ k_ (.slice Ao100 t459.length co100))) HO_25.out (fun k_ hk=>⟨hk.1.1,⟨hk.1.2,hk.2⟩⟩))
    clear HO_25
    have HO_25:=n_
    clear n_
    try go_wp2_with(first|(refine gb_ .copy #[.tmp 177,.tmp 178] ?_;(try(refine gate_guard T0_ ?_;dsimp only));have hyc_:=KY99.out;have hac_:=KA99.out;have hlc_:(x26_3:Int)≤(x25_3.length:Int):=(od_);have h0c_:(0:Int)≤(x26_3:Int):=(od_);refine Kd.R_copyin (w0:=w) w.heap.size rfl (.tmp 177) (.tmp 178) 23 5 rfl Try.underlying23 T4_ Ao76 x25_3.length co76 x25_3 t459 ((x26_3:Int).toNat) _ _ _ _ _ _ rfl rfl hyc_ hac_ ?hoff (ru_ HO_25.out) ?hR ?hB ?_;(case hoff=>omega);(case hR=>exact cu_ ((jh HO462.out).2.2));(case hB=>exact T26_);intro w101 ho hb hg;clear hyc_ hac_ hlc_ h0c_;rw[←Ny467.out] at ho;have n_:=P15_ (Kd.S_over' (v:=(.slice Ao76 x25_3.length co76)) (su_ HO_19.out) (jz HO_25.out) T3_ hg) (ho) (jx (v:=(.slice Ao76 x25_3.length co76)) (ru_ HO_140.out) (jz HO_25.out) T3_ hg) (jw (v:=(.slice Ao76 x25_3.length co76)) (v1:=(.slice Ao76 x25_3.length co76)) (ok:=(fun k_=>ne_ k_ (.slice Ao23 t387.length co23)∧ne_ k_ (.slice Ao100 t459.length co100))) (ru_ (jc HO_410000.out (fun _ hk=>⟨⟨hk.1.2,hk.2⟩,hk.1.1⟩))) hg (.inl rfl)) (jw (v:=(.slice Ao76 x25_3.length co76)) (v1:=(.slice Ao76 x25_3.length co76)) (ok:=(fun k_=>ne_ k_ (.slice Ao21 t384.length co21)∧ne_ k_ (.slice Ao100 t459.length co100))) (ru_ (jc HO_410001.out (fun _ hk=>⟨⟨hk.1.2,hk.2⟩,hk.1.1⟩))) hg (.inl rfl)) (Kd.S_after (v:=(.slice Ao76 x25_3.length co76)) (v1:=(.slice Ao76 x25_3.length co76)) (ok:=(fun k_=>ne_ k_ (.slice Ao21 t384.length co21)∧ne_ k_ (.slice Ao23 t387.length co23)∧ne_ k_ (.slice Ao100 t459.length co100))) (su_ (jB HO_410002.out (fun _ hk=>⟨⟨hk.1.2.1,⟨hk.1.2.2,hk.2⟩⟩,hk.1.1⟩))) hg (.inl rfl)) (jx (v:=(.slice Ao76 x25_3.length co76)) (ru_ HO_410003.out) (jz HO_25.out) T3_ hg) (jx (v:=(.slice Ao76 x25_3.length co76)) (ru_ HO_410004.out) (jz HO_25.out) T3_ hg) (blk_grown (g:=gb409) (o:=.cells #[.slice Ao21 t384.length co21,.slice Ao23 t387.length co23,.slice (some ad455) t390.length co24,.slice (some ad449) t393.length co25,.slice Ao26 t396.length co26] 57 (0,0)) (bu_ BK409.out) hg (Kd.R_ne HO_25.out BK409.out T3_)) (jx (v:=(.slice Ao76 x25_3.length co76)) (ru_ HL450_0.out) (jz HO_25.out) T3_ hg) (jx (v:=(.slice Ao76 x25_3.length co76)) (ru_ HO454.out) (jz HO_25.out) T3_ hg) (jw (v:=(.slice Ao76 x25_3.length co76)) (v1:=(.slice Ao76 x25_3.length co76)) (ok:=(fun k_=>ne_ k_ (.slice Ao21 t384.length co21)∧ne_ k_ (.slice Ao23 t387.length co23)∧ne_ k_ (.slice (some ad455) t390.length co24)∧ne_ k_ (.slice Ao100 t459.length co100))) (ru_ (jc HL455_0.out (fun _ hk=>⟨⟨hk.1.1.2.1,⟨hk.1.1.2.2,⟨hk.1.2,hk.2⟩⟩⟩,hk.1.1.1⟩))) hg (.inl rfl)) (jx (v:=(.slice Ao76 x25_3.length co76)) (ru_ HO458.out) (jz HO_25.out) T3_ hg) (jw (v:=(.slice Ao76 x25_3.length co76)) (v1:=(.slice Ao76 x25_3.length co76)) (ok:=(fun k_=>ne_ k_ (.slice Ao21 t384.length co21)∧ne_ k_ (.slice Ao23 t387.length co23)∧ne_ k_ (.slice A455_0 (rd_L2 t390 x142_3).length c455_0))) (ru_ (jc HO462.out (fun _ hk=>⟨⟨hk.1.1.2,⟨hk.1.2,hk.2⟩⟩,hk.1.1.1.2⟩))) hg (.inl rfl)) (hb);clear HO_19 HO_25 HO_140 HO_410000 HO_410001 HO_410002 HO_410003 HO_410004 BK409 HL450_0 HO454 HL455_0 HO458 HO462 HB;obtain⟨HO_19,HO_25,HO_140,HO_410000,HO_410001,HO_410002,HO_410003,HO_410004,BK409,HL450_0,HO454,HL455_0,HO458,HO462,HB⟩:=n_;clear ho hb hg))
    (try simp only[←hl25_3])
    go_roundg k3
    case measure=>have:=HJ5.out;have:=HK2.out;have:=HK3.out;omega
    case rel=>exact⟨(y467),(wrap64 (x26_3+(cpn x25_3 ((x26_3:Int).toNat) t459))),(wrap64 (x142_3+1)),T9_,T9_,H',⟨(by have:=HJ5.out;have:=HK2.out;have:=HK3.out;omega)⟩,⟨(by(try simp only[hl25_3]);(with_reducible repeat(first|apply Kd.S_alloc|apply Kd.S_drewN|apply Kd.S_drew));exact jB HO_19.out (fun _ hk=>⟨hk.1.1.1,⟨hk.1.1.2.1,hk.1.1.2.2⟩⟩))⟩,⟨(by(try simp only[hl25_3]);(with_reducible repeat(first|apply Kd.R_alloc|apply Kd.R_drewN|apply jq));exact jc HO_25.out (fun _ hk=>⟨hk.1,hk.2.1⟩))⟩,⟨(by(try simp only[hl25_3]);(with_reducible repeat(first|apply Kd.R_alloc|apply Kd.R_drewN|apply jq));exact jc HO_140.out (fun _ hk=>hk.1.1))⟩,⟨(by(try simp only[hl25_3]);(with_reducible repeat(first|apply Kd.R_alloc|apply Kd.R_drewN|apply jq));exact jc HO_410000.out (fun _ hk=>⟨hk.2,hk.1.1⟩))⟩,⟨(by(try simp only[hl25_3]);(with_reducible repeat(first|apply Kd.R_alloc|apply Kd.R_drewN|apply jq));exact jc HO_410001.out (fun _ hk=>⟨hk.2,hk.1.1⟩))⟩,⟨(by(try simp only[hl25_3]);(with_reducible repeat(first|apply Kd.S_alloc|apply Kd.S_drewN|apply Kd.S_drew));exact jB HO_410002.out (fun _ hk=>⟨hk.2,⟨hk.1.1,hk.1.2.1⟩⟩))⟩,⟨(by(try simp only[hl25_3]);(with_reducible repeat(first|apply Kd.R_alloc|apply Kd.R_drewN|apply jq));exact jc HO_410003.out (fun _ hk=>hk.1.1))⟩,⟨(by(try simp only[hl25_3]);(with_reducible repeat(first|apply Kd.R_alloc|apply Kd.R_drewN|apply jq));exact jc HO_410004.out (fun _ hk=>⟨hk.1.1.1,hk.1.1.2⟩))⟩,⟨(by(try simp only[hl25_3]);(with_reducible repeat(first|refine jp ?_ _|refine jl ?_|refine jn ?_ _));exact BK409.out)⟩,⟨T26_⟩⟩
def churnlaw13_counted.l0:Nat→List Int→Int→Option (List Int)
 | 0,_,_=>none
 | k+1,x1,x2=>if x2≤24 then(if x1.length<140737488355328 then(churnlaw13_counted.l0 k (x1 ++ [(x2) % 256]) (wrap64 (x2+1))) else(none)) else(some x1)
def churnlaw13_counted.f (k:Nat)  :Option (List Int):=churnlaw13_counted.l0 k (List.replicate 18 0) 1
theorem churnlaw13_counted.mono_l:∀ k,(∀ y0 y1,LeO (churnlaw13_counted.l0 k y0 y1) (churnlaw13_counted.l0 (k+1) y0 y1))
 | 0=>fun _ _ r h=>by simp[churnlaw13_counted.l0] at h
 | k+1=>by
  have ih0:=churnlaw13_counted.mono_l k
  intro y0 y1
  unfold churnlaw13_counted.l0
  with_reducible repeat' first|exact ih0 _ _|exact LeO.refl _|exact LeO.none _|refine LeO.ite ?_ ?_|refine LeO.bind ?_ (fun _=>?_)
theorem churnlaw13_counted.mono:∀ k,LeO (churnlaw13_counted.f k ) (churnlaw13_counted.f (k+1) ):=by
 intro  k
 have ih0:=churnlaw13_counted.mono_l k
 unfold churnlaw13_counted.f
 with_reducible repeat' first|exact ih0 _ _|exact LeO.refl _|exact LeO.none _|refine LeO.ite ?_ ?_|refine LeO.bind ?_ (fun _=>?_)
set_option maxHeartbeats 8000000 in
set_option maxRecDepth 100000 in
theorem churnlaw13_counted.calls (k:Nat)  (r:List Int) (w:World) (h:churnlaw13_counted.f k  = some r) :
  Calls Try.prog 19 #[] w fun e w'=>∃ v0_:Value,e = .returned (v0_)∧ju (jb .u8) 5 w' w.heap.size (fun _=>True) v0_ r∧Below w.heap.size w w':=by
 have HB:=am_ (Below.refl w.heap.size w)
 have H:(churnlaw13_counted.l0 k (List.replicate 18 0) 1)=some r:=h
 clear h
 obtain⟨y470,hy_⟩:∃ y_:List Int,y_=(List.replicate 18 0):=⟨_,rfl⟩
 replace H:(churnlaw13_counted.l0 k y470 1)=some r:=hyw_
 have Ny470:=am_ hy_
 clear hy_
 have H':=am_ H
 clear H
 go_enter Try.func19,Try.ntmps19
 go_wp2_with(first|(refine gd_ 3 ?_;refine Kd.R_makecap (jb .u8) _ 5 rfl (N:=3) rfl 23 _ _ rfl 18 rfl rfl Try.underlying23 (.int .u8 0) 1 info5 rfl T3_ T2_ 0 (ok:=fun _=>True) (okp:=fun _=>True) rfl (fun _ hk=>hk) trivial T2_ T2_ (Below.refl _ _) (Nat.le_refl _) ?_;intro v471 w1 ho2 hb hg_ hnew_;clear hg_ hnew_;(first|rw[←Ny470.out] at ho2|(simp only[Int.reduceToNat] at ho2;rw[←Ny470.out] at ho2));have n_:=P2_ (jm ho2 (ja T16_)) (ji T16_ hb);clear HB;obtain⟨HO472,HB⟩:=n_;clear hb ho2))
 go_loopg [1,2] k (fun kq v1 v2 w'=>∃ (x1_1:List Int) (x2_1:Int),v2 = .int .i64 x2_1∧Aside0 (churnlaw13_counted.l0 kq x1_1 x2_1=some r)∧Aside0 (kq≤k)∧Aside0 (ju (jb .u8) 5 w' w.heap.size (fun _=>True) v1 x1_1)∧Aside0 (Below w.heap.size w w'))
 case atStart=>exact⟨(y470),(1),T9_,H',⟨Nat.le_refl _⟩,⟨ru_ HO472.out⟩,⟨T16_⟩⟩
 clear H'
 obtain⟨x1_1,x2_1,rfl,HA,HK1,HO_1,HB⟩:=hrel
 cases gk with
 | zero=>exact absurd HA.out (by simp[churnlaw13_counted.l0])
 | succ k1 =>
  have H:=HA.out
  clear HA
  simp only[churnlaw13_counted.l0] at H
  by_cases c3:x2_1≤24
  rotate_left
  ·rw[if_neg c3] at H
   have c3b0:=decide_eq_false c3
   clear c3
   obtain rfl:=Option.some.inj H
   obtain⟨rfl⟩:=sj1_ H
   go_wp2
   go_ret
   exact⟨_,T14_,ru_ HO_1.out,T16_⟩
  rw[if_pos c3] at H
  have c3b0:=decide_eq_true c3
  clear c3
  replace H:=ifa_ H;obtain⟨LMc4,H⟩:=H
  obtain⟨y473,hy_⟩:∃ y_:List Int,y_=(x1_1 ++ [(x2_1) % 256]):=⟨_,rfl⟩
  replace H:(churnlaw13_counted.l0 k1 y473 (wrap64 (x2_1+1)))=some r:=hyw_
  have Ny473:=am_ hy_
  clear hy_
  have H':=am_ H
  clear H
  go_wp2_with(first|(refine gb_ .append #[.tmp 8,.tmp 11] ?_;at_builtin;refine Kd.R_append (jb .u8) (w0:=w) w.heap.size rfl (.tmp 8) (.tmp 11) 23 5 (.int .u8 0) 1 rfl Try.underlying23 info5 rfl T3_ T2_ u1 x1_1 ((x2_1) % 256) [.int .u8 ((x2_1) % 256)] (fun _=>True) (fun _=>False) rfl rfl ?aP (fun _ hk=>hk.elim) ?aF ?aO ?aB ?aS ?aL ?_;(case aP=>exact rfl);(case aB=>exact T16_);(case aF=>exact(fun _ _=>trivial));(case aO=>exact(ru_ HO_1.out));(case aS=>exact(ja T16_));(case aL=>have:=LMc4.out;omega);intro v474 w5 ho hb hg hat;rw[←Ny473.out] at ho;have n_:=P2_ (hb) (ho);clear HB HO_1;obtain⟨HB,HO475⟩:=n_;clear ho hb hg hat))
  go_roundg k1
  case measure=>have:=HK1.out;omega
  case rel=>exact⟨(y473),(wrap64 (x2_1+1)),T9_,H',⟨T7_⟩,⟨ru_ HO475.out⟩,⟨T16_⟩⟩
def churnlaw13_alive.f (k:Nat)  :Option (Bool):=(churnlaw13_counted.f k).bind fun t476=>((riffle_Order.f k t476 3 1).bind fun bt479=>((churnlaw13_counted.f k).bind fun t483=>((riffle_Shuffle_string.f k t483 2 (([(⟨#[97]⟩:ByteArray),(⟨#[98]⟩:ByteArray),(⟨#[99]⟩:ByteArray),(⟨#[100]⟩:ByteArray)]:List ByteArray))).bind fun bt489=>((churnlaw13_counted.f k).bind fun t493=>((riffle_Turn.f k t493 2 1 (([1,0]:List Int))).bind fun bt499=>(if bt479.2=0 then(if bt489.2=0 then(if bt499.2=0 then(if(bt479.1.length:Int)=3 then(if(bt489.1.length:Int)=4 then(if(bt499.1.length:Int)=42 then(if 0<(bt479.1.length:Int) then(if(rd bt479.1 0)=2 then(if 1<(bt479.1.length:Int) then(if(rd bt479.1 1)=0 then(if 2<(bt479.1.length:Int) then(if(rd bt479.1 2)=1 then(if 1<(bt489.1.length:Int) then(if(rdOf ByteArray.empty bt489.1 1).toList=([99]:List UInt8) then(if 3<(bt489.1.length:Int) then(some ((rdOf ByteArray.empty bt489.1 3).toList == ([98]:List UInt8))) else(none)) else(some false)) else(none)) else(some false)) else(none)) else(some false)) else(none)) else(some false)) else(none)) else(some false)) else(some false)) else(some false)) else(some false)) else(some false)) else(some false)))))))
theorem churnlaw13_alive.mono:∀ k,LeO (churnlaw13_alive.f k ) (churnlaw13_alive.f (k+1) ):=by
 intro  k
 unfold churnlaw13_alive.f
 with_reducible repeat' first|exact churnlaw13_counted.mono _|exact riffle_Order.mono _ _ _ _|exact riffle_Shuffle_string.mono _ _ _ _|exact riffle_Turn.mono _ _ _ _ _|exact LeO.refl _|exact LeO.none _|refine LeO.ite ?_ ?_|refine LeO.bind ?_ (fun _=>?_)
set_option maxHeartbeats 8000000 in
set_option maxRecDepth 100000 in
theorem churnlaw13_alive.calls (k:Nat)  (r:Bool) (w:World) (hr_:r=true) (h:churnlaw13_alive.f k  = some r) :
  Calls Try.prog 10 #[] w fun e w'=>e = .returned (.bool r)∧Below w.heap.size w w':=by
 have HR_:=am_ hr_
 clear hr_
 have HB:=am_ (Below.refl w.heap.size w)
 have H:((churnlaw13_counted.f k).bind fun t476=>((riffle_Order.f k t476 3 1).bind fun bt479=>((churnlaw13_counted.f k).bind fun t483=>((riffle_Shuffle_string.f k t483 2 (([(⟨#[97]⟩:ByteArray),(⟨#[98]⟩:ByteArray),(⟨#[99]⟩:ByteArray),(⟨#[100]⟩:ByteArray)]:List ByteArray))).bind fun bt489=>((churnlaw13_counted.f k).bind fun t493=>((riffle_Turn.f k t493 2 1 (([1,0]:List Int))).bind fun bt499=>(if bt479.2=0 then(if bt489.2=0 then(if bt499.2=0 then(if(bt479.1.length:Int)=3 then(if(bt489.1.length:Int)=4 then(if(bt499.1.length:Int)=42 then(if 0<(bt479.1.length:Int) then(if(rd bt479.1 0)=2 then(if 1<(bt479.1.length:Int) then(if(rd bt479.1 1)=0 then(if 2<(bt479.1.length:Int) then(if(rd bt479.1 2)=1 then(if 1<(bt489.1.length:Int) then(if(rdOf ByteArray.empty bt489.1 1).toList=([99]:List UInt8) then(if 3<(bt489.1.length:Int) then(some ((rdOf ByteArray.empty bt489.1 3).toList == ([98]:List UInt8))) else(none)) else(some false)) else(none)) else(some false)) else(none)) else(some false)) else(none)) else(some false)) else(none)) else(some false)) else(some false)) else(some false)) else(some false)) else(some false)) else(some false))))))))=some r:=h
 clear h
 replace H:=Option.bind_eq_some_iff.mp H
 obtain⟨t476,A10,H⟩:=H
 try dsimp only at H
 have A1:=am_ A10
 clear A10
 replace H:=Option.bind_eq_some_iff.mp H
 obtain⟨⟨t479,t480⟩,A20,H⟩:=H
 try dsimp only at H
 have A2:=am_ A20
 clear A20
 replace H:=Option.bind_eq_some_iff.mp H
 obtain⟨t483,A30,H⟩:=H
 try dsimp only at H
 have A3:=am_ A30
 clear A30
 obtain⟨y486,hy_⟩:∃ y_:List ByteArray,y_=(([(⟨#[97]⟩:ByteArray),(⟨#[98]⟩:ByteArray),(⟨#[99]⟩:ByteArray),(⟨#[100]⟩:ByteArray)]:List ByteArray)):=⟨_,rfl⟩
 replace H:((riffle_Shuffle_string.f k t483 2 y486).bind fun bt489=>((churnlaw13_counted.f k).bind fun t493=>((riffle_Turn.f k t493 2 1 (([1,0]:List Int))).bind fun bt499=>(if t480=0 then(if bt489.2=0 then(if bt499.2=0 then(if(t479.length:Int)=3 then(if(bt489.1.length:Int)=4 then(if(bt499.1.length:Int)=42 then(if 0<(t479.length:Int) then(if(rd t479 0)=2 then(if 1<(t479.length:Int) then(if(rd t479 1)=0 then(if 2<(t479.length:Int) then(if(rd t479 2)=1 then(if 1<(bt489.1.length:Int) then(if(rdOf ByteArray.empty bt489.1 1).toList=([99]:List UInt8) then(if 3<(bt489.1.length:Int) then(some ((rdOf ByteArray.empty bt489.1 3).toList == ([98]:List UInt8))) else(none)) else(some false)) else(none)) else(some false)) else(none)) else(some false)) else(none)) else(some false)) else(none)) else(some false)) else(some false)) else(some false)) else(some false)) else(some false)) else(some false)))))=some r:=hyw_
 have Ny486:=am_ hy_
 clear hy_
 replace H:=Option.bind_eq_some_iff.mp H
 obtain⟨⟨t489,t490⟩,A40,H⟩:=H
 try dsimp only at H
 have A4:=am_ A40
 clear A40
 replace H:=Option.bind_eq_some_iff.mp H
 obtain⟨t493,A50,H⟩:=H
 try dsimp only at H
 have A5:=am_ A50
 clear A50
 obtain⟨y496,hy_⟩:∃ y_:List Int,y_=(([1,0]:List Int)):=⟨_,rfl⟩
 replace H:((riffle_Turn.f k t493 2 1 y496).bind fun bt499=>(if t480=0 then(if t490=0 then(if bt499.2=0 then(if(t479.length:Int)=3 then(if(t489.length:Int)=4 then(if(bt499.1.length:Int)=42 then(if 0<(t479.length:Int) then(if(rd t479 0)=2 then(if 1<(t479.length:Int) then(if(rd t479 1)=0 then(if 2<(t479.length:Int) then(if(rd t479 2)=1 then(if 1<(t489.length:Int) then(if(rdOf ByteArray.empty t489 1).toList=([99]:List UInt8) then(if 3<(t489.length:Int) then(some ((rdOf ByteArray.empty t489 3).toList == ([98]:List UInt8))) else(none)) else(some false)) else(none)) else(some false)) else(none)) else(some false)) else(none)) else(some false)) else(none)) else(some false)) else(some false)) else(some false)) else(some false)) else(some false)) else(some false)))=some r:=hyw_
 have Ny496:=am_ hy_
 clear hy_
 replace H:=Option.bind_eq_some_iff.mp H
 obtain⟨⟨t499,t500⟩,A60,H⟩:=H
 try dsimp only at H
 have A6:=am_ A60
 clear A60
 by_cases c7:t480=0
 rotate_left
 ·rw[if_neg c7] at H
  obtain⟨c7b0,c7b1⟩:=en_ c7
  obtain rfl:=Option.some.inj H
  exact absurd HR_.out T3_
 rw[if_pos c7] at H
 obtain⟨c7b0,c7b1⟩:=ep_ c7
 clear c7
 by_cases c8:t490=0
 rotate_left
 ·rw[if_neg c8] at H
  obtain⟨c8b0,c8b1⟩:=en_ c8
  obtain rfl:=Option.some.inj H
  exact absurd HR_.out T3_
 rw[if_pos c8] at H
 obtain⟨c8b0,c8b1⟩:=ep_ c8
 clear c8
 by_cases c9:t500=0
 rotate_left
 ·rw[if_neg c9] at H
  obtain⟨c9b0,c9b1⟩:=en_ c9
  obtain rfl:=Option.some.inj H
  exact absurd HR_.out T3_
 rw[if_pos c9] at H
 obtain⟨c9b0,c9b1⟩:=ep_ c9
 clear c9
 by_cases c10:(t479.length:Int)=3
 rotate_left
 ·rw[if_neg c10] at H
  obtain⟨c10b0,c10b1⟩:=en_ c10
  obtain rfl:=Option.some.inj H
  exact absurd HR_.out T3_
 rw[if_pos c10] at H
 obtain⟨c10b0,c10b1⟩:=ep_ c10
 clear c10
 by_cases c11:(t489.length:Int)=4
 rotate_left
 ·rw[if_neg c11] at H
  obtain⟨c11b0,c11b1⟩:=en_ c11
  obtain rfl:=Option.some.inj H
  exact absurd HR_.out T3_
 rw[if_pos c11] at H
 obtain⟨c11b0,c11b1⟩:=ep_ c11
 clear c11
 by_cases c12:(t499.length:Int)=42
 rotate_left
 ·rw[if_neg c12] at H
  obtain⟨c12b0,c12b1⟩:=en_ c12
  obtain rfl:=Option.some.inj H
  exact absurd HR_.out T3_
 rw[if_pos c12] at H
 obtain⟨c12b0,c12b1⟩:=ep_ c12
 clear c12
 replace H:=ifn_ H;obtain⟨c13,H⟩:=H
 have c13b0:=decide_eq_true c13
 have c13b1:decide (0<t479.length)=true:=decide_eq_true T2_
 clear c13
 by_cases c14:(rd t479 0)=2
 rotate_left
 ·rw[if_neg c14] at H
  obtain⟨c14b0,c14b1⟩:=en_ c14
  obtain rfl:=Option.some.inj H
  exact absurd HR_.out T3_
 rw[if_pos c14] at H
 obtain⟨c14b0,c14b1⟩:=ep_ c14
 clear c14
 replace H:=ifn_ H;obtain⟨c15,H⟩:=H
 have c15b0:=decide_eq_true c15
 have c15b1:decide (1<t479.length)=true:=decide_eq_true T2_
 clear c15
 by_cases c16:(rd t479 1)=0
 rotate_left
 ·rw[if_neg c16] at H
  obtain⟨c16b0,c16b1⟩:=en_ c16
  obtain rfl:=Option.some.inj H
  exact absurd HR_.out T3_
 rw[if_pos c16] at H
 obtain⟨c16b0,c16b1⟩:=ep_ c16
 clear c16
 replace H:=ifn_ H;obtain⟨c17,H⟩:=H
 have c17b0:=decide_eq_true c17
 have c17b1:decide (2<t479.length)=true:=decide_eq_true T2_
 clear c17
 by_cases c18:(rd t479 2)=1
 rotate_left
 ·rw[if_neg c18] at H
  obtain⟨c18b0,c18b1⟩:=en_ c18
  obtain rfl:=Option.some.inj H
  exact absurd HR_.out T3_
 rw[if_pos c18] at H
 obtain⟨c18b0,c18b1⟩:=ep_ c18
 clear c18
 replace H:=ifn_ H;obtain⟨c19,H⟩:=H
 have c19b0:=decide_eq_true c19
 have c19b1:decide (1<t489.length)=true:=decide_eq_true T2_
 clear c19
 by_cases c20:(rdOf ByteArray.empty t489 1).toList=([99]:List UInt8)
 rotate_left
 ·rw[if_neg c20] at H
  obtain⟨c20b0,c20b1⟩:=en_ c20
  obtain rfl:=Option.some.inj H
  exact absurd HR_.out T3_
 rw[if_pos c20] at H
 obtain⟨c20b0,c20b1⟩:=ep_ c20
 clear c20
 replace H:=ifn_ H;obtain⟨c21,H⟩:=H
 have c21b0:=decide_eq_true c21
 have c21b1:decide (3<t489.length)=true:=decide_eq_true T2_
 clear c21
 obtain rfl:=Option.some.inj H
 obtain⟨rfl⟩:=sj1_ H
 go_enter Try.func10,Try.ntmps10
 go_wp2_with(first|(refine gc_ 19 ?_;refine gl_ (some 8) Try.func19 #[] ?_;(with_reducible refine(churnlaw13_counted.calls k  t476 _ A1.out).mono ?_);rintro e w22 ⟨v477,rfl,ho0,hb⟩;refine⟨_,rfl,?_⟩;have n_:=P2_ (jm ho0 (ja T16_)) (ji T16_ hb);clear HB;obtain⟨HO478,HB⟩:=n_;clear hb ho0;obtain⟨Ao23,co23,eo23⟩:=jo HO478.out;subst eo23)|(refine gc_ 11 ?_;refine gl_ (some 9) Try.func11 #[.slice Ao23 t476.length co23,.int .i64 3,.int .i64 1] ?_;(with_reducible refine(riffle_Order.calls k _ _ t476 3 1 t479 t480 _ ?side1 ?side2 A2.out).mono ?_);(case side1=>exact cu_ ((jh HO478.out).2.2));(case side2=>exact(jh HO478.out).2.1);rintro e w24 ⟨v481,rfl,ho0,hb⟩;refine⟨_,rfl,?_⟩;have n_:=P3_ (jd (ru_ HO478.out) hb) (jm ho0 (ja T16_)) (ji T16_ hb);clear HO478 HB;obtain⟨HO478,HO482,HB⟩:=n_;clear hb ho0)|(refine gc_ 19 ?_;refine gl_ (some 13) Try.func19 #[] ?_;(with_reducible refine(churnlaw13_counted.calls k  t483 _ A3.out).mono ?_);rintro e w25 ⟨v484,rfl,ho0,hb⟩;refine⟨_,rfl,?_⟩;have n_:=P4_ (jg (ru_ HO478.out) (jf ho0) hb) (jd (ru_ HO482.out) hb) (jm (jk ho0 (jj (ru_ HO478.out))) (ja T16_)) (ji T16_ hb);clear HO478 HO482 HB;obtain⟨HO478,HO482,HO485,HB⟩:=n_;clear hb ho0)|(refine gd_ 14 ?_;(try(refine gate_guard T0_ ?_;dsimp only));refine Kd.R_lit Kd.string _ 9 ?hg (N:=14) ?hd (xs:=([(⟨#[97]⟩:ByteArray),(⟨#[98]⟩:ByteArray),(⟨#[99]⟩:ByteArray),(⟨#[100]⟩:ByteArray)]:List ByteArray)) (inner:=[.string (⟨#[97]⟩:ByteArray),.string (⟨#[98]⟩:ByteArray),.string (⟨#[99]⟩:ByteArray),.string (⟨#[100]⟩:ByteArray)]) (ok:=fun _=>True) (okp:=fun _=>True) ?hr ?hp (fun _ hk=>hk) trivial (Below.refl _ _) (Nat.le_refl _) T1_ ?_;(case hd=>rfl);(case hg=>rfl);(case hr=>first|(go_simp;done)|(go_simp;rfl));(case hp=>exact(Reps.one (show Kd.M Kd.string _ _ _ (⟨#[97]⟩:ByteArray) [.string (⟨#[97]⟩:ByteArray)] from rfl) (Reps.one (show Kd.M Kd.string _ _ _ (⟨#[98]⟩:ByteArray) [.string (⟨#[98]⟩:ByteArray)] from rfl) (Reps.one (show Kd.M Kd.string _ _ _ (⟨#[99]⟩:ByteArray) [.string (⟨#[99]⟩:ByteArray)] from rfl) (Reps.one (show Kd.M Kd.string _ _ _ (⟨#[100]⟩:ByteArray) [.string (⟨#[100]⟩:ByteArray)] from rfl) (Reps.none _ _))))));intro v487 w26 ho27 hb hg_ hnew_;clear hg_ hnew_;(first|rw[←Ny486.out] at ho27|(simp only[Int.reduceToNat] at ho27;rw[←Ny486.out] at ho27));have n_:=P5_ (jd (ru_ HO478.out) hb) (jd (ru_ HO482.out) hb) (jd (ru_ HO485.out) hb) (jm ho27 (ja T16_)) (ji T16_ hb);clear HO478 HO482 HO485 HB;obtain⟨HO478,HO482,HO485,HO488,HB⟩:=n_;clear hb ho27;obtain⟨Ao28,co28,eo28⟩:=jo HO485.out;subst eo28;obtain⟨Ao29,co29,eo29⟩:=jo HO488.out;subst eo29)|(refine gc_ 15 ?_;refine gl_ (some 15) Try.func15 #[.slice Ao28 t483.length co28,.int .i64 2,.slice Ao29 y486.length co29] ?_;(with_reducible refine(riffle_Shuffle_string.calls k _ _ t483 2 _ _ y486 t489 t490 _ ?side1 ?side2 ?side3 ?side4 A4.out).mono ?_);(case side1=>exact cu_ ((jh HO485.out).2.2));(case side2=>exact(jh HO485.out).2.1);(case side3=>exact cu_ ((jh HO488.out).2.2));(case side4=>exact(jh HO488.out).2.1);rintro e w30 ⟨v491,rfl,ho0,hb⟩;refine⟨_,rfl,?_⟩;have n_:=P6_ (jd (ru_ HO478.out) hb) (jd (ru_ HO482.out) hb) (jd (ru_ HO485.out) hb) (jg (ru_ HO488.out) (jf ho0) hb) (jm (jk ho0 (jj (ru_ HO488.out))) (ja T16_)) (ji T16_ hb);clear HO478 HO482 HO485 HO488 HB;obtain⟨HO478,HO482,HO485,HO488,HO492,HB⟩:=n_;clear hb ho0)|(refine gc_ 19 ?_;refine gl_ (some 19) Try.func19 #[] ?_;(with_reducible refine(churnlaw13_counted.calls k  t493 _ A5.out).mono ?_);rintro e w31 ⟨v494,rfl,ho0,hb⟩;refine⟨_,rfl,?_⟩;have n_:=P7_ (jg (ru_ HO478.out) (jf ho0) hb) (jd (ru_ HO482.out) hb) (jg (ru_ HO485.out) (jf ho0) hb) (jd (ru_ HO488.out) hb) (jd (ru_ HO492.out) hb) (jm (jk (jk ho0 (jj (ru_ HO478.out))) (jj (ru_ HO485.out))) (ja T16_)) (ji T16_ hb);clear HO478 HO482 HO485 HO488 HO492 HB;obtain⟨HO478,HO482,HO485,HO488,HO492,HO495,HB⟩:=n_;clear hb ho0)|(refine gd_ 20 ?_;(try(refine gate_guard T0_ ?_;dsimp only));refine Kd.R_lit (jb .i64) _ 3 ?hg (N:=20) ?hd (xs:=([1,0]:List Int)) (inner:=[.int .i64 1,.int .i64 0]) (ok:=fun _=>True) (okp:=fun _=>True) ?hr ?hp (fun _ hk=>hk) trivial (Below.refl _ _) (Nat.le_refl _) T1_ ?_;(case hd=>rfl);(case hg=>rfl);(case hr=>first|(go_simp;done)|(go_simp;rfl));(case hp=>exact(Reps.one (show Kd.M (jb .i64) _ _ _ 1 [.int .i64 1] from rfl) (Reps.one (show Kd.M (jb .i64) _ _ _ 0 [.int .i64 0] from rfl) (Reps.none _ _))));intro v497 w32 ho33 hb hg_ hnew_;clear hg_ hnew_;(first|rw[←Ny496.out] at ho33|(simp only[Int.reduceToNat] at ho33;rw[←Ny496.out] at ho33));have n_:=P8_ (jd (ru_ HO478.out) hb) (jg (ru_ HO482.out) (jf ho33) hb) (jd (ru_ HO485.out) hb) (jd (ru_ HO488.out) hb) (jd (ru_ HO492.out) hb) (jd (ru_ HO495.out) hb) (jm (jk ho33 (jj (ru_ HO482.out))) (ja T16_)) (ji T16_ hb);clear HO478 HO482 HO485 HO488 HO492 HO495 HB;obtain⟨HO478,HO482,HO485,HO488,HO492,HO495,HO498,HB⟩:=n_;clear hb ho33;obtain⟨Ao34,co34,eo34⟩:=jo HO495.out;subst eo34;obtain⟨Ao35,co35,eo35⟩:=jo HO498.out;subst eo35)|(refine gc_ 17 ?_;refine gl_ (some 21) Try.func17 #[.slice Ao34 t493.length co34,.int .i64 2,.int .i64 1,.slice Ao35 y496.length co35] ?_;(with_reducible refine(riffle_Turn.calls k _ _ t493 2 1 _ _ y496 t499 t500 _ ?side1 ?side2 ?side3 ?side4 A6.out).mono ?_);(case side1=>exact cu_ ((jh HO495.out).2.2));(case side2=>exact(jh HO495.out).2.1);(case side3=>exact cu_ ((jh HO498.out).2.2));(case side4=>exact(jh HO498.out).2.1);rintro e w36 ⟨v501,rfl,ho0,hb⟩;refine⟨_,rfl,?_⟩;have n_:=P9_ (jg (ru_ HO478.out) (jf ho0) hb) (jd (ru_ HO482.out) hb) (jg (ru_ HO485.out) (jf ho0) hb) (jd (ru_ HO488.out) hb) (jd (ru_ HO492.out) hb) (jg (ru_ HO495.out) (jf ho0) hb) (jd (ru_ HO498.out) hb) (jm (jk (jk (jk ho0 (jj (ru_ HO478.out))) (jj (ru_ HO485.out))) (jj (ru_ HO495.out))) (ja T16_)) (ji T16_ hb);clear HO478 HO482 HO485 HO488 HO492 HO495 HO498 HB;obtain⟨HO478,HO482,HO485,HO488,HO492,HO495,HO498,HO502,HB⟩:=n_;clear hb ho0;obtain⟨Ao37,co37,eo37⟩:=jo HO482.out;subst eo37;obtain⟨Ao38,co38,eo38⟩:=jo HO492.out;subst eo38;obtain⟨Ao39,co39,eo39⟩:=jo HO502.out;subst eo39;have p503:0≤(0:Int):=T2_;have q503:0<(t479.length:Int):=od_;obtain⟨ad503,e503,hx503_0⟩:=jH (jh HO482.out).2.2 0 p503 q503;cases e503;have qi503:(0<t479.length)=True:=eq_true T2_;(try rw[show((0:Int)).toNat=0 from rfl] at hx503_0);(try rw[Addr.add_zero'] at hx503_0);replace p503:=eq_true p503;replace q503:=eq_true q503;have p504:0≤(1:Int):=T2_;have q504:1<(t479.length:Int):=od_;obtain⟨ad504,e504,hx504_0⟩:=jH (jh HO482.out).2.2 1 p504 q504;obtain rfl:ad503=ad504:=(by injection e504);(try simp only[show(1:Int).toNat=1 from rfl,Nat.reduceMul,Nat.reduceEqDiff,Go.Addr.add,↓reduceIte] at hx504_0);have qi504:(1<t479.length)=True:=eq_true T2_;(try rw[show((1:Int)).toNat=1 from rfl] at hx504_0);replace p504:=eq_true p504;replace q504:=eq_true q504;have p505:0≤(2:Int):=T2_;have q505:2<(t479.length:Int):=od_;obtain⟨ad505,e505,hx505_0⟩:=jH (jh HO482.out).2.2 2 p505 q505;obtain rfl:ad503=ad505:=(by injection e505);(try simp only[show(2:Int).toNat=2 from rfl,Nat.reduceMul,Nat.reduceEqDiff,Go.Addr.add,↓reduceIte] at hx505_0);have qi505:(2<t479.length)=True:=eq_true T2_;(try rw[show((2:Int)).toNat=2 from rfl] at hx505_0);replace p505:=eq_true p505;replace q505:=eq_true q505;have p506:0≤(1:Int):=T2_;have q506:1<(t489.length:Int):=od_;obtain⟨ad506,e506,hx506_0⟩:=Kd.at_string (jh HO492.out).2.2 1 p506 q506;cases e506;(try simp only[show(1:Int).toNat=1 from rfl,Nat.reduceMul,Nat.reduceEqDiff,Go.Addr.add,↓reduceIte] at hx506_0);have qi506:(1<t489.length)=True:=eq_true T2_;(try rw[show((1:Int)).toNat=1 from rfl] at hx506_0);replace p506:=eq_true p506;replace q506:=eq_true q506;have p507:0≤(3:Int):=T2_;have q507:3<(t489.length:Int):=od_;obtain⟨ad507,e507,hx507_0⟩:=Kd.at_string (jh HO492.out).2.2 3 p507 q507;obtain rfl:ad506=ad507:=(by injection e507);(try simp only[show(3:Int).toNat=3 from rfl,Nat.reduceMul,Nat.reduceEqDiff,Go.Addr.add,↓reduceIte] at hx507_0);have qi507:(3<t489.length)=True:=eq_true T2_;(try rw[show((3:Int)).toNat=3 from rfl] at hx507_0);replace p507:=eq_true p507;replace q507:=eq_true q507))
 go_ret
 exact⟨T14_,T16_⟩
end Go.Proofs.Ytbnifpfnjhdenaa.Q
end
